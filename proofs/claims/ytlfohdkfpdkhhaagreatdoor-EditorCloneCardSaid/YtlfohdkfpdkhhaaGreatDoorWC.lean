import Derived.Test.YtlfohdkfpdkhhaaGreatDoorWB
import Derived.ProofKit
import Derived.ChangeSlices
import Derived.Below
import Derived.ChangeArms
import Derived.DataReads
import Derived.Test.YtlfohdkfpdkhhaaGreatDoorProg
import Derived.KernelRfl
import Derived.Test.YtlfohdkfpdkhhaaGreatDoorRows
import Derived.OpenShut
import Derived.LaidMore
import Derived.MakeChecks
import Derived.FnData
import Derived.Carry
import Derived.WideShapes
import Derived.Laws.RangeAny
/-
 Lemmas of the claim. No condition but those that each names.
-/
set_option linter.unusedSimpArgs false
set_option linter.unusedVariables false
set_option maxRecDepth 100000
set_option maxHeartbeats 8000000
set_option linter.unusedSectionVars false
namespace Go.Proofs.YtlfohdkfpdkhhaaGreatDoor.Abs
open Go.RowKit

theorem z6e {n : Int} (h : -9223372036854775808 <= n /\ n <= 9223372036854775807) : IntKind.i64.wrap n = n := by rw [IntKind.wrap_i64]; omega
theorem z7t {α : Type} (f : α -> D) (l : List α) (k : Nat) (h : k < l.length) : zun (l.map f) (k : Int) = some (f l[k]) := by
 unfold zun
 rw [if_pos ⟨by omega, by simpa using h⟩]
 simp [h]
theorem z0r {α : Type} {f : α -> D} (h : ∀ x, pureD (f x) = true) : ∀ (l : List α), pureD.pureL (l.map f) = true
 | [] => rfl
 | x :: l => by simp only [List.map_cons, pureD.pureL, h x, z0r h l, Bool.and_self]
theorem z02 {P : Program} {H : HM} {d : D} (k : Nat) (h : pureD d = true) : z2p P H (k + 1) d = some d := by unfold z2p; rw [if_pos h]
theorem zcb {P : Program} {H : HM} (k : Nat) : ∀ (ds : List D), pureD.pureL ds = true -> ze4 (z2p P H (k + 1)) ds = some ds
 | [], _ => rfl
 | d :: ds, h => by
  simp only [pureD.pureL, Bool.and_eq_true] at h
  simp only [ze4, z02 k h.1, zcb k ds h.2]
theorem zds : ∀ (cs : List D), z1i false 1 cs.length cs = cs
 | [] => rfl
 | c :: cs => by
  simp only [List.length_cons, z1i, Bool.false_eq_true, if_false, List.getElem?_cons_zero, Option.getD_some, List.drop_succ_cons, List.drop_zero]
  rw [zds cs]
theorem za1 {P : Program} {H : HM} {id n e : Nat} {cs : List D} (k : Nat) (hH : H id = some (.row e n cs)) (ha : z0f P e = false) (hs : z09 P e = 1) (hn : cs.length = n) (hp : pureD.pureL cs = true) :
  z2p P H (k + 2) (.osl id n) = some (.rsl false 1 cs) := by
 unfold z2p
 simp only [pureD, Bool.false_eq_true, if_false, hH, ha, hs, and_self, or_true, if_true]
 rw [zcb k cs hp]
 simp only [Option.map_some]
 rw [<- hn, zds]

def zl5 (l : List Int) : D := .rsl false 1 (l.map fun n => .int .i64 n)
def z2j (l : List ByteArray) : D := .rsl false 1 (l.map .str)
theorem z8k (l : List Int) : pureD (zl5 l) = true := by simp only [zl5, pureD]; exact z0r (fun _ => rfl) l
theorem z2k (l : List ByteArray) : pureD (z2j l) = true := by simp only [z2j, pureD]; exact z0r (fun _ => rfl) l
end Go.Proofs.YtlfohdkfpdkhhaaGreatDoor.Abs
namespace Go.Proofs.YtlfohdkfpdkhhaaGreatDoor.Abs
theorem z08 {P : Program} {H : HM} {nx k : Nat} {d r : D} (hp : pureD d = true) (h : Le d r) : Fin P (k + 1) r d H nx := ⟨d, z02 k hp, h⟩
theorem z03 {P : Program} {H : HM} {nx : Nat} {b c : Bool} (h : b = c) : Fin P 1 (.bool c) (.bool b) H nx := z08 rfl (by rw [h]; exact Le.refl _)
theorem z1k {P : Program} {H : HM} {nx : Nat} {b c : Int} (h : b = c) : Fin P 1 (.int .i64 c) (.int .i64 b) H nx := z08 rfl (by rw [h]; exact Le.refl _)
theorem fin_nil {P : Program} {H : HM} {nx k sz : Nat} {els : List D} (h : els = []) : Fin P (k + 1) (.rsl false sz els) .nil H nx := z08 rfl (by rw [h]; exact Le.nil sz)
theorem fin_row {P : Program} {H : HM} {id n e nx : Nat} {cs els : List D} (k : Nat) (hH : H id = some (.row e n cs)) (ha : z0f P e = false) (hs : z09 P e = 1) (hn : cs.length = n) (hp : pureD.pureL cs = true) (he : cs = els) :
  Fin P (k + 2) (.rsl false 1 els) (.osl id n) H nx := ⟨_, za1 k hH ha hs hn hp, by rw [he]; exact Le.refl _⟩
theorem zjp {α β : Type} (f : α -> β) (x : α) : ∀ n, (List.replicate n [f x]).flatten = (List.replicate n x).map f
 | 0 => rfl
 | n + 1 => by simp [List.replicate_succ, zjp f x n]
end Go.Proofs.YtlfohdkfpdkhhaaGreatDoor.Abs
namespace Go.Proofs.YtlfohdkfpdkhhaaGreatDoor.Abs
open Go.RowKit
theorem z1d {P : Program} {H : HM} {id e : Nat} {c d : D} (k : Nat) (hH : H id = some (.box e [c])) (ha : z0f P e = false) (hc : z2p P H k c = some d) : z2p P H (k + 1) (.ptr id 0) = some (.rptr d) := by
 unfold z2p
 simp only [pureD, Bool.false_eq_true, if_false, hH, ha, false_or, List.length_cons, List.length_nil, and_self, if_true, ze4, hc, Option.map_some, List.getElem?_cons_zero, Option.getD_some]
theorem z00 {P : Program} {H : HM} {k : Nat} {d d' : D} {ds ds' : List D} (h : z2p P H k d = some d') (hs : ze4 (z2p P H k) ds = some ds') : ze4 (z2p P H k) (d :: ds) = some (d' :: ds') := by
 simp only [ze4, h, hs]
theorem z0d {P : Program} {H : HM} {k : Nat} : ze4 (z2p P H k) [] = some [] := rfl
end Go.Proofs.YtlfohdkfpdkhhaaGreatDoor.Abs
namespace Go.Proofs.YtlfohdkfpdkhhaaGreatDoor.Abs
open Go.RowKit
theorem zcc {P : Program} {H : HM} {f : FuncId} {cap cap' : List D} (k : Nat) (hp : pureD.pureL cap = false) (hc : ze4 (z2p P H k) cap = some cap') : z2p P H (k + 1) (.fn f cap) = some (.fn f cap') := by
 unfold z2p
 simp only [pureD, hp, Bool.false_eq_true, if_false, hc, Option.map_some]
theorem z3i {P : Program} {H : HM} {nx k : Nat} {d r : D} (h : z2p P H k d = some r) : Fin P k r d H nx := ⟨r, h, Le.refl _⟩
end Go.Proofs.YtlfohdkfpdkhhaaGreatDoor.Abs
namespace Go.Proofs.YtlfohdkfpdkhhaaGreatDoor.Abs
open Go.RowKit
theorem z6z {α : Type} {f : α -> List D} {sz : Nat} (h : ∀ x, (f x).length = sz) : ∀ (l : List α), z1i true sz l.length (l.flatMap f) = l.map fun x => .agg (f x)
 | [] => rfl
 | x :: l => by
  simp only [List.length_cons, z1i, if_true, List.flatMap_cons, List.map_cons]
  rw [List.take_left' (h x), List.drop_left' (h x), z6z h l]
theorem z1t {α : Type} {f : α -> List D} (h : ∀ x, pureD.pureL (f x) = true) : ∀ (l : List α), pureD.pureL (l.flatMap f) = true
 | [] => rfl
 | x :: l => by
  have app : ∀ (a b : List D), pureD.pureL a = true -> pureD.pureL b = true -> pureD.pureL (a ++ b) = true := by
   intro a b
   induction a with
   | nil => intro _ h; exact h
   | cons d ds ih =>
    intro h1 h2
    simp only [pureD.pureL, Bool.and_eq_true, List.cons_append] at h1 ⊢
    exact ⟨h1.1, ih h1.2 h2⟩
  exact app _ _ (h x) (z1t h l)
theorem z1e {α : Type} {P : Program} {H : HM} {id e sz : Nat} {f : α -> List D} {l : List α} (k : Nat) (hH : H id = some (.row e l.length (l.flatMap f))) (ha : z0f P e = true) (hs : z09 P e = sz) (h : ∀ x, (f x).length = sz) (hp : ∀ x, pureD.pureL (f x) = true) :
  z2p P H (k + 2) (.osl id l.length) = some (.rsl false sz (l.map fun x => .agg (f x))) := by
 unfold z2p
 simp only [pureD, Bool.false_eq_true, if_false, hH, ha, true_or, and_self, if_true, hs]
 rw [zcb k _ (z1t hp l)]
 simp only [Option.map_some, z6z h]
end Go.Proofs.YtlfohdkfpdkhhaaGreatDoor.Abs
namespace Go.Proofs.YtlfohdkfpdkhhaaGreatDoor.Abs
theorem zdt {H : HM} {i j : Nat} {o : Option HObj} (h : ¬ j = i) : z12 H i o j = H j := if_neg h
theorem updH_eq {H : HM} {i : Nat} {o : Option HObj} : z12 H i o i = o := if_pos rfl
end Go.Proofs.YtlfohdkfpdkhhaaGreatDoor.Abs
namespace Go.Proofs.YtlfohdkfpdkhhaaGreatDoor.Abs
open Go.RowKit
theorem PC.le {P : Program} {f : FuncId} {ds es : List D} {r : D} (h : PC P f es r) (hp : pureD.pureL ds = true) (hl : LeL ds es) : PC P f ds r :=
 ⟨hp, h.2.1, h.2.2.1, fun s w vs h1 h2 h3 h4 => h.2.2.2 s w vs h1 h2 h3 (z7d hl h4)⟩
end Go.Proofs.YtlfohdkfpdkhhaaGreatDoor.Abs
namespace Go.Proofs.YtlfohdkfpdkhhaaGreatDoor.Abs
open Go.RowKit Go.ChangeShapes

def z7p (W : World) : RS := { m := W.cell?, H := noH, nx := 0, κ := fun _ => .pointer none }
def zvm (W : World) : Prop := ∀ g, rel (z7p W) (globD g) (.pointer (some ⟨g, 0, none⟩))

theorem readS_RH (P : Program) (W : World) (hg : zvm W) : RH P (z7p W) W :=
 ⟨fun a v h => ⟨h, by rintro ⟨id, hid, _⟩; exact absurd hid (Nat.not_lt_zero _)⟩, fun id o ho => (by cases ho), fun i j hi => (hi rfl).elim, hg⟩
theorem zvn {P : Program} {f : FuncId} {ds : List D} {v : Value} {d : D} (h : PC P f ds d) (V : ∀ s u, rel s d u -> u = v) {W : World} (hg : zvm W) {vs : List Value} (hr : relAll (z7p W) ds vs) :
  Calls P f vs.toArray W fun e W' => e = .returned v /\ Below W.heap.size W W' := by
 refine (h.2.2.2 (z7p W) W vs rfl rfl (readS_RH P W hg) hr).mono fun e W' ⟨u, r', s', he, hrr, hstep, _, hrel⟩ => ?_
 subst hrr
 rw [V _ _ hrel] at he
 exact ⟨he, hstep.os, hstep.tape, hstep.output, hstep.size, fun k O => hstep.keep k O (by rintro ⟨id, hid, _⟩; exact absurd hid (Nat.not_lt_zero _))⟩
end Go.Proofs.YtlfohdkfpdkhhaaGreatDoor.Abs
namespace Go.Proofs.YtlfohdkfpdkhhaaGreatDoor.Abs
open Go.RowKit Go.ChangeShapes
end Go.Proofs.YtlfohdkfpdkhhaaGreatDoor.Abs
namespace Go.Proofs.YtlfohdkfpdkhhaaGreatDoor.Abs
open Go.RowKit
variable {P : Program} {own : List Nat} {Q : Exit -> St -> Prop} {st : St}

theorem zqd {c : Operand} {x y b : Code} (t : Bool) (ht : st.ev c = .bool t) (h1 : t = true -> awp P own (.seq x b) Q st) (h2 : t = false -> awp P own (.seq y b) Q st) : awp P own (.seq (.cond c x y) b) Q st :=
 ⟨t, ht, h1, h2⟩
theorem zqb {b : Code} (h : awp P own b Q st) : awp P own (.seq .skip b) Q st := ⟨st, SealTo.refl st, h⟩
theorem zqg {b : Code} (h : Q .ret st) : awp P own (.seq .ret b) Q st := h
theorem zqc {b : Code} {id : Nat} (h : Q (.exit id) st) : awp P own (.seq (.exit id) b) Q st := h
theorem zqa {id : Nat} {c b : Code} (h : awp P own c (zto id (ztn (fun st => ∃ st', SealTo P st st' /\ awp P own b Q st') Q)) st) : awp P own (.seq (.block id c) b) Q st := h
theorem zqr {id : Nat} {l : List Oper} (h : ∀ K : St -> Prop, (∀ st, Q .normal st -> K st) -> z2l P own (l.map (·.dst)) l K st) : awp P own (.region id l.toArray false) Q st :=
 z99 (h _ fun _ h => h)
theorem zqq {id : Nat} {l : List Oper} (h0 : zis own l.toArray = true) (h : ∀ K : St -> Prop, (∀ st, Q .normal st -> K st) -> z3n P own (l.map (·.dst)) l K st) : awp P own (.region id l.toArray true) Q st :=
 zk8 h0 (h _ fun _ h => h)
theorem z3c {c : Code} (I : Nat -> St -> Prop) (h0 : ∃ n, I n st) (h : ∀ n st', I n st' -> awp P own c (zop I n Q) st') : awp P own (.loop c) Q st := ⟨I, h0, h⟩
def isRN : Exit -> Bool
 | .normal | .ret => true
 | _ => false
theorem zqu {e : Exit} {rs : List ResultVar} {K : D -> HM -> Nat -> Prop} {d : D} (h : resD P st rs = some d) (he : isRN e = true) (hF : K d st.H st.nx) : retQ P rs K e st := by
 cases e <;> first | exact ⟨d, h, hF⟩ | cases he
theorem zqv {Q' : Exit -> St -> Prop} {b : Code} (h : awp P own b Q st) : ztn (fun st => ∃ st', SealTo P st st' /\ awp P own b Q st') Q' .normal st := ⟨st, SealTo.refl st, h⟩
theorem zg0 {Q' : Exit -> St -> Prop} {b : Code} (st' : St) (hs : SealTo P st st') (h : awp P own b Q st') : ztn (fun st => ∃ st', SealTo P st st' /\ awp P own b Q st') Q' .normal st := ⟨st', hs, h⟩
theorem zqx {k : St -> Prop} (h : Q .ret st) : ztn k Q .ret st := h
theorem zqy {id : Nat} (h : Q .normal st) : zto id Q .normal st := h
theorem zqz {id : Nat} (h : Q .normal st) : zto id Q (.exit id) st := by
 simp only [zto, if_true]; exact h
theorem zqzb {id : Nat} (h : Q .ret st) : zto id Q .ret st := h
theorem zqp {I : Nat -> St -> Prop} {n id : Nat} (h : Q (.exit id) st) : zop I n Q (.exit id) st := h
theorem zqo {I : Nat -> St -> Prop} {n : Nat} (h : Q .ret st) : zop I n Q .ret st := h
section
variable {f : List Oper -> (St -> Prop) -> St -> Prop} {rest : List Oper} {K : St -> Prop} {dst : Option Nat}
theorem zqf {b : Bool} {op : Op} {ty : TypeId} {pos : String} {aft : Array Edge} {g : Option (Nat × Bool)} (h1 : b = true -> f (⟨dst, op, ty, pos, aft, g⟩ :: rest) K st) (h2 : b = false -> f rest K (st.put dst (.tup []))) :
  zx3 (some b) f ⟨dst, op, ty, pos, aft, g⟩ rest K st := by
 cases b with
 | true => exact h1 rfl
 | false => exact h2 rfl
end
attribute [go_sem] zl5 z2j
theorem zvo {α : Type} {f : α -> D} {l : List α} {i : Int} (h0 : 0 <= i) (h : i.toNat < l.length) : zun (l.map f) i = some (f l[i.toNat]) := by
 unfold zun
 rw [if_pos ⟨h0, by simp; omega⟩]
 simp [h]
theorem ite_some {α : Type} {c : Prop} [Decidable c] {x : α} (h : c) : (if c then some x else none) = some x := if_pos h
theorem zvp {α β : Type} (f : α -> β) (l : List α) (i : Nat) : (l.map f).take i = (l.take i).map f := (List.map_take).symm
theorem zvq {α β : Type} (f : α -> β) (l : List α) (i : Nat) : (l.map f).drop i = (l.drop i).map f := (List.map_drop).symm
theorem zst : maxLen = 9223372036854775807 := rfl
attribute [go_sem] zvp zvq zst
theorem nbeq {a b : Nat} (h : ¬ a = b) : (a == b) = false := by simpa using h
theorem nb1 {a : Nat} {st : St} (h : ¬ a = st.nx) : (a == st.nx) = false := nbeq h
theorem nb2 {a : Nat} {st : St} (h : ¬ st.nx = a) : (st.nx == a) = false := nbeq h
theorem nb3 {a k : Nat} {st : St} (h : ¬ a = st.nx + k) : (a == st.nx + k) = false := nbeq h
theorem nb4 {a k : Nat} {st : St} (h : ¬ st.nx + k = a) : (st.nx + k == a) = false := nbeq h
theorem zvr {α : Type} {f : α -> D} {l : List α} {k : Nat} (h : k < l.length) : zun (l.map f) (k : Int) = some (f l[k]) := z7t f l k h
theorem AC.split {f : FuncId} {pre post : List D} {sz : Nat} {els : List D} {H : HM} {nx : Nat} {K : D -> HM -> Nat -> Prop} (h0 : els = [] -> AC P f (pre ++ .nil :: post) H nx K) (h1 : AC P f (pre ++ .rsl true sz els :: post) H nx K) :
  AC P f (pre ++ .rsl false sz els :: post) H nx K := by
 refine ⟨h1.1, fun s w vs hH hnx hRH hr => ?_⟩
 have key : ∀ (pre : List D) (vs : List Value), relAll s (pre ++ .rsl false sz els :: post) vs -> (els = [] /\ relAll s (pre ++ .nil :: post) vs) \/ relAll s (pre ++ .rsl true sz els :: post) vs := by
  intro pre
  induction pre with
  | nil =>
   intro vs hr
   simp only [List.nil_append, relAll] at hr ⊢
   obtain ⟨v, r, h1, h2, h3⟩ := hr
   simp only [rel] at h2
   rcases h2 with ⟨_, h4, h5⟩ | h2
   ·exact .inl ⟨h4, v, r, h1, by simpa only [rel] using h5, h3⟩
   ·exact .inr ⟨v, r, h1, by simp only [rel]; exact .inr h2, h3⟩
  | cons d ds ih =>
   intro vs hr
   simp only [List.cons_append, relAll] at hr ⊢
   obtain ⟨v, r, h1, h2, h3⟩ := hr
   rcases ih r h3 with ⟨h4, h5⟩ | h4
   ·exact .inl ⟨h4, v, r, h1, h2, h5⟩
   ·exact .inr ⟨v, r, h1, h2, h4⟩
 rcases key pre vs hr with ⟨h2, h3⟩ | h2
 ·exact (h0 h2).2 s w vs hH hnx hRH h3
 ·exact h1.2 s w vs hH hnx hRH h2
theorem zlj {P : Program} {H : HM} {ds ds' : List D} (k : Nat) (hp : pureD.pureL ds = false) (hc : ze4 (z2p P H k) ds = some ds') : z2p P H (k + 1) (.tup ds) = some (.tup ds') := by
 unfold z2p
 simp only [pureD, hp, Bool.false_eq_true, if_false, hc, Option.map_some]
theorem z4z {P : Program} {H : HM} {ds ds' : List D} (k : Nat) (hp : pureD.pureL ds = false) (hc : ze4 (z2p P H k) ds = some ds') : z2p P H (k + 1) (.agg ds) = some (.agg ds') := by
 unfold z2p
 simp only [pureD, hp, Bool.false_eq_true, if_false, hc, Option.map_some]
theorem zbt {cs : List D} {n : Nat} (h : n = cs.length) : z1i false 1 n cs = cs := by subst h; exact zds cs
theorem z7u {α : Type} {f : α -> D} (h : ∀ x, z4u (f x) = some [f x]) : ∀ (l : List α), z1w 1 (l.map f) = some (l.map f)
 | [] => rfl
 | x :: l => by simp [z1w, h, z7u h l]
theorem zvs (l : List ByteArray) : z1w 1 (l.map D.str) = some (l.map D.str) := z7u (fun _ => rfl) l
theorem zvt {k : IntKind} (l : List Int) : z1w 1 (l.map (D.int k)) = some (l.map (D.int k)) := z7u (fun _ => rfl) l
theorem zjq (l : List ByteArray) : pureD.pureL (l.map D.str) = true := z0r (fun _ => rfl) l
theorem pure_int {k : IntKind} (l : List Int) : pureD.pureL (l.map (D.int k)) = true := z0r (fun _ => rfl) l
theorem zsu {α : Type} (f : α -> D) (l : List α) : z1i false 1 l.length (l.map f) = l.map f := zbt (by simp)
attribute [go_sem] List.nil_append List.cons_append Bool.false_or Bool.or_true Bool.true_or Bool.or_false zsu
theorem za2 (a b : List D) : pureD.pureL (a ++ b) = (pureD.pureL a && pureD.pureL b) := by
 induction a with
 | nil => rfl
 | cons d ds ih => simp only [List.cons_append, pureD.pureL, ih, Bool.and_assoc]
attribute [go_sem] za2
theorem zny {α : Type} (f : α -> D) (l : List α) (x : D) : z1i false 1 (l.length + 1) (l.map f ++ [x]) = l.map f ++ [x] := zbt (by simp)
attribute [go_sem high] zny
theorem zvu {k : IntKind} (l : List Nat) : z1w 1 (l.map fun n => D.int k (n : Nat)) = some (l.map fun n => D.int k (n : Nat)) := z7u (fun _ => rfl) l
theorem pure_nat {k : IntKind} (l : List Nat) : pureD.pureL (l.map fun n => D.int k (n : Nat)) = true := z0r (fun _ => rfl) l
attribute [go_sem] zvs zvt zjq pure_int zvu pure_nat

theorem zg1 : ∀ (n : Nat) (cs : List D), pureD.pureL cs = true -> pureD.pureL (cs.take n) = true
 | 0, _, _ => rfl
 | n + 1, [], _ => rfl
 | n + 1, c :: cs, h => by
  simp only [pureD.pureL, Bool.and_eq_true, List.take_succ_cons] at h ⊢
  exact ⟨h.1, zg1 n cs h.2⟩
theorem zlk : ∀ (n : Nat) (cs : List D), pureD.pureL cs = true -> pureD.pureL (cs.drop n) = true
 | 0, _, h => h
 | n + 1, [], _ => rfl
 | n + 1, c :: cs, h => by
  simp only [pureD.pureL, Bool.and_eq_true] at h
  exact zlk n cs h.2
theorem zib {ag : Bool} {sz : Nat} : ∀ {n : Nat} {cs : List D}, pureD.pureL cs = true -> pureD.pureL (z1i ag sz n cs) = true
 | 0, _, _ => rfl
 | n + 1, cs, h => by
  simp only [z1i, pureD.pureL, Bool.and_eq_true]
  refine ⟨?_, zib (zlk sz cs h)⟩
  cases ag with
  | true => simp only [if_true, pureD]; exact zg1 sz cs h
  | false =>
   cases cs with
   | nil => rfl
   | cons c cs =>
    simp only [pureD.pureL, Bool.and_eq_true] at h
    exact h.1
def zht (P : Program) (id : Nat) (e : TypeId) (k : Nat) (cs : List D) : D -> D
 | .osl j n => cond (j == id && n == k) (.rsl false (z09 P e) (z1i (z0f P e) (z09 P e) k cs)) (.osl j n)
 | d => d
def zvv (P : Program) (id : Nat) (e : TypeId) (k : Nat) (cs : List D) : D -> D
 | .agg ds => .agg (ds.map (zht P id e k cs))
 | d => zht P id e k cs d
def zdu (P : Program) (id : Nat) (e : TypeId) (k : Nat) (cs : List D) : HObj -> HObj
 | .box t ds => .box t (ds.map (zht P id e k cs))
 | .row t n ds => .row t n (ds.map (zht P id e k cs))
 | o => o
def St.given (P : Program) (st : St) (id : Nat) (e : TypeId) (k : Nat) (cs : List D) : St :=
 {t := fun i => zvv P id e k cs (st.t i), H := fun j => cond (j == id) none ((st.H j).map (zdu P id e k cs)), nx := st.nx }
theorem zg2 {st : St} {id : Nat} {e : TypeId} {k : Nat} {cs : List D} (h : st.H id = some (.row e k cs)) (ho : zpg P e = true) (hp : pureD.pureL cs = true) : SealTo P st (st.given P id e k cs) := by
 intro N s a w hf
 have hid : s.H id = some (.row e k cs) := by rw [hf.H]; exact h
 obtain ⟨g1, g2⟩ := zbw hf.heap (id := id) (by rw [hid]; simp)
 let s' : RS := { s.shut1 w id with H := fun j => cond (j == id) none ((s.H j).map (zdu P id e k cs)) }
 have hm : s'.m = (s.shut1 w id).m := rfl
 have hH' : ∀ j, j ≠ id -> s'.H j = (s.H j).map (zdu P id e k cs) := fun j hj => by
  have : (j == id) = false := by simpa using hj
  show cond (j == id) none _ = _
  rw [this]; rfl
 have hHid : s'.H id = none := by
  show cond (id == id) none _ = _
  simp
 have hlater : Later s s' := by
  refine ⟨Nat.le_refl _, g1.mem, fun j _ => ?_⟩
  by_cases hj : j = id
  ·subst hj
   rw [hHid, hid]; exact .inl rfl
  ·rw [hH' j hj]
   show objLe (s.H j) ((s.H j).map _) (s.κ j) (s.κ j)
   cases s.H j with
   | none => rfl
   | some o =>
    cases o with
    | box t ds => exact .inr ⟨_, rfl, rfl⟩
    | row t n ds => exact .inr ⟨n, _, rfl, Nat.le_refl _, fun _ => rfl⟩
    | map es => exact .inr ⟨_, rfl, rfl⟩
    | raw q => exact .inr ⟨_, rfl, rfl⟩
 have r0 : ∀ d v, rel s d v -> rel s' (zht P id e k cs d) v := by
  intro d v hr
  have stay : rel s' d v := rel.later hlater d v hr
  cases d <;> first | exact stay | skip
  rename_i j n
  simp only [zht]
  cases hc : (j == id && n == k) with
  | false => exact stay
  | true =>
   simp only [Bool.and_eq_true, beq_iff_eq] at hc
   obtain ⟨rfl, rfl⟩ := hc
   have hs : zhe P (.osl j n, s.H, s.nx) = some (.rsl false (z09 P e) (z1i (z0f P e) (z09 P e) n cs), z12 s.H j none, s.nx) := by
    unfold zhe
    simp only [hid]
    rw [if_pos ⟨trivial, ho, hp⟩]
   obtain ⟨s2, _, _, _, _, hr2, he2⟩ := zga hf.heap rfl rfl hr hs
   have he3 := he2 j n rfl
   subst he3
   have hpp : pureD (.rsl false (z09 P e) (z1i (z0f P e) (z09 P e) n cs)) = true := by
    simp only [pureD]
    exact zib hp
   exact z1y (s := s.shut1 w j) (s' := s') (fun a v h => h) _ _ hpp hr2
 have r0L : ∀ (ds : List D) (vs : List Value), relAll s ds vs -> relAll s' (ds.map (zht P id e k cs)) vs := by
  intro ds
  induction ds with
  | nil => intro vs hr; simpa [relAll] using hr
  | cons d ds ih =>
   intro vs hr
   simp only [relAll] at hr
   obtain ⟨v, r, rfl, h1, h2⟩ := hr
   exact z0m (r0 d v h1) (ih r h2)
 have r1 : ∀ d v, rel s d v -> rel s' (zvv P id e k cs d) v := by
  intro d v hr
  cases d <;> first | exact r0 _ v hr | skip
  rename_i ds
  simp only [zvv, rel] at hr ⊢
  obtain ⟨vs, h1, h2, h3⟩ := hr
  exact ⟨vs, h1, r0L ds vs h2, h3⟩
 have hnone : ∀ j, s'.H j ≠ none -> j ≠ id /\ s.H j ≠ none := by
  intro j hj
  by_cases hji : j = id
  ·subst hji; exact (hj hHid).elim
  ·rw [hH' j hji] at hj
   exact ⟨hji, fun h0 => hj (by rw [h0]; rfl)⟩
 have hown : ∀ b, owned s' b -> owned (s.shut1 w id) b := by
  rintro b ⟨j, hj, hH, hb⟩
  obtain ⟨h1, h2⟩ := hnone j hH
  exact ⟨j, hj, by simp only [RS.shut1, z12, if_neg h1]; exact h2, hb⟩
 have hown2 : ∀ b, owned s' b -> owned s b := by
  rintro b ⟨j, hj, hH, hb⟩
  exact ⟨j, hj, (hnone j hH).2, hb⟩
 refine ⟨s', ⟨?_, hf.nx, hf.size, hf.defers, fun i => r1 _ _ (hf.tmps i), ?_⟩, ?_⟩
 ·show (fun j => cond (j == id) none ((s.H j).map (zdu P id e k cs))) = _
  rw [hf.H]; rfl
 ·refine ⟨fun a v hmm => ⟨(g2.mem a v hmm).1, fun ho => (g2.mem a v hmm).2 (hown _ ho)⟩, fun j o hj => ?_, fun i j hi hj hij hbi => ?_, fun g => rel.later hlater _ _ (hf.heap.glob g)⟩
  ·obtain ⟨h1, h2⟩ := hnone j (by rw [hj]; simp)
   rw [hH' j h1] at hj
   cases hs : s.H j with
   | none => exact (h2 hs).elim
   | some o0 =>
    rw [hs] at hj
    simp only [Option.map_some, Option.some.injEq] at hj
    obtain ⟨q1, q2⟩ := hf.heap.obj j o0 hs
    refine ⟨q1, ?_⟩
    show objOK P s' w (s.κ j) o
    cases o0 with
    | box t ds =>
     simp only [zdu] at hj; subst hj
     obtain ⟨b, vs, u1, u2, u3, u4⟩ := q2
     exact ⟨b, vs, u1, u2, r0L _ _ u3, u4⟩
    | row t n ds =>
     simp only [zdu] at hj; subst hj
     obtain ⟨vs, u1, u2, u3⟩ := q2
     exact ⟨vs, u1, r0L _ _ u2, u3⟩
    | map es =>
     simp only [zdu] at hj; subst hj
     obtain ⟨r, ens, clock, u1, u2, u3, u4⟩ := q2
     exact ⟨r, ens, clock, u1, u2, relAll.later hlater _ _ u3, relAll.later hlater _ _ u4⟩
    | raw q =>
     simp only [zdu] at hj; subst hj
     exact q2
  ·exact hf.heap.apart i j (hnone i hi).2 (hnone j hj).2 hij hbi
 ·exact ⟨g1.os, g1.tape, g1.output, g1.size, g1.nx, g1.mem, g1.new, hlater.objs, g1.keep, fun b ho => .inl (hown2 b ho)⟩
@[go_sem] theorem t_seal (st : St) (id e k : Nat) (cs : List D) (i : Nat) : (st.given P id e k cs).t i = zvv P id e k cs (st.t i) := rfl
@[go_sem] theorem H_seal (st : St) (id e k : Nat) (cs : List D) (j : Nat) : (st.given P id e k cs).H j = cond (j == id) none ((st.H j).map (zdu P id e k cs)) := rfl
@[go_sem] theorem nx_seal (st : St) (id e k : Nat) (cs : List D) : (st.given P id e k cs).nx = st.nx := rfl
attribute [go_sem] zht zvv zdu
theorem z5o {P : Program} {id e k : Nat} {cs : List D} : ∀ (ds : List D), pureD.pureL ds = true -> ds.map (zht P id e k cs) = ds
 | [], _ => rfl
 | d :: ds, h => by
  simp only [pureD.pureL, Bool.and_eq_true] at h
  rw [List.map_cons, z5o ds h.2]
  congr 1
  cases d <;> first | rfl | (simp [pureD] at h)
attribute [go_sem] Bool.not_true Bool.not_false decide_true decide_false List.getElem?_toArray List.map_map ne_eq not_true_eq_false not_false_eq_true List.length_map Nat.zero_le Option.some.injEq List.length_cons List.length_nil beq_self_eq_true Bool.true_and Bool.and_true true_or or_true List.drop_zero List.set_cons_zero List.set_cons_succ List.take_succ_cons List.take_zero List.drop_succ_cons D.int.injEq Prod.mk.injEq Int.toNat_natCast Nat.mul_one Nat.zero_add Nat.add_zero Int.natCast_nonneg List.getElem?_map List.length_set List.length_append List.length_replicate List.length_take List.length_drop List.take_length Bool.false_and Bool.and_false
attribute [go_sem] zvr zvo z6e nb1 nb2 nb3 nb4 ite_some resD allR valR
end Go.Proofs.YtlfohdkfpdkhhaaGreatDoor.Abs
namespace Go.Proofs.YtlfohdkfpdkhhaaGreatDoor.Abs
open Go.RowKit
variable {P : Program}

def z2t : HObj -> Bool
 | .box _ cs => pureD.pureL cs
 | .row _ _ cs => pureD.pureL cs
 | .map es => pureD.pureL (es.map (·.1)) && pureD.pureL (es.map (·.2))
 | .raw _ => true
def renD (g : Nat -> Nat) : D -> D
 | .osl j n => .osl (g j) n
 | .ptr j off => .ptr (g j) off
 | .mp j => .mp (g j)
 | .agg ds => .agg (renL ds)
 | .tup ds => .tup (renL ds)
 | d => d
where renL : List D -> List D
 | [] => []
 | d :: ds => renD g d :: renL ds
def okD (k : Nat) : D -> Bool
 | .osl j _ => decide (j < k)
 | .ptr j _ => decide (j < k)
 | .mp j => decide (j < k)
 | .agg ds => okL ds
 | .tup ds => okL ds
 | d => pureD d
where okL : List D -> Bool
 | [] => true
 | d :: ds => okD k d && okL ds
def zjr (H : HM) (nx : Nat) : List HObj -> HM
 | [] => H
 | o :: os => zjr (z12 H nx (some o)) (nx + 1) os
theorem zbu : ∀ (os : List HObj) (H : HM) (nx i : Nat), zjr H nx os i = if nx <= i /\ i < nx + os.length then os[i - nx]? else H i
 | [], H, nx, i => by
  simp only [zjr, List.length_nil, Nat.add_zero]
  rw [if_neg (by omega)]
 | o :: os, H, nx, i => by
  simp only [zjr, zbu os, List.length_cons, z12]
  by_cases h : nx + 1 <= i /\ i < nx + 1 + os.length
  ·rw [if_pos h, if_pos (by omega)]
   have : i - nx = (i - (nx + 1)) + 1 := by omega
   rw [this, List.getElem?_cons_succ]
  ·rw [if_neg h]
   by_cases h2 : i = nx
   ·subst h2
    rw [if_pos rfl, if_pos (by omega), Nat.sub_self]; rfl
   ·rw [if_neg h2, if_neg (by omega)]

def OC (P : Program) (f : FuncId) (ds : List D) (objs : List HObj) (r : D) : Prop :=
 pureD.pureL ds = true /\ okD objs.length r = true /\ (∀ o ∈ objs, z2t o = true) /\
  ∀ H nx, AC P f ds H nx fun r' H' nx' => r' = renD (fun j => nx + j) r /\ H' = zjr H nx objs /\ nx' = nx + objs.length

noncomputable def z7a (s s3 : RS) (w w' : World) (k : Nat) (σ : Nat -> Nat) : RS :=
 {m := fun a => if a.block < w.heap.size then s.m a else @ite _ (∃ j, j < k /\ blockOf (s3.κ (σ j)) = some a.block) (Classical.propDecidable _) none (w'.cell? a)
  κ := fun i => if s.nx <= i /\ i < s.nx + k then s3.κ (σ (i - s.nx)) else s.κ i
  H := fun i => if s.nx <= i /\ i < s.nx + k then s3.H (σ (i - s.nx)) else s.H i
  nx := s.nx + k }

mutual
theorem znz {s s' : RS} {k : Nat} {σ τ : Nat -> Nat} (hm : ∀ a v, s.m a = some v -> s'.m a = some v)
  (hnx : ∀ j, j < k -> τ j < s'.nx) (hH : ∀ j, j < k -> s'.H (τ j) = s.H (σ j) /\ s'.κ (τ j) = s.κ (σ j)) : ∀ (d : D) (v : Value), okD k d = true -> rel s (renD σ d) v -> rel s' (renD τ d) v
 | .osl j n, v, O, hr => by
  simp only [okD, decide_eq_true_eq] at O
  simp only [renD, rel] at hr ⊢
  obtain ⟨_, h2, h3⟩ := hr
  obtain ⟨e1, e2⟩ := hH j O
  exact ⟨hnx j O, h2, by rw [e1, e2]; exact h3⟩
 | .ptr j off, v, O, hr => by
  simp only [okD, decide_eq_true_eq] at O
  simp only [renD, rel] at hr ⊢
  obtain ⟨_, h2, h3⟩ := hr
  obtain ⟨e1, e2⟩ := hH j O
  exact ⟨hnx j O, h2, by rw [e1, e2]; exact h3⟩
 | .mp j, v, O, hr => by
  simp only [okD, decide_eq_true_eq] at O
  simp only [renD, rel] at hr ⊢
  obtain ⟨_, h2, h3⟩ := hr
  obtain ⟨e1, e2⟩ := hH j O
  exact ⟨hnx j O, h2, by rw [e1, e2]; exact h3⟩
 | .agg ds, v, O, hr => by
  simp only [okD] at O
  simp only [renD, rel] at hr ⊢
  obtain ⟨vs, h1, h2, h3⟩ := hr
  exact ⟨vs, h1, zb0 hm hnx hH ds vs O h2, h3⟩
 | .tup ds, v, O, hr => by
  simp only [okD] at O
  simp only [renD, rel] at hr ⊢
  obtain ⟨vs, h1, h2⟩ := hr
  exact ⟨vs, h1, zb0 hm hnx hH ds vs O h2⟩
 | .any, v, O, hr => by simp only [renD] at hr ⊢; exact z1y hm _ _ rfl hr
 | .int _ _, v, O, hr => by simp only [renD] at hr ⊢; exact z1y hm _ _ rfl hr
 | .bool _, v, O, hr => by simp only [renD] at hr ⊢; exact z1y hm _ _ rfl hr
 | .str _, v, O, hr => by simp only [renD] at hr ⊢; exact z1y hm _ _ rfl hr
 | .nil, v, O, hr => by simp only [renD] at hr ⊢; exact z1y hm _ _ rfl hr
 | .nptr, v, O, hr => by simp only [renD] at hr ⊢; exact z1y hm _ _ rfl hr
 | .nfun, v, O, hr => by simp only [renD] at hr ⊢; exact z1y hm _ _ rfl hr
 | .nmp, v, O, hr => by simp only [renD] at hr ⊢; exact z1y hm _ _ rfl hr
 | .e0, v, O, hr => by simp only [renD] at hr ⊢; exact z1y hm _ _ rfl hr
 | .rsl nn sz els, v, O, hr => by simp only [okD] at O; simp only [renD] at hr ⊢; exact z1y hm _ _ O hr
 | .rptr d, v, O, hr => by simp only [okD] at O; simp only [renD] at hr ⊢; exact z1y hm _ _ O hr
 | .fsl _ els, v, O, hr => by simp only [okD] at O; simp only [renD] at hr ⊢; exact z1y hm _ _ O hr
 | .fn f cap, v, O, hr => by simp only [okD] at O; simp only [renD] at hr ⊢; exact z1y hm _ _ O hr
 | .eptr .., v, O, hr => by simp only [okD, pureD] at O; cases O
 | .it _, v, O, hr => by simp only [okD, pureD] at O; cases O
theorem zb0 {s s' : RS} {k : Nat} {σ τ : Nat -> Nat} (hm : ∀ a v, s.m a = some v -> s'.m a = some v)
  (hnx : ∀ j, j < k -> τ j < s'.nx) (hH : ∀ j, j < k -> s'.H (τ j) = s.H (σ j) /\ s'.κ (τ j) = s.κ (σ j)) : ∀ (ds : List D) (vs : List Value), okD.okL k ds = true -> relAll s (renD.renL σ ds) vs -> relAll s' (renD.renL τ ds) vs
 | [], vs, _, hr => by simpa [renD.renL, relAll] using hr
 | d :: ds, vs, O, hr => by
  simp only [okD.okL, Bool.and_eq_true] at O
  simp only [renD.renL, relAll] at hr ⊢
  obtain ⟨v, r, h1, h2, h3⟩ := hr
  exact ⟨v, r, h1, znz hm hnx hH d v O.1 h2, zb0 hm hnx hH ds r O.2 h3⟩
end

theorem objOK.pure {s s' : RS} {w : World} {v : Value} {o : HObj} (hm : ∀ a v, s.m a = some v -> s'.m a = some v) (hp : z2t o = true) (h : objOK P s w v o) : objOK P s' w v o := by
 cases o with
 | box e cs =>
  obtain ⟨b, vs, h1, h2, h3, h4⟩ := h
  exact ⟨b, vs, h1, h2, z1q hm _ _ hp h3, h4⟩
 | row e n cs =>
  obtain ⟨vs, h1, h2, h3⟩ := h
  exact ⟨vs, h1, z1q hm _ _ hp h2, h3⟩
 | map es =>
  simp only [z2t, Bool.and_eq_true] at hp
  obtain ⟨r, ens, clock, h1, h2, h3, h4⟩ := h
  exact ⟨r, ens, clock, h1, h2, z1q hm _ _ hp.1 h3, z1q hm _ _ hp.2 h4⟩
 | raw q => exact h

theorem z91 {f : FuncId} {ds : List D} {objs : List HObj} {r : D} (hds : pureD.pureL ds = true) (hr : okD objs.length r = true) (ho : ∀ o ∈ objs, z2t o = true)
  (h : AC P f ds noH 0 fun d H' _ => ∃ σ : Nat -> Nat, (∀ i j, i < objs.length -> j < objs.length -> σ i = σ j -> i = j) /\ d = renD σ r /\ ∀ j, j < objs.length -> H' (σ j) = objs[j]?) : OC P f ds objs r := by
 refine ⟨hds, hr, ho, fun H nx => ⟨h.1, fun s w vs hH hnx hRH hrel => ?_⟩⟩
 subst hH; subst hnx
 let s2 : RS := { s with H := noH, nx := 0 }
 have hno : ∀ k, ¬ owned s2 k := by rintro k ⟨id, hid, _⟩; exact absurd hid (Nat.not_lt_zero _)
 have hRH2 : RH P s2 w := ⟨fun a v hmm => ⟨(hRH.mem a v hmm).1, hno _⟩, fun id o ho => (by cases ho), fun i j hi => (hi rfl).elim, fun g => z1y (s := s) (s' := s2) (fun a v hm => hm) _ _ (z4t g) (hRH.glob g)⟩
 have hr2 : relAll s2 ds vs := z1q (s := s) (s' := s2) (fun a v hm => hm) ds vs hds hrel
 refine (h.2 s2 w vs rfl rfl hRH2 hr2).mono fun e w' ⟨v, d, s3, he, ⟨σ, hinj, V, hobj⟩, hstep, hRH3, hres⟩ => ?_
 subst V
 have hold : ∀ k, k < w.heap.size -> w'.heap[k]? = w.heap[k]? := fun k O => hstep.keep k O (hno k)
 have hnew3 : ∀ k, owned s3 k -> w.heap.size <= k := fun k O => (hstep.own k O).elim (fun h => (hno k h).elim) id
 have hlive : ∀ j, j < objs.length -> s3.H (σ j) ≠ none := fun j hj => by rw [hobj j hj, List.getElem?_eq_getElem hj]; simp
 have hown3 : ∀ j b, j < objs.length -> blockOf (s3.κ (σ j)) = some b -> owned s3 b := fun j b hj hb => ⟨σ j, hRH3.fresh (hlive j hj), hlive j hj, hb⟩
 let s' := z7a s s3 w w' objs.length σ
 have hm3 : ∀ a u, s3.m a = some u -> s'.m a = some u := by
  intro a u hu
  show (z7a s s3 w w' objs.length σ).m a = some u
  simp only [z7a]
  rcases hstep.new a u hu with h1 | h1 | h1
  ·have hlt := hRH.mem_lt (a := a) (v := u) h1
   rw [if_pos hlt]; exact h1
  ·rw [if_neg (by omega), if_neg]
   ·exact (hRH3.mem a u hu).1
   ·rintro ⟨j, hj, hb⟩
    exact (hRH3.mem a u hu).2 (hown3 j _ hj hb)
  ·exact (hno _ h1).elim
 have hm0 : ∀ a u, s.m a = some u -> s'.m a = some u := by
  intro a u hu
  show (z7a s s3 w w' objs.length σ).m a = some u
  simp only [z7a]
  rw [if_pos (hRH.mem_lt hu)]; exact hu
 have hHnew : ∀ j, j < objs.length -> s'.H (s.nx + j) = s3.H (σ j) /\ s'.κ (s.nx + j) = s3.κ (σ j) := by
  intro j hj
  show (z7a s s3 w w' objs.length σ).H (s.nx + j) = _ /\ (z7a s s3 w w' objs.length σ).κ (s.nx + j) = _
  simp only [z7a]
  rw [if_pos (by omega), if_pos (by omega), Nat.add_sub_cancel_left]
  exact ⟨rfl, rfl⟩
 have hHold : ∀ i, ¬ (s.nx <= i /\ i < s.nx + objs.length) -> s'.H i = s.H i /\ s'.κ i = s.κ i := by
  intro i hi
  show (z7a s s3 w w' objs.length σ).H i = _ /\ (z7a s s3 w w' objs.length σ).κ i = _
  simp only [z7a]
  rw [if_neg hi, if_neg hi]
  exact ⟨rfl, rfl⟩
 have hHlow : ∀ i, i < s.nx -> s'.H i = s.H i /\ s'.κ i = s.κ i := fun i hi => hHold i (by omega)
 have hlate : Later s s' := ⟨by show s.nx <= s.nx + _; omega, hm0, fun id hid => by
  obtain ⟨e1, e2⟩ := hHlow id hid
  rw [e1, e2]; exact objLe.refl _ _⟩
 have hown : ∀ k, owned s' k -> owned s k \/ (w.heap.size <= k /\ ∃ j, j < objs.length /\ blockOf (s3.κ (σ j)) = some k) := by
  rintro k ⟨id, hid, hH, hb⟩
  by_cases hi : s.nx <= id /\ id < s.nx + objs.length
  ·obtain ⟨j, rfl⟩ : ∃ j, id = s.nx + j := ⟨id - s.nx, by omega⟩
   have hj : j < objs.length := by omega
   rw [(hHnew j hj).2] at hb
   exact .inr ⟨hnew3 k (hown3 j k hj hb), j, hj, hb⟩
  ·obtain ⟨e1, e2⟩ := hHold id hi
   rw [e1] at hH; rw [e2] at hb
   exact .inl ⟨id, hRH.fresh hH, hH, hb⟩
 have hfun : s'.H = zjr s.H s.nx objs := by
  funext i
  rw [zbu]
  by_cases hi : s.nx <= i /\ i < s.nx + objs.length
  ·obtain ⟨j, rfl⟩ : ∃ j, i = s.nx + j := ⟨i - s.nx, by omega⟩
   have hj : j < objs.length := by omega
   rw [if_pos hi, (hHnew j hj).1, hobj j hj, Nat.add_sub_cancel_left]
  ·rw [if_neg hi, (hHold i hi).1]
 refine ⟨v, renD (fun j => s.nx + j) r, s', he, ⟨rfl, hfun, rfl⟩, ?_, ?_, znz hm3 (fun j hj => by show s.nx + j < s.nx + _; omega) hHnew r v hr hres⟩
 ·refine ⟨hstep.os, hstep.tape, hstep.output, hstep.size, hlate.nx, hm0, fun a u hu => ?_, hlate.objs, fun k O _ => hold k O, fun k O => ?_⟩
  ·by_cases hlt : a.block < w.heap.size
   ·refine .inl ?_
    have hu' : (z7a s s3 w w' objs.length σ).m a = some u := hu
    simp only [z7a] at hu'
    rw [if_pos hlt] at hu'; exact hu'
   ·exact .inr (.inl (by omega))
  ·rcases hown k O with h1 | ⟨h1, _⟩
   ·exact .inl h1
   ·exact .inr h1
 ·refine ⟨fun a u hu => ?_, fun id o hido => ?_, fun i j hi hj hij hbi => ?_, fun g => rel.later hlate _ _ (hRH.glob g)⟩
  ·have hu' : (z7a s s3 w w' objs.length σ).m a = some u := hu
   simp only [z7a] at hu'
   split at hu'
   ·rename_i hlt
    obtain ⟨h1, h2⟩ := hRH.mem a u hu'
    refine ⟨by rw [z4v (hold _ hlt)]; exact h1, fun h3 => ?_⟩
    rcases hown _ h3 with h4 | ⟨h4, _⟩
    ·exact h2 h4
    ·omega
   ·rename_i hlt
    split at hu'
    ·cases hu'
    ·rename_i hex
     refine ⟨hu', fun h3 => ?_⟩
     rcases hown _ h3 with h4 | ⟨_, h4⟩
     ·exact hlt (hRH.owned_lt h4)
     ·exact hex h4
  ·by_cases hi : s.nx <= id /\ id < s.nx + objs.length
   ·obtain ⟨j, rfl⟩ : ∃ j, id = s.nx + j := ⟨id - s.nx, by omega⟩
    have hj : j < objs.length := by omega
    obtain ⟨e1, e2⟩ := hHnew j hj
    rw [e1, hobj j hj, List.getElem?_eq_getElem hj] at hido
    cases hido
    refine ⟨by show s.nx + j < s.nx + _; omega, ?_⟩
    rw [e2]
    exact objOK.pure hm3 (ho _ (List.getElem_mem hj)) (hRH3.obj (σ j) _ (by rw [hobj j hj, List.getElem?_eq_getElem hj])).2
   ·obtain ⟨e1, e2⟩ := hHold id hi
    rw [e1] at hido
    obtain ⟨h1, h2⟩ := hRH.obj id o hido
    refine ⟨by show id < s.nx + _; omega, ?_⟩
    rw [e2]
    exact h2.mono hlate fun b hb' => hold b (h2.lt hb')
  ·by_cases h1 : s.nx <= i /\ i < s.nx + objs.length
   ·obtain ⟨i', rfl⟩ : ∃ j, i = s.nx + j := ⟨i - s.nx, by omega⟩
    have hi' : i' < objs.length := by omega
    rw [(hHnew i' hi').2] at hbi ⊢
    cases hb : blockOf (s3.κ (σ i')) with
    | none => exact (hbi hb).elim
    | some b =>
     have F := hnew3 b (hown3 i' b hi' hb)
     by_cases h2 : s.nx <= j /\ j < s.nx + objs.length
     ·obtain ⟨j', rfl⟩ : ∃ j', j = s.nx + j' := ⟨j - s.nx, by omega⟩
      have hj' : j' < objs.length := by omega
      rw [(hHnew j' hj').2, <- hb]
      exact hRH3.apart (σ i') (σ j') (hlive i' hi') (hlive j' hj') (fun e => hij (by rw [hinj i' j' hi' hj' e])) (by rw [hb]; simp)
     ·obtain ⟨e1, e2⟩ := hHold j h2
      rw [e1] at hj; rw [e2]
      intro e
      have := hRH.owned_lt (k := b) ⟨j, hRH.fresh hj, hj, e.symm⟩
      omega
   ·obtain ⟨e1, e2⟩ := hHold i h1
    rw [e1] at hi; rw [e2] at hbi ⊢
    by_cases h2 : s.nx <= j /\ j < s.nx + objs.length
    ·obtain ⟨j', rfl⟩ : ∃ j', j = s.nx + j' := ⟨j - s.nx, by omega⟩
     have hj' : j' < objs.length := by omega
     rw [(hHnew j' hj').2]
     cases hb : blockOf (s.κ i) with
     | none => exact (hbi hb).elim
     | some b =>
      intro e
      have h3 := hnew3 b (hown3 j' b hj' e.symm)
      have := hRH.owned_lt (k := b) ⟨i, hRH.fresh hi, hi, hb⟩
      omega
    ·obtain ⟨e3, e4⟩ := hHold j h2
     rw [e3] at hj; rw [e4]
     exact hRH.apart i j hi hj hij hbi

section
variable {st : St} {dst : Option Nat} {n : FuncId} {cap args : List D} {g : List Oper -> (St -> Prop) -> St -> Prop} {rest : List Oper} {K : St -> Prop}
theorem OC.ac {f : FuncId} {ds : List D} {objs : List HObj} {r : D} (h : OC P f ds objs r) {H : HM} {nx : Nat} {K : D -> HM -> Nat -> Prop} (O : K (renD (fun j => nx + j) r) (zjr H nx objs) (nx + objs.length)) : AC P f ds H nx K :=
 (h.2.2.2 H nx).mono fun _ _ _ ⟨h1, h2, h3⟩ => by subst h1; subst h2; subst h3; exact O
theorem z6n {objs : List HObj} {r : D} (h : OC P n (args ++ cap) objs r) (O : g rest K ((st.withH (zjr st.H st.nx objs) (st.nx + objs.length)).put dst (renD (fun j => st.nx + j) r))) : zhy P (.fn n cap) args g rest K st dst :=
 z82 (h.ac O)
def isRow : HObj -> Bool
 | .row .. => true
 | _ => false
theorem zsv (st : St) {objs : List HObj} (hr : objs.all isRow = true) : z9u st (zjr st.H st.nx objs) (st.nx + objs.length) := by
 refine ⟨Nat.le_add_right _ _, fun id => ⟨fun hlt e cs h => ?_, fun hlt e cs h => ?_⟩⟩
 ·rw [zbu, if_neg (by omega)]; exact h
 ·rw [zbu] at h
  split at h
  ·rename_i hin
   obtain ⟨hl, he⟩ := List.getElem?_eq_some_iff.1 h
   have := List.all_eq_true.1 hr _ (List.getElem_mem hl)
   rw [he] at this; cases this
  ·exact ⟨by omega, h⟩
theorem z7v {own : List Nat} {objs : List HObj} {r : D} (h : OC P n (args ++ cap) objs r) (h0 : z0x 5000000 own dst = false) (hm : z0x 4000000 own dst = true) (hr : objs.all isRow = true)
  (O : g rest K ((st.withH (zjr st.H st.nx objs) (st.nx + objs.length)).put dst (renD (fun j => st.nx + j) r))) (ht : tcM own dst = none := by rfl) : zoq P own (.fn n cap) args g rest K st dst :=
 .inr (.inr ⟨h0, hm, _, _, _, h.2.2.2 st.H st.nx, .inl ⟨ht, zsv st hr⟩, O⟩)
end
theorem OC.pc {f : FuncId} {ds : List D} {objs : List HObj} {r r' : D} (k : Nat) (h : OC P f ds objs r) (hp : pureD r' = true) (hs : z2p P (zjr noH 0 objs) k (renD (fun j => 0 + j) r) = some r') : PC P f ds r' :=
 z14 k h.1 hp (h.ac ⟨_, hs, Le.refl _⟩)
attribute [go_sem] zjr renD renD.renL
end Go.Proofs.YtlfohdkfpdkhhaaGreatDoor.Abs
namespace Go.Proofs.YtlfohdkfpdkhhaaGreatDoor.Abs
open Go.RowKit
variable {P : Program}

def lowD (n : Nat) : D -> Bool
 | .osl j _ => decide (j < n)
 | .ptr j _ => decide (j < n)
 | .eptr j _ _ => decide (j < n)
 | .mp j => decide (j < n)
 | .it j => decide (j < n)
 | .agg ds => lowL ds
 | .tup ds => lowL ds
 | .rsl _ _ els => lowL els
 | .fsl _ els => lowL els
 | .rptr d => lowD n d
 | .fn _ cap => lowL cap
 | _ => true
where lowL : List D -> Bool
 | [] => true
 | d :: ds => lowD n d && lowL ds
def lowO (n : Nat) : HObj -> Bool
 | .box _ cs => lowD.lowL n cs
 | .row _ _ cs => lowD.lowL n cs
 | .map es => lowD.lowL n (es.map (·.1)) && lowD.lowL n (es.map (·.2))
 | .raw _ => true
mutual
theorem zcd (n : Nat) : ∀ d, pureD d = true -> lowD n d = true
 | .agg ds, h => by simp only [pureD] at h; simp only [lowD]; exact z35 n ds h
 | .tup ds, h => by simp only [pureD] at h; simp only [lowD]; exact z35 n ds h
 | .rsl _ _ els, h => by simp only [pureD] at h; simp only [lowD]; exact z35 n els h
 | .fsl _ els, h => by simp only [pureD] at h; simp only [lowD]; exact z35 n els h
 | .rptr d, h => by simp only [pureD] at h; simp only [lowD]; exact zcd n d h
 | .fn _ cap, h => by simp only [pureD] at h; simp only [lowD]; exact z35 n cap h
 | .any, _ => rfl
 | .int _ _, _ => rfl
 | .bool _, _ => rfl
 | .str _, _ => rfl
 | .nil, _ => rfl
 | .nptr, _ => rfl
 | .nfun, _ => rfl
 | .nmp, _ => rfl
 | .e0, _ => rfl
 | .osl .., h => by cases h
 | .ptr .., h => by cases h
 | .eptr .., h => by cases h
 | .mp _, h => by cases h
 | .it _, h => by cases h
theorem z35 (n : Nat) : ∀ ds, pureD.pureL ds = true -> lowD.lowL n ds = true
 | [], _ => rfl
 | d :: ds, h => by
  simp only [pureD.pureL, Bool.and_eq_true] at h
  simp only [lowD.lowL, zcd n d h.1, z35 n ds h.2, Bool.and_self]
end
mutual
theorem zq5 {s : RS} : ∀ (d : D) (v : Value), rel s d v -> lowD s.nx d = true
 | .agg ds, v, h => by simp only [rel] at h; obtain ⟨vs, _, h2, _⟩ := h; simp only [lowD]; exact z5z ds vs h2
 | .tup ds, v, h => by simp only [rel] at h; obtain ⟨vs, _, h2⟩ := h; simp only [lowD]; exact z5z ds vs h2
 | .rsl _ _ els, v, h => by
  simp only [rel] at h
  simp only [lowD]
  rcases h with ⟨_, h, _⟩ | ⟨_, _, vs, _, _, _, h4, _⟩
  ·rw [h]; rfl
  ·exact z5z els vs h4
 | .fsl _ els, v, h => by
  simp only [rel] at h
  simp only [lowD]
  rcases h with ⟨h, _⟩ | ⟨_, vs, _, _, h4, _⟩
  ·rw [h]; rfl
  ·exact z5z els vs h4
 | .rptr d, v, h => by simp only [rel] at h; obtain ⟨_, u, _, h2, _⟩ := h; simp only [lowD]; exact zq5 d u h2
 | .fn _ cap, v, h => by simp only [rel] at h; obtain ⟨vs, _, h2⟩ := h; simp only [lowD]; exact z5z cap vs h2
 | .any, _, _ => rfl
 | .int _ _, _, _ => rfl
 | .bool _, _, _ => rfl
 | .str _, _, _ => rfl
 | .nil, _, _ => rfl
 | .nptr, _, _ => rfl
 | .nfun, _, _ => rfl
 | .nmp, _, _ => rfl
 | .e0, _, _ => rfl
 | .osl .., v, h => by simp only [rel] at h; simp only [lowD, decide_eq_true_iff]; exact h.1
 | .ptr .., v, h => by simp only [rel] at h; simp only [lowD, decide_eq_true_iff]; exact h.1
 | .eptr .., v, h => by simp only [rel] at h; simp only [lowD, decide_eq_true_iff]; exact h.1
 | .mp _, v, h => by simp only [rel] at h; simp only [lowD, decide_eq_true_iff]; exact h.1
 | .it _, v, h => by simp only [rel] at h; simp only [lowD, decide_eq_true_iff]; exact h.1
theorem z5z {s : RS} : ∀ (ds : List D) (vs : List Value), relAll s ds vs -> lowD.lowL s.nx ds = true
 | [], _, _ => rfl
 | d :: ds, vs, h => by
  simp only [relAll] at h
  obtain ⟨v, r, _, h1, h2⟩ := h
  simp only [lowD.lowL, zq5 d v h1, z5z ds r h2, Bool.and_self]
end
theorem zll {s : RS} {w : World} {v : Value} {o : HObj} (h : objOK P s w v o) : lowO s.nx o = true := by
 cases o with
 | box e cs => obtain ⟨_, vs, _, _, h, _⟩ := h; exact z5z cs vs h
 | row e n cs => obtain ⟨vs, _, h, _⟩ := h; exact z5z cs vs h
 | map es => obtain ⟨_, _, _, _, _, h1, h2⟩ := h; simp only [lowO, z5z _ _ h1, z5z _ _ h2, Bool.and_self]
 | raw o => rfl
mutual
theorem zjs {s s' : RS} {n : Nat} (hm : ∀ a v, s.m a = some v -> s'.m a = some v) (hn : n <= s'.nx) (hH : ∀ id, id < n -> s'.H id = s.H id /\ s'.κ id = s.κ id) :
  ∀ (d : D) (v : Value), lowD n d = true -> rel s d v -> rel s' d v
 | .agg ds, v, hl, h => by
  simp only [lowD] at hl; simp only [rel] at h ⊢
  obtain ⟨vs, h1, h2, h3⟩ := h
  exact ⟨vs, h1, z3x hm hn hH ds vs hl h2, h3⟩
 | .tup ds, v, hl, h => by
  simp only [lowD] at hl; simp only [rel] at h ⊢
  obtain ⟨vs, h1, h2⟩ := h
  exact ⟨vs, h1, z3x hm hn hH ds vs hl h2⟩
 | .rsl nn sz els, v, hl, h => by
  simp only [lowD] at hl; simp only [rel] at h ⊢
  rcases h with h | ⟨a, cap, vs, h1, h2, h3, h4, h5⟩
  ·exact .inl h
  ·exact .inr ⟨a, cap, vs, h1, h2, h3, z3x hm hn hH els vs hl h4, fun i u hu => ⟨(h5 i u hu).1, (h5 i u hu).2.later hm⟩⟩
 | .fsl sz els, v, hl, h => by
  simp only [lowD] at hl; simp only [rel] at h ⊢
  rcases h with h | ⟨a, vs, h1, h3, h4, h5⟩
  ·exact .inl h
  exact .inr ⟨a, vs, h1, h3, z3x hm hn hH els vs hl h4, fun i u hu => ⟨(h5 i u hu).1, (h5 i u hu).2.later hm⟩⟩
 | .rptr d, v, hl, h => by
  simp only [lowD] at hl; simp only [rel] at h ⊢
  obtain ⟨a, u, h1, h2, h3⟩ := h
  exact ⟨a, u, h1, zjs hm hn hH d u hl h2, h3.later hm⟩
 | .fn f cap, v, hl, h => by
  simp only [lowD] at hl; simp only [rel] at h ⊢
  obtain ⟨vs, h1, h2⟩ := h
  exact ⟨vs, h1, z3x hm hn hH cap vs hl h2⟩
 | .any, _, _, _ => by simp [rel]
 | .int _ _, v, _, h => by simpa [rel] using h
 | .bool _, v, _, h => by simpa [rel] using h
 | .str _, v, _, h => by simpa [rel] using h
 | .nil, v, _, h => by simpa [rel] using h
 | .nptr, v, _, h => by simpa [rel] using h
 | .nfun, v, _, h => by simpa [rel] using h
 | .nmp, v, _, h => by simpa [rel] using h
 | .e0, v, _, h => by simpa [rel] using h
 | .osl j k, v, hl, h => by
  simp only [lowD, decide_eq_true_iff] at hl; simp only [rel] at h ⊢
  rw [(hH j hl).1, (hH j hl).2]; exact ⟨by omega, h.2⟩
 | .ptr j k, v, hl, h => by
  simp only [lowD, decide_eq_true_iff] at hl; simp only [rel] at h ⊢
  rw [(hH j hl).1, (hH j hl).2]; exact ⟨by omega, h.2⟩
 | .eptr j k o, v, hl, h => by
  simp only [lowD, decide_eq_true_iff] at hl; simp only [rel] at h ⊢
  rw [(hH j hl).1, (hH j hl).2]; exact ⟨by omega, h.2⟩
 | .mp j, v, hl, h => by
  simp only [lowD, decide_eq_true_iff] at hl; simp only [rel] at h ⊢
  rw [(hH j hl).1, (hH j hl).2]; exact ⟨by omega, h.2⟩
 | .it j, v, hl, h => by
  simp only [lowD, decide_eq_true_iff] at hl; simp only [rel] at h ⊢
  rw [(hH j hl).1, (hH j hl).2]; exact ⟨by omega, h.2⟩
theorem z3x {s s' : RS} {n : Nat} (hm : ∀ a v, s.m a = some v -> s'.m a = some v) (hn : n <= s'.nx) (hH : ∀ id, id < n -> s'.H id = s.H id /\ s'.κ id = s.κ id) :
  ∀ (ds : List D) (vs : List Value), lowD.lowL n ds = true -> relAll s ds vs -> relAll s' ds vs
 | [], vs, _, h => by simpa [relAll] using h
 | d :: ds, vs, hl, h => by
  simp only [lowD.lowL, Bool.and_eq_true] at hl
  simp only [relAll] at h ⊢
  obtain ⟨v, r, h1, h2, h3⟩ := h
  exact ⟨v, r, h1, zjs hm hn hH d v hl.1 h2, z3x hm hn hH ds r hl.2 h3⟩
end
theorem zlm {s s' : RS} {n : Nat} {w : World} {v : Value} {o : HObj} (hm : ∀ a v, s.m a = some v -> s'.m a = some v) (hn : n <= s'.nx) (hH : ∀ id, id < n -> s'.H id = s.H id /\ s'.κ id = s.κ id)
  (hl : lowO n o = true) (h : objOK P s w v o) : objOK P s' w v o := by
 cases o with
 | box e cs =>
  obtain ⟨b, vs, h1, h2, h3, h4⟩ := h
  exact ⟨b, vs, h1, h2, z3x hm hn hH _ _ hl h3, h4⟩
 | row e k cs =>
  obtain ⟨vs, h1, h2, h3⟩ := h
  exact ⟨vs, h1, z3x hm hn hH _ _ hl h2, h3⟩
 | map es =>
  simp only [lowO, Bool.and_eq_true] at hl
  obtain ⟨r, ens, c, h1, h2, h3, h4⟩ := h
  exact ⟨r, ens, c, h1, h2, z3x hm hn hH _ _ hl.1 h3, z3x hm hn hH _ _ hl.2 h4⟩
 | raw o => exact h
def zuv (n : Nat) (H : HM) : HM := fun id => if id < n then H id else none
theorem AC_drop {f : FuncId} {ds : List D} {H : HM} {nx : Nat} {K : D -> HM -> Nat -> Prop} (h : AC P f ds H nx K)
  (O : ∀ r H' nx', K r H' nx' -> lowD nx r = true /\ ∀ id o, id < nx -> H' id = some o -> H id = some o \/ lowO nx o = true) :
  AC P f ds H nx fun r H2 nx2 => nx2 = nx /\ ∃ H' nx', K r H' nx' /\ H2 = zuv nx H' := by
 refine ⟨h.1, fun s w vs h1 h2 h3 h4 => (h.2 s w vs h1 h2 h3 h4).mono fun e w' ⟨v, r, s', he, J, hstep, hRH, hr⟩ => ?_⟩
 subst h1; subst h2
 obtain ⟨hl, hlo⟩ := O _ _ _ J
 let s2 : RS := { s' with H := zuv s.nx s'.H, nx := s.nx }
 have hH : ∀ id, id < s.nx -> s2.H id = s'.H id /\ s2.κ id = s'.κ id := fun id hid => ⟨if_pos hid, rfl⟩
 have hcut : ∀ (d : D) (v : Value), lowD s.nx d = true -> rel s' d v -> rel s2 d v := zjs (s := s') (s' := s2) (fun _ _ h => h) (Nat.le_refl _) hH
 have hown : ∀ k, owned s2 k -> owned s' k := fun k ⟨id, hid, h5, h6⟩ => by
  rw [(hH id hid).1] at h5
  exact ⟨id, Nat.lt_of_lt_of_le hid hstep.nx, h5, h6⟩
 refine ⟨v, r, s2, he, ⟨rfl, s'.H, s'.nx, J, rfl⟩, ?_, ?_, hcut r v hl hr⟩
 ·exact ⟨hstep.os, hstep.tape, hstep.output, hstep.size, Nat.le_refl _, hstep.mem, hstep.new, fun id hid => by rw [(hH id hid).1]; exact hstep.objs id hid, hstep.keep, fun k hk' => hstep.own k (hown k hk')⟩
 ·refine ⟨fun a u hm => ⟨(hRH.mem a u hm).1, fun ho => (hRH.mem a u hm).2 (hown _ ho)⟩, fun id o ho => ?_, fun i j hi hj hij hb => ?_, fun g => ?_⟩
  ·have hid : id < s.nx := by
    rcases Nat.lt_or_ge id s.nx with h9 | h9
    ·exact h9
    ·have : s2.H id = none := if_neg (by omega)
     rw [this] at ho; cases ho
   rw [(hH id hid).1] at ho
   refine ⟨hid, zlm (s := s') (s' := s2) (n := s.nx) (fun _ _ h => h) (Nat.le_refl _) hH ?_ (hRH.obj id o ho).2⟩
   rcases hlo id o hid ho with h9 | h9
   ·exact zll (s := s) (h3.obj id o h9).2
   ·exact h9
  ·have lt : ∀ i, s2.H i ≠ none -> i < s.nx /\ s'.H i ≠ none := fun i hi => by
    rcases Nat.lt_or_ge i s.nx with h9 | h9
    ·exact ⟨h9, by rw [<- (hH i h9).1]; exact hi⟩
    ·exact (hi (if_neg (by omega))).elim
   exact hRH.apart i j (lt i hi).2 (lt j hj).2 hij hb
  ·exact hcut _ _ (zcd _ _ (z4t g)) (hRH.glob g)

def Eff {σ : Type} (P : Program) (f : FuncId) (ds : List D) (lo : Nat) (I : σ -> HM -> Prop) (s s' : σ) (r : D) : Prop :=
 ∀ H nx, lo <= nx -> I s H -> AC P f ds H nx fun r' H' nx' => r' = r /\ nx' = nx /\ I s' H' /\ ∀ id, lo <= id -> H' id = H id
structure Low {σ : Type} (lo : Nat) (I : σ -> HM -> Prop) : Prop where
 loc : ∀ s H H', (∀ id, id < lo -> H' id = H id) -> I s H -> I s H'
 low : ∀ s H, I s H -> ∀ id o, id < lo -> H id = some o -> lowO lo o = true
mutual
theorem zln {m n : Nat} (h : m <= n) : ∀ d, lowD m d = true -> lowD n d = true
 | .agg ds, hl => by simp only [lowD] at hl ⊢; exact z4g h ds hl
 | .tup ds, hl => by simp only [lowD] at hl ⊢; exact z4g h ds hl
 | .rsl _ _ els, hl => by simp only [lowD] at hl ⊢; exact z4g h els hl
 | .fsl _ els, hl => by simp only [lowD] at hl ⊢; exact z4g h els hl
 | .rptr d, hl => by simp only [lowD] at hl ⊢; exact zln h d hl
 | .fn _ cap, hl => by simp only [lowD] at hl ⊢; exact z4g h cap hl
 | .any, _ => rfl
 | .int _ _, _ => rfl
 | .bool _, _ => rfl
 | .str _, _ => rfl
 | .nil, _ => rfl
 | .nptr, _ => rfl
 | .nfun, _ => rfl
 | .nmp, _ => rfl
 | .e0, _ => rfl
 | .osl .., hl => by simp only [lowD, decide_eq_true_iff] at hl ⊢; omega
 | .ptr .., hl => by simp only [lowD, decide_eq_true_iff] at hl ⊢; omega
 | .eptr .., hl => by simp only [lowD, decide_eq_true_iff] at hl ⊢; omega
 | .mp _, hl => by simp only [lowD, decide_eq_true_iff] at hl ⊢; omega
 | .it _, hl => by simp only [lowD, decide_eq_true_iff] at hl ⊢; omega
theorem z4g {m n : Nat} (h : m <= n) : ∀ ds, lowD.lowL m ds = true -> lowD.lowL n ds = true
 | [], _ => rfl
 | d :: ds, hl => by
  simp only [lowD.lowL, Bool.and_eq_true] at hl ⊢
  exact ⟨zln h d hl.1, z4g h ds hl.2⟩
end
theorem zvw {m n : Nat} (h : m <= n) {o : HObj} (hl : lowO m o = true) : lowO n o = true := by
 cases o with
 | box e cs => exact z4g h cs hl
 | row e k cs => exact z4g h cs hl
 | map es => simp only [lowO, Bool.and_eq_true] at hl ⊢; exact ⟨z4g h _ hl.1, z4g h _ hl.2⟩
 | raw o => rfl
theorem zce {σ : Type} {f : FuncId} {ds : List D} {lo : Nat} {I : σ -> HM -> Prop} {s s' : σ} {r : D} (hI : Low lo I) (hr : pureD r = true)
  (h : ∀ H nx, lo <= nx -> I s H -> AC P f ds H nx fun r' H' _ => r' = r /\ I s' H' /\ ∀ id, lo <= id -> id < nx -> H' id = H id) : Eff P f ds lo I s s' r := by
 intro H nx hlo hs
 have h1 := AC_drop (h H nx hlo hs) (fun r' H' nx' ⟨hr', hi, hs'⟩ => by
  subst hr'
  refine ⟨zcd _ _ hr, fun id o hid ho => ?_⟩
  rcases Nat.lt_or_ge id lo with h9 | h9
  ·exact .inr (zvw hlo (hI.low s' H' hi id o h9 ho))
  ·exact .inl (by rw [<- hs' id h9 hid]; exact ho))
 refine ⟨h1.1, fun s w vs e1 e2 e3 e4 => (h1.2 s w vs e1 e2 e3 e4).mono fun e w' ⟨v, r1, s1, he, ⟨hnx, H', nx', ⟨hr', hi, hs'⟩, hcut⟩, hstep, hRH, hrel⟩ => ⟨v, r1, s1, he, ⟨hr', hnx, ?_, fun id hid => ?_⟩, hstep, hRH, hrel⟩⟩
 ·refine hI.loc _ H' _ (fun id hid => ?_) hi
  rw [hcut]; exact if_pos (by omega)
 ·rw [hcut]
  unfold zuv
  split
  ·rename_i hlt; exact hs' id hid hlt
  ·rename_i hlt
   cases hH : H id with
   | none => rfl
   | some o =>
    have := (e3.obj id o (by rw [e1]; exact hH)).1
    omega
theorem PC.eff {f : FuncId} {ds : List D} {r : D} (h : PC P f ds r) {lo : Nat} {σ : Type} {I : σ -> HM -> Prop} (s : σ) : Eff P f ds lo I s s r := fun H nx _ hs =>
 (h.rc H nx).mono fun _ _ _ ⟨h1, h2, h3⟩ => ⟨h1, h3, by rw [h2]; exact hs, fun id _ => by rw [h2]⟩
theorem z4h {σ : Type} {lo : Nat} {I : σ -> HM -> Prop} {s s' : σ} {r : D} {n : FuncId} {args cap : List D} {g : List Oper -> (St -> Prop) -> St -> Prop} {rest : List Oper} {K : St -> Prop} {st : St} {dst : Option Nat}
  (h : Eff P n (args ++ cap) lo I s s' r) (hlo : lo <= st.nx) (hs : I s st.H)
  (O : ∀ H', I s' H' -> (∀ id, lo <= id -> H' id = st.H id) -> g rest K ((st.withH H' st.nx).put dst r)) : zhy P (.fn n cap) args g rest K st dst :=
 z82 ((h st.H st.nx hlo hs).mono fun r' H' nx' ⟨h1, h2, h3, h4⟩ => by subst h1; subst h2; exact O H' h3 h4)
theorem zlo {st : St} {b : Nat} {e : TypeId} (e' : TypeId) (hb : st.H b = some (.box e [.nil])) :
  SealTo P st { st with H := z12 (z12 st.H st.nx (some (.row e' 0 []))) b (some (.box e [.osl st.nx 0])), nx := st.nx + 1 } := by
 intro N s a w hf
 have hHb : s.H b = some (.box e [.nil]) := by rw [hf.H]; exact hb
 have hne : b ≠ s.nx := by have := (hf.heap.obj b _ hHb).1; omega
 obtain ⟨g1, g2⟩ := z7m hf.heap (Grew.refl w) (.row e' 0 []) (.slice none 0 0) (fun b hb => by cases hb) ⟨[], ⟨by simp, .inl ⟨rfl, rfl⟩⟩, z0y, by intro v hv; cases hv⟩
 have hb2 : (s.add (.slice none 0 0) (.row e' 0 [])).H b = some (.box e [.nil]) := by simp [RS.add, z12, hne, hHb]
 obtain ⟨_, q2⟩ := g2.obj b _ hb2
 obtain ⟨g3, g4⟩ := z8f (w' := w) g2 b _ (.box e [.osl s.nx 0]) ((s.add (.slice none 0 0) (.row e' 0 [])).κ b) hb2 rfl rfl rfl (Nat.le_refl _) (fun _ _ _ => rfl) (.inr ⟨_, rfl, rfl⟩) (fun b hb => .inl hb) (fun hl => by
  obtain ⟨b', vs, u1, u2, u3, u4⟩ := q2
  refine ⟨b', vs, u1, u2, ?_, u4⟩
  simp only [relAll, rel] at u3
  obtain ⟨v, r, rfl, rfl, rfl⟩ := u3
  refine z0m ?_ z0y
  simp only [rel]
  refine ⟨by simp [RS.set, RS.add], ⟨_, _, rfl⟩, fun e2 k cs hH => ⟨Nat.zero_le _, fun _ => ?_⟩⟩
  simp only [RS.set, RS.add]
  rw [if_neg (fun h => hne h.symm)]
  simp)
 refine ⟨_, ⟨?_, ?_, hf.size, hf.defers, fun i => rel.later (g1.trans g3).later _ _ (hf.tmps i), g4⟩, g1.trans g3⟩
 ·simp only [RS.set, RS.add, hf.H, hf.nx]
 ·simp only [RS.set, RS.add, hf.nx]
theorem z1f {id : Nat} {l : List Oper} {b : Code} {own : List Nat} {Q : Exit -> St -> Prop} {st : St} (h : ∀ K : St -> Prop, (∀ st st', SealTo P st st' -> awp P own b Q st' -> K st) -> z2l P own (l.map (·.dst)) l K st) : awp P own (.seq (.region id l.toArray false) b) Q st :=
 ⟨fun h => (by cases h), fun _ => h _ fun _ st' hs hb => ⟨st', hs, hb⟩⟩
theorem zjt {σ : Type} {lo : Nat} (objs : σ -> List HObj) (hl : ∀ s, (objs s).length = lo) (ho : ∀ s, ∀ o ∈ objs s, lowO lo o = true) : Low lo fun s H => ∀ j, j < lo -> H j = (objs s)[j]? :=
 ⟨fun s H H' h hs j hj => (h j hj).trans (hs j hj), fun s H hs id o hid hH => by
  rw [hs id hid] at hH
  exact ho s o (List.mem_of_getElem? hH)⟩
end Go.Proofs.YtlfohdkfpdkhhaaGreatDoor.Abs
namespace Go.Proofs.YtlfohdkfpdkhhaaGreatDoor.Abs
open Go.RowKit
variable {P : Program}
theorem cut_keep {s : RS} {w : World} (hRH : RH P s w) {H' : HM} (O : ∀ id, id < s.nx -> H' id = s.H id) : zuv s.nx H' = s.H := by
 funext id
 unfold zuv
 split
 ·rename_i hlt; exact O id hlt
 ·rename_i hlt
  cases hH : s.H id with
  | none => rfl
  | some o => have := (hRH.obj id o hH).1; omega
theorem z1p {α : Type} {i j : Nat} {a b : α} (h : ¬ i = j) : (bif i == j then a else b) = b := by
 rw [show (i == j) = false from by simpa using h]; rfl
theorem z07 : (∀ (p : Prop) [Decidable p], (decide p = true) = p) /\ (∀ (p : Prop) [Decidable p], (decide p = false) = ¬p) /\ (∀ p : Prop, (¬¬p) ↔ p) /\ (∀ (α : Type) [BEq α] [LawfulBEq α] (a b : α), (a == b) = true ↔ a = b) /\ (∀ (α : Type) [BEq α] [LawfulBEq α] (a b : α), (a == b) = false ↔ a ≠ b) /\ (∀ (α : Type) [BEq α] [LawfulBEq α] (a b : α), (a != b) = true ↔ a ≠ b) /\ (∀ (α : Type) (a b : α), (a ≠ b) = ¬(a = b)) /\ (∀ b : Bool, ((!b) = true) = (b = false)) /\ (∀ b : Bool, ((!b) = false) = (b = true)) /\ (∀ a b : Bool, ((a && b) = true) = (a = true /\ b = true)) /\ (∀ a b : Bool, ((a || b) = true) = (a = true \/ b = true)) /\ (∀ a b : Bool, ((a && b) = false) = (a = true -> b = false)) /\ (∀ a b : Bool, ((a || b) = false) = (a = false /\ b = false)) /\ (∀ b : Bool, (¬(b = true)) = (b = false)) /\ (∀ b : Bool, (¬(b = false)) = (b = true)) :=
 ⟨fun p _ => decide_eq_true_eq, fun p _ => by simp, fun p => Classical.not_not, fun α _ _ a b => beq_iff_eq, fun α _ _ a b => beq_eq_false_iff_ne, fun α _ _ a b => bne_iff_ne, fun α a b => rfl, fun b => by cases b <;> simp, fun b => by cases b <;> simp, fun a b => by cases a <;> cases b <;> simp, fun a b => by cases a <;> cases b <;> simp, fun a b => by cases a <;> cases b <;> simp, fun a b => by cases a <;> cases b <;> simp, fun b => by cases b <;> simp, fun b => by cases b <;> simp⟩
/-- A step of a walk that needs nothing. -/
class Nx (A : Prop) (B : outParam Prop) : Prop where
  h : B -> A
theorem nxt {A B : Prop} [i : Nx A B] (h : B) : A := i.h h
section
variable {P : Program} {own : List Nat} {Q Q' : Exit -> St -> Prop} {st : St} {a b c : Code} {k : St -> Prop} {id n : Nat} {I : Nat -> St -> Prop}
instance : Nx (awp P own (.seq (.seq a b) c) Q st) (awp P own (.seq a (.seq b c)) Q st) := ⟨zqj⟩
instance : Nx (awp P own (.seq (.block id c) b) Q st) (awp P own c (zto id (ztn (fun st => ∃ st', SealTo P st st' /\ awp P own b Q st') Q)) st) := ⟨zqa⟩
instance : Nx (awp P own (.block id c) Q st) (awp P own c (zto id Q) st) := ⟨zqi⟩
instance : Nx (awp P own (.seq .skip b) Q st) (awp P own b Q st) := ⟨zqb⟩
instance : Nx (awp P own (.seq .ret b) Q st) (Q .ret st) := ⟨zqg⟩
instance : Nx (awp P own (.seq (.exit id) b) Q st) (Q (.exit id) st) := ⟨zqc⟩
instance : Nx (awp P own .skip Q st) (Q .normal st) := ⟨zqk⟩
instance : Nx (awp P own (.exit id) Q st) (Q (.exit id) st) := ⟨zql⟩
instance : Nx (awp P own .ret Q st) (Q .ret st) := ⟨zqn⟩
instance : Nx (ztn (fun st => ∃ st', SealTo P st st' /\ awp P own b Q st') Q' .normal st) (awp P own b Q st) := ⟨zqv⟩
instance : Nx (ztn k Q .ret st) (Q .ret st) := ⟨zqx⟩
instance : Nx (zto id Q .normal st) (Q .normal st) := ⟨zqy⟩
instance : Nx (zto id Q .ret st) (Q .ret st) := ⟨zqzb⟩
instance : Nx (zop I n Q (.exit id) st) (Q (.exit id) st) := ⟨zqp⟩
instance : Nx (zop I n Q .ret st) (Q .ret st) := ⟨zqo⟩
end
end Go.Proofs.YtlfohdkfpdkhhaaGreatDoor.Abs
namespace Go.Proofs.YtlfohdkfpdkhhaaGreatDoor.Abs
open Go.RowKit Go.ChangeShapes

def elD (ag : Bool) (p : List D) : D := if ag = true then .agg p else (p[0]?).getD .any
def elV (ag : Bool) (p : List Value) : Value := if ag = true then .agg p.toArray else (p[0]?).getD undef
def zkx (T : TypeId -> List D -> Prop) : List Field -> List D -> Prop
 | [], ds => ds = []
 | f :: fs, ds => ∃ d1 d2, ds = d1 ++ d2 /\ T f.type d1 /\ zkx T fs d2
def z4o (P : Program) : Nat -> TypeId -> List D -> Prop
 | 0, _, _ => False
 | n + 1, t, ds => match P.underlying t with
  | some .bool => ∃ b, ds = [.bool b]
  | some (.int k) => ∃ i, ds = [.int k i] /\ (Lit.int k i).wf = true
  | some .string => ∃ s : ByteArray, ds = [.str s] /\ s.size <= maxLen
  | some (.slice e) => ∃ parts : List (List D), parts.length <= maxLen /\ (∀ p ∈ parts, z4o P n e p) /\ ds = [.rsl false (z09 P e) (parts.map (elD (z0f P e)))]
  | some (.struct fs) => zkx (z4o P n) fs.toList ds
  | _ => False
def zn9 (P : Program) (n : Nat) : List Field -> Nat -> Bool
 | [], off => off == n
 | f :: fs, off => f.offset == off && zn9 P n fs (off + P.cellsOf f.type)
def zh9 (P : Program) (S : List TypeId) : Bool :=
 S.all fun t => match P.underlying t with
  | some .bool | some (.int _) | some .string => true
  | some (.slice e) => S.any fun u => u == e
  | some (.struct fs) => zn9 P (P.cellsOf t) fs.toList 0 && fs.toList.all fun f => S.any fun u => u == f.type
  | _ => false

section
variable {H : Type} {enc : TypeId × Value -> H} {P : Program} {W : World} {base : Nat} {spare : Nat -> Bool} {held : Bool}
theorem zyx {S : List TypeId} {e : TypeId} (h : (S.any fun u => u == e) = true) : e ∈ S := by
 obtain ⟨x, hx, he⟩ := List.any_eq_true.1 h
 rw [<- beq_iff_eq.1 he]; exact hx
theorem z6u {d : D} {v : Value} (h : rel (z7p W) d v) (h1 : v.oneCell' = true) : relAll (z7p W) [d] [v] /\ z6k [v] :=
 ⟨z0m h z0y, fun u hu => by simp at hu; subst hu; exact h1⟩
theorem zj5 {S : List TypeId} (hS : zh9 P S = true) : ∀ (n : Nat) (t : TypeId) (cs : List Value) (x : DataW H × List MemPlace), t ∈ S -> DataW.trod enc P W base spare held n t cs = some x ->
  ∃ ds, relAll (z7p W) ds cs /\ z6k cs /\ z4o P n t ds /\ (z0f P t = false -> ∃ c d, cs = [c] /\ ds = [d]) := by
 intro n
 induction n with
 | zero => intro t cs x _ h; simp [DataW.trod] at h
 | succ n ih =>
  intro t cs x ht h
  have hc := List.all_eq_true.1 hS t ht
  cases hu : P.underlying t with
  | none => rw [hu] at hc; cases hc
  | some td =>
   rw [hu] at hc
   cases td <;> first | (cases hc; done) | skip
   case bool =>
    obtain ⟨b, rfl, _⟩ := DataW.trod_bool hu h
    obtain ⟨h1, h2⟩ := z6u (W := W) (d := .bool b) (v := .bool b) (by simp [rel]) rfl
    exact ⟨_, h1, h2, by simp only [z4o, hu]; exact ⟨b, rfl⟩, fun _ => ⟨_, _, rfl, rfl⟩⟩
   case int k =>
    obtain ⟨i, rfl, _, hw⟩ := DataW.trod_int hu h
    obtain ⟨h1, h2⟩ := z6u (W := W) (d := .int k i) (v := .int k i) (by simp [rel]) rfl
    exact ⟨_, h1, h2, by simp only [z4o, hu]; exact ⟨i, rfl, hw⟩, fun _ => ⟨_, _, rfl, rfl⟩⟩
   case string =>
    obtain ⟨s, rfl, _, hw⟩ := DataW.trod_string hu h
    obtain ⟨h1, h2⟩ := z6u (W := W) (d := .str s) (v := .string s) (by simp [rel]) rfl
    exact ⟨_, h1, h2, by simp only [z4o, hu]; exact ⟨s, rfl, hw⟩, fun _ => ⟨_, _, rfl, rfl⟩⟩
   case slice e =>
    have he := zyx hc
    rcases DataW.trod_slice hu h with ⟨rfl, _⟩ | ⟨a, len, cap, elems, rest, m, hm, rfl, _, _, hl, hcm, hlen, hel, _⟩
    ·obtain ⟨h1, h2⟩ := z6u (W := W) (d := .rsl false (z09 P e) []) (v := .slice none 0 0) (by simp only [rel]; exact .inl ⟨trivial, trivial, trivial⟩) rfl
     exact ⟨_, h1, h2, by simp only [z4o, hu]; exact ⟨[], by simp, by simp, rfl⟩, fun _ => ⟨_, _, rfl, rfl⟩⟩
    ·cases hm
     have each : ∀ i : _root_.Fin len, ∃ p : List Value × List D, W.cells? base (a.add (i * P.cellsOf e)) (P.cellsOf e) = some p.1 /\ relAll (z7p W) p.2 p.1 /\ z6k p.1 /\ z4o P n e p.2 /\ (z0f P e = false -> ∃ c d, p.1 = [c] /\ p.2 = [d]) := by
      intro i
      have hi := hel i i.2
      rw [List.getElem?_eq_getElem (by omega), Option.bind_eq_some_iff] at hi
      obtain ⟨cs', h1, h2⟩ := hi
      obtain ⟨ds, k1, k2, k3, k4⟩ := ih e cs' _ he h2
      exact ⟨(cs', ds), h1, k1, k2, k3, k4⟩
     obtain ⟨f, hf⟩ := Classical.axiomOfChoice each
     have hag : ∀ i, rel (z7p W) (elD (z0f P e) (f i).2) (elV (z0f P e) (f i).1) /\ (elV (z0f P e) (f i).1).cells.toList = (f i).1 := by
      intro i
      obtain ⟨h1, h2, h3, h4, h5⟩ := hf i
      cases hag : z0f P e with
      | true =>
       simp only [elD, elV, if_true, Value.cells]
       exact ⟨by simp only [rel]; exact ⟨_, rfl, h2, h3⟩, trivial⟩
      | false =>
       obtain ⟨c, d, hc1, hd1⟩ := h5 hag
       rw [hc1, hd1] at h2
       rw [hc1] at h3
       simp only [elD, elV, hc1, hd1, Bool.false_eq_true, if_false, List.getElem?_cons_zero, Option.getD_some]
       simp only [relAll] at h2
       obtain ⟨v, r, hv, hrel, hr⟩ := h2
       simp only [List.cons.injEq] at hv
       obtain ⟨rfl, rfl⟩ := hv
       refine ⟨hrel, ?_⟩
       rw [z2g (h3 c (by simp))]
     have hsz : z09 P e = P.cellsOf e := rfl
     obtain ⟨h1, h2⟩ := z6u (W := W) (d := .rsl false (z09 P e) ((List.ofFn fun i => (f i).2).map (elD (z0f P e)))) (v := .slice (some a) len cap) (by
      simp only [rel]
      refine .inr ⟨a, cap, List.ofFn fun i => elV (z0f P e) (f i).1, by simp, by simpa using hl, hcm, z5b (by simp) (fun i d v V hv => ?_), fun i v hv => ?_⟩
      ·simp only [List.getElem?_map, List.getElem?_ofFn] at V hv
       split at hv
       ·rename_i hi
        rw [dif_pos hi] at V
        simp only [Option.map_some, Option.some.injEq] at V hv
        subst V; subst hv
        exact (hag ⟨i, hi⟩).1
       ·cases hv
      ·simp only [List.getElem?_ofFn] at hv
       split at hv
       ·rename_i hi
        simp only [Option.some.injEq] at hv
        subst hv
        obtain ⟨g1, _⟩ := hf ⟨i, hi⟩
        obtain ⟨_, g2, g3⟩ := World.cells?_some g1
        have g4 := (hag ⟨i, hi⟩).2
        refine ⟨by rw [<- Array.length_toList, g4, g2, hsz], fun j c hj => ?_⟩
        rw [g4] at hj
        have hjl : j < P.cellsOf e := by rw [<- g2]; exact (List.getElem?_eq_some_iff.1 hj).1
        have := g3 j hjl
        rw [hj] at this
        exact this
       ·cases hv) rfl
     refine ⟨_, h1, h2, ?_, fun _ => ⟨_, _, rfl, rfl⟩⟩
     simp only [z4o, hu]
     refine ⟨List.ofFn fun i => (f i).2, by simp; omega, fun p hp => ?_, rfl⟩
     obtain ⟨i, rfl⟩ := List.mem_ofFn.1 hp
     exact (hf i).2.2.2.1
   case struct fs =>
    obtain ⟨xs, m, hm, _, hcl, hxl, hxf⟩ := DataW.trod_struct hu h
    cases hm
    simp only [Bool.and_eq_true] at hc
    obtain ⟨htile, hfs⟩ := hc
    have key : ∀ (l : List Field) (off k : Nat), (∀ i, l[i]? = fs[k + i]?) -> zn9 P (P.cellsOf t) l off = true -> ∃ ds, relAll (z7p W) ds (cs.drop off) /\ z6k (cs.drop off) /\ zkx (z4o P n) l ds := by
     intro l
     induction l with
     | nil =>
      intro off k _ ht'
      simp only [zn9, beq_iff_eq] at ht'
      subst ht'
      rw [<- hcl, List.drop_length]
      exact ⟨[], z0y, fun v hv => by simp at hv, rfl⟩
     | cons g l ihl =>
      intro off k hl ht'
      simp only [zn9, Bool.and_eq_true, beq_iff_eq] at ht'
      obtain ⟨rfl, ht'⟩ := ht'
      have hg : fs[k]? = some g := by have := hl 0; simpa using this.symm
      have hlt : k < fs.size := (Array.getElem?_eq_some_iff.1 hg).1
      have hx := hxf k g hg
      rw [List.getElem?_eq_getElem (by omega)] at hx
      have hmem : g ∈ fs.toList := by
       obtain ⟨h1, h2⟩ := Array.getElem?_eq_some_iff.1 hg
       rw [<- h2]; exact Array.mem_toList_iff.2 (Array.getElem_mem h1)
      obtain ⟨d1, r1, r2, r3, _⟩ := ih g.type _ _ (zyx (List.all_eq_true.1 hfs g hmem)) hx
      obtain ⟨d2, q1, q2, q3⟩ := ihl (g.offset + P.cellsOf g.type) (k + 1) (fun i => by have := hl (i + 1); simpa [Nat.add_assoc, Nat.add_comm 1 i] using this) ht'
      have hsp : cs.drop g.offset = (cs.drop g.offset).take (P.cellsOf g.type) ++ cs.drop (g.offset + P.cellsOf g.type) := by
       rw [<- List.drop_drop, List.take_append_drop]
      rw [hsp]
      exact ⟨d1 ++ d2, z1n r1 q1, fun v hv => by
       rcases List.mem_append.1 hv with hv | hv
       ·exact r2 v hv
       ·exact q2 v hv, d1, d2, rfl, r3, q3⟩
    obtain ⟨ds, h1, h2, h3⟩ := key fs.toList 0 0 (fun i => by simp) htile
    rw [List.drop_zero] at h1 h2
    refine ⟨ds, h1, h2, by simp only [z4o, hu]; exact h3, fun hag => ?_⟩
    simp only [z0f, hu] at hag
    cases hag
theorem one_arg {S : List TypeId} (hS : zh9 P S = true) {t : TypeId} {v : Value} {d : DataW H} {p : List MemPlace} (ht : t ∈ S) (hag : z0f P t = false) (hv : v.oneCell' = true) (h : DataW.Trod enc P W base spare held t v d p) :
  ∃ n d', z4o P n t [d'] /\ rel (z7p W) d' v := by
 obtain ⟨n, h⟩ := h
 obtain ⟨ds, h1, _, h3, h4⟩ := zj5 hS n t _ _ ht h
 obtain ⟨c, d', hc, rfl⟩ := h4 hag
 rw [z2g hv] at h1
 simp only [relAll] at h1
 obtain ⟨v', r, hvr, hrel, _⟩ := h1
 simp only [List.cons.injEq] at hvr
 obtain ⟨rfl, _⟩ := hvr
 exact ⟨n, d', h3, hrel⟩
theorem agg_arg {S : List TypeId} (hS : zh9 P S = true) {t : TypeId} {cs : Array Value} {d : DataW H} {p : List MemPlace} (ht : t ∈ S) (h : DataW.Trod enc P W base spare held t (.agg cs) d p) :
  ∃ n ds, z4o P n t ds /\ rel (z7p W) (.agg ds) (.agg cs) := by
 obtain ⟨n, h⟩ := h
 obtain ⟨ds, h1, h2, h3, _⟩ := zj5 hS n t _ _ ht h
 refine ⟨n, ds, h3, ?_⟩
 simp only [rel]
 exact ⟨cs.toList, by simp, by simpa [Value.cells] using h1, by simpa [Value.cells] using h2⟩
end
section
variable {P : Program} {n : Nat} {t e : TypeId} {d : D} {ds : List D}
theorem wf_i64 {i : Int} (h : (Lit.int .i64 i).wf = true) : -9223372036854775808 <= i /\ i <= 9223372036854775807 := by
 simp only [Lit.wf, Bool.and_eq_true, decide_eq_true_eq] at h
 exact h
theorem z57 (hu : P.underlying t = some (.int .i64)) (h : z4o P n t ds) : ∃ i : Int, ds = [.int .i64 i] /\ -9223372036854775808 <= i /\ i <= 9223372036854775807 := by
 cases n with
 | zero => exact h.elim
 | succ n =>
  simp only [z4o, hu] at h
  obtain ⟨i, h1, h2⟩ := h
  exact ⟨i, h1, wf_i64 h2⟩
theorem zdb (hu : P.underlying t = some .string) (h : z4o P n t ds) : ∃ s : ByteArray, ds = [.str s] /\ s.size <= maxLen := by
 cases n with
 | zero => exact h.elim
 | succ n => simpa only [z4o, hu] using h
theorem z9i (hu : P.underlying t = some (.slice e)) (h : z4o P n t ds) : ∃ (m : Nat) (parts : List (List D)), n = m + 1 /\ parts.length <= maxLen /\ (∀ p ∈ parts, z4o P m e p) /\ ds = [.rsl false (z09 P e) (parts.map (elD (z0f P e)))] := by
 cases n with
 | zero => exact h.elim
 | succ n =>
  simp only [z4o, hu] at h
  obtain ⟨parts, h1, h2, h3⟩ := h
  exact ⟨n, parts, rfl, h1, h2, h3⟩
theorem z4s {fs : Array Field} (hu : P.underlying t = some (.struct fs)) (h : z4o P n t ds) : ∃ m, n = m + 1 /\ zkx (z4o P m) fs.toList ds := by
 cases n with
 | zero => exact h.elim
 | succ n => exact ⟨n, rfl, by simpa only [z4o, hu] using h⟩
theorem z58 {α : Type} {good : List D -> Prop} {f : α -> List D} {q : α -> Prop} (h : ∀ p, good p -> ∃ x, p = f x /\ q x) : ∀ (parts : List (List D)), (∀ p ∈ parts, good p) -> ∃ l : List α, parts = l.map f /\ (∀ x ∈ l, q x)
 | [], _ => ⟨[], rfl, by simp⟩
 | p :: parts, hp => by
  obtain ⟨x, hx, hq⟩ := h p (hp p (by simp))
  obtain ⟨l, hl, hq'⟩ := z58 h parts (fun p' hp' => hp p' (by simp [hp']))
  exact ⟨x :: l, by simp [hx, hl], by simp; exact ⟨hq, hq'⟩⟩
theorem zub (hu : P.underlying t = some (.slice e)) (he : P.underlying e = some .string) (hs : z09 P e = 1) (h : z4o P n t ds) : ∃ l : List ByteArray, ds = [z2j l] /\ l.length <= maxLen /\ ∀ s ∈ l, s.size <= maxLen := by
 obtain ⟨m, parts, rfl, hl, hp, rfl⟩ := z9i hu h
 obtain ⟨l, rfl, hq⟩ := z58 (f := fun s => [D.str s]) (q := fun s : ByteArray => s.size <= maxLen) (fun p hp => zdb he hp) parts hp
 have hag : z0f P e = false := by simp [z0f, he]
 refine ⟨l, ?_, by simpa using hl, hq⟩
 simp only [z2j, hag, hs, List.map_map]
 rfl
end
end Go.Proofs.YtlfohdkfpdkhhaaGreatDoor.Abs
namespace Go.Proofs.YtlfohdkfpdkhhaaGreatDoor.Facts
open Go.Proofs.YtlfohdkfpdkhhaaGreatDoor.Abs
@[go_sem] theorem ty1 : z0f Tryz.prog 1 = false /\ z11 Tryz.prog 1 = true /\ z1c Tryz.prog 1 = none /\ z5j Tryz.prog 1 = none /\ z5w Tryz.prog 1 = none /\ z5h Tryz.prog 1 = false /\ z2m Tryz.prog 1 = false /\ z5c Tryz.prog 1 = none /\ z09 Tryz.prog 1 = 1 /\ z0s Tryz.prog 1 = 8 /\ z1v Tryz.prog 1 = some [D.nfun] /\ z0p Tryz.prog 1 = true := by refine ⟨?_, ?_, ?_, ?_, ?_, ?_, ?_, ?_, ?_, ?_, ?_, ?_⟩ <;> kernel_rfl
@[go_sem] theorem ty2 : z0f Tryz.prog 2 = false /\ z11 Tryz.prog 2 = true /\ z1c Tryz.prog 2 = none /\ z5j Tryz.prog 2 = none /\ z5w Tryz.prog 2 = some .i64 /\ z5h Tryz.prog 2 = false /\ z2m Tryz.prog 2 = false /\ z5c Tryz.prog 2 = none /\ z09 Tryz.prog 2 = 1 /\ z0s Tryz.prog 2 = 8 /\ z1v Tryz.prog 2 = some [D.int .i64 0] /\ z0p Tryz.prog 2 = true := by refine ⟨?_, ?_, ?_, ?_, ?_, ?_, ?_, ?_, ?_, ?_, ?_, ?_⟩ <;> kernel_rfl
@[go_sem] theorem ty3 : z0f Tryz.prog 3 = false /\ z11 Tryz.prog 3 = true /\ z1c Tryz.prog 3 = none /\ z5j Tryz.prog 3 = none /\ z5w Tryz.prog 3 = some .i64 /\ z5h Tryz.prog 3 = false /\ z2m Tryz.prog 3 = false /\ z5c Tryz.prog 3 = none /\ z09 Tryz.prog 3 = 1 /\ z0s Tryz.prog 3 = 8 /\ z1v Tryz.prog 3 = some [D.int .i64 0] /\ z0p Tryz.prog 3 = true := by refine ⟨?_, ?_, ?_, ?_, ?_, ?_, ?_, ?_, ?_, ?_, ?_, ?_⟩ <;> kernel_rfl
theorem z40 : z0f Tryz.prog 3 = false := ty3.1
theorem z9y : z11 Tryz.prog 3 = true := ty3.2.1
theorem z9z : z09 Tryz.prog 3 = 1 := ty3.2.2.2.2.2.2.2.2.1
@[go_sem] theorem ty4 : z0f Tryz.prog 4 = false /\ z11 Tryz.prog 4 = true /\ z1c Tryz.prog 4 = none /\ z5j Tryz.prog 4 = none /\ z5w Tryz.prog 4 = none /\ z5h Tryz.prog 4 = false /\ z2m Tryz.prog 4 = true /\ z5c Tryz.prog 4 = none /\ z09 Tryz.prog 4 = 1 /\ z0s Tryz.prog 4 = 1 /\ z1v Tryz.prog 4 = some [D.bool false] /\ z0p Tryz.prog 4 = true := by refine ⟨?_, ?_, ?_, ?_, ?_, ?_, ?_, ?_, ?_, ?_, ?_, ?_⟩ <;> kernel_rfl
theorem zfs : z0f Tryz.prog 4 = false := ty4.1
@[go_sem] theorem ty5 : z0f Tryz.prog 5 = false /\ z11 Tryz.prog 5 = true /\ z1c Tryz.prog 5 = none /\ z5j Tryz.prog 5 = none /\ z5w Tryz.prog 5 = some .u8 /\ z5h Tryz.prog 5 = false /\ z2m Tryz.prog 5 = false /\ z5c Tryz.prog 5 = none /\ z09 Tryz.prog 5 = 1 /\ z0s Tryz.prog 5 = 1 /\ z1v Tryz.prog 5 = some [D.int .u8 0] /\ z0p Tryz.prog 5 = true := by refine ⟨?_, ?_, ?_, ?_, ?_, ?_, ?_, ?_, ?_, ?_, ?_, ?_⟩ <;> kernel_rfl
@[go_sem] theorem ty9 : z0f Tryz.prog 9 = false /\ z11 Tryz.prog 9 = true /\ z1c Tryz.prog 9 = none /\ z5j Tryz.prog 9 = none /\ z5w Tryz.prog 9 = none /\ z5h Tryz.prog 9 = true /\ z2m Tryz.prog 9 = false /\ z5c Tryz.prog 9 = none /\ z09 Tryz.prog 9 = 1 /\ z0s Tryz.prog 9 = 16 /\ z1v Tryz.prog 9 = some [D.str ByteArray.empty] /\ z0p Tryz.prog 9 = true := by refine ⟨?_, ?_, ?_, ?_, ?_, ?_, ?_, ?_, ?_, ?_, ?_, ?_⟩ <;> kernel_rfl
theorem z8x : z0f Tryz.prog 9 = false := ty9.1
theorem zjf : z11 Tryz.prog 9 = true := ty9.2.1
theorem zft : z09 Tryz.prog 9 = 1 := ty9.2.2.2.2.2.2.2.2.1
@[go_sem] theorem ty21 : z0f Tryz.prog 21 = false /\ z11 Tryz.prog 21 = true /\ z1c Tryz.prog 21 = none /\ z5j Tryz.prog 21 = none /\ z5w Tryz.prog 21 = some .i32 /\ z5h Tryz.prog 21 = false /\ z2m Tryz.prog 21 = false /\ z5c Tryz.prog 21 = none /\ z09 Tryz.prog 21 = 1 /\ z0s Tryz.prog 21 = 4 /\ z1v Tryz.prog 21 = some [D.int .i32 0] /\ z0p Tryz.prog 21 = true := by refine ⟨?_, ?_, ?_, ?_, ?_, ?_, ?_, ?_, ?_, ?_, ?_, ?_⟩ <;> kernel_rfl
@[go_sem] theorem ty23 : z0f Tryz.prog 23 = true /\ z11 Tryz.prog 23 = false /\ z1c Tryz.prog 23 = none /\ z5j Tryz.prog 23 = none /\ z5w Tryz.prog 23 = none /\ z5h Tryz.prog 23 = false /\ z2m Tryz.prog 23 = false /\ z5c Tryz.prog 23 = none /\ z09 Tryz.prog 23 = 3 /\ z0s Tryz.prog 23 = 24 /\ z1v Tryz.prog 23 = some [D.int .i64 0, D.int .i64 0, D.int .i64 0] /\ z0p Tryz.prog 23 = true := by refine ⟨?_, ?_, ?_, ?_, ?_, ?_, ?_, ?_, ?_, ?_, ?_, ?_⟩ <;> kernel_rfl
theorem z1o : z0f Tryz.prog 23 = true := ty23.1
theorem z88 : z09 Tryz.prog 23 = 3 := ty23.2.2.2.2.2.2.2.2.1
@[go_sem] theorem fieldsOK23 : z3s Tryz.prog 23 = true := by kernel_rfl
@[go_sem] theorem fieldT23_0 : z1s Tryz.prog 23 0 = some (0, 3) := by kernel_rfl
@[go_sem] theorem fieldT23_1 : z1s Tryz.prog 23 1 = some (1, 3) := by kernel_rfl
@[go_sem] theorem fieldT23_2 : z1s Tryz.prog 23 2 = some (2, 3) := by kernel_rfl
@[go_sem] theorem ty24 : z0f Tryz.prog 24 = false /\ z11 Tryz.prog 24 = true /\ z1c Tryz.prog 24 = some 50 /\ z5j Tryz.prog 24 = none /\ z5w Tryz.prog 24 = none /\ z5h Tryz.prog 24 = false /\ z2m Tryz.prog 24 = false /\ z5c Tryz.prog 24 = none /\ z09 Tryz.prog 24 = 1 /\ z0s Tryz.prog 24 = 24 /\ z1v Tryz.prog 24 = some [D.nil] /\ z0p Tryz.prog 24 = true := by refine ⟨?_, ?_, ?_, ?_, ?_, ?_, ?_, ?_, ?_, ?_, ?_, ?_⟩ <;> kernel_rfl
theorem zfe : z0f Tryz.prog 24 = false := ty24.1
@[go_sem] theorem ty25 : z0f Tryz.prog 25 = false /\ z11 Tryz.prog 25 = true /\ z1c Tryz.prog 25 = some 27 /\ z5j Tryz.prog 25 = none /\ z5w Tryz.prog 25 = none /\ z5h Tryz.prog 25 = false /\ z2m Tryz.prog 25 = false /\ z5c Tryz.prog 25 = none /\ z09 Tryz.prog 25 = 1 /\ z0s Tryz.prog 25 = 24 /\ z1v Tryz.prog 25 = some [D.nil] /\ z0p Tryz.prog 25 = true := by refine ⟨?_, ?_, ?_, ?_, ?_, ?_, ?_, ?_, ?_, ?_, ?_, ?_⟩ <;> kernel_rfl
@[go_sem] theorem ty27 : z0f Tryz.prog 27 = true /\ z11 Tryz.prog 27 = false /\ z1c Tryz.prog 27 = none /\ z5j Tryz.prog 27 = none /\ z5w Tryz.prog 27 = none /\ z5h Tryz.prog 27 = false /\ z2m Tryz.prog 27 = false /\ z5c Tryz.prog 27 = none /\ z09 Tryz.prog 27 = 8 /\ z0s Tryz.prog 27 = 120 /\ z1v Tryz.prog 27 = some [D.int .i64 0, D.int .i64 0, D.int .i64 0, D.int .i64 0, D.str ByteArray.empty, D.nil, D.nil, D.nil] /\ z0p Tryz.prog 27 = true := by refine ⟨?_, ?_, ?_, ?_, ?_, ?_, ?_, ?_, ?_, ?_, ?_, ?_⟩ <;> kernel_rfl
theorem z0j : z0f Tryz.prog 27 = true := ty27.1
theorem z2s : z09 Tryz.prog 27 = 8 := ty27.2.2.2.2.2.2.2.2.1
@[go_sem] theorem fieldsOK27 : z3s Tryz.prog 27 = true := by kernel_rfl
@[go_sem] theorem fieldT27_0 : z1s Tryz.prog 27 0 = some (0, 23) := by kernel_rfl
@[go_sem] theorem fieldT27_1 : z1s Tryz.prog 27 1 = some (3, 3) := by kernel_rfl
@[go_sem] theorem fieldT27_2 : z1s Tryz.prog 27 2 = some (4, 9) := by kernel_rfl
@[go_sem] theorem fieldT27_3 : z1s Tryz.prog 27 3 = some (5, 24) := by kernel_rfl
@[go_sem] theorem fieldT27_4 : z1s Tryz.prog 27 4 = some (6, 24) := by kernel_rfl
@[go_sem] theorem fieldT27_5 : z1s Tryz.prog 27 5 = some (7, 25) := by kernel_rfl
@[go_sem] theorem ty28 : z0f Tryz.prog 28 = false /\ z11 Tryz.prog 28 = true /\ z1c Tryz.prog 28 = some 9 /\ z5j Tryz.prog 28 = none /\ z5w Tryz.prog 28 = none /\ z5h Tryz.prog 28 = false /\ z2m Tryz.prog 28 = false /\ z5c Tryz.prog 28 = none /\ z09 Tryz.prog 28 = 1 /\ z0s Tryz.prog 28 = 24 /\ z1v Tryz.prog 28 = some [D.nil] /\ z0p Tryz.prog 28 = true := by refine ⟨?_, ?_, ?_, ?_, ?_, ?_, ?_, ?_, ?_, ?_, ?_, ?_⟩ <;> kernel_rfl
theorem zpt : z0f Tryz.prog 28 = false := ty28.1
@[go_sem] theorem ty29 : z0f Tryz.prog 29 = false /\ z11 Tryz.prog 29 = true /\ z1c Tryz.prog 29 = none /\ z5j Tryz.prog 29 = none /\ z5w Tryz.prog 29 = none /\ z5h Tryz.prog 29 = false /\ z2m Tryz.prog 29 = false /\ z5c Tryz.prog 29 = none /\ z09 Tryz.prog 29 = 1 /\ z0s Tryz.prog 29 = 8 /\ z1v Tryz.prog 29 = some [D.nfun] /\ z0p Tryz.prog 29 = true := by refine ⟨?_, ?_, ?_, ?_, ?_, ?_, ?_, ?_, ?_, ?_, ?_, ?_⟩ <;> kernel_rfl
@[go_sem] theorem ty32 : z0f Tryz.prog 32 = true /\ z11 Tryz.prog 32 = false /\ z1c Tryz.prog 32 = none /\ z5j Tryz.prog 32 = none /\ z5w Tryz.prog 32 = none /\ z5h Tryz.prog 32 = false /\ z2m Tryz.prog 32 = false /\ z5c Tryz.prog 32 = none /\ z09 Tryz.prog 32 = 18 /\ z0s Tryz.prog 32 = 224 /\ z0p Tryz.prog 32 = true := by refine ⟨?_, ?_, ?_, ?_, ?_, ?_, ?_, ?_, ?_, ?_, ?_⟩ <;> kernel_rfl
theorem zzq : z0f Tryz.prog 32 = true := ty32.1
theorem sizeT32 : z09 Tryz.prog 32 = 18 := ty32.2.2.2.2.2.2.2.2.1
@[go_sem] theorem fieldsOK32 : z3s Tryz.prog 32 = true := by kernel_rfl
@[go_sem] theorem fieldT32_0 : z1s Tryz.prog 32 0 = some (0, 3) := by kernel_rfl
@[go_sem] theorem fieldT32_1 : z1s Tryz.prog 32 1 = some (1, 3) := by kernel_rfl
@[go_sem] theorem fieldT32_2 : z1s Tryz.prog 32 2 = some (2, 23) := by kernel_rfl
@[go_sem] theorem fieldT32_3 : z1s Tryz.prog 32 3 = some (5, 23) := by kernel_rfl
@[go_sem] theorem fieldT32_4 : z1s Tryz.prog 32 4 = some (8, 28) := by kernel_rfl
@[go_sem] theorem fieldT32_5 : z1s Tryz.prog 32 5 = some (9, 9) := by kernel_rfl
@[go_sem] theorem fieldT32_6 : z1s Tryz.prog 32 6 = some (10, 27) := by kernel_rfl
theorem zjg : z1v Tryz.prog 32 = some [D.int .i64 0, D.int .i64 0, D.int .i64 0, D.int .i64 0, D.int .i64 0, D.int .i64 0, D.int .i64 0, D.int .i64 0, D.nil, D.str ByteArray.empty, D.int .i64 0, D.int .i64 0, D.int .i64 0, D.int .i64 0, D.str ByteArray.empty, D.nil, D.nil, D.nil] := by kernel_rfl
@[go_sem] theorem ty34 : z0f Tryz.prog 34 = true /\ z11 Tryz.prog 34 = false /\ z1c Tryz.prog 34 = none /\ z5j Tryz.prog 34 = none /\ z5w Tryz.prog 34 = none /\ z5h Tryz.prog 34 = false /\ z2m Tryz.prog 34 = false /\ z5c Tryz.prog 34 = none /\ z09 Tryz.prog 34 = 19 /\ z0s Tryz.prog 34 = 232 /\ z0p Tryz.prog 34 = true := by refine ⟨?_, ?_, ?_, ?_, ?_, ?_, ?_, ?_, ?_, ?_, ?_⟩ <;> kernel_rfl
theorem zzr : z0f Tryz.prog 34 = true := ty34.1
theorem sizeT34 : z09 Tryz.prog 34 = 19 := ty34.2.2.2.2.2.2.2.2.1
@[go_sem] theorem fieldsOK34 : z3s Tryz.prog 34 = true := by kernel_rfl
@[go_sem] theorem fieldT34_0 : z1s Tryz.prog 34 0 = some (0, 5) := by kernel_rfl
@[go_sem] theorem fieldT34_1 : z1s Tryz.prog 34 1 = some (1, 32) := by kernel_rfl
theorem zeroT34 : z1v Tryz.prog 34 = some [D.int .u8 0, D.int .i64 0, D.int .i64 0, D.int .i64 0, D.int .i64 0, D.int .i64 0, D.int .i64 0, D.int .i64 0, D.int .i64 0, D.nil, D.str ByteArray.empty, D.int .i64 0, D.int .i64 0, D.int .i64 0, D.int .i64 0, D.str ByteArray.empty, D.nil, D.nil, D.nil] := by kernel_rfl
@[go_sem] theorem ty35 : z0f Tryz.prog 35 = false /\ z11 Tryz.prog 35 = true /\ z1c Tryz.prog 35 = some 34 /\ z5j Tryz.prog 35 = none /\ z5w Tryz.prog 35 = none /\ z5h Tryz.prog 35 = false /\ z2m Tryz.prog 35 = false /\ z5c Tryz.prog 35 = none /\ z09 Tryz.prog 35 = 1 /\ z0s Tryz.prog 35 = 24 /\ z1v Tryz.prog 35 = some [D.nil] /\ z0p Tryz.prog 35 = true := by refine ⟨?_, ?_, ?_, ?_, ?_, ?_, ?_, ?_, ?_, ?_, ?_, ?_⟩ <;> kernel_rfl
theorem zzs : z0f Tryz.prog 35 = false := ty35.1
@[go_sem] theorem ty36 : z0f Tryz.prog 36 = false /\ z11 Tryz.prog 36 = true /\ z1c Tryz.prog 36 = none /\ z5j Tryz.prog 36 = none /\ z5w Tryz.prog 36 = none /\ z5h Tryz.prog 36 = false /\ z2m Tryz.prog 36 = false /\ z5c Tryz.prog 36 = none /\ z09 Tryz.prog 36 = 1 /\ z0s Tryz.prog 36 = 8 /\ z1v Tryz.prog 36 = some [D.nfun] /\ z0p Tryz.prog 36 = true := by refine ⟨?_, ?_, ?_, ?_, ?_, ?_, ?_, ?_, ?_, ?_, ?_, ?_⟩ <;> kernel_rfl
@[go_sem] theorem ty37 : z0f Tryz.prog 37 = false /\ z11 Tryz.prog 37 = true /\ z1c Tryz.prog 37 = none /\ z5j Tryz.prog 37 = none /\ z5w Tryz.prog 37 = none /\ z5h Tryz.prog 37 = false /\ z2m Tryz.prog 37 = false /\ z5c Tryz.prog 37 = none /\ z09 Tryz.prog 37 = 1 /\ z0s Tryz.prog 37 = 8 /\ z1v Tryz.prog 37 = some [D.nptr] /\ z0p Tryz.prog 37 = true := by refine ⟨?_, ?_, ?_, ?_, ?_, ?_, ?_, ?_, ?_, ?_, ?_, ?_⟩ <;> kernel_rfl
@[go_sem] theorem ptrT37 : ptrT Tryz.prog 37 = true := by kernel_rfl
@[go_sem] theorem ty38 : z0f Tryz.prog 38 = false /\ z11 Tryz.prog 38 = true /\ z1c Tryz.prog 38 = none /\ z5j Tryz.prog 38 = none /\ z5w Tryz.prog 38 = some .i64 /\ z5h Tryz.prog 38 = false /\ z2m Tryz.prog 38 = false /\ z5c Tryz.prog 38 = none /\ z09 Tryz.prog 38 = 1 /\ z0s Tryz.prog 38 = 8 /\ z1v Tryz.prog 38 = some [D.int .i64 0] /\ z0p Tryz.prog 38 = true := by refine ⟨?_, ?_, ?_, ?_, ?_, ?_, ?_, ?_, ?_, ?_, ?_, ?_⟩ <;> kernel_rfl
@[go_sem] theorem ty48 : z0f Tryz.prog 48 = true /\ z11 Tryz.prog 48 = false /\ z1c Tryz.prog 48 = none /\ z5j Tryz.prog 48 = none /\ z5w Tryz.prog 48 = none /\ z5h Tryz.prog 48 = false /\ z2m Tryz.prog 48 = false /\ z5c Tryz.prog 48 = none /\ z09 Tryz.prog 48 = 3 /\ z0s Tryz.prog 48 = 24 /\ z1v Tryz.prog 48 = some [D.int .i64 0, D.int .i64 0, D.int .i64 0] /\ z0p Tryz.prog 48 = true := by refine ⟨?_, ?_, ?_, ?_, ?_, ?_, ?_, ?_, ?_, ?_, ?_, ?_⟩ <;> kernel_rfl
theorem zpu : z0f Tryz.prog 48 = true := ty48.1
theorem zpv : z11 Tryz.prog 48 = false := ty48.2.1
theorem zv2 : z09 Tryz.prog 48 = 3 := ty48.2.2.2.2.2.2.2.2.1
@[go_sem] theorem fieldsOK48 : z3s Tryz.prog 48 = true := by kernel_rfl
@[go_sem] theorem fieldT48_0 : z1s Tryz.prog 48 0 = some (0, 3) := by kernel_rfl
@[go_sem] theorem fieldT48_1 : z1s Tryz.prog 48 1 = some (1, 3) := by kernel_rfl
@[go_sem] theorem fieldT48_2 : z1s Tryz.prog 48 2 = some (2, 3) := by kernel_rfl
@[go_sem] theorem ty50 : z0f Tryz.prog 50 = true /\ z11 Tryz.prog 50 = false /\ z1c Tryz.prog 50 = none /\ z5j Tryz.prog 50 = none /\ z5w Tryz.prog 50 = none /\ z5h Tryz.prog 50 = false /\ z2m Tryz.prog 50 = false /\ z5c Tryz.prog 50 = none /\ z09 Tryz.prog 50 = 4 /\ z0s Tryz.prog 50 = 40 /\ z1v Tryz.prog 50 = some [D.str ByteArray.empty, D.int .i64 0, D.int .i64 0, D.int .i64 0] /\ z0p Tryz.prog 50 = true := by refine ⟨?_, ?_, ?_, ?_, ?_, ?_, ?_, ?_, ?_, ?_, ?_, ?_⟩ <;> kernel_rfl
theorem z5y : z0f Tryz.prog 50 = true := ty50.1
theorem z89 : z09 Tryz.prog 50 = 4 := ty50.2.2.2.2.2.2.2.2.1
@[go_sem] theorem fieldsOK50 : z3s Tryz.prog 50 = true := by kernel_rfl
@[go_sem] theorem fieldT50_0 : z1s Tryz.prog 50 0 = some (0, 9) := by kernel_rfl
@[go_sem] theorem fieldT50_1 : z1s Tryz.prog 50 1 = some (1, 48) := by kernel_rfl
@[go_sem] theorem ty52 : z0f Tryz.prog 52 = false /\ z11 Tryz.prog 52 = true /\ z1c Tryz.prog 52 = none /\ z5j Tryz.prog 52 = none /\ z5w Tryz.prog 52 = none /\ z5h Tryz.prog 52 = false /\ z2m Tryz.prog 52 = false /\ z5c Tryz.prog 52 = none /\ z09 Tryz.prog 52 = 1 /\ z0s Tryz.prog 52 = 8 /\ z1v Tryz.prog 52 = some [D.nptr] /\ z0p Tryz.prog 52 = true := by refine ⟨?_, ?_, ?_, ?_, ?_, ?_, ?_, ?_, ?_, ?_, ?_, ?_⟩ <;> kernel_rfl
@[go_sem] theorem ptrT52 : ptrT Tryz.prog 52 = true := by kernel_rfl
@[go_sem] theorem ty55 : z0f Tryz.prog 55 = false /\ z11 Tryz.prog 55 = true /\ z1c Tryz.prog 55 = some 32 /\ z5j Tryz.prog 55 = none /\ z5w Tryz.prog 55 = none /\ z5h Tryz.prog 55 = false /\ z2m Tryz.prog 55 = false /\ z5c Tryz.prog 55 = none /\ z09 Tryz.prog 55 = 1 /\ z0s Tryz.prog 55 = 24 /\ z1v Tryz.prog 55 = some [D.nil] /\ z0p Tryz.prog 55 = true := by refine ⟨?_, ?_, ?_, ?_, ?_, ?_, ?_, ?_, ?_, ?_, ?_, ?_⟩ <;> kernel_rfl
@[go_sem] theorem ty61 : z0f Tryz.prog 61 = true /\ z11 Tryz.prog 61 = false /\ z1c Tryz.prog 61 = none /\ z5j Tryz.prog 61 = none /\ z5w Tryz.prog 61 = none /\ z5h Tryz.prog 61 = false /\ z2m Tryz.prog 61 = false /\ z5c Tryz.prog 61 = none /\ z09 Tryz.prog 61 = 10 /\ z0s Tryz.prog 61 = 168 /\ z1v Tryz.prog 61 = some [D.int .i64 0, D.int .i64 0, D.int .i64 0, D.int .i64 0, D.str ByteArray.empty, D.nil, D.nil, D.nil, D.nil, D.nil] /\ z0p Tryz.prog 61 = true := by refine ⟨?_, ?_, ?_, ?_, ?_, ?_, ?_, ?_, ?_, ?_, ?_, ?_⟩ <;> kernel_rfl
@[go_sem] theorem fieldsOK61 : z3s Tryz.prog 61 = true := by kernel_rfl
@[go_sem] theorem fieldT61_0 : z1s Tryz.prog 61 0 = some (0, 27) := by kernel_rfl
@[go_sem] theorem fieldT61_1 : z1s Tryz.prog 61 1 = some (8, 55) := by kernel_rfl
@[go_sem] theorem fieldT61_2 : z1s Tryz.prog 61 2 = some (9, 55) := by kernel_rfl
@[go_sem] theorem ty64 : z0f Tryz.prog 64 = false /\ z11 Tryz.prog 64 = true /\ z1c Tryz.prog 64 = some 23 /\ z5j Tryz.prog 64 = none /\ z5w Tryz.prog 64 = none /\ z5h Tryz.prog 64 = false /\ z2m Tryz.prog 64 = false /\ z5c Tryz.prog 64 = none /\ z09 Tryz.prog 64 = 1 /\ z0s Tryz.prog 64 = 24 /\ z1v Tryz.prog 64 = some [D.nil] /\ z0p Tryz.prog 64 = true := by refine ⟨?_, ?_, ?_, ?_, ?_, ?_, ?_, ?_, ?_, ?_, ?_, ?_⟩ <;> kernel_rfl
theorem elemT64 : z1c Tryz.prog 64 = some 23 := ty64.2.2.1
@[go_sem] theorem ty70 : z0f Tryz.prog 70 = false /\ z11 Tryz.prog 70 = true /\ z1c Tryz.prog 70 = none /\ z5j Tryz.prog 70 = none /\ z5w Tryz.prog 70 = none /\ z5h Tryz.prog 70 = false /\ z2m Tryz.prog 70 = false /\ z5c Tryz.prog 70 = none /\ z09 Tryz.prog 70 = 1 /\ z0s Tryz.prog 70 = 8 /\ z1v Tryz.prog 70 = some [D.nfun] /\ z0p Tryz.prog 70 = true := by refine ⟨?_, ?_, ?_, ?_, ?_, ?_, ?_, ?_, ?_, ?_, ?_, ?_⟩ <;> kernel_rfl
@[go_sem] theorem ty72 : z0f Tryz.prog 72 = false /\ z11 Tryz.prog 72 = true /\ z1c Tryz.prog 72 = none /\ z5j Tryz.prog 72 = none /\ z5w Tryz.prog 72 = none /\ z5h Tryz.prog 72 = false /\ z2m Tryz.prog 72 = false /\ z5c Tryz.prog 72 = none /\ z09 Tryz.prog 72 = 1 /\ z0s Tryz.prog 72 = 8 /\ z1v Tryz.prog 72 = some [D.nfun] /\ z0p Tryz.prog 72 = true := by refine ⟨?_, ?_, ?_, ?_, ?_, ?_, ?_, ?_, ?_, ?_, ?_, ?_⟩ <;> kernel_rfl
@[go_sem] theorem ty74 : z0f Tryz.prog 74 = true /\ z11 Tryz.prog 74 = false /\ z1c Tryz.prog 74 = none /\ z5j Tryz.prog 74 = none /\ z5w Tryz.prog 74 = none /\ z5h Tryz.prog 74 = false /\ z2m Tryz.prog 74 = false /\ z5c Tryz.prog 74 = none /\ z09 Tryz.prog 74 = 3 /\ z0s Tryz.prog 74 = 56 /\ z1v Tryz.prog 74 = some [D.nil, D.nil, D.int .i64 0] /\ z0p Tryz.prog 74 = true := by refine ⟨?_, ?_, ?_, ?_, ?_, ?_, ?_, ?_, ?_, ?_, ?_, ?_⟩ <;> kernel_rfl
@[go_sem] theorem fieldsOK74 : z3s Tryz.prog 74 = true := by kernel_rfl
@[go_sem] theorem fieldT74_0 : z1s Tryz.prog 74 0 = some (0, 25) := by kernel_rfl
@[go_sem] theorem fieldT74_1 : z1s Tryz.prog 74 1 = some (1, 55) := by kernel_rfl
@[go_sem] theorem fieldT74_2 : z1s Tryz.prog 74 2 = some (2, 3) := by kernel_rfl
@[go_sem] theorem ty75 : z0f Tryz.prog 75 = false /\ z11 Tryz.prog 75 = true /\ z1c Tryz.prog 75 = none /\ z5j Tryz.prog 75 = none /\ z5w Tryz.prog 75 = none /\ z5h Tryz.prog 75 = false /\ z2m Tryz.prog 75 = false /\ z5c Tryz.prog 75 = none /\ z09 Tryz.prog 75 = 1 /\ z0s Tryz.prog 75 = 8 /\ z1v Tryz.prog 75 = some [D.nfun] /\ z0p Tryz.prog 75 = true := by refine ⟨?_, ?_, ?_, ?_, ?_, ?_, ?_, ?_, ?_, ?_, ?_, ?_⟩ <;> kernel_rfl
@[go_sem] theorem ty77 : z0f Tryz.prog 77 = false /\ z11 Tryz.prog 77 = true /\ z1c Tryz.prog 77 = none /\ z5j Tryz.prog 77 = none /\ z5w Tryz.prog 77 = none /\ z5h Tryz.prog 77 = false /\ z2m Tryz.prog 77 = false /\ z5c Tryz.prog 77 = some (3, 75) /\ z09 Tryz.prog 77 = 1 /\ z0s Tryz.prog 77 = 8 /\ z1v Tryz.prog 77 = some [D.nmp] /\ z0p Tryz.prog 77 = true := by refine ⟨?_, ?_, ?_, ?_, ?_, ?_, ?_, ?_, ?_, ?_, ?_, ?_⟩ <;> kernel_rfl
@[go_sem] theorem ty88 : z0f Tryz.prog 88 = false /\ z11 Tryz.prog 88 = true /\ z1c Tryz.prog 88 = none /\ z5j Tryz.prog 88 = none /\ z5w Tryz.prog 88 = none /\ z5h Tryz.prog 88 = false /\ z2m Tryz.prog 88 = false /\ z5c Tryz.prog 88 = none /\ z09 Tryz.prog 88 = 1 /\ z0s Tryz.prog 88 = 8 /\ z1v Tryz.prog 88 = some [D.nfun] /\ z0p Tryz.prog 88 = true := by refine ⟨?_, ?_, ?_, ?_, ?_, ?_, ?_, ?_, ?_, ?_, ?_, ?_⟩ <;> kernel_rfl
@[go_sem] theorem ty105 : z0f Tryz.prog 105 = false /\ z11 Tryz.prog 105 = true /\ z1c Tryz.prog 105 = none /\ z5j Tryz.prog 105 = none /\ z5w Tryz.prog 105 = none /\ z5h Tryz.prog 105 = false /\ z2m Tryz.prog 105 = false /\ z5c Tryz.prog 105 = none /\ z09 Tryz.prog 105 = 1 /\ z0s Tryz.prog 105 = 8 /\ z1v Tryz.prog 105 = some [D.nptr] /\ z0p Tryz.prog 105 = true := by refine ⟨?_, ?_, ?_, ?_, ?_, ?_, ?_, ?_, ?_, ?_, ?_, ?_⟩ <;> kernel_rfl
@[go_sem] theorem ptrT105 : ptrT Tryz.prog 105 = true := by kernel_rfl
@[go_sem] theorem ty119 : z0f Tryz.prog 119 = false /\ z11 Tryz.prog 119 = true /\ z1c Tryz.prog 119 = none /\ z5j Tryz.prog 119 = none /\ z5w Tryz.prog 119 = none /\ z5h Tryz.prog 119 = false /\ z2m Tryz.prog 119 = false /\ z5c Tryz.prog 119 = none /\ z09 Tryz.prog 119 = 1 /\ z0s Tryz.prog 119 = 8 /\ z1v Tryz.prog 119 = some [D.nfun] /\ z0p Tryz.prog 119 = true := by refine ⟨?_, ?_, ?_, ?_, ?_, ?_, ?_, ?_, ?_, ?_, ?_, ?_⟩ <;> kernel_rfl
@[go_sem] theorem ty120 : z0f Tryz.prog 120 = false /\ z11 Tryz.prog 120 = true /\ z1c Tryz.prog 120 = none /\ z5j Tryz.prog 120 = none /\ z5w Tryz.prog 120 = none /\ z5h Tryz.prog 120 = false /\ z2m Tryz.prog 120 = false /\ z5c Tryz.prog 120 = some (122, 4) /\ z09 Tryz.prog 120 = 1 /\ z0s Tryz.prog 120 = 8 /\ z1v Tryz.prog 120 = some [D.nmp] /\ z0p Tryz.prog 120 = true := by refine ⟨?_, ?_, ?_, ?_, ?_, ?_, ?_, ?_, ?_, ?_, ?_, ?_⟩ <;> kernel_rfl
@[go_sem] theorem ty122 : z0f Tryz.prog 122 = true /\ z11 Tryz.prog 122 = false /\ z1c Tryz.prog 122 = none /\ z5j Tryz.prog 122 = none /\ z5w Tryz.prog 122 = none /\ z5h Tryz.prog 122 = false /\ z2m Tryz.prog 122 = false /\ z5c Tryz.prog 122 = none /\ z09 Tryz.prog 122 = 2 /\ z0s Tryz.prog 122 = 24 /\ z1v Tryz.prog 122 = some [D.int .i64 0, D.str ByteArray.empty] /\ z0p Tryz.prog 122 = true := by refine ⟨?_, ?_, ?_, ?_, ?_, ?_, ?_, ?_, ?_, ?_, ?_, ?_⟩ <;> kernel_rfl
theorem zv3 : z0f Tryz.prog 122 = true := ty122.1
theorem zzt : z09 Tryz.prog 122 = 2 := ty122.2.2.2.2.2.2.2.2.1
@[go_sem] theorem fieldsOK122 : z3s Tryz.prog 122 = true := by kernel_rfl
@[go_sem] theorem fieldT122_0 : z1s Tryz.prog 122 0 = some (0, 3) := by kernel_rfl
@[go_sem] theorem fieldT122_1 : z1s Tryz.prog 122 1 = some (1, 9) := by kernel_rfl
@[go_sem] theorem ty123 : z0f Tryz.prog 123 = false /\ z11 Tryz.prog 123 = true /\ z1c Tryz.prog 123 = none /\ z5j Tryz.prog 123 = none /\ z5w Tryz.prog 123 = none /\ z5h Tryz.prog 123 = false /\ z2m Tryz.prog 123 = false /\ z5c Tryz.prog 123 = some (23, 4) /\ z09 Tryz.prog 123 = 1 /\ z0s Tryz.prog 123 = 8 /\ z1v Tryz.prog 123 = some [D.nmp] /\ z0p Tryz.prog 123 = true := by refine ⟨?_, ?_, ?_, ?_, ?_, ?_, ?_, ?_, ?_, ?_, ?_, ?_⟩ <;> kernel_rfl
@[go_sem] theorem ty126 : z0f Tryz.prog 126 = false /\ z11 Tryz.prog 126 = true /\ z1c Tryz.prog 126 = some 129 /\ z5j Tryz.prog 126 = none /\ z5w Tryz.prog 126 = none /\ z5h Tryz.prog 126 = false /\ z2m Tryz.prog 126 = false /\ z5c Tryz.prog 126 = none /\ z09 Tryz.prog 126 = 1 /\ z0s Tryz.prog 126 = 24 /\ z1v Tryz.prog 126 = some [D.nil] /\ z0p Tryz.prog 126 = true := by refine ⟨?_, ?_, ?_, ?_, ?_, ?_, ?_, ?_, ?_, ?_, ?_, ?_⟩ <;> kernel_rfl
@[go_sem] theorem ty129 : z0f Tryz.prog 129 = true /\ z11 Tryz.prog 129 = false /\ z1c Tryz.prog 129 = none /\ z5j Tryz.prog 129 = none /\ z5w Tryz.prog 129 = none /\ z5h Tryz.prog 129 = false /\ z2m Tryz.prog 129 = false /\ z5c Tryz.prog 129 = none /\ z09 Tryz.prog 129 = 2 /\ z0s Tryz.prog 129 = 16 /\ z1v Tryz.prog 129 = some [D.int .i64 0, D.int .i64 0] /\ z0p Tryz.prog 129 = true := by refine ⟨?_, ?_, ?_, ?_, ?_, ?_, ?_, ?_, ?_, ?_, ?_, ?_⟩ <;> kernel_rfl
theorem zl7 : z0f Tryz.prog 129 = true := ty129.1
theorem zpw : z09 Tryz.prog 129 = 2 := ty129.2.2.2.2.2.2.2.2.1
@[go_sem] theorem fieldsOK129 : z3s Tryz.prog 129 = true := by kernel_rfl
@[go_sem] theorem fieldT129_0 : z1s Tryz.prog 129 0 = some (0, 3) := by kernel_rfl
@[go_sem] theorem fieldT129_1 : z1s Tryz.prog 129 1 = some (1, 3) := by kernel_rfl
@[go_sem] theorem ty135 : z0f Tryz.prog 135 = true /\ z11 Tryz.prog 135 = false /\ z1c Tryz.prog 135 = none /\ z5j Tryz.prog 135 = none /\ z5w Tryz.prog 135 = none /\ z5h Tryz.prog 135 = false /\ z2m Tryz.prog 135 = false /\ z5c Tryz.prog 135 = none /\ z09 Tryz.prog 135 = 2 /\ z0s Tryz.prog 135 = 16 /\ z1v Tryz.prog 135 = some [D.nfun, D.int .i64 0] /\ z0p Tryz.prog 135 = true := by refine ⟨?_, ?_, ?_, ?_, ?_, ?_, ?_, ?_, ?_, ?_, ?_, ?_⟩ <;> kernel_rfl
@[go_sem] theorem fieldsOK135 : z3s Tryz.prog 135 = true := by kernel_rfl
@[go_sem] theorem fieldT135_0 : z1s Tryz.prog 135 0 = some (0, 29) := by kernel_rfl
@[go_sem] theorem fieldT135_1 : z1s Tryz.prog 135 1 = some (1, 38) := by kernel_rfl
@[go_sem] theorem ty137 : z0f Tryz.prog 137 = false /\ z11 Tryz.prog 137 = true /\ z1c Tryz.prog 137 = none /\ z5j Tryz.prog 137 = none /\ z5w Tryz.prog 137 = none /\ z5h Tryz.prog 137 = false /\ z2m Tryz.prog 137 = false /\ z5c Tryz.prog 137 = none /\ z09 Tryz.prog 137 = 1 /\ z0s Tryz.prog 137 = 8 /\ z1v Tryz.prog 137 = some [D.nfun] /\ z0p Tryz.prog 137 = true := by refine ⟨?_, ?_, ?_, ?_, ?_, ?_, ?_, ?_, ?_, ?_, ?_, ?_⟩ <;> kernel_rfl
theorem zl8 : z0f Tryz.prog 137 = false := ty137.1
@[go_sem] theorem ty148 : z0f Tryz.prog 148 = true /\ z11 Tryz.prog 148 = false /\ z1c Tryz.prog 148 = none /\ z5j Tryz.prog 148 = some (8, 9) /\ z5w Tryz.prog 148 = none /\ z5h Tryz.prog 148 = false /\ z2m Tryz.prog 148 = false /\ z5c Tryz.prog 148 = none /\ z09 Tryz.prog 148 = 8 /\ z0s Tryz.prog 148 = 128 /\ z1v Tryz.prog 148 = some [D.str ByteArray.empty, D.str ByteArray.empty, D.str ByteArray.empty, D.str ByteArray.empty, D.str ByteArray.empty, D.str ByteArray.empty, D.str ByteArray.empty, D.str ByteArray.empty] /\ z0p Tryz.prog 148 = true := by refine ⟨?_, ?_, ?_, ?_, ?_, ?_, ?_, ?_, ?_, ?_, ?_, ?_⟩ <;> kernel_rfl
@[go_sem] theorem under148 : Tryz.prog.underlying 148 = some (.array 8 9) := by kernel_rfl
@[go_sem] theorem ty151 : z0f Tryz.prog 151 = false /\ z11 Tryz.prog 151 = true /\ z1c Tryz.prog 151 = none /\ z5j Tryz.prog 151 = none /\ z5w Tryz.prog 151 = none /\ z5h Tryz.prog 151 = false /\ z2m Tryz.prog 151 = false /\ z5c Tryz.prog 151 = none /\ z09 Tryz.prog 151 = 1 /\ z0s Tryz.prog 151 = 8 /\ z1v Tryz.prog 151 = some [D.nfun] /\ z0p Tryz.prog 151 = true := by refine ⟨?_, ?_, ?_, ?_, ?_, ?_, ?_, ?_, ?_, ?_, ?_, ?_⟩ <;> kernel_rfl
@[go_sem] theorem ty155 : z0f Tryz.prog 155 = false /\ z11 Tryz.prog 155 = true /\ z1c Tryz.prog 155 = some 3 /\ z5j Tryz.prog 155 = none /\ z5w Tryz.prog 155 = none /\ z5h Tryz.prog 155 = false /\ z2m Tryz.prog 155 = false /\ z5c Tryz.prog 155 = none /\ z09 Tryz.prog 155 = 1 /\ z0s Tryz.prog 155 = 24 /\ z1v Tryz.prog 155 = some [D.nil] /\ z0p Tryz.prog 155 = true := by refine ⟨?_, ?_, ?_, ?_, ?_, ?_, ?_, ?_, ?_, ?_, ?_, ?_⟩ <;> kernel_rfl
theorem zv4 : z0f Tryz.prog 155 = false := ty155.1
@[go_sem] theorem ty156 : z0f Tryz.prog 156 = true /\ z11 Tryz.prog 156 = false /\ z1c Tryz.prog 156 = none /\ z5j Tryz.prog 156 = some (8, 155) /\ z5w Tryz.prog 156 = none /\ z5h Tryz.prog 156 = false /\ z2m Tryz.prog 156 = false /\ z5c Tryz.prog 156 = none /\ z09 Tryz.prog 156 = 8 /\ z0s Tryz.prog 156 = 192 /\ z1v Tryz.prog 156 = some [D.nil, D.nil, D.nil, D.nil, D.nil, D.nil, D.nil, D.nil] /\ z0p Tryz.prog 156 = true := by refine ⟨?_, ?_, ?_, ?_, ?_, ?_, ?_, ?_, ?_, ?_, ?_, ?_⟩ <;> kernel_rfl
@[go_sem] theorem under156 : Tryz.prog.underlying 156 = some (.array 8 155) := by kernel_rfl
@[go_sem] theorem ty158 : z0f Tryz.prog 158 = false /\ z11 Tryz.prog 158 = true /\ z1c Tryz.prog 158 = none /\ z5j Tryz.prog 158 = none /\ z5w Tryz.prog 158 = none /\ z5h Tryz.prog 158 = false /\ z2m Tryz.prog 158 = false /\ z5c Tryz.prog 158 = none /\ z09 Tryz.prog 158 = 1 /\ z0s Tryz.prog 158 = 8 /\ z1v Tryz.prog 158 = some [D.nfun] /\ z0p Tryz.prog 158 = true := by refine ⟨?_, ?_, ?_, ?_, ?_, ?_, ?_, ?_, ?_, ?_, ?_, ?_⟩ <;> kernel_rfl
theorem zv5 : z0f Tryz.prog 158 = false := ty158.1
@[go_sem] theorem ty163 : z0f Tryz.prog 163 = false /\ z11 Tryz.prog 163 = true /\ z1c Tryz.prog 163 = some 135 /\ z5j Tryz.prog 163 = none /\ z5w Tryz.prog 163 = none /\ z5h Tryz.prog 163 = false /\ z2m Tryz.prog 163 = false /\ z5c Tryz.prog 163 = none /\ z09 Tryz.prog 163 = 1 /\ z0s Tryz.prog 163 = 24 /\ z1v Tryz.prog 163 = some [D.nil] /\ z0p Tryz.prog 163 = true := by refine ⟨?_, ?_, ?_, ?_, ?_, ?_, ?_, ?_, ?_, ?_, ?_, ?_⟩ <;> kernel_rfl
@[go_sem] theorem ty169 : z0f Tryz.prog 169 = false /\ z11 Tryz.prog 169 = true /\ z1c Tryz.prog 169 = none /\ z5j Tryz.prog 169 = none /\ z5w Tryz.prog 169 = none /\ z5h Tryz.prog 169 = false /\ z2m Tryz.prog 169 = false /\ z5c Tryz.prog 169 = none /\ z09 Tryz.prog 169 = 1 /\ z0s Tryz.prog 169 = 8 /\ z1v Tryz.prog 169 = some [D.nfun] /\ z0p Tryz.prog 169 = true := by refine ⟨?_, ?_, ?_, ?_, ?_, ?_, ?_, ?_, ?_, ?_, ?_, ?_⟩ <;> kernel_rfl
@[go_sem] theorem ty176 : z0f Tryz.prog 176 = false /\ z11 Tryz.prog 176 = true /\ z1c Tryz.prog 176 = some 28 /\ z5j Tryz.prog 176 = none /\ z5w Tryz.prog 176 = none /\ z5h Tryz.prog 176 = false /\ z2m Tryz.prog 176 = false /\ z5c Tryz.prog 176 = none /\ z09 Tryz.prog 176 = 1 /\ z0s Tryz.prog 176 = 24 /\ z1v Tryz.prog 176 = some [D.nil] /\ z0p Tryz.prog 176 = true := by refine ⟨?_, ?_, ?_, ?_, ?_, ?_, ?_, ?_, ?_, ?_, ?_, ?_⟩ <;> kernel_rfl
@[go_sem] theorem ty182 : z0f Tryz.prog 182 = false /\ z11 Tryz.prog 182 = true /\ z1c Tryz.prog 182 = none /\ z5j Tryz.prog 182 = none /\ z5w Tryz.prog 182 = none /\ z5h Tryz.prog 182 = false /\ z2m Tryz.prog 182 = false /\ z5c Tryz.prog 182 = none /\ z09 Tryz.prog 182 = 1 /\ z0s Tryz.prog 182 = 8 /\ z1v Tryz.prog 182 = some [D.nfun] /\ z0p Tryz.prog 182 = true := by refine ⟨?_, ?_, ?_, ?_, ?_, ?_, ?_, ?_, ?_, ?_, ?_, ?_⟩ <;> kernel_rfl
@[go_sem] theorem ty184 : z0f Tryz.prog 184 = false /\ z11 Tryz.prog 184 = true /\ z1c Tryz.prog 184 = some 5 /\ z5j Tryz.prog 184 = none /\ z5w Tryz.prog 184 = none /\ z5h Tryz.prog 184 = false /\ z2m Tryz.prog 184 = false /\ z5c Tryz.prog 184 = none /\ z09 Tryz.prog 184 = 1 /\ z0s Tryz.prog 184 = 24 /\ z1v Tryz.prog 184 = some [D.nil] /\ z0p Tryz.prog 184 = true := by refine ⟨?_, ?_, ?_, ?_, ?_, ?_, ?_, ?_, ?_, ?_, ?_, ?_⟩ <;> kernel_rfl
@[go_sem] theorem ptrT199 : ptrT Tryz.prog 199 = true := by kernel_rfl
@[go_sem] theorem keyT3 : zz7 Tryz.prog 3 = true := by kernel_rfl
@[go_sem] theorem zeroD75 : zz8 Tryz.prog 75 = some (D.nfun) := by kernel_rfl
@[go_sem] theorem keyT122 : zz7 Tryz.prog 122 = true := by kernel_rfl
@[go_sem] theorem zeroD4 : zz8 Tryz.prog 4 = some (D.bool false) := by kernel_rfl
@[go_sem] theorem keyT23 : zz7 Tryz.prog 23 = true := by kernel_rfl
theorem z3w {P : Program} {d : Nat} {t : TypeId} {fs : Array Field} {xs ys : List D} (hu : P.underlying t = some (.struct fs)) (hs : P.stoodInHeld t = false) : eqD P (d + 1) t (.agg xs) (.agg ys) = z2e (eqD P d) P xs ys fs.toList := by
 simp only [eqD, hu, hs, if_true]
theorem z8y {P : Program} {d : Nat} {t : TypeId} {k : IntKind} {a b : Int} (hu : P.underlying t = some (.int k)) : eqD P (d + 1) t (.int k a) (.int k b) = some (decide (a = b)) := by
 simp only [eqD, hu, if_true, Option.some.injEq]; by_cases h : a = b <;> simp [h]
theorem zjh {P : Program} {d : Nat} {t : TypeId} {a b : ByteArray} (hu : P.underlying t = some .string) : eqD P (d + 1) t (.str a) (.str b) = some (decide (a = b)) := by
 simp only [eqD, hu]
theorem zzu : Tryz.prog.eqGuardType Tryz.prog.depth 22 = false := by kernel_rfl
theorem eqT22 (d : Nat) (a0 b0 : Int) (a1 b1 : Int) (a2 b2 : Int) : eqD Tryz.prog (d + 2) 22 (.agg [.int .i64 a0, .int .i64 a1, .int .i64 a2]) (.agg [.int .i64 b0, .int .i64 b1, .int .i64 b2]) = some (decide (a0 = b0) && decide (a1 = b1) && decide (a2 = b2)) := by
 rw [z3w Tryz.underlying22 (by kernel_rfl)]
 simp only [z2e, z6g, List.getElem?_cons_zero, List.getElem?_cons_succ, List.drop_succ_cons, List.drop_zero, List.take_succ_cons, List.take_zero, List.length_cons, List.length_nil, Nat.reduceAdd, Nat.reduceLeDiff, if_true, if_false, Bool.false_eq_true, ne_eq, String.reduceEq, not_false_eq_true, decide_eq_true_eq, z40, z9y, z9z, z8y Tryz.underlying3]
 (repeat' split) <;> simp_all
@[go_sem] theorem eqU22 (a0 b0 : Int) (a1 b1 : Int) (a2 b2 : Int) : eqD Tryz.prog 8 22 (.agg [.int .i64 a0, .int .i64 a1, .int .i64 a2]) (.agg [.int .i64 b0, .int .i64 b1, .int .i64 b2]) = some (decide (a0 = b0) && decide (a1 = b1) && decide (a2 = b2)) := eqT22 6 a0 b0 a1 b1 a2 b2
attribute [go_sem] zzu
theorem zzv : Tryz.prog.eqGuardType Tryz.prog.depth 23 = false := by kernel_rfl
theorem eqT23 (d : Nat) (a0 b0 : Int) (a1 b1 : Int) (a2 b2 : Int) : eqD Tryz.prog (d + 2) 23 (.agg [.int .i64 a0, .int .i64 a1, .int .i64 a2]) (.agg [.int .i64 b0, .int .i64 b1, .int .i64 b2]) = some (decide (a0 = b0) && decide (a1 = b1) && decide (a2 = b2)) := by
 rw [z3w Tryz.underlying23 (by kernel_rfl)]
 simp only [z2e, z6g, List.getElem?_cons_zero, List.getElem?_cons_succ, List.drop_succ_cons, List.drop_zero, List.take_succ_cons, List.take_zero, List.length_cons, List.length_nil, Nat.reduceAdd, Nat.reduceLeDiff, if_true, if_false, Bool.false_eq_true, ne_eq, String.reduceEq, not_false_eq_true, decide_eq_true_eq, z40, z9y, z9z, z8y Tryz.underlying3]
 (repeat' split) <;> simp_all
@[go_sem] theorem eqU23 (a0 b0 : Int) (a1 b1 : Int) (a2 b2 : Int) : eqD Tryz.prog 8 23 (.agg [.int .i64 a0, .int .i64 a1, .int .i64 a2]) (.agg [.int .i64 b0, .int .i64 b1, .int .i64 b2]) = some (decide (a0 = b0) && decide (a1 = b1) && decide (a2 = b2)) := eqT23 6 a0 b0 a1 b1 a2 b2
attribute [go_sem] zzv
theorem zzw : Tryz.prog.eqGuardType Tryz.prog.depth 47 = false := by kernel_rfl
theorem eqT47 (d : Nat) (a0 b0 : Int) (a1 b1 : Int) (a2 b2 : Int) : eqD Tryz.prog (d + 2) 47 (.agg [.int .i64 a0, .int .i64 a1, .int .i64 a2]) (.agg [.int .i64 b0, .int .i64 b1, .int .i64 b2]) = some (decide (a0 = b0) && decide (a1 = b1) && decide (a2 = b2)) := by
 rw [z3w Tryz.underlying47 (by kernel_rfl)]
 simp only [z2e, z6g, List.getElem?_cons_zero, List.getElem?_cons_succ, List.drop_succ_cons, List.drop_zero, List.take_succ_cons, List.take_zero, List.length_cons, List.length_nil, Nat.reduceAdd, Nat.reduceLeDiff, if_true, if_false, Bool.false_eq_true, ne_eq, String.reduceEq, not_false_eq_true, decide_eq_true_eq, z40, z9y, z9z, z8y Tryz.underlying3]
 (repeat' split) <;> simp_all
@[go_sem] theorem eqU47 (a0 b0 : Int) (a1 b1 : Int) (a2 b2 : Int) : eqD Tryz.prog 8 47 (.agg [.int .i64 a0, .int .i64 a1, .int .i64 a2]) (.agg [.int .i64 b0, .int .i64 b1, .int .i64 b2]) = some (decide (a0 = b0) && decide (a1 = b1) && decide (a2 = b2)) := eqT47 6 a0 b0 a1 b1 a2 b2
attribute [go_sem] zzw
theorem zzx : Tryz.prog.eqGuardType Tryz.prog.depth 48 = false := by kernel_rfl
theorem eqT48 (d : Nat) (a0 b0 : Int) (a1 b1 : Int) (a2 b2 : Int) : eqD Tryz.prog (d + 2) 48 (.agg [.int .i64 a0, .int .i64 a1, .int .i64 a2]) (.agg [.int .i64 b0, .int .i64 b1, .int .i64 b2]) = some (decide (a0 = b0) && decide (a1 = b1) && decide (a2 = b2)) := by
 rw [z3w Tryz.underlying48 (by kernel_rfl)]
 simp only [z2e, z6g, List.getElem?_cons_zero, List.getElem?_cons_succ, List.drop_succ_cons, List.drop_zero, List.take_succ_cons, List.take_zero, List.length_cons, List.length_nil, Nat.reduceAdd, Nat.reduceLeDiff, if_true, if_false, Bool.false_eq_true, ne_eq, String.reduceEq, not_false_eq_true, decide_eq_true_eq, z40, z9y, z9z, z8y Tryz.underlying3]
 (repeat' split) <;> simp_all
@[go_sem] theorem eqU48 (a0 b0 : Int) (a1 b1 : Int) (a2 b2 : Int) : eqD Tryz.prog 8 48 (.agg [.int .i64 a0, .int .i64 a1, .int .i64 a2]) (.agg [.int .i64 b0, .int .i64 b1, .int .i64 b2]) = some (decide (a0 = b0) && decide (a1 = b1) && decide (a2 = b2)) := eqT48 6 a0 b0 a1 b1 a2 b2
attribute [go_sem] zzx
theorem zzy : Tryz.prog.eqGuardType Tryz.prog.depth 49 = false := by kernel_rfl
theorem eqT49 (d : Nat) (a0 b0 : ByteArray) (a1 b1 : Int) (a2 b2 : Int) (a3 b3 : Int) : eqD Tryz.prog (d + 3) 49 (.agg [.str a0, .int .i64 a1, .int .i64 a2, .int .i64 a3]) (.agg [.str b0, .int .i64 b1, .int .i64 b2, .int .i64 b3]) = some (decide (a0 = b0) && (decide (a1 = b1) && decide (a2 = b2) && decide (a3 = b3))) := by
 rw [z3w Tryz.underlying49 (by kernel_rfl)]
 simp only [z2e, z6g, List.getElem?_cons_zero, List.getElem?_cons_succ, List.drop_succ_cons, List.drop_zero, List.take_succ_cons, List.take_zero, List.length_cons, List.length_nil, Nat.reduceAdd, Nat.reduceLeDiff, if_true, if_false, Bool.false_eq_true, ne_eq, String.reduceEq, not_false_eq_true, decide_eq_true_eq, z8x, zjf, zft, zjh Tryz.underlying9, zpu, zpv, zv2, eqT48]
 (repeat' split) <;> simp_all
@[go_sem] theorem eqU49 (a0 b0 : ByteArray) (a1 b1 : Int) (a2 b2 : Int) (a3 b3 : Int) : eqD Tryz.prog 8 49 (.agg [.str a0, .int .i64 a1, .int .i64 a2, .int .i64 a3]) (.agg [.str b0, .int .i64 b1, .int .i64 b2, .int .i64 b3]) = some (decide (a0 = b0) && (decide (a1 = b1) && decide (a2 = b2) && decide (a3 = b3))) := eqT49 5 a0 b0 a1 b1 a2 b2 a3 b3
attribute [go_sem] zzy
theorem zzz : Tryz.prog.eqGuardType Tryz.prog.depth 50 = false := by kernel_rfl
theorem eqT50 (d : Nat) (a0 b0 : ByteArray) (a1 b1 : Int) (a2 b2 : Int) (a3 b3 : Int) : eqD Tryz.prog (d + 3) 50 (.agg [.str a0, .int .i64 a1, .int .i64 a2, .int .i64 a3]) (.agg [.str b0, .int .i64 b1, .int .i64 b2, .int .i64 b3]) = some (decide (a0 = b0) && (decide (a1 = b1) && decide (a2 = b2) && decide (a3 = b3))) := by
 rw [z3w Tryz.underlying50 (by kernel_rfl)]
 simp only [z2e, z6g, List.getElem?_cons_zero, List.getElem?_cons_succ, List.drop_succ_cons, List.drop_zero, List.take_succ_cons, List.take_zero, List.length_cons, List.length_nil, Nat.reduceAdd, Nat.reduceLeDiff, if_true, if_false, Bool.false_eq_true, ne_eq, String.reduceEq, not_false_eq_true, decide_eq_true_eq, z8x, zjf, zft, zjh Tryz.underlying9, zpu, zpv, zv2, eqT48]
 (repeat' split) <;> simp_all
@[go_sem] theorem eqU50 (a0 b0 : ByteArray) (a1 b1 : Int) (a2 b2 : Int) (a3 b3 : Int) : eqD Tryz.prog 8 50 (.agg [.str a0, .int .i64 a1, .int .i64 a2, .int .i64 a3]) (.agg [.str b0, .int .i64 b1, .int .i64 b2, .int .i64 b3]) = some (decide (a0 = b0) && (decide (a1 = b1) && decide (a2 = b2) && decide (a3 = b3))) := eqT50 5 a0 b0 a1 b1 a2 b2 a3 b3
attribute [go_sem] zzz
theorem zv6 : Tryz.prog.eqGuardType Tryz.prog.depth 121 = false := by kernel_rfl
theorem eqT121 (d : Nat) (a0 b0 : Int) (a1 b1 : ByteArray) : eqD Tryz.prog (d + 2) 121 (.agg [.int .i64 a0, .str a1]) (.agg [.int .i64 b0, .str b1]) = some (decide (a0 = b0) && decide (a1 = b1)) := by
 rw [z3w Tryz.underlying121 (by kernel_rfl)]
 simp only [z2e, z6g, List.getElem?_cons_zero, List.getElem?_cons_succ, List.drop_succ_cons, List.drop_zero, List.take_succ_cons, List.take_zero, List.length_cons, List.length_nil, Nat.reduceAdd, Nat.reduceLeDiff, if_true, if_false, Bool.false_eq_true, ne_eq, String.reduceEq, not_false_eq_true, decide_eq_true_eq, z40, z9y, z9z, z8y Tryz.underlying3, z8x, zjf, zft, zjh Tryz.underlying9]
 (repeat' split) <;> simp_all
@[go_sem] theorem eqU121 (a0 b0 : Int) (a1 b1 : ByteArray) : eqD Tryz.prog 8 121 (.agg [.int .i64 a0, .str a1]) (.agg [.int .i64 b0, .str b1]) = some (decide (a0 = b0) && decide (a1 = b1)) := eqT121 6 a0 b0 a1 b1
attribute [go_sem] zv6
theorem zv7 : Tryz.prog.eqGuardType Tryz.prog.depth 122 = false := by kernel_rfl
theorem eqT122 (d : Nat) (a0 b0 : Int) (a1 b1 : ByteArray) : eqD Tryz.prog (d + 2) 122 (.agg [.int .i64 a0, .str a1]) (.agg [.int .i64 b0, .str b1]) = some (decide (a0 = b0) && decide (a1 = b1)) := by
 rw [z3w Tryz.underlying122 (by kernel_rfl)]
 simp only [z2e, z6g, List.getElem?_cons_zero, List.getElem?_cons_succ, List.drop_succ_cons, List.drop_zero, List.take_succ_cons, List.take_zero, List.length_cons, List.length_nil, Nat.reduceAdd, Nat.reduceLeDiff, if_true, if_false, Bool.false_eq_true, ne_eq, String.reduceEq, not_false_eq_true, decide_eq_true_eq, z40, z9y, z9z, z8y Tryz.underlying3, z8x, zjf, zft, zjh Tryz.underlying9]
 (repeat' split) <;> simp_all
@[go_sem] theorem eqU122 (a0 b0 : Int) (a1 b1 : ByteArray) : eqD Tryz.prog 8 122 (.agg [.int .i64 a0, .str a1]) (.agg [.int .i64 b0, .str b1]) = some (decide (a0 = b0) && decide (a1 = b1)) := eqT122 6 a0 b0 a1 b1
attribute [go_sem] zv7
theorem zv8 : Tryz.prog.eqGuardType Tryz.prog.depth 128 = false := by kernel_rfl
theorem eqT128 (d : Nat) (a0 b0 : Int) (a1 b1 : Int) : eqD Tryz.prog (d + 2) 128 (.agg [.int .i64 a0, .int .i64 a1]) (.agg [.int .i64 b0, .int .i64 b1]) = some (decide (a0 = b0) && decide (a1 = b1)) := by
 rw [z3w Tryz.underlying128 (by kernel_rfl)]
 simp only [z2e, z6g, List.getElem?_cons_zero, List.getElem?_cons_succ, List.drop_succ_cons, List.drop_zero, List.take_succ_cons, List.take_zero, List.length_cons, List.length_nil, Nat.reduceAdd, Nat.reduceLeDiff, if_true, if_false, Bool.false_eq_true, ne_eq, String.reduceEq, not_false_eq_true, decide_eq_true_eq, z40, z9y, z9z, z8y Tryz.underlying3]
 (repeat' split) <;> simp_all
@[go_sem] theorem eqU128 (a0 b0 : Int) (a1 b1 : Int) : eqD Tryz.prog 8 128 (.agg [.int .i64 a0, .int .i64 a1]) (.agg [.int .i64 b0, .int .i64 b1]) = some (decide (a0 = b0) && decide (a1 = b1)) := eqT128 6 a0 b0 a1 b1
attribute [go_sem] zv8
theorem zv9 : Tryz.prog.eqGuardType Tryz.prog.depth 129 = false := by kernel_rfl
theorem eqT129 (d : Nat) (a0 b0 : Int) (a1 b1 : Int) : eqD Tryz.prog (d + 2) 129 (.agg [.int .i64 a0, .int .i64 a1]) (.agg [.int .i64 b0, .int .i64 b1]) = some (decide (a0 = b0) && decide (a1 = b1)) := by
 rw [z3w Tryz.underlying129 (by kernel_rfl)]
 simp only [z2e, z6g, List.getElem?_cons_zero, List.getElem?_cons_succ, List.drop_succ_cons, List.drop_zero, List.take_succ_cons, List.take_zero, List.length_cons, List.length_nil, Nat.reduceAdd, Nat.reduceLeDiff, if_true, if_false, Bool.false_eq_true, ne_eq, String.reduceEq, not_false_eq_true, decide_eq_true_eq, z40, z9y, z9z, z8y Tryz.underlying3]
 (repeat' split) <;> simp_all
@[go_sem] theorem eqU129 (a0 b0 : Int) (a1 b1 : Int) : eqD Tryz.prog 8 129 (.agg [.int .i64 a0, .int .i64 a1]) (.agg [.int .i64 b0, .int .i64 b1]) = some (decide (a0 = b0) && decide (a1 = b1)) := eqT129 6 a0 b0 a1 b1
attribute [go_sem] zv9
@[go_sem] theorem eqUL3 (a b : Int) : eqD Tryz.prog 8 3 (.int .i64 a) (.int .i64 b) = some (decide (a = b)) := z8y Tryz.underlying3
theorem zji : Tryz.prog.follows .mixedOrders = true := by kernel_rfl

/-- A contract out of a walk, its decisions in one. -/
theorem z0z (own : List Nat) {f : FuncId} {fn : Func} {c : Code} (hf : Tryz.prog.funcs[f]? = some fn) (hb : fn.body = some c) (hh : (fn.name == "runtime.NumGoroutine") = false /\ z8m fn.ntmps c = true)
    {ds : List D} {H : HM} {nx : Nat} {K : D -> HM -> Nat -> Prop} (hds : Nat.ble ds.length fn.ntmps = true) (h : awp Tryz.prog own c (retQ Tryz.prog fn.results.toList K) (st0 ds H nx)) : AC Tryz.prog f ds H nx K :=
  zqze own hf hb hh.1 zji hh.2 (Nat.le_of_ble_eq_true hds) h
end Go.Proofs.YtlfohdkfpdkhhaaGreatDoor.Facts
namespace Go.Proofs.YtlfohdkfpdkhhaaGreatDoor.Abs
open Go.RowKit Go.ChangeShapes Facts
def zu4 (P : Program) : Nat -> TypeId -> DataW Unit -> Option (List D)
 | 0, _, _ => none
 | n + 1, t, d => match P.underlying t, d with
  | some .string, .lit (.string l) => some [.str ⟨l.toArray⟩]
  | some (.int k), .lit (.int _ i) => some [.int k i]
  | some (.slice _), .nil => some [.nil]
  | some (.slice e), .slice ds _ => (ds.mapM (zu4 P n e)).map fun parts => [.rsl true (z09 P e) (parts.map (elD (z0f P e)))]
  | some (.array m e), .agg ds => if P.cellsOf t = m * P.cellsOf e then (ds.mapM (zu4 P n e)).map List.flatten else none
  | _, _ => none
section
variable {P : Program} {W : World} {base : Nat} {spare : Nat -> Bool} {held : Bool}
theorem zu5 : ∀ (n : Nat) (m : Nat) (t : TypeId) (cs : List Value) (d : DataW Unit) (p : List MemPlace) (ds : List D), DataW.trod (fun _ => ()) P W base spare held m t cs = some (d, p) -> zu4 P n t d = some ds ->
  relAll (z7p W) ds cs /\ z6k cs /\ (z0f P t = false -> ∃ c d', cs = [c] /\ ds = [d']) := by
 intro n
 induction n with
 | zero => intro m t cs d p ds _ h; simp [zu4] at h
 | succ n ih =>
  intro m t cs d p ds ht h
  unfold zu4 at h
  split at h
  ·rename_i l hu
   simp only [Option.some.injEq] at h
   subst h
   obtain ⟨s, rfl, hx, _⟩ := DataW.trod_string hu ht
   simp only [Prod.mk.injEq, DataW.lit.injEq, Lit.string.injEq] at hx
   obtain ⟨rfl, _⟩ := hx
   obtain ⟨h1, h2⟩ := z6u (W := W) (d := .str ⟨s.data.toList.toArray⟩) (v := .string s) (by simp only [rel]) rfl
   exact ⟨h1, h2, fun _ => ⟨_, _, rfl, rfl⟩⟩
  ·rename_i k k' i hu
   simp only [Option.some.injEq] at h
   subst h
   obtain ⟨i', rfl, hx, _⟩ := DataW.trod_int hu ht
   simp only [Prod.mk.injEq, DataW.lit.injEq, Lit.int.injEq] at hx
   obtain ⟨⟨_, rfl⟩, _⟩ := hx
   obtain ⟨h1, h2⟩ := z6u (W := W) (d := .int k i) (v := .int k i) (by simp [rel]) rfl
   exact ⟨h1, h2, fun _ => ⟨_, _, rfl, rfl⟩⟩
  ·rename_i e hu
   simp only [Option.some.injEq] at h
   subst h
   rcases DataW.trod_slice hu ht with ⟨rfl, _⟩ | ⟨_, _, _, _, _, _, _, _, hx, _⟩
   ·obtain ⟨h1, h2⟩ := z6u (W := W) (d := .nil) (v := .slice none 0 0) (by simp [rel]) rfl
    exact ⟨h1, h2, fun _ => ⟨_, _, rfl, rfl⟩⟩
   ·simp at hx
  ·rename_i e dl sp hu
   rcases DataW.trod_slice hu ht with ⟨_, hx⟩ | ⟨a, len, cap, elems, rest, m, hm, rfl, hx, _, hl, hcm, hlen, hel, _⟩
   ·simp at hx
   simp only [Prod.mk.injEq, DataW.slice.injEq] at hx
   obtain ⟨⟨rfl, _⟩, _⟩ := hx
   simp only [Option.map_eq_some_iff] at h
   obtain ⟨parts, hparts, rfl⟩ := h
   have hpl : parts.length = len := by
    have := mapM_some_length hparts
    simpa [hlen] using this
   have each : ∀ i : _root_.Fin len, ∃ p : List Value × List D, parts[i.1]? = some p.2 /\ W.cells? base (a.add (i * P.cellsOf e)) (P.cellsOf e) = some p.1 /\ relAll (z7p W) p.2 p.1 /\ z6k p.1 /\ (z0f P e = false -> ∃ c d, p.1 = [c] /\ p.2 = [d]) := by
    intro i
    have hi := hel i i.2
    rw [List.getElem?_eq_getElem (by omega), Option.bind_eq_some_iff] at hi
    obtain ⟨cs', h1, h2⟩ := hi
    have hg := mapM_some_get hparts i.1 (elems[i.1]'(by omega)).1 (by rw [List.getElem?_map, List.getElem?_eq_getElem (by omega)]; rfl)
    rw [List.getElem?_eq_getElem (by omega)] at hg
    obtain ⟨k1, k2, k4⟩ := ih _ e cs' _ _ _ h2 hg
    exact ⟨(cs', parts[i.1]'(by omega)), List.getElem?_eq_getElem (by omega), h1, k1, k2, k4⟩
   obtain ⟨f, hf⟩ := Classical.axiomOfChoice each
   have hag : ∀ i, rel (z7p W) (elD (z0f P e) (f i).2) (elV (z0f P e) (f i).1) /\ (elV (z0f P e) (f i).1).cells.toList = (f i).1 := by
    intro i
    obtain ⟨_, h1, h2, h3, h5⟩ := hf i
    cases hag : z0f P e with
    | true =>
     simp only [elD, elV, if_true, Value.cells]
     exact ⟨by simp only [rel]; exact ⟨_, rfl, h2, h3⟩, trivial⟩
    | false =>
     obtain ⟨c, d, hc1, hd1⟩ := h5 hag
     rw [hc1, hd1] at h2
     rw [hc1] at h3
     simp only [elD, elV, hc1, hd1, Bool.false_eq_true, if_false, List.getElem?_cons_zero, Option.getD_some]
     simp only [relAll] at h2
     obtain ⟨v, r, hv, hrel, hr⟩ := h2
     simp only [List.cons.injEq] at hv
     obtain ⟨rfl, rfl⟩ := hv
     refine ⟨hrel, ?_⟩
     rw [z2g (h3 c (by simp))]
   have hsz : z09 P e = P.cellsOf e := rfl
   obtain ⟨h1, h2⟩ := z6u (W := W) (d := .rsl true (z09 P e) (parts.map (elD (z0f P e)))) (v := .slice (some a) len cap) (by
    simp only [rel]
    refine .inr ⟨a, cap, List.ofFn fun i => elV (z0f P e) (f i).1, by simp [hpl], by simpa [hpl] using hl, hcm, z5b (by simp [hpl]) (fun i d v V hv => ?_), fun i v hv => ?_⟩
    ·simp only [List.getElem?_map, List.getElem?_ofFn] at V hv
     split at hv
     ·rename_i hi
      rw [(hf ⟨i, hi⟩).1] at V
      simp only [Option.map_some, Option.some.injEq] at V hv
      subst V; subst hv
      exact (hag ⟨i, hi⟩).1
     ·cases hv
    ·simp only [List.getElem?_ofFn] at hv
     split at hv
     ·rename_i hi
      simp only [Option.some.injEq] at hv
      subst hv
      obtain ⟨_, g1, _⟩ := hf ⟨i, hi⟩
      obtain ⟨_, g2, g3⟩ := World.cells?_some g1
      have g4 := (hag ⟨i, hi⟩).2
      refine ⟨by rw [<- Array.length_toList, g4, g2, hsz], fun j c hj => ?_⟩
      rw [g4] at hj
      have hjl : j < P.cellsOf e := by rw [<- g2]; exact (List.getElem?_eq_some_iff.1 hj).1
      have := g3 j hjl
      rw [hj] at this
      exact this
     ·cases hv) rfl
   exact ⟨h1, h2, fun _ => ⟨_, _, rfl, rfl⟩⟩
  ·rename_i m' e dl hu
   split at h
   ·rename_i hc
    obtain ⟨xs, m1, hm, hx, hcl, hxl, hxe⟩ := DataW.trod_array hu ht
    simp only [Prod.mk.injEq, DataW.agg.injEq] at hx
    obtain ⟨rfl, _⟩ := hx
    simp only [Option.map_eq_some_iff] at h
    obtain ⟨parts, hparts, rfl⟩ := h
    have hpl : parts.length = m' := by
     have := mapM_some_length hparts
     simpa [hxl] using this
    have key : ∀ k, k <= m' -> relAll (z7p W) (parts.take k).flatten (cs.take (k * P.cellsOf e)) /\ z6k (cs.take (k * P.cellsOf e)) := by
     intro k
     induction k with
     | zero => intro _; simp only [List.take_zero, List.flatten_nil, Nat.zero_mul]; exact ⟨z0y, zl1⟩
     | succ k ihk =>
      intro O
      obtain ⟨q1, q2⟩ := ihk (by omega)
      have hi := hxe k (by omega)
      rw [List.getElem?_eq_getElem (by omega)] at hi
      have hg := mapM_some_get hparts k (xs[k]'(by omega)).1 (by rw [List.getElem?_map, List.getElem?_eq_getElem (by omega)]; rfl)
      rw [List.getElem?_eq_getElem (by omega)] at hg
      obtain ⟨k1, k2, _⟩ := ih _ e _ _ _ _ hi hg
      rw [List.take_succ_eq_append_getElem (by omega), List.flatten_append, Nat.add_mul, Nat.one_mul, List.take_add]
      simp only [List.flatten_cons, List.flatten_nil, List.append_nil]
      exact ⟨z1n q1 k1, z3t q2 k2⟩
    obtain ⟨q1, q2⟩ := key m' (Nat.le_refl _)
    rw [List.take_of_length_le (by omega), List.take_of_length_le (by omega)] at q1
    rw [List.take_of_length_le (by omega)] at q2
    refine ⟨q1, q2, fun hag => ?_⟩
    simp only [z0f, hu] at hag
    cases hag
   ·cases h
  ·cases h
theorem zn0 {g : Nat} {nm : String} {t : TypeId} {cs : Array Value} {fuel : Nat} {d : DataW Unit} {p : List MemPlace} {ds : List D} (hg : P.globalNamed nm = some g) (hv : W.var? P nm = some cs)
  (V : DataW.trod (fun _ => ()) P W 0 (fun _ => true) false fuel t cs.toList = some (d, p)) (hr : zu4 P 4 t d = some ds) : rel (z7p W) (.rptr (.agg ds)) (.pointer (some ⟨g, 0, none⟩)) := by
 obtain ⟨h1, h2, _⟩ := zu5 4 fuel t cs.toList d p ds V hr
 simp only [rel]
 refine ⟨_, .agg cs, rfl, ⟨cs.toList, by simp, h1, h2⟩, fun j c hj => ?_⟩
 have := World.var?_cell hg hv j
 rw [z1b, Nat.zero_add]
 show W.cell? _ = _
 rw [this]
 simpa [Value.cells] using hj
end
end Go.Proofs.YtlfohdkfpdkhhaaGreatDoor.Abs
namespace Go.Proofs.YtlfohdkfpdkhhaaGreatDoor
open Abs Facts Go.RowKit Go.ChangeShapes Go.WideShapes Go.ChangeAt Go.WideMaps Go.WideElems
namespace Glue
def laidList : List (String × DataW Unit) := [("pandect/unit.names", Rows.laid_pandect_unit_names), ("pandect/unit.below", Rows.laid_pandect_unit_below)]
theorem gNames : Tryz.prog.globalNamed "pandect/unit.names" = some 0 := by kernel_rfl
theorem gBelow : Tryz.prog.globalNamed "pandect/unit.below" = some 1 := by kernel_rfl
theorem tNames : (Tryz.prog.globals[0]?).map (·.type) = some 148 := by kernel_rfl
theorem tBelow : (Tryz.prog.globals[1]?).map (·.type) = some 156 := by kernel_rfl
theorem door_met (os : Os) (args : Array Value) : laidMetH Tryz.prog laidList ((World.doorLaid Tryz.prog 400 os).forCall (fun _ _ => 0) ⟨#[], args, []⟩).memory :=
 laidMetH_of_parts3 (fuel := 8) (laidMet_of_run' 8 (by kernel_rfl) (by kernel_rfl)) (by kernel_rfl) (by kernel_rfl)
theorem globOK_laid {W : World} (h : laidMetH Tryz.prog laidList W) : zvm W := by
 rw [MakeChecks.laidMetH_plain _ _ _ (by kernel_rfl)] at h
 obtain ⟨ps, ⟨g0, t0, cs0, f0, p0, q0, hg0, ht0, hv0, hd0, ⟨g1, t1, cs1, f1, p1, q1, hg1, ht1, hv1, hd1, _, _⟩, _⟩, _, _⟩ := h
 obtain rfl := Option.some.inj (gNames.symm.trans hg0)
 obtain rfl := Option.some.inj (gBelow.symm.trans hg1)
 obtain rfl := Option.some.inj (tNames.symm.trans ht0)
 obtain rfl := Option.some.inj (tBelow.symm.trans ht1)
 have r0 : rel (z7p W) (globD 0) (.pointer (some ⟨0, 0, none⟩)) := zn0 hg0 hv0 hd0 (by kernel_rfl)
 have r1 : rel (z7p W) (globD 1) (.pointer (some ⟨1, 0, none⟩)) := zn0 hg1 hv1 hd1 (by kernel_rfl)
 intro g
 match g with
 | 0 => first | exact r0 | exact r1
 | 1 => first | exact r0 | exact r1
 | n + 2 => simp only [globD, rel]
end Glue
end Go.Proofs.YtlfohdkfpdkhhaaGreatDoor
namespace Go.Proofs.YtlfohdkfpdkhhaaGreatDoor
section
open Abs
namespace Tr
structure Idv where
 act : Int
 item : Int
 n : Int
instance : DecidableEq Idv := fun a b => decidable_of_iff (a.act = b.act /\ a.item = b.item /\ a.n = b.n) ⟨fun ⟨h1, h2, h3⟩ => by cases a; cases b; simp_all, fun h => by subst h; exact ⟨rfl, rfl, rfl⟩⟩
def Idv.zero : Idv := ⟨0, 0, 0⟩
structure Wd where
 text : ByteArray
 by_ : Idv
instance : DecidableEq Wd := fun a b => decidable_of_iff (a.text = b.text /\ a.by_ = b.by_) ⟨fun ⟨h1, h2⟩ => by cases a; cases b; simp_all, fun h => by subst h; exact ⟨rfl, rfl⟩⟩
inductive T where
 | mk (id : Idv) (kind : Int) (label : ByteArray) (head words : List Wd) (kids : List T)
def T.id : T -> Idv | .mk i _ _ _ _ _ => i
def T.kind : T -> Int | .mk _ k _ _ _ _ => k
def T.label : T -> ByteArray | .mk _ _ l _ _ _ => l
def T.head : T -> List Wd | .mk _ _ _ h _ _ => h
def T.words : T -> List Wd | .mk _ _ _ _ w _ => w
def T.kids : T -> List T | .mk _ _ _ _ _ k => k
theorem T.eta (t : T) : T.mk t.id t.kind t.label t.head t.words t.kids = t := by cases t; rfl
mutual
theorem z4x {p : T -> Prop} (h : ∀ t, (∀ k ∈ t.kids, p k) -> p t) : ∀ t, p t
 | .mk i k l a b ks => h (.mk i k l a b ks) (ind2 h ks)
theorem ind2 {p : T -> Prop} (h : ∀ t, (∀ k ∈ t.kids, p k) -> p t) : ∀ (ks : List T), ∀ k ∈ ks, p k
 | [], k, O => by cases O
 | t :: ts, k, O => by
  rcases List.mem_cons.1 O with e | O
  ·rw [e]; exact z4x h t
  ·exact ind2 h ts k O
end
mutual
def zhs {β : Type} (f : T -> List β -> β) : T -> β
 | .mk i k l a b ks => f (.mk i k l a b ks) (recL f ks)
def recL {β : Type} (f : T -> List β -> β) : List T -> List β
 | [] => []
 | t :: ts => zhs f t :: recL f ts
end
theorem zx8 {β : Type} (f : T -> List β -> β) : ∀ ks, recL f ks = ks.map (zhs f)
 | [] => rfl
 | t :: ts => by simp [recL, zx8 f ts]
theorem z46 {β : Type} (f : T -> List β -> β) (t : T) : zhs f t = f t (t.kids.map (zhs f)) := by
 cases t with
 | mk i k l a b ks => rw [zhs, zx8]; rfl
end Tr
namespace Abs
open Tr
def z0b (i : Idv) : List D := [.int .i64 i.act, .int .i64 i.item, .int .i64 i.n]
def z1a (i : Idv) : D := .agg (z0b i)
def z15 (l : List Idv) : D := .rsl false 3 (l.map z1a)
def z10 (w : Wd) : List D := [.str w.text, .int .i64 w.by_.act, .int .i64 w.by_.item, .int .i64 w.by_.n]
def z7q (w : Wd) : D := .agg (z10 w)
def z0n (l : List Wd) : D := .rsl false 4 (l.map z7q)
def zx9 (t : T) (ks : List (List D)) : List D := [.int .i64 t.id.act, .int .i64 t.id.item, .int .i64 t.id.n, .int .i64 t.kind, .str t.label, z0n t.head, z0n t.words, .rsl false 8 (ks.map .agg)]
def z0a (t : T) : List D := zhs zx9 t
def z0g (t : T) : D := .agg (z0a t)
def z0q (l : List T) : D := .rsl false 8 (l.map z0g)
theorem z0k (t : T) : z0a t = [.int .i64 t.id.act, .int .i64 t.id.item, .int .i64 t.id.n, .int .i64 t.kind, .str t.label, z0n t.head, z0n t.words, z0q t.kids] := by
 unfold z0a
 rw [z46, zx9, List.map_map]; rfl
@[go_sem] theorem z0c (t : T) : (z0a t).length = 8 := by rw [z0k]; rfl
@[go_sem] theorem cellsU_kind (t : T) : (z0a t)[3]? = some (.int .i64 t.kind) := by rw [z0k]; rfl
@[go_sem] theorem cellsU_label (t : T) : (z0a t)[4]? = some (.str t.label) := by rw [z0k]; rfl
@[go_sem] theorem cellsU_head (t : T) : (z0a t)[5]? = some (z0n t.head) := by rw [z0k]; rfl
@[go_sem] theorem cellsU_words (t : T) : (z0a t)[6]? = some (z0n t.words) := by rw [z0k]; rfl
@[go_sem] theorem cellsU_kids (t : T) : (z0a t)[7]? = some (z0q t.kids) := by rw [z0k]; rfl
@[go_sem] theorem cellsU_id (t : T) : List.take 3 (z0a t) = [.int .i64 t.id.act, .int .i64 t.id.item, .int .i64 t.id.n] := by rw [z0k]; rfl
@[go_sem] theorem cellsU_take (t : T) : List.take 8 (z0a t) = z0a t := List.take_of_length_le (by rw [z0c]; exact Nat.le_refl _)
@[go_sem] theorem splice_cellsU (a b c d e f g h : D) (t : T) : z17 [a, b, c, d, e, f, g, h] 0 (z0a t) = z0a t := by
 rw [z0k]; rfl
@[go_sem] theorem encU_agg (t : T) : z0g t = .agg (z0a t) := rfl
@[go_sem] theorem encWd_agg (w : Wd) : z7q w = .agg [.str w.text, .int .i64 w.by_.act, .int .i64 w.by_.item, .int .i64 w.by_.n] := rfl
@[go_sem] theorem encId_agg (i : Idv) : z1a i = .agg [.int .i64 i.act, .int .i64 i.item, .int .i64 i.n] := rfl
theorem z0h (l : List Wd) : pureD (z0n l) = true := by simp only [z0n, pureD]; exact z0r (fun _ => rfl) l
theorem z47 (l : List Idv) : pureD (z15 l) = true := by simp only [z15, pureD]; exact z0r (fun _ => rfl) l
theorem zrh {f : T -> D} : ∀ {l : List T}, (∀ t ∈ l, pureD (f t) = true) -> pureD.pureL (l.map f) = true
 | [], _ => rfl
 | t :: l, h => by
  simp only [List.map_cons, pureD.pureL, Bool.and_eq_true]
  exact ⟨h t (by simp), zrh fun k O => h k (List.mem_cons_of_mem _ O)⟩
theorem z01 : ∀ t, pureD (z0g t) = true := by
 refine z4x fun t ih => ?_
 rw [z0g, z0k]
 have O : pureD (z0q t.kids) = true := by simp only [z0q, pureD]; exact zrh ih
 simp only [pureD, pureD.pureL, Bool.true_and, Bool.and_true, z0h, O]
theorem z04 (t : T) : pureD.pureL (z0a t) = true := by have := z01 t; simpa only [z0g, pureD] using this
theorem z3l (l : List T) : pureD (z0q l) = true := by simp only [z0q, pureD]; exact z0r z01 l
@[go_sem] theorem ze7 (l : List T) : pureD.pureL (l.map z0g) = true := z0r z01 l
@[go_sem] theorem pureL_encWd (l : List Wd) : pureD.pureL (l.map z7q) = true := z0r (fun _ => rfl) l
@[go_sem] theorem pureL_encId (l : List Idv) : pureD.pureL (l.map z1a) = true := z0r (fun _ => rfl) l
attribute [go_sem] z04
@[go_sem] theorem idEq (i j : Idv) : (decide (i.act = j.act) && (decide (i.item = j.item) && decide (i.n = j.n))) = decide (i = j) := by
 obtain ⟨a, b, c⟩ := i; obtain ⟨a', b', c'⟩ := j
 rw [Bool.eq_iff_iff]; simp [Idv.mk.injEq]
@[go_sem] theorem idEq' (i j : Idv) : (decide (i.act = j.act) && decide (i.item = j.item) && decide (i.n = j.n)) = decide (i = j) := by rw [Bool.and_assoc, idEq]
@[go_sem] theorem idZ (i : Idv) : (decide (i.act = 0) && (decide (i.item = 0) && decide (i.n = 0))) = decide (i = Idv.zero) := idEq i Idv.zero
@[go_sem] theorem idZ' (i : Idv) : (decide (i.act = 0) && decide (i.item = 0) && decide (i.n = 0)) = decide (i = Idv.zero) := idEq' i Idv.zero
@[go_sem] theorem wdEq (u v : Wd) : (decide (u.text = v.text) && decide (u.by_ = v.by_)) = decide (u = v) := by
 obtain ⟨a, b⟩ := u; obtain ⟨a', b'⟩ := v
 rw [Bool.eq_iff_iff]; simp [Wd.mk.injEq]
end Abs
end
open _root_.Go.Proofs.Tryz
section
open Abs Facts Tr
attribute [local irreducible] awp
namespace Tr
def zaj (l : List Wd) : Bool := l.all (fun w => decide (w.text.size <= 100)) && decide (l.length <= 300)
def zh5 (t : T) : Bool := zhs (fun t l => decide (t.label.size <= 30) && (zaj t.head && (zaj t.words && l.all id))) t
theorem zmz (t : T) : zh5 t = (decide (t.label.size <= 30) && (zaj t.head && (zaj t.words && t.kids.all zh5))) := by
 unfold zh5
 rw [z46, List.all_map]; rfl
theorem zak {α : Type} {f : α -> Bool} {l : List α} {k : Nat} (O : k < l.length) (h : f l[k] = false) : l.all f = false := List.all_eq_false.2 ⟨_, List.getElem_mem O, by simp [h]⟩
theorem z6s {α : Type} {f : α -> Bool} {l : List α} {k : Nat} (O : k < l.length) (h : (l.take k).all f = true) (h2 : f l[k] = true) : (l.take (k + 1)).all f = true := by
 rw [List.take_succ_eq_append_getElem O, List.all_append, h, List.all_cons, h2]; rfl
theorem z6t {α : Type} {f : α -> Bool} {l : List α} {k : Nat} (O : ¬ k < l.length) (h : (l.take k).all f = true) : l.all f = true := by rwa [List.take_of_length_le (by omega)] at h
end Tr
theorem zry (l : List Wd) (hl : l.length <= maxLen) : PC prog 76 [z0n l] (.bool (zaj l)) := by
 unfold maxLen at hl
 refine z14 1 (by simp only [pureD.pureL, z0h, Bool.and_self]) rfl (z0z [] func76 rfl (by decide +kernel) rfl ?_)
 show awp _ _ (Code.seq _ _) _ _
 repeat' (first | refine nxt ?_ | ((refine zqh fun K J => ?_); (simp (disch := omega) only [go_sem, z0n])) | (refine J _ ?_; clear J K))
 (refine z3c (fun U st => ∃ (k : _), U = l.length - k /\ st.t 0 = z0n l /\ st.t 3 = .int .i64 k /\ (k <= l.length) /\ ((l.take k).all (fun w => decide (w.text.size <= 100)) = true)) ?_ ?_); rotate_left; (rintro U st ⟨k, rfl, s0, s3, sp0, sp1⟩); rotate_left
 ·(refine ⟨_, 0, rfl, ?_⟩); (simp (disch := omega) only [go_sem, Nat.reduceBEq, true_and, Int.natCast_zero, z0n])
  try simp
 repeat' (first | refine nxt ?_ | ((first | refine zqh fun K J => ?_ | refine zqr fun K J => ?_); (simp (disch := omega) only [go_sem, Nat.reduceBEq, ↓reduceIte, reduceCtorEq, Nat.reduceAdd, s0, s3, z0n])) | ((first | refine zqd _ rfl (fun hc => ?_) (fun hc => ?_) | refine zqm _ rfl (fun hc => ?_) (fun hc => ?_)) <;> (((try simp only [z07] at hc); (try omega)))) | refine zqz ?_ | refine zqu (by simp only [go_sem]; rfl) rfl ?_ | (refine J _ ?_; clear J K))
 ·have O : k < l.length := by omega
  refine z03 ?_
  have : l.all (fun w => decide (w.text.size <= 100)) = false := zak O (decide_eq_false (by omega))
  simp only [zaj, this]; rfl
 ·have O : k < l.length := by omega
  (refine Exists.intro _ (And.intro ?_ ⟨k + 1, rfl, ?_⟩)); rotate_left; (simp (disch := omega) only [go_sem, Nat.reduceBEq, s0, s3, true_and, Int.natCast_add, Int.natCast_one]); rotate_left
  ·omega
  ·exact ⟨by omega, z6s O sp1 (decide_eq_true (by omega))⟩
 ·have := z6t (by omega) sp1
  refine z03 ?_
  simp only [zaj, this, Bool.true_and]
  congr 1; simp only [eq_iff_iff]; omega
namespace Tr
def fitB (t : T) : Bool := zhs (fun t l => decide (t.head.length <= maxLen) && (decide (t.words.length <= maxLen) && (decide (t.kids.length <= maxLen) && l.all id))) t
theorem zc4 (t : T) : fitB t = true ↔ t.head.length <= maxLen /\ t.words.length <= maxLen /\ t.kids.length <= maxLen /\ ∀ k ∈ t.kids, fitB k = true := by
 unfold fitB
 rw [z46]
 simp only [List.all_map, Bool.and_eq_true, decide_eq_true_iff, List.all_eq_true]
 rfl
def z42 (deep most : Int) : List (Int -> Int -> Int) -> Int -> Int
 | [], n => n
 | f :: fs, n => if n <= most then z42 deep most fs (n + f (deep + 1) (most - n)) else n
def z4d (t : T) : Int -> Int -> Int := zhs (fun _ l deep most => if 20 < deep then most + 1 else z42 deep most l 1) t
theorem zkn (t : T) (deep most : Int) : z4d t deep most = if 20 < deep then most + 1 else z42 deep most (t.kids.map z4d) 1 := by
 unfold z4d; rw [z46]
theorem ziz (deep most : Int) (f : Int -> Int -> Int) : ∀ (l : List (Int -> Int -> Int)) (n : Int), z42 deep most l n <= most -> z42 deep most (l ++ [f]) n = z42 deep most l n + f (deep + 1) (most - z42 deep most l n)
 | [], n, h => by simp only [z42] at h; simp only [List.nil_append, z42]; rw [if_pos h]
 | g :: l, n, h => by
  simp only [List.cons_append, z42] at h ⊢
  split at h
  ·rename_i hn
   simp only [hn, if_true]
   exact ziz deep most f l _ h
  ·omega
theorem zj0 (deep most : Int) : ∀ (l r : List (Int -> Int -> Int)) (n : Int), most < z42 deep most l n -> z42 deep most (l ++ r) n = z42 deep most l n
 | [], r, n, h => by
  simp only [z42] at h
  simp only [List.nil_append]
  cases r with
  | nil => rfl
  | cons f r => simp only [z42]; rw [if_neg (by omega)]
 | g :: l, r, n, h => by
  simp only [List.cons_append, z42] at h ⊢
  split
  ·rename_i hn
   simp only [hn, if_true] at h
   exact zj0 deep most l r _ h
  ·rfl
theorem zal {deep most : Int} : ∀ (l : List T), (∀ k ∈ l, ∀ (deep most : Int), 0 <= most -> 1 <= z4d k deep most /\ z4d k deep most <= most + 1) -> ∀ n : Int, 1 <= n -> n <= most + 1 -> 1 <= z42 deep most (l.map z4d) n /\ z42 deep most (l.map z4d) n <= most + 1
 | [], _, n, h1, h2 => ⟨h1, h2⟩
 | k :: l, O, n, h1, h2 => by
  simp only [List.map_cons, z42]
  split
  ·have := O k (by simp) (deep + 1) (most - n) (by omega)
   exact zal l (fun q hq => O q (List.mem_cons_of_mem _ hq)) _ (by omega) (by omega)
  ·exact ⟨h1, h2⟩
theorem z86 : ∀ (t : T) (deep most : Int), 0 <= most -> 1 <= z4d t deep most /\ z4d t deep most <= most + 1 := by
 refine z4x fun t ih deep most hm => ?_
 rw [zkn]
 split
 ·omega
 ·exact zal t.kids ih 1 (by omega) (by omega)
end Tr
theorem pc_words : ∀ t : T, fitB t = true -> PC prog 55 [z0g t] (.bool (zh5 t)) := by
 refine z4x fun t ih hfit => ?_
 obtain ⟨h1, h2, h3, h4⟩ := (zc4 t).1 hfit
 have ih := fun k O => ih k O (h4 k O)
 have hsh := zry t.head h1
 have hsw := zry t.words h2
 unfold maxLen at h1 h2 h3
 rw [zmz]
 refine z14 1 (by simp only [pureD.pureL, z01, Bool.and_self]) rfl (z0z [] func55 rfl (by decide +kernel) rfl ?_)
 show awp _ _ (Code.seq _ _) _ _
 repeat' (first | refine nxt ?_ | ((first | refine zqh fun K J => ?_ | refine zqs (hsh) ?_ | refine zqs (hsw) ?_); (simp (disch := omega) only [go_sem, Nat.reduceBEq, ↓reduceIte, reduceCtorEq, Nat.reduceAdd])) | (refine zqd _ rfl ?_ ?_ <;> intro hc <;> (first | (cases hc; done) | ((try simp only [z07] at hc); (try omega)))) | refine zqu (by simp only [go_sem]; rfl) rfl ?_ | (refine J _ ?_; clear J K) | (refine zqf (fun hb => ?_) (fun hb => ?_) <;> (have hb2 := hb; try simp only [z07] at hb2) <;> ((first | have F : (_ : Bool) = _ := hb2 | have F := eq_false hb2 | have F := eq_true hb2); (simp (disch := omega) only [go_sem, Nat.reduceBEq, ↓reduceIte, reduceCtorEq, Nat.reduceAdd, F]); clear hb F; (try omega))))
 rotate_right
 all_goals first | exact z03 (by simp_all; try omega) | skip
 have hlab : decide (t.label.size <= 30) = true := decide_eq_true (by omega)
 rw [hlab, ‹zaj t.head = true›, ‹zaj t.words = true›, Bool.true_and, Bool.true_and, Bool.true_and]
 (refine z3c (fun U st => ∃ (i : _), U = t.kids.length - i /\ st.t 1 = .ptr 0 0 /\ st.t 3 = .int .i64 i /\ st.H 0 = some (.box 27 (z0a t)) /\ (i <= t.kids.length) /\ ((t.kids.take i).all zh5 = true) /\ (1 <= st.nx)) ?_ ?_); rotate_left; (rintro U st ⟨i, rfl, s1, s3, sH0, sp0, sp1, sp2⟩); rotate_left
 ·(refine ⟨_, 0, rfl, ?_⟩); (simp (disch := omega) only [go_sem, Nat.reduceBEq, Nat.reduceLeDiff, true_and, and_true, Int.natCast_zero])
  try simp
 have hin := fun (h : i < t.kids.length) => ih t.kids[i] (List.getElem_mem h)
 repeat' (first | refine nxt ?_ | ((first | refine zqh fun K J => ?_ | refine zqr fun K J => ?_ | refine zqs (hin (by omega)) ?_); (simp (disch := omega) only [go_sem, Nat.reduceBEq, ↓reduceIte, reduceCtorEq, Nat.reduceAdd, s1, s3, sH0, z0q])) | ((first | refine zqd _ rfl (fun hc => ?_) (fun hc => ?_) | refine zqm _ rfl (fun hc => ?_) (fun hc => ?_)) <;> (((try simp only [z07] at hc); (try omega)))) | refine zqz ?_ | refine zqu (by simp only [go_sem]; rfl) rfl ?_ | (refine J _ ?_; clear J K))
 ·exact z03 (zak (k := i) (by omega) (by assumption)).symm
 ·(refine Exists.intro _ (And.intro ?_ ⟨i + 1, rfl, ?_⟩)); rotate_left; (simp (disch := omega) only [go_sem, Nat.reduceBEq, s1, s3, sH0, true_and, Int.natCast_add, Int.natCast_one]); rotate_left
  ·omega
  ·exact ⟨by omega, z6s (by omega) sp1 (by assumption), by omega⟩
 ·exact z03 (z6t (by omega) sp1).symm
theorem pc_size : ∀ t : T, fitB t = true -> ∀ deep most : Int, 0 <= deep -> deep <= 21 -> 0 <= most -> most <= 1000 -> PC prog 54 [z0g t, .int .i64 deep, .int .i64 most] (.int .i64 (z4d t deep most)) := by
 refine z4x fun t ih hfit deep most hd0 hd1 hm0 hm1 => ?_
 obtain ⟨h1, h2, h3, h4⟩ := (zc4 t).1 hfit
 unfold maxLen at h1 h2 h3
 have hb := z86 t deep most hm0
 rw [zkn] at hb ⊢
 refine z14 1 (by simp only [pureD.pureL, z01, pureD, Bool.and_self]) rfl (z0z [] func54 rfl (by decide +kernel) rfl ?_)
 show awp _ _ (Code.seq _ _) _ _
 repeat' (first | refine nxt ?_ | ((refine zqh fun K J => ?_); (simp (disch := omega) only [go_sem, Nat.reduceBEq, ↓reduceIte])) | (refine zqd _ rfl ?_ ?_ <;> intro hc <;> (((try simp only [z07] at hc); (try omega)))) | refine zqu (by simp only [go_sem]; rfl) rfl ?_ | (refine J _ ?_; clear J K))
 ·refine z1k ?_
  rw [if_pos (by assumption)]
 ·rw [if_neg (by assumption)] at hb ⊢
  (refine z3c (fun U st => ∃ (i : _), U = t.kids.length - i /\ st.t 1 = .int .i64 deep /\ st.t 2 = .int .i64 most /\ st.t 3 = .ptr 0 0 /\ st.t 7 = .int .i64 (z42 deep most ((t.kids.take i).map z4d) 1) /\ st.t 8 = .int .i64 i /\ st.H 0 = some (.box 27 (z0a t)) /\ (i <= t.kids.length) /\ (1 <= st.nx)) ?_ ?_); rotate_left; (rintro U st ⟨i, rfl, s1, s2, s3, s7, s8, sH0, sp0, sp1⟩); rotate_left
  ·(refine ⟨_, 0, rfl, ?_⟩); (simp (disch := omega) only [go_sem, Nat.reduceBEq, Nat.reduceLeDiff, true_and, and_true, and_self, Int.natCast_zero, List.map_nil])
   try simp [z42]
  have hin := fun (h : i < t.kids.length) => ih t.kids[i] (List.getElem_mem h) (h4 _ (List.getElem_mem h)) (deep + 1) (most - z42 deep most ((t.kids.take i).map z4d) 1)
  have hpb := zal (deep := deep) (most := most) (t.kids.take i) (fun k _ => z86 k) 1 (by omega) (by omega)
  have hnext : ∀ h : i < t.kids.length, z42 deep most ((t.kids.take i).map z4d) 1 <= most -> z42 deep most ((t.kids.take (i + 1)).map z4d) 1 = z42 deep most ((t.kids.take i).map z4d) 1 + z4d t.kids[i] (deep + 1) (most - z42 deep most ((t.kids.take i).map z4d) 1) := fun h hle => by
   rw [List.take_succ_eq_append_getElem h, List.map_append, List.map_cons, List.map_nil, ziz _ _ _ _ _ hle]
  have hkb := fun (h : i < t.kids.length) => z86 t.kids[i] (deep + 1) (most - z42 deep most ((t.kids.take i).map z4d) 1)
  have hstop : most < z42 deep most ((t.kids.take i).map z4d) 1 -> z42 deep most (t.kids.map z4d) 1 = z42 deep most ((t.kids.take i).map z4d) 1 := fun h => by
   have := zj0 deep most ((t.kids.take i).map z4d) ((t.kids.drop i).map z4d) 1 h
   rwa [<- List.map_append, List.take_append_drop] at this
  repeat' (first | refine nxt ?_ | ((first | refine zqh fun K J => ?_ | refine zqr fun K J => ?_ | refine zqs (hin (by omega) (by omega) (by omega) (by omega) (by omega)) ?_); (simp (disch := omega) only [go_sem, Nat.reduceBEq, ↓reduceIte, reduceCtorEq, Nat.reduceAdd, s1, s2, s3, s7, s8, sH0, z0q])) | (refine zqd _ rfl ?_ ?_ <;> intro hc <;> (first | (cases hc; done) | ((try simp only [z07] at hc); (try omega)))) | refine zqz ?_ | refine zqu (by simp only [go_sem]; rfl) rfl ?_ | (refine J _ ?_; clear J K) | (refine zqf (fun hb => ?_) (fun hb => ?_) <;> (have hb2 := hb; try simp only [z07] at hb2) <;> ((first | have F := eq_false hb2 | have F := eq_true hb2); (simp (disch := omega) only [go_sem, Nat.reduceBEq, ↓reduceIte, F, s2, s7]); clear hb F; (try omega))))
  ·have O := hkb (by omega) (by omega)
   have hn := hnext (by omega) (by assumption)
   (refine Exists.intro _ (And.intro ?_ ⟨i + 1, rfl, ?_⟩)); rotate_left; (simp (disch := omega) only [go_sem, Nat.reduceBEq, s1, s2, s3, s7, s8, sH0, true_and, Int.natCast_add, Int.natCast_one]); rotate_left
   ·omega
   ·rw [hn]
    exact ⟨rfl, by omega, by omega⟩
  ·exact z1k (hstop (by omega)).symm
  ·have : t.kids.take i = t.kids := List.take_of_length_le (by omega)
   rw [this]
   exact z1k rfl
namespace Tr
def zuw (t : T) (most : Int) : Bool := decide (z4d t 0 most <= most) && zh5 t
end Tr
theorem pc_Few (t : T) (hfit : fitB t = true) (most : Int) (hm0 : 0 <= most) (hm1 : most <= 1000) : PC prog 32 [z0g t, .int .i64 most] (.bool (zuw t most)) := by
 refine z14 1 (by simp only [pureD.pureL, z01, pureD, Bool.and_self]) rfl (z0z [] func32 rfl (by decide +kernel) rfl ?_)
 show awp _ _ (Code.seq _ _) _ _
 have hs := pc_size t hfit 0 most (by omega) (by omega) hm0 hm1
 have hw := pc_words t hfit
 repeat' (first | ((first | refine zqh fun K J => ?_ | refine zqs (hs) ?_ | refine zqs (hw) ?_); (simp (disch := omega) only [go_sem, Nat.reduceBEq, ↓reduceIte, Nat.reduceAdd, Nat.reduceLeDiff])) | refine nxt ?_ | refine zqu (by simp only [go_sem]; rfl) rfl ?_ | (refine J _ ?_; clear J K) | (refine zqf (fun hb => ?_) (fun hb => ?_) <;> (have hb2 := hb; try simp only [z07] at hb2) <;> ((first | have F := eq_false hb2 | have F := eq_true hb2); (simp (disch := omega) only [go_sem, Nat.reduceBEq, ↓reduceIte, Nat.reduceAdd, Nat.reduceLeDiff, F]); clear hb F; (try omega))))
 ·exact z03 (by unfold zuw; rw [decide_eq_true (by assumption), Bool.true_and])
 ·exact z03 (by unfold zuw; rw [decide_eq_false (by assumption), Bool.false_and])
end
end Go.Proofs.YtlfohdkfpdkhhaaGreatDoor
namespace Go.Proofs.YtlfohdkfpdkhhaaGreatDoor.Glue
open Go.ChangeShapes Go.WideShapes Go.ChangeAt Go.RowKit Abs Facts Tr
section
open Go.ChangeShapes
variable {H : Type} {enc : TypeId × Value -> H} {P : Program} {w : World} {base : Nat} {spare : Nat -> Bool} {held : Bool}
end
theorem ownK : ownKnob Tryz.prog.godebug = none := by kernel_rfl
theorem laidOutK : laidOutB Tryz.prog = true := by kernel_rfl
def S : List TypeId := [4, 3, 9, 23, 48, 50, 24, 27, 25]
set_option maxRecDepth 100000
theorem closedS : zh9 Tryz.prog S = true := by decide +kernel
theorem zke {n : Nat} {ds : List D} (h : z4o Tryz.prog n 23 ds) : ∃ i : Idv, ds = z0b i := by
 obtain ⟨m, rfl, h⟩ := z4s Tryz.underlying23 h
 obtain ⟨d1, r1, rfl, h1, d2, r2, rfl, h2, d3, r3, rfl, h3, rfl⟩ := h
 obtain ⟨i, rfl, _⟩ := z57 Tryz.underlying3 h1
 obtain ⟨j, rfl, _⟩ := z57 Tryz.underlying3 h2
 obtain ⟨k, rfl, _⟩ := z57 Tryz.underlying3 h3
 exact ⟨⟨i, j, k⟩, rfl⟩
theorem zty {n : Nat} {ds : List D} (h : z4o Tryz.prog n 50 ds) : ∃ w : Wd, ds = z10 w := by
 obtain ⟨m, rfl, h⟩ := z4s Tryz.underlying50 h
 obtain ⟨d1, r1, rfl, h1, d2, r2, rfl, h2, rfl⟩ := h
 obtain ⟨s, rfl, _⟩ := zdb Tryz.underlying9 h1
 obtain ⟨m', rfl, h3⟩ := z4s Tryz.underlying48 h2
 obtain ⟨e1, q1, rfl, g1, e2, q2, rfl, g2, e3, q3, rfl, g3, rfl⟩ := h3
 obtain ⟨i, rfl, _⟩ := z57 Tryz.underlying3 g1
 obtain ⟨j, rfl, _⟩ := z57 Tryz.underlying3 g2
 obtain ⟨k, rfl, _⟩ := z57 Tryz.underlying3 g3
 exact ⟨⟨s, ⟨i, j, k⟩⟩, rfl⟩
theorem zgz {n : Nat} {ds : List D} (h : z4o Tryz.prog n 24 ds) : ∃ l : List Wd, ds = [z0n l] /\ l.length <= maxLen := by
 obtain ⟨m, parts, rfl, hl, hp, rfl⟩ := z9i Tryz.underlying24 h
 obtain ⟨l, rfl, _⟩ := z58 (f := z10) (q := fun _ => True) (fun p hp => by obtain ⟨w, e⟩ := zty hp; exact ⟨w, e, trivial⟩) parts hp
 refine ⟨l, ?_, by simpa using hl⟩
 rw [z5y, z89, List.map_map]; rfl
theorem ziw : ∀ (n : Nat) {ds : List D}, z4o Tryz.prog n 27 ds -> ∃ t : T, ds = z0a t /\ fitB t = true := by
 intro n
 induction n using Nat.strongRecOn with
 | ind n ih =>
  intro ds h
  obtain ⟨m, rfl, h⟩ := z4s Tryz.underlying27 h
  obtain ⟨d1, r1, rfl, h1, d2, r2, rfl, h2, d3, r3, rfl, h3, d4, r4, rfl, h4, d5, r5, rfl, h5, d6, r6, rfl, h6, rfl⟩ := h
  obtain ⟨i, rfl⟩ := zke h1
  obtain ⟨k, rfl, _⟩ := z57 Tryz.underlying3 h2
  obtain ⟨s, rfl, _⟩ := zdb Tryz.underlying9 h3
  obtain ⟨a, rfl, ha⟩ := zgz h4
  obtain ⟨b, rfl, hb⟩ := zgz h5
  obtain ⟨q, parts, rfl, hl, hp, rfl⟩ := z9i Tryz.underlying25 h6
  obtain ⟨l, rfl, hq⟩ := z58 (f := z0a) (q := fun t => fitB t = true) (fun p hp => ih q (by omega) hp) parts hp
  refine ⟨.mk i k s a b l, ?_, ?_⟩
  ·rw [z0k, z0j, z2s, List.map_map]; rfl
  ·rw [zc4]
   exact ⟨ha, hb, (show l.length <= _ by simpa using hl), hq⟩
section
variable {H : Type} {enc : TypeId × Value -> H} {W : World} {base : Nat} {r : Reach} {b0 : Nat} {spare : Nat -> Bool} {held : Bool} {v : Value} {d : DataW H} {p : List MemPlace}
theorem rd_unit (hv : Value.okWide Tryz.prog W r b0 27 v) (h : DataW.Trod enc Tryz.prog W base spare held 27 v d p) : ∃ t : T, fitB t = true /\ rel (z7p W) (z0g t) v := by
 obtain ⟨cs, rfl, _⟩ := okWide_struct Tryz.underlying27 hv
 obtain ⟨m, ds, ht, hr⟩ := agg_arg closedS (by decide) h
 obtain ⟨q, rfl, hq⟩ := ziw _ ht
 exact ⟨q, hq, hr⟩
end
end Go.Proofs.YtlfohdkfpdkhhaaGreatDoor.Glue
namespace Go.Proofs.YtlfohdkfpdkhhaaGreatDoor
open _root_.Go.Proofs.Tryz
section
open Abs Facts Tr
attribute [local irreducible] awp
namespace Tr
def bl (s : ByteArray) : List UInt8 := s.data.toList
theorem z22 (s : ByteArray) : (bl s).length = s.size := rfl
def dig (b : UInt8) : Bool := decide (48 <= b.toNat /\ b.toNat <= 57)
def cap (b : UInt8) : Bool := decide (65 <= b.toNat /\ b.toNat <= 90)
def ink (b : UInt8) : Bool := decide (33 <= b.toNat /\ b.toNat <= 126)
def zaf (s : ByteArray) : Nat := ((bl s).takeWhile dig).length
def z4f (s : ByteArray) : Bool := decide (1 <= zaf s /\ zaf s <= 4 /\ ((bl s).headD 0).toNat ≠ 48 /\ s.size - zaf s <= 3) && ((bl s).drop (zaf s)).all cap
def z6q (s : ByteArray) : Bool := decide (1 <= s.size /\ s.size <= 24) && (bl s).all ink
def zxy (l : List ByteArray) : Bool := decide (l.length <= 256) && l.all z6q
def ziy (l : List Wd) : Bool := decide (l.length <= 256) && l.all fun w => z6q w.text
theorem zkk (l : List Wd) : ziy l = (decide (l.length <= 256) && zxy (l.map (·.text))) := by
 unfold ziy zxy
 rw [List.length_map, List.all_map]
 cases decide (l.length <= 256) <;> simp [Function.comp_def]
theorem z6r {α : Type} {p : α -> Bool} : ∀ {l : List α} {k : Nat} (_ : k <= l.length), (∀ j, (hj : j < k) -> p (l[j]'(by omega)) = true) -> (∀ h : k < l.length, p l[k] = false) -> (l.takeWhile p).length = k
 | [], k, O, _, _ => by simp at O; simp [O]
 | x :: l, 0, _, _, h2 => by
  have := h2 (by simp)
  simp only [List.getElem_cons_zero] at this
  simp [this]
 | x :: l, k + 1, O, h1, h2 => by
  have h0 := h1 0 (by omega)
  simp only [List.getElem_cons_zero] at h0
  rw [List.takeWhile_cons, if_pos h0, List.length_cons]
  have := z6r (p := p) (l := l) (k := k) (by simpa using O) (fun j hj => by simpa using h1 (j + 1) (by omega)) (fun h => h2 (by simpa using h))
  rw [this]
theorem zec (s : ByteArray) : zaf s <= s.size := by
 unfold zaf
 rw [<- z22]
 exact (List.takeWhile_prefix _).length_le
end Tr
theorem bget {s : ByteArray} {i : Nat} (h : i < s.size) : s[i]? = some ((bl s)[i]'h) := getElem?_pos s i h
theorem bhead {s : ByteArray} (h : 0 < s.size) : (bl s)[0]'h = (bl s).headD 0 := by
 have : ∀ (l : List UInt8) (h : 0 < l.length), l[0]'h = l.headD 0 := fun l h => by cases l with
  | nil => exact absurd h (by simp)
  | cons a l => rfl
 exact this _ _
theorem zxz (s : ByteArray) (hs : s.size <= maxLen) : PC prog 185 [.str s] (.int .i64 (zaf s)) := by
 unfold maxLen at hs
 refine z14 1 (by simp only [pureD.pureL, pureD, Bool.and_self]) rfl (z0z [] func185 rfl (by decide +kernel) rfl ?_)
 show awp _ _ (Code.seq _ _) _ _
 repeat' (first | ((refine zqh fun K J => ?_); (simp (disch := omega) only [go_sem])) | refine nxt ?_ | (refine J _ ?_; clear J K))
 have hbl := z22 s
 (refine z3c (fun U st => ∃ (k : _), U = s.size - k /\ st.t 0 = .str s /\ st.t 3 = .int .i64 k /\ (k <= s.size) /\ (∀ j, (hj : j < k) -> (h : j < (bl s).length) -> dig (bl s)[j] = true)) ?_ ?_); rotate_left; (rintro U st ⟨k, rfl, s0, s3, sp0, sp1⟩); rotate_left
 ·(refine ⟨_, 0, rfl, ?_⟩); (simp (disch := omega) only [go_sem, Nat.reduceBEq, true_and, Int.natCast_zero])
  exact fun j hj => by omega
 repeat' (first | refine nxt ?_ | ((first | refine zqh fun K J => ?_ | refine zqr fun K J => ?_); (simp (disch := omega) only [go_sem, Nat.reduceBEq, ↓reduceIte, s0, s3])) | (refine zqd _ rfl ?_ ?_ <;> intro hc <;> (first | (cases hc; done) | ((try simp only [z07] at hc); (try omega)))) | refine zqz ?_ | refine zqu (by simp only [go_sem]; rfl) rfl ?_ | (refine J _ ?_; clear J K) | (refine zqf (fun hb => ?_) (fun hb => ?_) <;> (have hb2 := hb; try simp only [z07] at hb2) <;> ((first | have F := eq_false hb2 | have F := eq_true hb2); (simp (disch := omega) only [go_sem, Nat.reduceBEq, ↓reduceIte, F, s0, s3, bget]); clear hb F; (try omega))))
 ·(refine Exists.intro _ (And.intro ?_ ⟨k + 1, rfl, ?_⟩)); rotate_left; (simp (disch := omega) only [go_sem, Nat.reduceBEq, s0, s3, true_and, Int.natCast_add, Int.natCast_one]); rotate_left
  ·omega
  ·refine ⟨by omega, fun j hj h => ?_⟩
   by_cases e : j = k
   ·subst e; unfold dig; exact decide_eq_true (by omega)
   ·exact sp1 j (by omega) h
 all_goals
  refine z1k ?_
  have := z6r (p := dig) (l := bl s) (k := k) (by omega) (fun j hj => sp1 j hj (by omega)) (fun h => by
   unfold dig; exact decide_eq_false (by omega))
  unfold zaf; rw [this]
theorem zy0 (s : ByteArray) (hs : s.size <= maxLen) : PC prog 141 [.str s] (.bool (z6q s)) := by
 unfold maxLen at hs
 refine z14 1 (by simp only [pureD.pureL, pureD, Bool.and_self]) rfl (z0z [] func141 rfl (by decide +kernel) rfl ?_)
 show awp _ _ (Code.seq _ _) _ _
 repeat' (first | refine nxt ?_ | ((refine zqh fun K J => ?_); (simp (disch := omega) only [go_sem, Nat.reduceBEq, ↓reduceIte])) | (refine zqd _ rfl ?_ ?_ <;> intro hc <;> (first | (cases hc; done) | ((try simp only [z07] at hc); (try omega)))) | refine zqu (by simp only [go_sem]; rfl) rfl ?_ | (refine J _ ?_; clear J K) | (refine zqf (fun hb => ?_) (fun hb => ?_) <;> (have hb2 := hb; try simp only [z07] at hb2) <;> ((first | have F := eq_false hb2 | have F := eq_true hb2); (simp (disch := omega) only [go_sem, Nat.reduceBEq, ↓reduceIte, F]); clear hb F; (try omega))))
 ·exact z03 (by unfold z6q; rw [decide_eq_false (by omega)]; rfl)
 ·rw [show z6q s = (bl s).all ink from by unfold z6q; rw [decide_eq_true (by omega)]; rfl]
  (refine z3c (fun U st => ∃ (k : _), U = s.size - k /\ st.t 0 = .str s /\ st.t 3 = .int .i64 k /\ (k <= s.size) /\ (((bl s).take k).all ink = true)) ?_ ?_); rotate_left; (rintro U st ⟨k, rfl, s0, s3, sp0, sp1⟩); rotate_left
  ·(refine ⟨_, 0, rfl, ?_⟩); (simp (disch := omega) only [go_sem, Nat.reduceBEq, true_and, Int.natCast_zero])
   simp
  have hbl := z22 s
  repeat' (first | refine nxt ?_ | ((first | refine zqh fun K J => ?_ | refine zqr fun K J => ?_); (simp (disch := omega) only [go_sem, Nat.reduceBEq, ↓reduceIte, s0, s3, bget])) | ((first | refine zqd _ rfl (fun hc => ?_) (fun hc => ?_) | refine zqm _ rfl (fun hc => ?_) (fun hc => ?_)) <;> (first | (cases hc; done) | ((try simp only [z07] at hc); (try omega)))) | refine zqz ?_ | refine zqu (by simp only [go_sem]; rfl) rfl ?_ | (refine J _ ?_; clear J K) | (refine zqf (fun hb => ?_) (fun hb => ?_) <;> (have hb2 := hb; try simp only [z07] at hb2) <;> ((first | have F := eq_false hb2 | have F := eq_true hb2); (simp (disch := omega) only [go_sem, Nat.reduceBEq, ↓reduceIte, F, s0, s3, bget]); clear hb F; (try omega))))
  ·exact z03 (zak (k := k) (by omega) (by unfold ink; exact decide_eq_false (by omega))).symm
  ·(refine Exists.intro _ (And.intro ?_ ⟨k + 1, rfl, ?_⟩)); rotate_left; (simp (disch := omega) only [go_sem, Nat.reduceBEq, s0, s3, true_and, Int.natCast_add, Int.natCast_one]); rotate_left
   ·omega
   ·exact ⟨by omega, z6s (by omega) sp1 (by unfold ink; exact decide_eq_true (by omega))⟩
  ·exact z03 (zak (k := k) (by omega) (by unfold ink; exact decide_eq_false (by omega))).symm
  ·exact z03 (z6t (by omega) sp1).symm
 ·exact z03 (by unfold z6q; rw [decide_eq_false (by omega)]; rfl)
theorem pc_Seq (l : List ByteArray) (hl : l.length <= maxLen) (hs : ∀ s ∈ l, s.size <= maxLen) : PC prog 184 [z2j l] (.bool (zxy l)) := by
 unfold maxLen at hl
 refine z14 1 (by simp only [pureD.pureL, z2k, Bool.and_self]) rfl (z0z [] func184 rfl (by decide +kernel) rfl ?_)
 show awp _ _ (Code.seq _ _) _ _
 have hw := fun (i : Nat) (h : i < l.length) => zy0 l[i] (hs _ (List.getElem_mem h))
 repeat' (first | refine nxt ?_ | ((refine zqh fun K J => ?_); (simp (disch := omega) only [go_sem, Nat.reduceBEq, ↓reduceIte, z2j])) | (refine zqd _ rfl ?_ ?_ <;> intro hc <;> (((try simp only [z07] at hc); (try omega)))) | refine zqu (by simp only [go_sem]; rfl) rfl ?_ | (refine J _ ?_; clear J K))
 ·exact z03 (by unfold zxy; rw [decide_eq_false (by omega)]; rfl)
 ·rw [show zxy l = l.all z6q from by unfold zxy; rw [decide_eq_true (by omega)]; rfl]
  (refine z3c (fun U st => ∃ (k : _), U = l.length - k /\ st.t 0 = z2j l /\ st.t 3 = .int .i64 k /\ (k <= l.length) /\ ((l.take k).all z6q = true)) ?_ ?_); rotate_left; (rintro U st ⟨k, rfl, s0, s3, sp0, sp1⟩); rotate_left
  ·(refine ⟨_, 0, rfl, ?_⟩); (simp (disch := omega) only [go_sem, Nat.reduceBEq, true_and, Int.natCast_zero, z2j])
   simp
  repeat' (first | refine nxt ?_ | ((first | refine zqh fun K J => ?_ | refine zqr fun K J => ?_ | refine zqs (hw k (by omega)) ?_); (simp (disch := omega) only [go_sem, Nat.reduceBEq, ↓reduceIte, reduceCtorEq, Nat.reduceAdd, s0, s3, z2j])) | ((first | refine zqd _ rfl (fun hc => ?_) (fun hc => ?_) | refine zqm _ rfl (fun hc => ?_) (fun hc => ?_)) <;> (((try simp only [z07] at hc); (try omega)))) | refine zqz ?_ | refine zqu (by simp only [go_sem]; rfl) rfl ?_ | (refine J _ ?_; clear J K))
  ·exact z03 (zak (k := k) (by omega) (by assumption)).symm
  ·(refine Exists.intro _ (And.intro ?_ ⟨k + 1, rfl, ?_⟩)); rotate_left; (simp (disch := omega) only [go_sem, Nat.reduceBEq, s0, s3, true_and, Int.natCast_add, Int.natCast_one]); rotate_left
   ·omega
   ·exact ⟨by omega, z6s (by omega) sp1 (by assumption)⟩
  ·exact z03 (z6t (by omega) sp1).symm
theorem zrp (l : List Wd) (hl : l.length <= 1000000) : PC prog 16 [z0n l] (z2j (l.map (·.text))) := by
 refine z14 2 (by simp only [pureD.pureL, z0h, Bool.and_self]) (z2k _) (z0z [5] func16 rfl (by decide +kernel) rfl ?_)
 show awp _ _ (Code.seq _ _) _ _
 repeat' (first | refine nxt ?_ | ((refine zqh fun K J => ?_); (simp (disch := omega) only [go_sem, Nat.reduceBEq, ↓reduceIte, reduceCtorEq, z0n])) | (refine J _ ?_; clear J K))
 (refine z3c (fun U st => ∃ (k : _), U = l.length - k /\ st.t 0 = z0n l /\ st.t 3 = .osl 0 k /\ st.t 4 = .int .i64 k /\ st.H 0 = some (.row 9 k (((l.take k).map (·.text)).map .str)) /\ (k <= l.length)) ?_ ?_); rotate_left; (rintro U st ⟨k, rfl, s0, s3, s4, sH0, sp0⟩); rotate_left
 ·(refine ⟨_, 0, rfl, ?_⟩); (simp (disch := omega) only [go_sem, Nat.reduceBEq, and_self, Int.natCast_zero, List.map_nil, z0n])
  try simp
 have htk : ∀ h : k < l.length, l.take (k + 1) = l.take k ++ [l[k]] := fun h => List.take_succ_eq_append_getElem h
 repeat' (first | refine nxt ?_ | ((first | refine zqh fun K J => ?_ | refine zqr fun K J => ?_); (simp (disch := omega) only [go_sem, Nat.reduceBEq, ↓reduceIte, reduceCtorEq, Nat.reduceAdd, Nat.reduceLeDiff, Nat.reduceLT, s0, s3, s4, sH0, z0n])) | (refine zqd _ rfl ?_ ?_ <;> intro hc <;> (((try simp only [z07] at hc); (try omega)))) | refine zqz ?_ | refine zqu (by simp only [go_sem]; rfl) rfl ?_ | (refine J _ ?_; clear J K))
 ·have htk := htk (by omega)
  (refine Exists.intro _ (And.intro ?_ ⟨k + 1, rfl, ?_⟩)); rotate_left; (simp (disch := omega) only [go_sem, Nat.reduceBEq, s0, s3, s4, sH0, true_and, Int.natCast_add, Int.natCast_one, List.map_append, List.map_cons, List.map_nil, htk]); rotate_left
  ·omega
  ·omega
 ·have O : k = l.length := by omega
  subst O
  rw [List.take_length] at sH0
  have h2 : l.length = ((l.map (·.text))).length := by simp
  rw [h2] at sH0 ⊢
  exact z3i (za1 0 sH0 z8x zft (by simp) (zjq _))
theorem zy1 (l : List Wd) (hl : l.length <= 1000000) (hs : ∀ w ∈ l, w.text.size <= maxLen) : PC prog 139 [z0n l] (.bool (ziy l)) := by
 refine z14 1 (by simp only [pureD.pureL, z0h, Bool.and_self]) rfl (z0z [] func139 rfl (by decide +kernel) rfl ?_)
 show awp _ _ (Code.seq _ _) _ _
 have h1 := zrp l hl
 have h2 := pc_Seq (l.map (·.text)) (by unfold maxLen; simp; omega) (fun s hs' => by obtain ⟨w, hw, rfl⟩ := List.mem_map.1 hs'; exact hs w hw)
 rw [zkk]
 simp only [z2j, List.map_map] at h1 h2
 repeat' (first | ((first | refine zqh fun K J => ?_ | refine zqs (h1) ?_ | refine zqs (h2) ?_); (simp (disch := omega) only [go_sem, Nat.reduceBEq, ↓reduceIte, z0n])) | refine nxt ?_ | refine zqu (by simp only [go_sem]; rfl) rfl ?_ | (refine J _ ?_; clear J K) | (refine zqf (fun hb => ?_) (fun hb => ?_) <;> (have hb2 := hb; try simp only [z07] at hb2) <;> ((first | have F := eq_false hb2 | have F := eq_true hb2); (simp (disch := omega) only [go_sem, Nat.reduceBEq, ↓reduceIte, F]); clear hb F; (try omega))))
 ·exact z03 (by rw [decide_eq_true (by omega)]; rfl)
 ·exact z03 (by rw [decide_eq_false (by omega)]; rfl)
theorem zrq (s : ByteArray) (hs : s.size <= maxLen) : PC prog 140 [.str s] (.bool (z4f s)) := by
 unfold maxLen at hs
 refine z14 1 (by simp only [pureD.pureL, pureD, Bool.and_self]) rfl (z0z [] func140 rfl (by decide +kernel) rfl ?_)
 show awp _ _ (Code.seq _ _) _ _
 have h1 := zxz s hs
 have hn := zec s
 have hbl := z22 s
 have hz : Int.toNat 0 = 0 := rfl
 have hne : ∀ h : 0 < s.size, (bl s)[0].toNat = ((bl s).headD 0).toNat := fun h => congrArg UInt8.toNat (bhead h)
 repeat' (first | refine nxt ?_ | ((first | refine zqh fun K J => ?_ | refine zqs (h1) ?_); (simp (disch := omega) only [go_sem, Nat.reduceBEq, ↓reduceIte])) | (refine zqd _ rfl ?_ ?_ <;> intro hc <;> (first | (cases hc; done) | ((try simp only [z07] at hc); (try omega)))) | refine zqu (by simp only [go_sem]; rfl) rfl ?_ | (refine J _ ?_; clear J K) | (refine zqf (fun hb => ?_) (fun hb => ?_) <;> (have hb2 := hb; try simp only [z07] at hb2) <;> ((first | have F := eq_false hb2 | have F := eq_true hb2); (simp (disch := omega) only [go_sem, Nat.reduceBEq, ↓reduceIte, Int.reduceLE, F, bget, hz]); clear hb F; (try omega))))
 ·exact z03 (by unfold z4f; rw [decide_eq_false (by omega)]; rfl)
 ·have hf := hne (by omega)
  rw [show z4f s = ((bl s).drop (zaf s)).all cap from by unfold z4f; rw [decide_eq_true (by omega)]; rfl]
  (refine z3c (fun U st => ∃ (k : _), U = s.size - k /\ st.t 0 = .str s /\ st.t 4 = .int .i64 k /\ (zaf s <= k) /\ (k <= s.size) /\ ((((bl s).drop (zaf s)).take (k - zaf s)).all cap = true)) ?_ ?_); rotate_left; (rintro U st ⟨k, rfl, s0, s4, sp0, sp1, sp2⟩); rotate_left
  ·(refine ⟨_, zaf s, rfl, ?_⟩); (simp (disch := omega) only [go_sem, Nat.reduceBEq, true_and])
   exact ⟨Nat.le_refl _, by omega, by rw [Nat.sub_self]; rfl⟩
  have O : ∀ h : k < s.size, ((bl s).drop (zaf s))[k - zaf s]'(by rw [List.length_drop, z22]; omega) = (bl s)[k]'h := fun h => by
   rw [List.getElem_drop]; congr 1; omega
  have hl : ((bl s).drop (zaf s)).length = s.size - zaf s := by rw [List.length_drop, z22]
  repeat' (first | refine nxt ?_ | ((first | refine zqh fun K J => ?_ | refine zqr fun K J => ?_); (simp (disch := omega) only [go_sem, Nat.reduceBEq, ↓reduceIte, s0, s4, bget])) | ((first | refine zqd _ rfl (fun hc => ?_) (fun hc => ?_) | refine zqm _ rfl (fun hc => ?_) (fun hc => ?_)) <;> (first | (cases hc; done) | ((try simp only [z07] at hc); (try omega)))) | refine zqz ?_ | refine zqu (by simp only [go_sem]; rfl) rfl ?_ | (refine J _ ?_; clear J K) | (refine zqf (fun hb => ?_) (fun hb => ?_) <;> (have hb2 := hb; try simp only [z07] at hb2) <;> ((first | have F := eq_false hb2 | have F := eq_true hb2); (simp (disch := omega) only [go_sem, Nat.reduceBEq, ↓reduceIte, F, s0, s4, bget]); clear hb F; (try omega))))
  ·exact z03 (zak (k := k - zaf s) (by omega) (by rw [O (by omega)]; unfold cap; exact decide_eq_false (by omega))).symm
  ·(refine Exists.intro _ (And.intro ?_ ⟨k + 1, rfl, ?_⟩)); rotate_left; (simp (disch := omega) only [go_sem, Nat.reduceBEq, s0, s4, true_and, Int.natCast_add, Int.natCast_one]); rotate_left
   ·omega
   ·refine ⟨by omega, by omega, ?_⟩
    rw [show k + 1 - zaf s = k - zaf s + 1 from by omega]
    exact z6s (by omega) sp2 (by rw [O (by omega)]; unfold cap; exact decide_eq_true (by omega))
  ·exact z03 (zak (k := k - zaf s) (by omega) (by rw [O (by omega)]; unfold cap; exact decide_eq_false (by omega))).symm
  ·exact z03 (z6t (k := k - zaf s) (by omega) sp2).symm
 ·have hf := hne (by omega)
  exact z03 (by unfold z4f; rw [decide_eq_false (by omega)]; rfl)
 ·exact z03 (by unfold z4f; rw [decide_eq_false (by omega)]; rfl)
 ·exact z03 (by unfold z4f; rw [decide_eq_false (by omega)]; rfl)
end
section
open Abs Facts Tr
attribute [local irreducible] awp
namespace Tr
def z0l (t : T) : List T := zhs (fun t l => t :: l.flatten) t
theorem z25 (t : T) : z0l t = t :: t.kids.flatMap z0l := by
 unfold z0l; rw [z46, List.flatMap]
theorem z1z (t : T) : t ∈ z0l t := by rw [z25]; exact List.mem_cons_self
theorem z2n {t k x : T} (O : k ∈ t.kids) (hx : x ∈ z0l k) : x ∈ z0l t := by
 rw [z25]; exact List.mem_cons_of_mem _ (List.mem_flatMap.2 ⟨k, O, hx⟩)
variable {σ : Type}
def zbp (step : T -> σ -> Bool × σ) : List T -> σ -> Bool × σ
 | [], s => (true, s)
 | x :: l, s => if (step x s).1 = true then zbp step l (step x s).2 else (false, (step x s).2)
theorem zc3 (step : T -> σ -> Bool × σ) : ∀ (a b : List T) (s : σ), zbp step (a ++ b) s = if (zbp step a s).1 = true then zbp step b (zbp step a s).2 else zbp step a s
 | [], b, s => by simp [zbp]
 | x :: a, b, s => by
  simp only [List.cons_append, zbp]
  split
  ·exact zc3 step a b _
  ·simp
theorem zy4 (step : T -> σ -> Bool × σ) {a b : List T} {s : σ} (h : (zbp step a s).1 = false) : zbp step (a ++ b) s = zbp step a s := by
 rw [zc3, h]; simp
theorem zy5 (step : T -> σ -> Bool × σ) (m : σ -> Nat) (hm : ∀ x s, m (step x s).2 <= m s + 1) : ∀ (l : List T) (s : σ), m (zbp step l s).2 <= m s + l.length
 | [], s => by simp [zbp]
 | x :: l, s => by
  have h1 := hm x s
  simp only [zbp, List.length_cons]
  split
  ·have := zy5 step m hm l (step x s).2
   omega
  ·simp only; omega
theorem runS_kid (step : T -> σ -> Bool × σ) {f : T -> List T} {l : List T} {i : Nat} {s s2 : σ} (h : i < l.length) (hq : zbp step ((l.take i).flatMap f) s = (true, s2)) :
  zbp step ((l.take (i + 1)).flatMap f) s = zbp step (f l[i]) s2 := by
 rw [List.take_succ_eq_append_getElem h, List.flatMap_append, zc3, hq]
 simp
theorem zy6 (step : T -> σ -> Bool × σ) {f : T -> List T} {l : List T} {i : Nat} {s s2 : σ} (hq : zbp step ((l.take i).flatMap f) s = (false, s2)) : zbp step (l.flatMap f) s = (false, s2) := by
 have : l.flatMap f = (l.take i).flatMap f ++ (l.drop i).flatMap f := by rw [<- List.flatMap_append, List.take_append_drop]
 rw [this, zy4 _ (by rw [hq]), hq]
end Tr
theorem zd4 {σ : Type} {g : FuncId} {cap : List D} {lo : Nat} {I : σ -> HM -> Prop} (step : T -> σ -> Bool × σ) (hI : Low lo I) (m : σ -> Nat) (M : Nat) (hm : ∀ x s, m (step x s).2 <= m s + 1) :
  ∀ u : T, fitB u = true -> (∀ x ∈ z0l u, ∀ s, m s < M -> Eff prog g (z0g x :: cap) lo I s (step x s).2 (.bool (step x s).1)) ->
  ∀ s, m s + (z0l u).length <= M -> Eff prog 59 [z0g u, .fn g cap] lo I s (zbp step (z0l u) s).2 (.bool (zbp step (z0l u) s).1) := by
 refine z4x fun u ih hfit hv s hM => ?_
 obtain ⟨h1, h2, h3, h4⟩ := (zc4 u).1 hfit
 have ih := fun k O => ih k O (h4 k O) (fun x hx => hv x (z2n O hx))
 have hlen : (z0l u).length = 1 + (u.kids.flatMap z0l).length := by rw [z25, List.length_cons, Nat.add_comm]
 have hv := hv u (z1z u) s (by omega)
 have hm1 := hm u s
 unfold maxLen at h3
 have hrun : zbp step (z0l u) s = if (step u s).1 = true then zbp step (u.kids.flatMap z0l) (step u s).2 else (false, (step u s).2) := by rw [z25]; rfl
 rw [hrun]; clear hrun
 generalize step u s = p1 at hv hm1 ⊢
 obtain ⟨b1, s1⟩ := p1
 simp only at hv hm1 ⊢
 refine zce hI rfl fun H nx hlo hs => ?_
 refine (z0z [] func59 rfl (by decide +kernel) rfl ?_)
 show awp _ _ (Code.seq _ _) _ _
 repeat' (first | refine nxt ?_ | ((refine zqh fun K J => ?_); (simp (disch := omega) only [go_sem, Nat.reduceBEq, ↓reduceIte, Nat.reduceAdd, Nat.reduceLeDiff])) | (refine J _ ?_; clear J K))
 refine z4h hv (by show lo <= nx + 1; omega) (hI.loc s H _ (fun id hid => zdt (by omega)) hs) fun H1 hs1 hH1 => ?_
 have hb1 : H1 nx = some (.box 27 (z0a u)) := (hH1 nx hlo).trans updH_eq
 have hk1 : ∀ id, lo <= id -> id < nx -> H1 id = H id := fun id h1 h2 => (hH1 id h1).trans (zdt (by omega))
 clear hH1
 (try (simp (disch := omega) only [go_sem, Nat.reduceBEq])); repeat' (first | refine nxt ?_ | ((refine zqh fun K J => ?_); (simp (disch := omega) only [go_sem, Nat.reduceBEq, ↓reduceIte, reduceCtorEq, Nat.reduceAdd, hb1])) | (refine zqd _ rfl ?_ ?_ <;> intro hc <;> (((try simp only [z07] at hc); (try omega)))) | refine zqu (by simp only [go_sem]; rfl) rfl ?_ | (refine J _ ?_; clear J K))
 ·subst hc
  (simp (disch := omega) only [go_sem, Nat.reduceBEq, ↓reduceIte])
  exact ⟨hs1, hk1⟩
 ·subst hc
  simp only [if_true]
  (refine z3c (fun U st => ∃ (i : _) (si : _), U = u.kids.length - i /\ st.t 1 = .fn g cap /\ st.t 12 = z0q u.kids /\ st.t 13 = .int .i64 u.kids.length /\ st.t 14 = .int .i64 i /\ (i <= u.kids.length) /\ (nx < st.nx) /\ (I si st.H) /\ (zbp step ((u.kids.take i).flatMap z0l) s1 = (true, si)) /\ (∀ id, lo <= id -> id < nx -> st.H id = H id)) ?_ ?_); rotate_left; (rintro U st ⟨i, si, rfl, q1, q12, q13, q14, qp0, qp1, qp2, qp3, qp4⟩); rotate_left
  ·(refine ⟨_, 0, s1, rfl, ?_⟩); (simp (disch := omega) only [go_sem, Nat.reduceBEq, true_and, Int.natCast_zero, List.flatMap_nil, z0q])
   exact ⟨by omega, hs1, rfl, hk1⟩
  have ih := fun (h : i < u.kids.length) => ih u.kids[i] (List.getElem_mem h) si
  repeat' (first | ((refine zqh fun K J => ?_); (simp (disch := omega) only [go_sem, Nat.reduceBEq, ↓reduceIte, reduceCtorEq, Nat.reduceAdd, Nat.reduceLeDiff, q1, q12, q13, q14, z0q])) | (refine zqd _ rfl ?_ ?_ <;> intro hc <;> (((try simp only [z07] at hc); (try omega)))) | refine nxt ?_ | refine zqz ?_ | refine zqu (by simp only [go_sem]; rfl) rfl ?_ | (refine J _ ?_; clear J K))
  ·have hi : i < u.kids.length := by omega
   obtain ⟨b2, s2, e2⟩ : ∃ b2 s2, zbp step (z0l u.kids[i]) si = (b2, s2) := ⟨_, _, rfl⟩
   have ih := ih hi (by
    have h1 := zy5 step m hm ((u.kids.take i).flatMap z0l) s1
    rw [qp3] at h1
    have h2 : (u.kids.flatMap z0l).length = ((u.kids.take i).flatMap z0l).length + ((z0l u.kids[i]).length + ((u.kids.drop (i + 1)).flatMap z0l).length) := by
     rw [<- List.length_append, <- List.flatMap_cons, List.getElem_cons_drop, <- List.length_append, <- List.flatMap_append, List.take_append_drop]
    simp only at h1
    omega)
   rw [e2] at ih
   have hrun := (runS_kid step hi qp3).trans e2
   refine z4h ih (by show lo <= st.nx + 1; omega) (hI.loc si st.H _ (fun id hid => (zdt (by omega)).trans (zdt (by omega))) qp2) fun H2 hs2 hH2 => ?_
   have hk2 : ∀ id, lo <= id -> id < nx -> H2 id = H id := fun id h1 h2 => ((hH2 id h1).trans ((zdt (by omega)).trans (zdt (by omega)))).trans (qp4 id h1 h2)
   clear hH2
   (try (simp (disch := omega) only [go_sem, Nat.reduceBEq])); repeat' (first | ((first | refine zqh fun K J => ?_ | refine zqr fun K J => ?_); (simp (disch := omega) only [go_sem, Nat.reduceBEq, ↓reduceIte, q14])) | ((refine zqm _ rfl (fun hc => ?_) (fun hc => ?_)) <;> (((try simp only [z07] at hc); (try omega)))) | refine nxt ?_ | refine zqu (by simp only [go_sem]; rfl) rfl ?_ | (refine J _ ?_; clear J K))
   ·subst hc
    (simp (disch := omega) only [go_sem, Nat.reduceBEq])
    rw [zy6 step hrun]
    exact ⟨rfl, hs2, hk2⟩
   ·subst hc
    (refine Exists.intro _ (And.intro ?_ ⟨i + 1, s2, rfl, ?_⟩)); rotate_left; (simp (disch := omega) only [go_sem, Nat.reduceBEq, q1, q12, q13, q14, true_and, Int.natCast_add, Int.natCast_one, hrun]); rotate_left
    ·omega
    ·exact ⟨by omega, hs2, hk2⟩
  ·have : u.kids.take i = u.kids := List.take_of_length_le (by omega)
   rw [this] at qp3
   rw [qp3]
   (simp (disch := omega) only [go_sem, Nat.reduceBEq])
   exact ⟨qp2, qp4⟩
namespace Tr
def cntT (t : T) : Nat := (z0l t).length
def z0i (t : T) : List Idv := (z0l t).map T.id
theorem zrt (f : T -> Bool) : ∀ (l : List T) (s : Unit), zbp (fun x s => (f x, s)) l s = (l.all f, ())
 | [], _ => rfl
 | x :: l, s => by
  simp only [zbp, List.all_cons]
  cases f x <;> simp [zrt f l]
theorem zru : ∀ (l : List T) (n : Nat), zbp (fun _ n => (true, n + 1)) l n = (true, n + l.length)
 | [], _ => rfl
 | x :: l, n => by simp only [zbp, if_true, zru l, List.length_cons]; congr 1; omega
theorem zkm : ∀ (l : List T) (a : List Idv), zbp (fun x a => (true, a ++ [x.id])) l a = (true, a ++ l.map T.id)
 | [], a => by simp [zbp]
 | x :: l, a => by simp [zbp, zkm l]
end Tr
theorem low_true (lo : Nat) (hz : lo = 0) : Low lo (fun (_ : Unit) (_ : HM) => True) := ⟨fun _ _ _ _ h => h, fun _ _ _ id o h _ => by omega⟩
theorem zrv {g : FuncId} {cap : List D} (f : T -> Bool) (hc : pureD.pureL cap = true) (u : T) (hfit : fitB u = true) (hv : ∀ x ∈ z0l u, PC prog g (z0g x :: cap) (.bool (f x))) :
  PC prog 59 [z0g u, .fn g cap] (.bool ((z0l u).all f)) := by
 have h := zd4 (fun x (s : Unit) => (f x, s)) (low_true 0 rfl) (fun _ => 0) (z0l u).length (fun _ _ => by simp) u hfit (fun x hx s _ => (hv x hx).eff s) () (by simp)
 rw [zrt] at h
 exact ⟨by simp only [pureD.pureL, z01, pureD, hc, Bool.and_self], rfl, (h noH 0 (Nat.le_refl _) trivial).mono fun _ _ _ h => h.1⟩
def zu2 (u : T) (n : Nat) : List HObj := [.box 27 (z0a u), .box 3 [.int .i64 (IntKind.i64.wrap n)]]
def zp5 (u : T) (l : List Idv) : List HObj := [.box 27 (z0a u), .box 64 [.osl 2 l.length], .row 23 l.length (l.flatMap z0b)]
theorem zed (n : Nat) (u : T) : lowD.lowL n (z0a u) = true := z35 n _ (z04 u)
theorem low_C (u : T) : Low 2 fun n H => ∀ j, j < 2 -> H j = (zu2 u n)[j]? := zjt (zu2 u) (fun _ => rfl) fun n o ho => by
 simp only [zu2, List.mem_cons, List.not_mem_nil, or_false] at ho
 rcases ho with rfl | rfl
 ·exact zed _ _
 ·rfl
theorem low_I (u : T) : Low 3 fun l H => ∀ j, j < 3 -> H j = (zp5 u l)[j]? := zjt (zp5 u) (fun _ => rfl) fun l o ho => by
 simp only [zp5, List.mem_cons, List.not_mem_nil, or_false] at ho
 rcases ho with rfl | rfl | rfl
 ·exact zed _ _
 ·rfl
 ·exact z35 _ _ (z1t (fun _ => rfl) l)
theorem zu3 (u x : T) (n : Nat) : Eff prog 106 [z0g x, .ptr 1 0] 2 (fun n H => ∀ j, j < 2 -> H j = (zu2 u n)[j]?) n (n + 1) (.bool true) := by
 refine zce (low_C u) rfl fun H nx hlo hs => ?_
 have h1 : H 1 = some (.box 3 [.int .i64 (IntKind.i64.wrap n)]) := hs 1 (by omega)
 have h0 : H 0 = some (.box 27 (z0a u)) := hs 0 (by omega)
 have hne : (1 == nx) = false := by simp; omega
 have hne' : (0 == nx) = false := by simp; omega
 refine (z0z [] func106 rfl (by decide +kernel) rfl ?_)
 show awp _ _ (Code.seq _ _) _ _
 repeat' (first | ((refine zqh fun K J => ?_); (simp (disch := omega) only [go_sem, Nat.reduceBEq, ↓reduceIte, Nat.reduceAdd, Nat.reduceLeDiff, Nat.reduceLT, h1, hne])) | refine nxt ?_ | refine zqu (by simp only [go_sem]; rfl) rfl ?_ | (refine J _ ?_; clear J K))
 (simp (disch := omega) only [go_sem, Nat.reduceBEq])
 refine ⟨fun j hj => ?_, fun id h1 h2 => ?_⟩
 ·match j, hj with
  | 0, _ => simp [hne', h0, zu2]
  | 1, _ => simp [zu2]; simp only [IntKind.wrap_i64]; omega
 ·rw [show (id == 1) = false from by simp; omega, show (id == nx) = false from by simp; omega]; rfl
theorem zrw (u x : T) (l : List Idv) (hl : l.length < 5000000000000) : Eff prog 60 [z0g x, .ptr 1 0] 3 (fun l H => ∀ j, j < 3 -> H j = (zp5 u l)[j]?) l (l ++ [x.id]) (.bool true) := by
 refine zce (low_I u) rfl fun H nx hlo hs => ?_
 have h1 : H 1 = some (.box 64 [.osl 2 l.length]) := hs 1 (by omega)
 have h0 : H 0 = some (.box 27 (z0a u)) := hs 0 (by omega)
 have h2 : H 2 = some (.row 23 l.length (l.flatMap z0b)) := hs 2 (by omega)
 have hne : (1 == nx) = false := by simp; omega
 have hne' : (0 == nx) = false := by simp; omega
 have hne2 : (2 == nx) = false := by simp; omega
 refine (z0z [] func60 rfl (by decide +kernel) rfl ?_)
 show awp _ _ (Code.seq _ _) _ _
 repeat' (first | ((refine zqh fun K J => ?_); (simp (disch := omega) only [go_sem, Nat.reduceBEq, ↓reduceIte, reduceCtorEq, Nat.reduceAdd, Nat.reduceMul, Nat.reduceLeDiff, Nat.reduceLT, h1, h2, hne, hne2])) | refine nxt ?_ | refine zqu (by simp only [go_sem]; rfl) rfl ?_ | (refine J _ ?_; clear J K))
 (simp (disch := omega) only [go_sem, Nat.reduceBEq])
 refine ⟨fun j hj => ?_, fun id h1 h2 => ?_⟩
 ·match j, hj with
  | 0, _ => simp [hne', h0, zp5]
  | 1, _ => simp [zp5]
  | 2, _ => simp [zp5, z0b]
 ·rw [show (id == 1) = false from by simp; omega, show (id == 2) = false from by simp; omega, show (id == nx) = false from by simp; omega]; rfl
theorem zfl (u : T) (hfit : fitB u = true) (hs : cntT u <= 1000000000) : PC prog 79 [z0g u] (.int .i64 (cntT u)) := by
 refine z14 1 (by simp only [pureD.pureL, z01, Bool.and_self]) rfl (z0z [] func79 rfl (by decide +kernel) rfl ?_)
 show awp _ _ (Code.seq _ _) _ _
 repeat' (first | ((refine zqh fun K J => ?_); (simp (disch := omega) only [go_sem, Nat.reduceBEq, ↓reduceIte, Nat.reduceAdd, Nat.reduceLeDiff, Nat.reduceLT])) | (refine J _ ?_; clear J K))
 have h := zd4 (fun _ n => (true, n + 1)) (low_C u) (fun _ => 0) (z0l u).length (fun _ _ => by simp) u hfit (fun x _ n _ => zu3 u x n) 0 (by simp)
 rw [zru] at h
 refine z4h h (Nat.le_refl _) (fun j hj => ?_) fun H1 hs1 _ => ?_
 ·match j, hj with
  | 0, _ => rfl
  | 1, _ => rfl
 ·have h1 : H1 1 = some (.box 3 [.int .i64 (IntKind.i64.wrap ((0 + (z0l u).length : Nat) : Int))]) := hs1 1 (by omega)
  (try (simp (disch := omega) only [go_sem])); repeat' (first | ((refine zqh fun K J => ?_); (simp (disch := omega) only [go_sem, Nat.reduceBEq, ↓reduceIte, Nat.reduceAdd, h1])) | refine nxt ?_ | refine zqu (by simp only [go_sem]; rfl) rfl ?_ | (refine J _ ?_; clear J K))
  refine z1k ?_
  exact z6e (by unfold cntT at hs; omega)
theorem zrx (u : T) (hfit : fitB u = true) (hs : cntT u <= 5000000000000) : PC prog 38 [z0g u] (z15 (z0i u)) := by
 refine z14 2 (by simp only [pureD.pureL, z01, Bool.and_self]) (z47 _) (z0z [] func38 rfl (by decide +kernel) rfl ?_)
 show awp _ _ (Code.seq _ _) _ _
 (refine zqh fun K J => ?_); (simp only [go_sem, ↓reduceIte]); (refine J _ ?_); (clear J K)
 refine z1f fun K J => ?_
 (simp (disch := omega) only [go_sem, Nat.reduceAdd])
 refine J _ _ (zlo (b := 1) (e := 64) 23 (by (simp (disch := omega) only [go_sem, Nat.reduceBEq]))) ?_
 clear J K
 repeat' (((refine zqh fun K J => ?_); (simp (disch := omega) only [go_sem, Nat.reduceBEq, ↓reduceIte, Nat.reduceAdd, Nat.reduceLeDiff])))
 have h := zd4 (fun x l => (true, l ++ [x.id])) (low_I u) List.length (z0l u).length (fun x l => by simp) u hfit (fun x _ l hl => zrw u x l (by unfold cntT at hs; omega)) [] (by simp)
 rw [zkm] at h
 refine z4h h (Nat.le_refl _) (fun j hj => ?_) fun H1 hs1 _ => ?_
 ·match j, hj with
  | 0, _ => rfl
  | 1, _ => rfl
  | 2, _ => rfl
 ·have h1 : H1 1 = some (.box 64 [.osl 2 (z0i u).length]) := hs1 1 (by omega)
  have h2 : H1 2 = some (.row 23 (z0i u).length ((z0i u).flatMap z0b)) := hs1 2 (by omega)
  (try (simp (disch := omega) only [go_sem])); repeat' (first | ((refine zqh fun K J => ?_); (simp (disch := omega) only [go_sem, Nat.reduceBEq, ↓reduceIte, Nat.reduceAdd, h1])) | refine nxt ?_ | refine zqu (by simp only [go_sem]; rfl) rfl ?_ | (refine J _ ?_; clear J K))
  refine z3i ?_
  exact z1e 0 h2 z1o z88 (fun _ => rfl) (fun _ => rfl)
end
section
open Abs Facts Tr
attribute [local irreducible] awp
namespace Tr
def z9r (p : Int -> Bool) (s : ByteArray) : Nat := ((bl s).takeWhile fun b => !p b.toNat).length
theorem zna {p : Int -> Bool} {s : ByteArray} {k : Nat} (O : k <= s.size) (h1 : ∀ j, (hj : j < k) -> p ((bl s)[j]'(by rw [z22]; omega)).toNat = false) (h2 : ∀ h : k < s.size, p ((bl s)[k]'h).toNat = true) : z9r p s = k := by
 unfold z9r
 refine z6r (by rw [z22]; exact O) (fun j hj => by rw [h1 j hj]; rfl) (fun h => by rw [h2 h]; rfl)
end Tr
theorem zyz {s : ByteArray} {i : Nat} (h : i < s.size) (hb : ((bl s)[i]'h).toNat < 128) : Utf8.decode s i = (((bl s)[i]'h).toNat, 1) := decode_ascii s i h hb
theorem zz0 {s : ByteArray} {i : Nat} (h : i < s.size) (hb : 128 <= ((bl s)[i]'h).toNat) : 128 <= (Utf8.decode s i).1 := (decode_high s i h hb).1
theorem znb (s : ByteArray) (hs : s.size <= maxLen) {g : FuncId} {cap : List D} (p : Int -> Bool) (hc : pureD.pureL cap = true)
  (hp : ∀ r : Nat, r <= 2147483647 -> PC prog g (.int .i32 r :: cap) (.bool (p r))) (hbig : ∀ r : Nat, 128 <= r -> p r = true) :
  PC prog 202 [.str s, .fn g cap, .bool true] (.int .i64 (if z9r p s < s.size then (z9r p s : Int) else -1)) := by
 unfold maxLen at hs
 refine z14 1 (by simp only [pureD.pureL, pureD, hc, Bool.and_self]) rfl (z0z [] func202 rfl (by decide +kernel) rfl ?_)
 show awp _ _ (Code.seq _ _) _ _
 repeat' (first | refine nxt ?_ | ((refine zqh fun K J => ?_); (simp (disch := omega) only [go_sem, Nat.reduceBEq, ↓reduceIte])) | (refine J _ ?_; clear J K))
 have hdp : ∀ i (h : i < s.size), p (Utf8.decode s i).1 = p ((bl s)[i]'h).toNat /\ (p ((bl s)[i]'h).toNat = false -> (Utf8.decode s i).2 = 1) := fun i h => by
  rcases Nat.lt_or_ge ((bl s)[i]'h).toNat 128 with hb | hb
  ·rw [zyz h hb]; exact ⟨rfl, fun _ => rfl⟩
  ·rw [hbig _ (zz0 h hb), hbig _ hb]; exact ⟨rfl, fun h => by cases h⟩
 (refine z3c (fun U st => ∃ (i : _), U = s.size - i /\ st.t 1 = .fn g cap /\ st.t 2 = .bool true /\ st.t 10 = .it 0 /\ st.H 0 = some (.raw (.stringIter s i)) /\ (i <= s.size) /\ (∀ j, (hj : j < i) -> (h : j < (bl s).length) -> p (bl s)[j].toNat = false) /\ (1 <= st.nx)) ?_ ?_); rotate_left; (rintro U st ⟨i, rfl, q1, q2, q10, qH0, qp0, qp1, qp2⟩); rotate_left
 ·(refine ⟨_, 0, rfl, ?_⟩); (simp (disch := omega) only [go_sem, Nat.reduceBEq, Nat.reduceLeDiff, true_and, and_true])
  intro j hj; omega
 by_cases hi : i < s.size
 ·have hp := hp (Utf8.decode s i).1 (decode_le s i)
  obtain ⟨hd1, hd2⟩ := hdp i hi
  repeat' (first | ((first | refine zqh fun K J => ?_ | refine zqs (hp) ?_); (simp (disch := omega) only [go_sem, Nat.reduceBEq, ↓reduceIte, q1, q2, q10, qH0, hi])) | ((first | refine zqd _ rfl (fun hc => ?_) (fun hc => ?_) | refine zqm _ rfl (fun hc => ?_) (fun hc => ?_)) <;> (first | (cases hc; done) | ((try simp only [] at hc); (try omega)))) | refine nxt ?_ | refine zqu (by simp only [go_sem]; rfl) rfl ?_ | (refine J _ ?_; clear J K))
  ·refine z1k ?_
   rw [zna (k := i) (by omega) (fun j hj => qp1 j hj (by rw [z22]; omega)) (fun h => by rw [<- hd1]; assumption), if_pos hi]
  ·have hd1 := hd1.symm.trans (by assumption)
   have hd2 := hd2 hd1
   (refine Exists.intro _ (And.intro ?_ ⟨i + 1, rfl, ?_⟩)); rotate_left; (simp (disch := omega) only [go_sem, Nat.reduceBEq, q1, q2, q10, qH0, true_and, hd2]); rotate_left
   ·omega
   ·refine ⟨by omega, fun j hj h => ?_, by omega⟩
    by_cases e : j = i
    ·subst e; exact hd1
    ·exact qp1 j (by omega) h
 ·repeat' (first | ((refine zqh fun K J => ?_); (simp (disch := omega) only [go_sem, ↓reduceIte, q10, qH0, hi])) | (refine zqd _ rfl ?_ ?_ <;> intro hc <;> (first | (cases hc; done) | ((try simp only [] at hc); (try omega)))) | refine nxt ?_ | refine zqz ?_ | refine zqu (by simp only [go_sem]; rfl) rfl ?_ | (refine J _ ?_; clear J K))
  refine z1k ?_
  have hi2 : i = s.size := by omega
  subst hi2
  rw [zna (k := s.size) (by omega) (fun j hj => qp1 j hj (by rw [z22]; omega)) (fun h => by omega), if_neg (by omega)]
theorem zez (s : ByteArray) (hs : s.size <= maxLen) {g : FuncId} {cap : List D} (p : Int -> Bool) (hc : pureD.pureL cap = true)
  (hp : ∀ r : Nat, r <= 2147483647 -> PC prog g (.int .i32 r :: cap) (.bool (p r))) (hbig : ∀ r : Nat, 128 <= r -> p r = true) :
  PC prog 191 [.str s, .fn g cap] (.int .i64 (if z9r p s < s.size then (z9r p s : Int) else -1)) := by
 have h := znb s hs p hc hp hbig
 refine z14 1 (by simp only [pureD.pureL, pureD, hc, Bool.and_self]) rfl (z0z [] func191 rfl (by decide +kernel) rfl ?_)
 show awp _ _ (Code.seq _ _) _ _
 repeat' (first | ((first | refine zqh fun K J => ?_ | refine zqs (h) ?_); (simp (disch := omega) only [go_sem, Nat.reduceBEq])) | refine nxt ?_ | refine zqu (by simp only [go_sem]; rfl) rfl ?_ | (refine J _ ?_; clear J K))
 exact z1k rfl
theorem zfb (s : ByteArray) (hs : s.size <= maxLen) {g : FuncId} {cap : List D} (p : Int -> Bool) (hc : pureD.pureL cap = true)
  (hp : ∀ r : Nat, r <= 2147483647 -> PC prog g (.int .i32 r :: cap) (.bool (p r))) (hbig : ∀ r : Nat, 128 <= r -> p r = true) :
  PC prog 154 [.str s, .fn g cap] (.bool (decide (z9r p s < s.size))) := by
 have h := zez s hs p hc hp hbig
 refine z14 1 (by simp only [pureD.pureL, pureD, hc, Bool.and_self]) rfl (z0z [] func154 rfl (by decide +kernel) rfl ?_)
 show awp _ _ (Code.seq _ _) _ _
 repeat' (first | ((first | refine zqh fun K J => ?_ | refine zqs (h) ?_); (simp (disch := omega) only [go_sem, Nat.reduceBEq, ↓reduceIte])) | refine nxt ?_ | refine zqu (by simp only [go_sem]; rfl) rfl ?_ | (refine J _ ?_; clear J K))
 refine z03 ?_
 by_cases h : z9r p s < s.size
 ·rw [if_pos h]; simp [h]
 ·rw [if_neg h]; simp [h]
def zf0 (r : Int) : Bool := decide (r < 48) || decide (57 < r)
def zdc (r : Int) : Bool := decide (r < 65) || decide (90 < r)
theorem zud (r : Nat) : PC prog 192 [.int .i32 r] (.bool (zf0 r)) := by
 refine z14 1 (by simp only [pureD.pureL, pureD, Bool.and_self]) rfl (z0z [] func192 rfl (by decide +kernel) rfl ?_)
 show awp _ _ (Code.seq _ _) _ _
 repeat' (first | ((refine zqh fun K J => ?_); (simp (disch := omega) only [go_sem, Nat.reduceBEq, ↓reduceIte])) | refine nxt ?_ | refine zqu (by simp only [go_sem]; rfl) rfl ?_ | (refine J _ ?_; clear J K) | (refine zqf (fun hb => ?_) (fun hb => ?_) <;> (have hb2 := hb; try simp only [z07] at hb2) <;> ((first | have F := eq_false hb2 | have F := eq_true hb2); (simp (disch := omega) only [go_sem, Nat.reduceBEq, ↓reduceIte, F]); clear hb F; (try omega))))
 ·exact z03 (by unfold zf0; rw [decide_eq_false (show ¬ (r : Int) < 48 by assumption)]; rfl)
 ·exact z03 (by unfold zf0; rw [decide_eq_true (show (r : Int) < 48 by assumption)]; rfl)
theorem zz1 (r : Nat) : PC prog 153 [.int .i32 r] (.bool (zdc r)) := by
 refine z14 1 (by simp only [pureD.pureL, pureD, Bool.and_self]) rfl (z0z [] func153 rfl (by decide +kernel) rfl ?_)
 show awp _ _ (Code.seq _ _) _ _
 repeat' (first | ((refine zqh fun K J => ?_); (simp (disch := omega) only [go_sem, Nat.reduceBEq, ↓reduceIte])) | refine nxt ?_ | refine zqu (by simp only [go_sem]; rfl) rfl ?_ | (refine J _ ?_; clear J K) | (refine zqf (fun hb => ?_) (fun hb => ?_) <;> (have hb2 := hb; try simp only [z07] at hb2) <;> ((first | have F := eq_false hb2 | have F := eq_true hb2); (simp (disch := omega) only [go_sem, Nat.reduceBEq, ↓reduceIte, F]); clear hb F; (try omega))))
 ·exact z03 (by unfold zdc; rw [decide_eq_false (show ¬ (r : Int) < 65 by assumption)]; rfl)
 ·exact z03 (by unfold zdc; rw [decide_eq_true (show (r : Int) < 65 by assumption)]; rfl)
def znc (s : ByteArray) : ByteArray := if zaf s < s.size then s.extract 0 (zaf s) else s
def zue (s : ByteArray) : ByteArray := if zaf s < s.size then s.extract (zaf s) s.size else ByteArray.empty
theorem zj8 (s : ByteArray) (a b : Nat) : bl (s.extract a b) = ((bl s).take b).drop a := by
 unfold bl
 rw [ByteArray.data_extract, Array.toList_extract, List.extract]
 rw [List.drop_take]
theorem zs8 (s : ByteArray) : bl (znc s) = (bl s).take (zaf s) := by
 unfold znc
 have := zec s
 split
 ·rw [zj8, List.drop_zero]
 ·rw [List.take_of_length_le (by rw [z22]; omega)]
theorem zs9 (s : ByteArray) : bl (zue s) = (bl s).drop (zaf s) := by
 unfold zue
 have := zec s
 split
 ·rw [zj8, List.take_of_length_le (by rw [z22]; omega)]
 ·rw [List.drop_eq_nil_of_le (by rw [z22]; omega)]; rfl
theorem zuf (s : ByteArray) : (znc s).size = zaf s := by
 have := zec s
 rw [<- z22, zs8, List.length_take, z22]; omega
theorem zug (s : ByteArray) : (zue s).size = s.size - zaf s := by rw [<- z22, zs9, List.length_drop, z22]
theorem zuh : (fun b : UInt8 => !zf0 b.toNat) = dig := by
 funext b
 unfold zf0 dig
 rcases Nat.lt_or_ge b.toNat 48 with h | h
 ·rw [decide_eq_true (show (b.toNat : Int) < 48 by omega), decide_eq_false (show ¬ (48 <= b.toNat /\ b.toNat <= 57) by omega)]; rfl
 ·rw [decide_eq_false (show ¬ (b.toNat : Int) < 48 by omega)]
  rcases Nat.lt_or_ge 57 b.toNat with h2 | h2
  ·rw [decide_eq_true (show (57 : Int) < b.toNat by omega), decide_eq_false (show ¬ (48 <= b.toNat /\ b.toNat <= 57) by omega)]; rfl
  ·rw [decide_eq_false (show ¬ (57 : Int) < b.toNat by omega), decide_eq_true (show 48 <= b.toNat /\ b.toNat <= 57 by omega)]; rfl
theorem zj9 : (fun b : UInt8 => !zdc b.toNat) = cap := by
 funext b
 unfold zdc cap
 rcases Nat.lt_or_ge b.toNat 65 with h | h
 ·rw [decide_eq_true (show (b.toNat : Int) < 65 by omega), decide_eq_false (show ¬ (65 <= b.toNat /\ b.toNat <= 90) by omega)]; rfl
 ·rw [decide_eq_false (show ¬ (b.toNat : Int) < 65 by omega)]
  rcases Nat.lt_or_ge 90 b.toNat with h2 | h2
  ·rw [decide_eq_true (show (90 : Int) < b.toNat by omega), decide_eq_false (show ¬ (65 <= b.toNat /\ b.toNat <= 90) by omega)]; rfl
  ·rw [decide_eq_false (show ¬ (90 : Int) < b.toNat by omega), decide_eq_true (show 65 <= b.toNat /\ b.toNat <= 90 by omega)]; rfl
theorem z9j {α : Type} (q : α -> Bool) : ∀ (l : List α), ((l.takeWhile q).length < l.length) ↔ l.all q = false
 | [] => by simp
 | x :: l => by
  rw [List.takeWhile_cons, List.all_cons]
  cases q x
  ·simp
  ·simp [z9j q l]
theorem zky (s : ByteArray) : decide (z9r zdc s < s.size) = !(bl s).all cap := by
 have h := z9j (fun b : UInt8 => !zdc b.toNat) (bl s)
 rw [zj9] at h
 unfold z9r
 rw [zj9, <- z22]
 cases ha : (bl s).all cap
 ·exact decide_eq_true (h.2 ha)
 ·exact decide_eq_false (fun h2 => by rw [h.1 h2] at ha; cases ha)
theorem zz2 (s : ByteArray) (hs : s.size <= maxLen) : PC prog 152 [.str s] (.tup [.str (znc s), .str (zue s)]) := by
 have h := zez s hs (cap := []) zf0 rfl (fun r _ => zud r) (fun r hr => by unfold zf0; rw [decide_eq_true (show (57 : Int) < r by omega), Bool.or_true])
 rw [show z9r zf0 s = zaf s from by unfold z9r zaf; rw [zuh]] at h
 have hle := zec s
 unfold maxLen at hs
 refine z14 2 (by simp only [pureD.pureL, pureD, Bool.and_self]) rfl (z0z [] func152 rfl (by decide +kernel) rfl ?_)
 show awp _ _ (Code.seq _ _) _ _
 unfold znc zue
 by_cases V : zaf s < s.size
 ·rw [if_pos V] at h
  rw [if_pos V, if_pos V]
  repeat' (first | refine nxt ?_ | ((first | refine zqh fun K J => ?_ | refine zqe (by decide +kernel) fun K J => ?_ | refine zqs (h) ?_); (simp (disch := omega) only [go_sem, Nat.reduceBEq, ↓reduceIte])) | (refine zqd _ rfl ?_ ?_ <;> intro hc <;> (first | (cases hc; done) | ((try simp only [decide_eq_false_iff_not] at hc); (try omega)))) | refine zqu (by simp only [go_sem]; rfl) rfl ?_ | (refine J _ ?_; clear J K))
  exact z08 rfl (Le.refl _)
 ·rw [if_neg V] at h
  rw [if_neg V, if_neg V]
  repeat' (first | refine nxt ?_ | ((first | refine zqh fun K J => ?_ | refine zqs (h) ?_); (simp (disch := omega) only [go_sem, Nat.reduceBEq, ↓reduceIte, Int.reduceLT])) | (refine zqd _ rfl ?_ ?_ <;> intro hc <;> (first | (cases hc; done) | ((try simp only [] at hc); (try omega)))) | refine zqu (by simp only [go_sem]; rfl) rfl ?_ | (refine J _ ?_; clear J K))
  exact z08 rfl (Le.refl _)
theorem zdd (s : ByteArray) (hs : s.size <= maxLen) : PC prog 103 [.str s] (.bool (z4f s)) := by
 have h := zz2 s hs
 have hA := zuf s
 have hB := zug s
 have hle := zec s
 have hc := zfb (zue s) (by omega) (cap := []) zdc rfl (fun r _ => zz1 r) (fun r hr => by unfold zdc; rw [decide_eq_true (show (90 : Int) < r by omega), Bool.or_true])
 rw [zky, zs9] at hc
 have hbl := z22 (znc s)
 unfold maxLen at hs
 have hz : Int.toNat 0 = 0 := rfl
 have hne : ∀ h : 0 < (znc s).size, (bl (znc s))[0].toNat = ((bl s).headD 0).toNat := fun h => by
  refine (congrArg UInt8.toNat (bhead h)).trans ?_
  rw [zs8]
  congr 1
  obtain ⟨n, hn⟩ : ∃ n, zaf s = n + 1 := ⟨zaf s - 1, by omega⟩
  rw [hn]
  cases bl s <;> rfl
 refine z14 1 (by simp only [pureD.pureL, pureD, Bool.and_self]) rfl (z0z [] func103 rfl (by decide +kernel) rfl ?_)
 show awp _ _ (Code.seq _ _) _ _
 repeat' (first | ((first | refine zqh fun K J => ?_ | refine zqs (h) ?_ | refine zqs (hc) ?_); (simp (disch := omega) only [go_sem, Nat.reduceBEq, ↓reduceIte])) | refine nxt ?_ | refine zqu (by simp only [go_sem]; rfl) rfl ?_ | (refine J _ ?_; clear J K) | (refine zqf (fun hb => ?_) (fun hb => ?_) <;> (have hb2 := hb; try simp only [z07] at hb2) <;> ((first | have F := eq_false hb2 | have F := eq_true hb2); (simp (disch := omega) only [go_sem, Nat.reduceBEq, ↓reduceIte, Int.reduceLE, F, bget, hz]); clear hb F; (try omega))))
 ·have hf := hne (by omega)
  exact z03 (by unfold z4f; rw [decide_eq_true (by omega), Bool.true_and, Bool.not_not])
 ·exact z03 (by unfold z4f; rw [decide_eq_false (by omega)]; rfl)
 ·have hf := hne (by omega)
  exact z03 (by unfold z4f; rw [decide_eq_false (by omega)]; rfl)
 ·exact z03 (by unfold z4f; rw [decide_eq_false (by omega)]; rfl)
 ·exact z03 (by unfold z4f; rw [decide_eq_false (by omega)]; rfl)
def zyd (b : UInt8) : D := .int .u8 b.toNat
namespace Tr
def z32 {α : Type} (f : α -> Bool) (l : List α) : Nat := (l.takeWhile fun x => !f x).length
theorem z3r {α : Type} {f : α -> Bool} {l : List α} {k : Nat} (O : k <= l.length) (h1 : ∀ j, (hj : j < k) -> f (l[j]'(by omega)) = false) (h2 : ∀ h : k < l.length, f l[k] = true) : z32 f l = k := by
 unfold z32
 exact z6r O (fun j hj => by rw [h1 j hj]; rfl) (fun h => by rw [h2 h]; rfl)
theorem z9h {α : Type} (f : α -> Bool) (l : List α) : decide (z32 f l < l.length) = l.any f := by
 have h := z9j (fun x => !f x) l
 have h2 : (l.all fun x => !f x) = !l.any f := by rw [<- List.not_any_eq_all_not]
 unfold z32
 rw [h2] at h
 cases ha : l.any f
 ·exact decide_eq_false (fun h3 => by have := h.1 h3; rw [ha] at this; cases this)
 ·exact decide_eq_true (h.2 (by rw [ha]; rfl))
end Tr
theorem zkq (nn : Bool) (l : List UInt8) (hl : l.length <= maxLen) {g : FuncId} {cap : List D} (f : UInt8 -> Bool) (hc : pureD.pureL cap = true) (hp : ∀ x ∈ l, PC prog g (zyd x :: cap) (.bool (f x))) :
  PC prog 208 [.rsl nn 1 (l.map zyd), .fn g cap] (.int .i64 (if z32 f l < l.length then (z32 f l : Int) else -1)) := by
 unfold maxLen at hl
 refine z14 1 (by simp only [pureD.pureL, pureD, hc, z0r (f := zyd) (fun _ => rfl) l, Bool.and_self]) rfl (z0z [] func208 rfl (by decide +kernel) rfl ?_)
 show awp _ _ (Code.seq _ _) _ _
 repeat' (first | refine nxt ?_ | ((refine zqh fun K J => ?_); (simp (disch := omega) only [go_sem, Nat.reduceBEq])) | (refine J _ ?_; clear J K))
 (refine z3c (fun U st => ∃ (i : _), U = l.length - i /\ st.t 0 = .rsl nn 1 (l.map zyd) /\ st.t 1 = .fn g cap /\ st.t 7 = .int .i64 l.length /\ st.t 8 = .int .i64 i /\ (i <= l.length) /\ (∀ j, (hj : j < i) -> (h : j < l.length) -> f l[j] = false)) ?_ ?_); rotate_left; (rintro U st ⟨i, rfl, q0, q1, q7, q8, qp0, qp1⟩); rotate_left
 ·(refine ⟨_, 0, rfl, ?_⟩); (simp (disch := omega) only [go_sem, Nat.reduceBEq, true_and, Int.natCast_zero])
  intro j hj; omega
 have hp := fun (h : i < l.length) => hp l[i] (List.getElem_mem h)
 repeat' (first | ((first | refine zqh fun K J => ?_ | refine zqr fun K J => ?_ | refine zqs (hp (by omega)) ?_); (simp (disch := omega) only [go_sem, Nat.reduceBEq, ↓reduceIte, reduceCtorEq, Nat.reduceAdd, q0, q1, q7, q8, zyd])) | ((first | refine zqd _ rfl (fun hc => ?_) (fun hc => ?_) | refine zqm _ rfl (fun hc => ?_) (fun hc => ?_)) <;> (((try simp only [z07] at hc); (try omega)))) | refine nxt ?_ | refine zqz ?_ | refine zqu (by simp only [go_sem]; rfl) rfl ?_ | (refine J _ ?_; clear J K))
 ·refine z1k ?_
  rw [z3r (k := i) (by omega) (fun j hj => qp1 j hj (by omega)) (fun h => by assumption), if_pos (by omega)]
 ·(refine Exists.intro _ (And.intro ?_ ⟨i + 1, rfl, ?_⟩)); rotate_left; (simp (disch := omega) only [go_sem, Nat.reduceBEq, q0, q1, q7, q8, true_and, Int.natCast_add, Int.natCast_one]); rotate_left
  ·omega
  ·refine ⟨by omega, fun j hj h => ?_⟩
   by_cases e : j = i
   ·subst e; assumption
   ·exact qp1 j (by omega) h
 ·refine z1k ?_
  have hi : i = l.length := by omega
  subst hi
  rw [z3r (k := l.length) (by omega) (fun j hj => qp1 j hj (by omega)) (fun h => by omega), if_neg (by omega)]
theorem zf8 (nn : Bool) (l : List UInt8) (hl : l.length <= maxLen) {g : FuncId} {cap : List D} (f : UInt8 -> Bool) (hc : pureD.pureL cap = true) (hp : ∀ x ∈ l, PC prog g (zyd x :: cap) (.bool (f x))) :
  PC prog 205 [.rsl nn 1 (l.map zyd), .fn g cap] (.bool (l.any f)) := by
 have h := zkq nn l hl f hc hp
 refine z14 1 (by simp only [pureD.pureL, pureD, hc, z0r (f := zyd) (fun _ => rfl) l, Bool.and_self]) rfl (z0z [] func205 rfl (by decide +kernel) rfl ?_)
 show awp _ _ (Code.seq _ _) _ _
 repeat' (first | ((first | refine zqh fun K J => ?_ | refine zqs (h) ?_); (simp (disch := omega) only [go_sem, Nat.reduceBEq, ↓reduceIte])) | refine nxt ?_ | refine zqu (by simp only [go_sem]; rfl) rfl ?_ | (refine J _ ?_; clear J K))
 refine z03 ?_
 rw [<- z9h]
 by_cases h : z32 f l < l.length
 ·rw [if_pos h]; simp [h]
 ·rw [if_neg h]; simp [h]
theorem zkr (nn : Bool) (l : List ByteArray) (hl : l.length <= maxLen) {g : FuncId} {cap : List D} (f : ByteArray -> Bool) (hc : pureD.pureL cap = true) (hp : ∀ x ∈ l, PC prog g (D.str x :: cap) (.bool (f x))) :
  PC prog 203 [.rsl nn 1 (l.map D.str), .fn g cap] (.int .i64 (if z32 f l < l.length then (z32 f l : Int) else -1)) := by
 unfold maxLen at hl
 refine z14 1 (by simp only [pureD.pureL, pureD, hc, z0r (f := D.str) (fun _ => rfl) l, Bool.and_self]) rfl (z0z [] func203 rfl (by decide +kernel) rfl ?_)
 show awp _ _ (Code.seq _ _) _ _
 repeat' (first | refine nxt ?_ | ((refine zqh fun K J => ?_); (simp (disch := omega) only [go_sem, Nat.reduceBEq])) | (refine J _ ?_; clear J K))
 (refine z3c (fun U st => ∃ (i : _), U = l.length - i /\ st.t 0 = .rsl nn 1 (l.map D.str) /\ st.t 1 = .fn g cap /\ st.t 7 = .int .i64 l.length /\ st.t 8 = .int .i64 i /\ (i <= l.length) /\ (∀ j, (hj : j < i) -> (h : j < l.length) -> f l[j] = false)) ?_ ?_); rotate_left; (rintro U st ⟨i, rfl, q0, q1, q7, q8, qp0, qp1⟩); rotate_left
 ·(refine ⟨_, 0, rfl, ?_⟩); (simp (disch := omega) only [go_sem, Nat.reduceBEq, true_and, Int.natCast_zero])
  intro j hj; omega
 have hp := fun (h : i < l.length) => hp l[i] (List.getElem_mem h)
 repeat' (first | ((first | refine zqh fun K J => ?_ | refine zqr fun K J => ?_ | refine zqs (hp (by omega)) ?_); (simp (disch := omega) only [go_sem, Nat.reduceBEq, ↓reduceIte, reduceCtorEq, Nat.reduceAdd, q0, q1, q7, q8])) | ((first | refine zqd _ rfl (fun hc => ?_) (fun hc => ?_) | refine zqm _ rfl (fun hc => ?_) (fun hc => ?_)) <;> (((try simp only [z07] at hc); (try omega)))) | refine nxt ?_ | refine zqz ?_ | refine zqu (by simp only [go_sem]; rfl) rfl ?_ | (refine J _ ?_; clear J K))
 ·refine z1k ?_
  rw [z3r (k := i) (by omega) (fun j hj => qp1 j hj (by omega)) (fun h => by assumption), if_pos (by omega)]
 ·(refine Exists.intro _ (And.intro ?_ ⟨i + 1, rfl, ?_⟩)); rotate_left; (simp (disch := omega) only [go_sem, Nat.reduceBEq, q0, q1, q7, q8, true_and, Int.natCast_add, Int.natCast_one]); rotate_left
  ·omega
  ·refine ⟨by omega, fun j hj h => ?_⟩
   by_cases e : j = i
   ·subst e; assumption
   ·exact qp1 j (by omega) h
 ·refine z1k ?_
  have hi : i = l.length := by omega
  subst hi
  rw [z3r (k := l.length) (by omega) (fun j hj => qp1 j hj (by omega)) (fun h => by omega), if_neg (by omega)]
theorem zf9 (nn : Bool) (l : List ByteArray) (hl : l.length <= maxLen) {g : FuncId} {cap : List D} (f : ByteArray -> Bool) (hc : pureD.pureL cap = true) (hp : ∀ x ∈ l, PC prog g (D.str x :: cap) (.bool (f x))) :
  PC prog 193 [.rsl nn 1 (l.map D.str), .fn g cap] (.bool (l.any f)) := by
 have h := zkr nn l hl f hc hp
 refine z14 1 (by simp only [pureD.pureL, pureD, hc, z0r (f := D.str) (fun _ => rfl) l, Bool.and_self]) rfl (z0z [] func193 rfl (by decide +kernel) rfl ?_)
 show awp _ _ (Code.seq _ _) _ _
 repeat' (first | ((first | refine zqh fun K J => ?_ | refine zqs (h) ?_); (simp (disch := omega) only [go_sem, Nat.reduceBEq, ↓reduceIte])) | refine nxt ?_ | refine zqu (by simp only [go_sem]; rfl) rfl ?_ | (refine J _ ?_; clear J K))
 refine z03 ?_
 rw [<- z9h]
 by_cases h : z32 f l < l.length
 ·rw [if_pos h]; simp [h]
 ·rw [if_neg h]; simp [h]
theorem zks (nn : Bool) (l : List Wd) (hl : l.length <= maxLen) {g : FuncId} {cap : List D} (f : Wd -> Bool) (hc : pureD.pureL cap = true) (hp : ∀ x ∈ l, PC prog g (z7q x :: cap) (.bool (f x))) :
  PC prog 171 [.rsl nn 4 (l.map z7q), .fn g cap] (.int .i64 (if z32 f l < l.length then (z32 f l : Int) else -1)) := by
 unfold maxLen at hl
 refine z14 1 (by simp only [pureD.pureL, pureD, hc, z0r (f := z7q) (fun _ => rfl) l, Bool.and_self]) rfl (z0z [] func171 rfl (by decide +kernel) rfl ?_)
 show awp _ _ (Code.seq _ _) _ _
 repeat' (first | refine nxt ?_ | ((refine zqh fun K J => ?_); (simp (disch := omega) only [go_sem, Nat.reduceBEq])) | (refine J _ ?_; clear J K))
 (refine z3c (fun U st => ∃ (i : _), U = l.length - i /\ st.t 0 = .rsl nn 4 (l.map z7q) /\ st.t 1 = .fn g cap /\ st.t 7 = .int .i64 l.length /\ st.t 8 = .int .i64 i /\ (i <= l.length) /\ (∀ j, (hj : j < i) -> (h : j < l.length) -> f l[j] = false)) ?_ ?_); rotate_left; (rintro U st ⟨i, rfl, q0, q1, q7, q8, qp0, qp1⟩); rotate_left
 ·(refine ⟨_, 0, rfl, ?_⟩); (simp (disch := omega) only [go_sem, Nat.reduceBEq, true_and, Int.natCast_zero])
  intro j hj; omega
 have hp := fun (h : i < l.length) => hp l[i] (List.getElem_mem h)
 repeat' (first | ((first | refine zqh fun K J => ?_ | refine zqr fun K J => ?_ | refine zqs (hp (by omega)) ?_); (simp (disch := omega) only [go_sem, Nat.reduceBEq, ↓reduceIte, reduceCtorEq, Nat.reduceAdd, q0, q1, q7, q8])) | ((first | refine zqd _ rfl (fun hc => ?_) (fun hc => ?_) | refine zqm _ rfl (fun hc => ?_) (fun hc => ?_)) <;> (((try simp only [z07] at hc); (try omega)))) | refine nxt ?_ | refine zqz ?_ | refine zqu (by simp only [go_sem]; rfl) rfl ?_ | (refine J _ ?_; clear J K))
 ·refine z1k ?_
  rw [z3r (k := i) (by omega) (fun j hj => qp1 j hj (by omega)) (fun h => by assumption), if_pos (by omega)]
 ·(refine Exists.intro _ (And.intro ?_ ⟨i + 1, rfl, ?_⟩)); rotate_left; (simp (disch := omega) only [go_sem, Nat.reduceBEq, q0, q1, q7, q8, true_and, Int.natCast_add, Int.natCast_one]); rotate_left
  ·omega
  ·refine ⟨by omega, fun j hj h => ?_⟩
   by_cases e : j = i
   ·subst e; assumption
   ·exact qp1 j (by omega) h
 ·refine z1k ?_
  have hi : i = l.length := by omega
  subst hi
  rw [z3r (k := l.length) (by omega) (fun j hj => qp1 j hj (by omega)) (fun h => by omega), if_neg (by omega)]
theorem z6f (nn : Bool) (l : List Wd) (hl : l.length <= maxLen) {g : FuncId} {cap : List D} (f : Wd -> Bool) (hc : pureD.pureL cap = true) (hp : ∀ x ∈ l, PC prog g (z7q x :: cap) (.bool (f x))) :
  PC prog 124 [.rsl nn 4 (l.map z7q), .fn g cap] (.bool (l.any f)) := by
 have h := zks nn l hl f hc hp
 refine z14 1 (by simp only [pureD.pureL, pureD, hc, z0r (f := z7q) (fun _ => rfl) l, Bool.and_self]) rfl (z0z [] func124 rfl (by decide +kernel) rfl ?_)
 show awp _ _ (Code.seq _ _) _ _
 repeat' (first | ((first | refine zqh fun K J => ?_ | refine zqs (h) ?_); (simp (disch := omega) only [go_sem, Nat.reduceBEq, ↓reduceIte])) | refine nxt ?_ | refine zqu (by simp only [go_sem]; rfl) rfl ?_ | (refine J _ ?_; clear J K))
 refine z03 ?_
 rw [<- z9h]
 by_cases h : z32 f l < l.length
 ·rw [if_pos h]; simp [h]
 ·rw [if_neg h]; simp [h]
theorem zd7 (nn : Bool) (l : List Idv) (hl : l.length <= maxLen) {g : FuncId} {cap : List D} (f : Idv -> Bool) (hc : pureD.pureL cap = true) (hp : ∀ x ∈ l, PC prog g (z1a x :: cap) (.bool (f x))) :
  PC prog 58 [.rsl nn 3 (l.map z1a), .fn g cap] (.int .i64 (if z32 f l < l.length then (z32 f l : Int) else -1)) := by
 unfold maxLen at hl
 refine z14 1 (by simp only [pureD.pureL, pureD, hc, z0r (f := z1a) (fun _ => rfl) l, Bool.and_self]) rfl (z0z [] func58 rfl (by decide +kernel) rfl ?_)
 show awp _ _ (Code.seq _ _) _ _
 repeat' (first | refine nxt ?_ | ((refine zqh fun K J => ?_); (simp (disch := omega) only [go_sem, Nat.reduceBEq])) | (refine J _ ?_; clear J K))
 (refine z3c (fun U st => ∃ (i : _), U = l.length - i /\ st.t 0 = .rsl nn 3 (l.map z1a) /\ st.t 1 = .fn g cap /\ st.t 7 = .int .i64 l.length /\ st.t 8 = .int .i64 i /\ (i <= l.length) /\ (∀ j, (hj : j < i) -> (h : j < l.length) -> f l[j] = false)) ?_ ?_); rotate_left; (rintro U st ⟨i, rfl, q0, q1, q7, q8, qp0, qp1⟩); rotate_left
 ·(refine ⟨_, 0, rfl, ?_⟩); (simp (disch := omega) only [go_sem, Nat.reduceBEq, true_and, Int.natCast_zero])
  intro j hj; omega
 have hp := fun (h : i < l.length) => hp l[i] (List.getElem_mem h)
 repeat' (first | ((first | refine zqh fun K J => ?_ | refine zqr fun K J => ?_ | refine zqs (hp (by omega)) ?_); (simp (disch := omega) only [go_sem, Nat.reduceBEq, ↓reduceIte, reduceCtorEq, Nat.reduceAdd, q0, q1, q7, q8])) | ((first | refine zqd _ rfl (fun hc => ?_) (fun hc => ?_) | refine zqm _ rfl (fun hc => ?_) (fun hc => ?_)) <;> (((try simp only [z07] at hc); (try omega)))) | refine nxt ?_ | refine zqz ?_ | refine zqu (by simp only [go_sem]; rfl) rfl ?_ | (refine J _ ?_; clear J K))
 ·refine z1k ?_
  rw [z3r (k := i) (by omega) (fun j hj => qp1 j hj (by omega)) (fun h => by assumption), if_pos (by omega)]
 ·(refine Exists.intro _ (And.intro ?_ ⟨i + 1, rfl, ?_⟩)); rotate_left; (simp (disch := omega) only [go_sem, Nat.reduceBEq, q0, q1, q7, q8, true_and, Int.natCast_add, Int.natCast_one]); rotate_left
  ·omega
  ·refine ⟨by omega, fun j hj h => ?_⟩
   by_cases e : j = i
   ·subst e; assumption
   ·exact qp1 j (by omega) h
 ·refine z1k ?_
  have hi : i = l.length := by omega
  subst hi
  rw [z3r (k := l.length) (by omega) (fun j hj => qp1 j hj (by omega)) (fun h => by omega), if_neg (by omega)]
theorem z4m (nn : Bool) (l : List Idv) (hl : l.length <= maxLen) {g : FuncId} {cap : List D} (f : Idv -> Bool) (hc : pureD.pureL cap = true) (hp : ∀ x ∈ l, PC prog g (z1a x :: cap) (.bool (f x))) :
  PC prog 37 [.rsl nn 3 (l.map z1a), .fn g cap] (.bool (l.any f)) := by
 have h := zd7 nn l hl f hc hp
 refine z14 1 (by simp only [pureD.pureL, pureD, hc, z0r (f := z1a) (fun _ => rfl) l, Bool.and_self]) rfl (z0z [] func37 rfl (by decide +kernel) rfl ?_)
 show awp _ _ (Code.seq _ _) _ _
 repeat' (first | ((first | refine zqh fun K J => ?_ | refine zqs (h) ?_); (simp (disch := omega) only [go_sem, Nat.reduceBEq, ↓reduceIte])) | refine nxt ?_ | refine zqu (by simp only [go_sem]; rfl) rfl ?_ | (refine J _ ?_; clear J K))
 refine z03 ?_
 rw [<- z9h]
 by_cases h : z32 f l < l.length
 ·rw [if_pos h]; simp [h]
 ·rw [if_neg h]; simp [h]
theorem zd8 (nn : Bool) (l : List T) (hl : l.length <= maxLen) {g : FuncId} {cap : List D} (f : T -> Bool) (hc : pureD.pureL cap = true) (hp : ∀ x ∈ l, PC prog g (z0g x :: cap) (.bool (f x))) :
  PC prog 166 [.rsl nn 8 (l.map z0g), .fn g cap] (.int .i64 (if z32 f l < l.length then (z32 f l : Int) else -1)) := by
 unfold maxLen at hl
 refine z14 1 (by simp only [pureD.pureL, pureD, hc, z0r (f := z0g) (z01) l, Bool.and_self]) rfl (z0z [] func166 rfl (by decide +kernel) rfl ?_)
 show awp _ _ (Code.seq _ _) _ _
 repeat' (first | refine nxt ?_ | ((refine zqh fun K J => ?_); (simp (disch := omega) only [go_sem, Nat.reduceBEq])) | (refine J _ ?_; clear J K))
 (refine z3c (fun U st => ∃ (i : _), U = l.length - i /\ st.t 0 = .rsl nn 8 (l.map z0g) /\ st.t 1 = .fn g cap /\ st.t 7 = .int .i64 l.length /\ st.t 8 = .int .i64 i /\ (i <= l.length) /\ (∀ j, (hj : j < i) -> (h : j < l.length) -> f l[j] = false)) ?_ ?_); rotate_left; (rintro U st ⟨i, rfl, q0, q1, q7, q8, qp0, qp1⟩); rotate_left
 ·(refine ⟨_, 0, rfl, ?_⟩); (simp (disch := omega) only [go_sem, Nat.reduceBEq, true_and, Int.natCast_zero])
  intro j hj; omega
 have hp := fun (h : i < l.length) => hp l[i] (List.getElem_mem h)
 repeat' (first | ((first | refine zqh fun K J => ?_ | refine zqr fun K J => ?_ | refine zqs (hp (by omega)) ?_); (simp (disch := omega) only [go_sem, Nat.reduceBEq, ↓reduceIte, reduceCtorEq, Nat.reduceAdd, q0, q1, q7, q8])) | ((first | refine zqd _ rfl (fun hc => ?_) (fun hc => ?_) | refine zqm _ rfl (fun hc => ?_) (fun hc => ?_)) <;> (((try simp only [z07] at hc); (try omega)))) | refine nxt ?_ | refine zqz ?_ | refine zqu (by simp only [go_sem]; rfl) rfl ?_ | (refine J _ ?_; clear J K))
 ·refine z1k ?_
  rw [z3r (k := i) (by omega) (fun j hj => qp1 j hj (by omega)) (fun h => by assumption), if_pos (by omega)]
 ·(refine Exists.intro _ (And.intro ?_ ⟨i + 1, rfl, ?_⟩)); rotate_left; (simp (disch := omega) only [go_sem, Nat.reduceBEq, q0, q1, q7, q8, true_and, Int.natCast_add, Int.natCast_one]); rotate_left
  ·omega
  ·refine ⟨by omega, fun j hj h => ?_⟩
   by_cases e : j = i
   ·subst e; assumption
   ·exact qp1 j (by omega) h
 ·refine z1k ?_
  have hi : i = l.length := by omega
  subst hi
  rw [z3r (k := l.length) (by omega) (fun j hj => qp1 j hj (by omega)) (fun h => by omega), if_neg (by omega)]
theorem zfa (nn : Bool) (l : List T) (hl : l.length <= maxLen) {g : FuncId} {cap : List D} (f : T -> Bool) (hc : pureD.pureL cap = true) (hp : ∀ x ∈ l, PC prog g (z0g x :: cap) (.bool (f x))) :
  PC prog 168 [.rsl nn 8 (l.map z0g), .fn g cap] (.bool (l.any f)) := by
 have h := zd8 nn l hl f hc hp
 refine z14 1 (by simp only [pureD.pureL, pureD, hc, z0r (f := z0g) (z01) l, Bool.and_self]) rfl (z0z [] func168 rfl (by decide +kernel) rfl ?_)
 show awp _ _ (Code.seq _ _) _ _
 repeat' (first | ((first | refine zqh fun K J => ?_ | refine zqs (h) ?_); (simp (disch := omega) only [go_sem, Nat.reduceBEq, ↓reduceIte])) | refine nxt ?_ | refine zqu (by simp only [go_sem]; rfl) rfl ?_ | (refine J _ ?_; clear J K))
 refine z03 ?_
 rw [<- z9h]
 by_cases h : z32 f l < l.length
 ·rw [if_pos h]; simp [h]
 ·rw [if_neg h]; simp [h]
def odd (b : UInt8) : Bool := decide ((b.toNat : Int) < 33) || decide (126 < (b.toNat : Int))
theorem odd_ink : (fun b : UInt8 => !odd b) = ink := by
 funext b
 unfold odd ink
 rcases Nat.lt_or_ge b.toNat 33 with h | h
 ·rw [decide_eq_true (show (b.toNat : Int) < 33 by omega), decide_eq_false (show ¬ (33 <= b.toNat /\ b.toNat <= 126) by omega)]; rfl
 ·rw [decide_eq_false (show ¬ (b.toNat : Int) < 33 by omega)]
  rcases Nat.lt_or_ge 126 b.toNat with h2 | h2
  ·rw [decide_eq_true (show (126 : Int) < b.toNat by omega), decide_eq_false (show ¬ (33 <= b.toNat /\ b.toNat <= 126) by omega)]; rfl
  ·rw [decide_eq_false (show ¬ (126 : Int) < b.toNat by omega), decide_eq_true (show 33 <= b.toNat /\ b.toNat <= 126 by omega)]; rfl
theorem any_odd (l : List UInt8) : l.any odd = !l.all ink := by
 rw [<- odd_ink, <- List.not_any_eq_all_not, Bool.not_not]
theorem zxh (s : ByteArray) : zsc s = (bl s).map zyd := rfl
theorem pc_word1 (b : UInt8) : PC prog 204 [zyd b] (.bool (odd b)) := by
 refine z14 1 rfl rfl (z0z [] func204 rfl (by decide +kernel) rfl ?_)
 show awp _ _ (Code.seq _ _) _ _
 repeat' (first | ((refine zqh fun K J => ?_); (simp (disch := omega) only [go_sem, Nat.reduceBEq, ↓reduceIte, zyd])) | refine nxt ?_ | refine zqu (by simp only [go_sem]; rfl) rfl ?_ | (refine J _ ?_; clear J K) | (refine zqf (fun hb => ?_) (fun hb => ?_) <;> (have hb2 := hb; try simp only [z07] at hb2) <;> ((first | have F := eq_false hb2 | have F := eq_true hb2); (simp (disch := omega) only [go_sem, Nat.reduceBEq, ↓reduceIte, F]); clear hb F; (try omega))))
 ·exact z03 (by unfold odd; rw [decide_eq_false (show ¬ (b.toNat : Int) < 33 by assumption)]; rfl)
 ·exact z03 (by unfold odd; rw [decide_eq_true (show (b.toNat : Int) < 33 by assumption)]; rfl)
theorem zi0 {s : ByteArray} (h : ¬ s = ⟨#[]⟩) : 1 <= s.size := by
 rcases Nat.eq_zero_or_pos s.size with h0 | h0
 ·exfalso; apply h
  obtain ⟨a⟩ := s
  rw [ByteArray.mk.injEq]
  exact Array.eq_empty_of_size_eq_zero h0
 ·exact h0
theorem pc_wordP (s : ByteArray) (hs : s.size <= maxLen) : PC prog 195 [.str s] (.bool (z6q s)) := by
 have h := zf8 true (bl s) (by rw [z22]; exact hs) (cap := []) odd rfl (fun b _ => pc_word1 b)
 rw [any_odd] at h
 unfold maxLen at hs
 refine z14 1 rfl rfl (z0z [] func195 rfl (by decide +kernel) rfl ?_)
 show awp _ _ (Code.seq _ _) _ _
 repeat' (first | ((first | refine zqh fun K J => ?_ | refine zqs (h) ?_); (simp (disch := omega) only [go_sem, Nat.reduceBEq, ↓reduceIte])) | refine nxt ?_ | refine zqu (by simp only [go_sem]; rfl) rfl ?_ | (refine J _ ?_; clear J K) | (refine zqf (fun hb => ?_) (fun hb => ?_) <;> (have hb2 := hb; try simp only [z07] at hb2) <;> ((first | have F := eq_false hb2 | have F := eq_true hb2); (simp (disch := omega) only [go_sem, Nat.reduceBEq, ↓reduceIte, F, zxh]); clear hb F; (try omega))))
 ·have hpos := zi0 (by assumption)
  exact z03 (by unfold z6q; rw [decide_eq_true (by omega), Bool.true_and, Bool.not_not])
 ·exact z03 (by unfold z6q; rw [decide_eq_false (by omega)]; rfl)
 ·have he : s = ⟨#[]⟩ := by assumption
  subst he
  exact z03 rfl
theorem ztv (s : ByteArray) (hs : s.size <= maxLen) : PC prog 194 [.str s] (.bool (!z6q s)) := by
 have h := pc_wordP s hs
 refine z14 1 rfl rfl (z0z [] func194 rfl (by decide +kernel) rfl ?_)
 show awp _ _ (Code.seq _ _) _ _
 repeat' (first | ((first | refine zqh fun K J => ?_ | refine zqs (h) ?_); (simp (disch := omega) only [go_sem, Nat.reduceBEq])) | refine nxt ?_ | refine zqu (by simp only [go_sem]; rfl) rfl ?_ | (refine J _ ?_; clear J K))
 exact z03 rfl
theorem ziv (nn : Bool) (l : List ByteArray) (hl : l.length <= maxLen) (hs : ∀ s ∈ l, s.size <= maxLen) : PC prog 155 [.rsl nn 1 (l.map .str)] (.bool (zxy l)) := by
 have h := zf9 nn l hl (cap := []) (fun s => !z6q s) rfl (fun s hs' => ztv s (hs s hs'))
 rw [show (l.any fun s => !z6q s) = !l.all z6q from by rw [<- List.not_all_eq_any_not]] at h
 unfold maxLen at hl
 refine z14 1 (by simp only [pureD.pureL, pureD, z0r (f := D.str) (fun _ => rfl) l, Bool.and_self]) rfl (z0z [] func155 rfl (by decide +kernel) rfl ?_)
 show awp _ _ (Code.seq _ _) _ _
 repeat' (first | ((first | refine zqh fun K J => ?_ | refine zqs (h) ?_); (simp (disch := omega) only [go_sem, Nat.reduceBEq, ↓reduceIte])) | refine nxt ?_ | refine zqu (by simp only [go_sem]; rfl) rfl ?_ | (refine J _ ?_; clear J K) | (refine zqf (fun hb => ?_) (fun hb => ?_) <;> (have hb2 := hb; try simp only [z07] at hb2) <;> ((first | have F := eq_false hb2 | have F := eq_true hb2); (simp (disch := omega) only [go_sem, Nat.reduceBEq, ↓reduceIte, F]); clear hb F; (try omega))))
 ·exact z03 (by unfold zxy; rw [decide_eq_true (by omega), Bool.true_and, Bool.not_not])
 ·exact z03 (by unfold zxy; rw [decide_eq_false (by omega)]; rfl)
theorem zxi (l : List Wd) (hl : l.length <= 1000000) (hs : ∀ w ∈ l, w.text.size <= maxLen) : PC prog 104 [z0n l] (.bool (ziy l)) := by
 have h := ziv false (l.map (·.text)) (by unfold maxLen; simp; omega) (fun s hs' => by obtain ⟨w, hw, rfl⟩ := List.mem_map.1 hs'; exact hs w hw)
 refine z14 1 (by simp only [pureD.pureL, z0h, Bool.and_self]) rfl (z0z [3] func104 rfl (by decide +kernel) rfl ?_)
 show awp _ _ (Code.seq _ _) _ _
 repeat' (first | refine nxt ?_ | ((refine zqh fun K J => ?_); (simp (disch := omega) only [go_sem, Nat.reduceBEq, ↓reduceIte, z0n])) | (refine J _ ?_; clear J K))
 (refine z3c (fun U st => ∃ (i : _), U = l.length - i /\ st.t 0 = z0n l /\ st.t 6 = z0n l /\ st.t 7 = .int .i64 l.length /\ st.t 8 = .int .i64 i /\ st.t 3 = .osl 0 i /\ st.H 0 = some (.row 9 i (((l.take i).map (·.text)).map .str)) /\ (i <= l.length) /\ (1 <= st.nx)) ?_ ?_); rotate_left; (rintro U st ⟨i, rfl, q0, q6, q7, q8, q3, qH0, qp0, qp1⟩); rotate_left
 ·(refine ⟨_, 0, rfl, ?_⟩); (simp (disch := omega) only [go_sem, Nat.reduceBEq, Nat.reduceLeDiff, and_self, Int.natCast_zero, List.map_nil, z0n])
 have htk : ∀ h : i < l.length, l.take (i + 1) = l.take i ++ [l[i]] := fun h => List.take_succ_eq_append_getElem h
 repeat' (first | ((first | refine zqh fun K J => ?_ | refine zqr fun K J => ?_); (simp (disch := omega) only [go_sem, Nat.reduceBEq, ↓reduceIte, reduceCtorEq, Nat.reduceAdd, Nat.reduceLeDiff, Nat.reduceLT, q0, q6, q7, q8, q3, qH0, z0n])) | (refine zqd _ rfl ?_ ?_ <;> intro hc <;> (((try simp only [z07] at hc); (try omega)))) | refine nxt ?_ | refine zqz ?_ | refine zqu (by simp only [go_sem]; rfl) rfl ?_ | (refine J _ ?_; clear J K) | (refine zqf (fun hb => ?_) (fun hb => ?_) <;> (have hb2 := hb; try simp only [z07] at hb2) <;> ((first | have F := eq_false hb2 | have F := eq_true hb2); (simp (disch := omega) only [go_sem, Nat.reduceBEq, ↓reduceIte, F, q3]); clear hb F; (try omega))))
 ·have htk := htk (by omega)
  (refine Exists.intro _ (And.intro ?_ ⟨i + 1, rfl, ?_⟩)); rotate_left; (simp (disch := omega) only [go_sem, Nat.reduceBEq, Nat.reduceLeDiff, q0, q6, q7, q8, q3, qH0, true_and, and_true, Int.natCast_add, Int.natCast_one, List.map_append, List.map_cons, List.map_nil, htk]); rotate_left
  ·omega
  ·omega
 ·have hi : i = l.length := by omega
  subst hi
  rw [List.take_length] at qH0
  refine z0w (PC.borrow h rfl 3 (z00 (za1 1 qH0 z8x zft (by simp) (zjq _)) z0d)) ?_
  (try (simp (disch := omega) only [go_sem, Nat.reduceBEq, ↓reduceIte])); repeat' (first | refine nxt ?_ | refine zqu (by simp only [go_sem]; rfl) rfl ?_ | (refine J _ ?_; clear J K))
  exact z03 (by rw [zkk, decide_eq_true (by omega)]; rfl)
 ·exact z03 (by rw [zkk, decide_eq_false (by omega)]; rfl)
theorem zgy (w : Wd) : PC prog 123 [z7q w] (.bool (!decide (w.by_ = Idv.zero))) := by
 refine z14 1 rfl rfl (z0z [] func123 rfl (by decide +kernel) rfl ?_)
 show awp _ _ (Code.seq _ _) _ _
 repeat' (first | ((refine zqh fun K J => ?_); (simp (disch := omega) only [go_sem, Nat.reduceBEq, ↓reduceIte, reduceCtorEq, Nat.reduceAdd, Nat.reduceLeDiff])) | refine nxt ?_ | refine zqu (by simp only [go_sem]; rfl) rfl ?_ | (refine J _ ?_; clear J K))
 exact z03 rfl
theorem ztw (t : T) (h1 : t.head.length <= maxLen) (h2 : t.words.length <= maxLen) : PC prog 122 [z0g t] (.bool (decide (t.id = Idv.zero) && ((t.head.all fun w => decide (w.by_ = Idv.zero)) && t.words.all fun w => decide (w.by_ = Idv.zero)))) := by
 have g1 := z6f false t.head h1 (cap := []) (fun w => !decide (w.by_ = Idv.zero)) rfl (fun w _ => zgy w)
 have g2 := z6f false t.words h2 (cap := []) (fun w => !decide (w.by_ = Idv.zero)) rfl (fun w _ => zgy w)
 rw [<- List.not_all_eq_any_not] at g1 g2
 refine z14 1 (by simp only [pureD.pureL, z01, Bool.and_self]) rfl (z0z [] func122 rfl (by decide +kernel) rfl ?_)
 show awp _ _ (Code.seq _ _) _ _
 repeat' (first | ((first | refine zqh fun K J => ?_ | refine zqs (g1) ?_ | refine zqs (g2) ?_); (simp (disch := omega) only [go_sem, Nat.reduceBEq, ↓reduceIte, reduceCtorEq, Nat.reduceAdd, Nat.reduceLeDiff])) | refine nxt ?_ | refine zqu (by simp only [go_sem]; rfl) rfl ?_ | (refine J _ ?_; clear J K) | (refine zqf (fun hb => ?_) (fun hb => ?_) <;> (have hb2 := hb; try simp only [z07] at hb2) <;> ((first | have F : (_ : Bool) = _ := hb2 | have F := eq_false hb2 | have F := eq_true hb2); (simp (disch := omega) only [go_sem, Nat.reduceBEq, ↓reduceIte, reduceCtorEq, Nat.reduceAdd, F, z0n]); clear hb F; (try omega))))
 ·exact z03 (by rw [decide_eq_true (by assumption), ‹(t.head.all fun w => decide (w.by_ = Idv.zero)) = true›, Bool.not_not]; rfl)
 ·exact z03 (by rw [decide_eq_true (by assumption), ‹(t.head.all fun w => decide (w.by_ = Idv.zero)) = false›]; rfl)
 ·exact z03 (by rw [decide_eq_false (by assumption)]; rfl)
def nameL : List ByteArray := [⟨#[98, 111, 111, 107]⟩, ⟨#[112, 97, 114, 116]⟩, ⟨#[115, 101, 99, 116, 105, 111, 110]⟩, ⟨#[112, 97, 114, 97, 103, 114, 97, 112, 104]⟩, ⟨#[116, 97, 98, 108, 101]⟩, ⟨#[114, 111, 119]⟩, ⟨#[99, 101, 108, 108]⟩, ⟨#[110, 111, 116, 101]⟩]
def zow (k : Int) : ByteArray := if 0 <= k /\ k < 8 then nameL.getD k.toNat ByteArray.empty else ByteArray.empty
theorem zxj {k : Int} (h : 0 <= k /\ k < 8) : k = 0 \/ k = 1 \/ k = 2 \/ k = 3 \/ k = 4 \/ k = 5 \/ k = 6 \/ k = 7 := by omega
theorem zox (k : Int) : PC prog 102 [.int .i64 k] (.str (zow k)) := by
 refine z14 1 rfl rfl (z0z [] func102 rfl (by decide +kernel) rfl ?_)
 show awp _ _ (Code.seq _ _) _ _
 have h8 : ((8 : Nat) : Int) = 8 := rfl
 by_cases O : 0 <= k /\ k < 8
 ·rcases zxj O with rfl | rfl | rfl | rfl | rfl | rfl | rfl | rfl
  all_goals clear O
  all_goals (repeat' (first | refine nxt ?_ | ((refine zqh fun K J => ?_); (simp (disch := omega) only [go_sem, Nat.reduceBEq, ↓reduceIte, reduceCtorEq, Nat.reduceAdd, Int.reduceLT, Int.reduceLE, Int.reduceToNat, h8])) | (refine zqd _ rfl ?_ ?_ <;> intro hc <;> (first | (cases hc; done) | ((try simp only [] at hc); (try omega)))) | refine zqu (by simp only [go_sem]; rfl) rfl ?_ | (refine J _ ?_; clear J K)))
  all_goals exact z08 rfl (Le.refl _)
 ·rw [show zow k = ByteArray.empty from if_neg O]
  repeat' (first | refine nxt ?_ | ((refine zqh fun K J => ?_); (simp (disch := omega) only [go_sem, Nat.reduceBEq, ↓reduceIte])) | (refine zqd _ rfl ?_ ?_ <;> intro hc <;> (first | (cases hc; done) | ((try simp only [z07] at hc); (try omega)))) | refine zqu (by simp only [go_sem]; rfl) rfl ?_ | (refine J _ ?_; clear J K) | (refine zqf (fun hb => ?_) (fun hb => ?_) <;> (have hb2 := hb; try simp only [z07] at hb2) <;> ((first | have F := eq_false hb2 | have F := eq_true hb2); (simp (disch := omega) only [go_sem, Nat.reduceBEq, ↓reduceIte, F]); clear hb F; (try omega))))
  all_goals exact z08 rfl (Le.refl _)
def belowL : List (List Int) := [[1, 2], [2], [3, 4, 7], [3, 4, 7], [5], [6], [], []]
def z1x (p k : Int) : Bool := if 0 <= p /\ p < 8 then (belowL.getD p.toNat []).any (fun x => decide (k = x)) else false
theorem zxk (l : List Int) (hl : l.length <= maxLen) (k : Int) : PC prog 196 [zl5 l, .int .i64 k] (.int .i64 (if z32 (fun x => decide (k = x)) l < l.length then (z32 (fun x => decide (k = x)) l : Int) else -1)) := by
 unfold maxLen at hl
 refine z14 1 (by simp only [pureD.pureL, pureD, z8k, Bool.and_self]) rfl (z0z [] func196 rfl (by decide +kernel) rfl ?_)
 show awp _ _ (Code.seq _ _) _ _
 repeat' (first | refine nxt ?_ | ((refine zqh fun K J => ?_); (simp (disch := omega) only [go_sem, Nat.reduceBEq, zl5])) | (refine J _ ?_; clear J K))
 (refine z3c (fun U st => ∃ (i : _), U = l.length - i /\ st.t 0 = zl5 l /\ st.t 1 = .int .i64 k /\ st.t 7 = .int .i64 l.length /\ st.t 8 = .int .i64 i /\ (i <= l.length) /\ (∀ j, (hj : j < i) -> (h : j < l.length) -> decide (k = l[j]) = false)) ?_ ?_); rotate_left; (rintro U st ⟨i, rfl, q0, q1, q7, q8, qp0, qp1⟩); rotate_left
 ·(refine ⟨_, 0, rfl, ?_⟩); (simp (disch := omega) only [go_sem, Nat.reduceBEq, true_and, Int.natCast_zero, zl5])
  intro j hj; omega
 repeat' (first | ((first | refine zqh fun K J => ?_ | refine zqr fun K J => ?_); (simp (disch := omega) only [go_sem, Nat.reduceBEq, ↓reduceIte, reduceCtorEq, Nat.reduceAdd, q0, q1, q7, q8, zl5])) | ((first | refine zqd _ rfl (fun hc => ?_) (fun hc => ?_) | refine zqm _ rfl (fun hc => ?_) (fun hc => ?_)) <;> (((try simp only [z07] at hc); (try omega)))) | refine nxt ?_ | refine zqz ?_ | refine zqu (by simp only [go_sem]; rfl) rfl ?_ | (refine J _ ?_; clear J K))
 ·refine z1k ?_
  have hf := z3r (f := fun x => decide (k = x)) (l := l) (k := i) (by omega) (fun j hj => qp1 j hj (by omega)) (fun h => decide_eq_true (by assumption))
  rw [hf, if_pos (by omega)]
 ·(refine Exists.intro _ (And.intro ?_ ⟨i + 1, rfl, ?_⟩)); rotate_left; (simp (disch := omega) only [go_sem, Nat.reduceBEq, q0, q1, q7, q8, true_and, Int.natCast_add, Int.natCast_one]); rotate_left
  ·omega
  ·refine ⟨by omega, fun j hj h => ?_⟩
   by_cases e : j = i
   ·subst e; exact decide_eq_false (by assumption)
   ·exact qp1 j (by omega) h
 ·refine z1k ?_
  have hi : i = l.length := by omega
  subst hi
  have hf := z3r (f := fun x => decide (k = x)) (l := l) (k := l.length) (by omega) (fun j hj => qp1 j hj (by omega)) (fun h => by omega)
  rw [hf, if_neg (by omega)]
theorem zmt (l : List Int) (hl : l.length <= maxLen) (k : Int) : PC prog 156 [zl5 l, .int .i64 k] (.bool (l.any fun x => decide (k = x))) := by
 have h := zxk l hl k
 refine z14 1 (by simp only [pureD.pureL, pureD, z8k, Bool.and_self]) rfl (z0z [] func156 rfl (by decide +kernel) rfl ?_)
 show awp _ _ (Code.seq _ _) _ _
 repeat' (first | ((first | refine zqh fun K J => ?_ | refine zqs (h) ?_); (simp (disch := omega) only [go_sem, Nat.reduceBEq, ↓reduceIte])) | refine nxt ?_ | refine zqu (by simp only [go_sem]; rfl) rfl ?_ | (refine J _ ?_; clear J K))
 refine z03 ?_
 rw [<- z9h]
 by_cases h : z32 (fun x => decide (k = x)) l < l.length
 ·rw [if_pos h]; simp [h]
 ·rw [if_neg h]; simp [h]
theorem z9f (p k : Int) : PC prog 105 [.int .i64 p, .int .i64 k] (.bool (z1x p k)) := by
 refine z14 1 rfl rfl (z0z [] func105 rfl (by decide +kernel) rfl ?_)
 show awp _ _ (Code.seq _ _) _ _
 have h8 : ((8 : Nat) : Int) = 8 := rfl
 by_cases O : 0 <= p /\ p < 8
 ·have hc := fun l hl => zmt l hl k
  rcases zxj O with rfl | rfl | rfl | rfl | rfl | rfl | rfl | rfl
  all_goals clear O
  ·repeat' (first | ((first | refine zqh fun K J => ?_ | ((refine zqs (PC.le (hc [1, 2] (by decide)) ?_ ?_) ?_); (focus ((rfl); done)); (focus ((repeat' (first | exact trivial | exact Le.refl _ | exact Le.rsl | refine ⟨?_, ?_⟩)); done)))); (simp (disch := omega) only [go_sem, Nat.reduceBEq, ↓reduceIte, reduceCtorEq, Nat.reduceAdd, Int.reduceLT, Int.reduceLE, Int.reduceToNat, h8])) | refine nxt ?_ | refine zqu (by simp only [go_sem]; rfl) rfl ?_ | (refine J _ ?_; clear J K))
   exact z03 (by simp [z1x, belowL])
  ·repeat' (first | ((first | refine zqh fun K J => ?_ | ((refine zqs (PC.le (hc [2] (by decide)) ?_ ?_) ?_); (focus ((rfl); done)); (focus ((repeat' (first | exact trivial | exact Le.refl _ | exact Le.rsl | refine ⟨?_, ?_⟩)); done)))); (simp (disch := omega) only [go_sem, Nat.reduceBEq, ↓reduceIte, reduceCtorEq, Nat.reduceAdd, Int.reduceLT, Int.reduceLE, Int.reduceToNat, h8])) | refine nxt ?_ | refine zqu (by simp only [go_sem]; rfl) rfl ?_ | (refine J _ ?_; clear J K))
   exact z03 (by simp [z1x, belowL])
  ·repeat' (first | ((first | refine zqh fun K J => ?_ | ((refine zqs (PC.le (hc [3, 4, 7] (by decide)) ?_ ?_) ?_); (focus ((rfl); done)); (focus ((repeat' (first | exact trivial | exact Le.refl _ | exact Le.rsl | refine ⟨?_, ?_⟩)); done)))); (simp (disch := omega) only [go_sem, Nat.reduceBEq, ↓reduceIte, reduceCtorEq, Nat.reduceAdd, Int.reduceLT, Int.reduceLE, Int.reduceToNat, h8])) | refine nxt ?_ | refine zqu (by simp only [go_sem]; rfl) rfl ?_ | (refine J _ ?_; clear J K))
   exact z03 (by simp [z1x, belowL])
  ·repeat' (first | ((first | refine zqh fun K J => ?_ | ((refine zqs (PC.le (hc [3, 4, 7] (by decide)) ?_ ?_) ?_); (focus ((rfl); done)); (focus ((repeat' (first | exact trivial | exact Le.refl _ | exact Le.rsl | refine ⟨?_, ?_⟩)); done)))); (simp (disch := omega) only [go_sem, Nat.reduceBEq, ↓reduceIte, reduceCtorEq, Nat.reduceAdd, Int.reduceLT, Int.reduceLE, Int.reduceToNat, h8])) | refine nxt ?_ | refine zqu (by simp only [go_sem]; rfl) rfl ?_ | (refine J _ ?_; clear J K))
   exact z03 (by simp [z1x, belowL])
  ·repeat' (first | ((first | refine zqh fun K J => ?_ | ((refine zqs (PC.le (hc [5] (by decide)) ?_ ?_) ?_); (focus ((rfl); done)); (focus ((repeat' (first | exact trivial | exact Le.refl _ | exact Le.rsl | refine ⟨?_, ?_⟩)); done)))); (simp (disch := omega) only [go_sem, Nat.reduceBEq, ↓reduceIte, reduceCtorEq, Nat.reduceAdd, Int.reduceLT, Int.reduceLE, Int.reduceToNat, h8])) | refine nxt ?_ | refine zqu (by simp only [go_sem]; rfl) rfl ?_ | (refine J _ ?_; clear J K))
   exact z03 (by simp [z1x, belowL])
  ·repeat' (first | ((first | refine zqh fun K J => ?_ | ((refine zqs (PC.le (hc [6] (by decide)) ?_ ?_) ?_); (focus ((rfl); done)); (focus ((repeat' (first | exact trivial | exact Le.refl _ | exact Le.rsl | refine ⟨?_, ?_⟩)); done)))); (simp (disch := omega) only [go_sem, Nat.reduceBEq, ↓reduceIte, reduceCtorEq, Nat.reduceAdd, Int.reduceLT, Int.reduceLE, Int.reduceToNat, h8])) | refine nxt ?_ | refine zqu (by simp only [go_sem]; rfl) rfl ?_ | (refine J _ ?_; clear J K))
   exact z03 (by simp [z1x, belowL])
  ·repeat' (first | ((first | refine zqh fun K J => ?_ | ((refine zqs (PC.le (hc [] (by decide)) ?_ ?_) ?_); (focus ((rfl); done)); (focus ((repeat' (first | exact trivial | exact Le.refl _ | exact Le.nil _ | refine ⟨?_, ?_⟩)); done)))); (simp (disch := omega) only [go_sem, Nat.reduceBEq, ↓reduceIte, reduceCtorEq, Nat.reduceAdd, Int.reduceLT, Int.reduceLE, Int.reduceToNat, h8])) | refine nxt ?_ | refine zqu (by simp only [go_sem]; rfl) rfl ?_ | (refine J _ ?_; clear J K))
   exact z03 (by simp [z1x, belowL])
  ·repeat' (first | ((first | refine zqh fun K J => ?_ | ((refine zqs (PC.le (hc [] (by decide)) ?_ ?_) ?_); (focus ((rfl); done)); (focus ((repeat' (first | exact trivial | exact Le.refl _ | exact Le.nil _ | refine ⟨?_, ?_⟩)); done)))); (simp (disch := omega) only [go_sem, Nat.reduceBEq, ↓reduceIte, reduceCtorEq, Nat.reduceAdd, Int.reduceLT, Int.reduceLE, Int.reduceToNat, h8])) | refine nxt ?_ | refine zqu (by simp only [go_sem]; rfl) rfl ?_ | (refine J _ ?_; clear J K))
   exact z03 (by simp [z1x, belowL])
 ·rw [show z1x p k = false from if_neg O]
  repeat' (first | ((refine zqh fun K J => ?_); (simp (disch := omega) only [go_sem, Nat.reduceBEq, ↓reduceIte])) | refine nxt ?_ | refine zqu (by simp only [go_sem]; rfl) rfl ?_ | (refine J _ ?_; clear J K) | (refine zqf (fun hb => ?_) (fun hb => ?_) <;> (have hb2 := hb; try simp only [z07] at hb2) <;> ((first | have F := eq_false hb2 | have F := eq_true hb2); (simp (disch := omega) only [go_sem, Nat.reduceBEq, ↓reduceIte, reduceCtorEq, F]); clear hb F; (try omega))))
  all_goals exact z03 rfl
end
end Go.Proofs.YtlfohdkfpdkhhaaGreatDoor
