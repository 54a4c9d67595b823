import Derived.Test.YtppebcifiejplaaGreatWB
import Derived.ProofKit
import Derived.ChangeSlices
import Derived.Below
import Derived.Test.YtppebcifiejplaaGreatProg
import Derived.KernelRfl
import Derived.ChangeArms
import Derived.DataReads
import Derived.Laws.RangeAny
/-
 Lemmas of the claim. No condition but those that each names.
-/
set_option linter.unusedSimpArgs false
set_option linter.unusedVariables false
set_option maxRecDepth 100000
set_option maxHeartbeats 8000000
set_option linter.unusedSectionVars false
namespace Go.Proofs.YtppebcifiejplaaGreat.Abs
open Go.RowKit

theorem zed {n : Int} (h : -9223372036854775808 <= n /\ n <= 9223372036854775807) : IntKind.i64.wrap n = n := by rw [IntKind.wrap_i64]; omega
theorem zw7 {α : Type} (f : α -> D) (l : List α) (k : Nat) (h : k < l.length) : zku (l.map f) (k : Int) = some (f l[k]) := by
 unfold zku
 rw [if_pos ⟨by omega, by simpa using h⟩]
 simp [h]
theorem z1r {α : Type} {f : α -> D} (h : ∀ x, pureD (f x) = true) : ∀ (l : List α), pureD.pureL (l.map f) = true
 | [] => rfl
 | x :: l => by simp only [List.map_cons, pureD.pureL, h x, z1r h l, Bool.and_self]
theorem z0p {P : Program} {H : HM} {d : D} (k : Nat) (h : pureD d = true) : z39 P H (k + 1) d = some d := by unfold z39; rw [if_pos h]
theorem zav {P : Program} {H : HM} (k : Nat) : ∀ (ds : List D), pureD.pureL ds = true -> zda (z39 P H (k + 1)) ds = some ds
 | [], _ => rfl
 | d :: ds, h => by
  simp only [pureD.pureL, Bool.and_eq_true] at h
  simp only [zda, z0p k h.1, zav k ds h.2]
theorem zbu : ∀ (cs : List D), z1k false 1 cs.length cs = cs
 | [] => rfl
 | c :: cs => by
  simp only [List.length_cons, z1k, Bool.false_eq_true, if_false, List.getElem?_cons_zero, Option.getD_some, List.drop_succ_cons, List.drop_zero]
  rw [zbu cs]
theorem zee {P : Program} {H : HM} {id n e : Nat} {cs : List D} (k : Nat) (hH : H id = some (.row e n cs)) (ha : z0f P e = false) (hs : z08 P e = 1) (hn : cs.length = n) (hp : pureD.pureL cs = true) :
  z39 P H (k + 2) (.osl id n) = some (.rsl false 1 cs) := by
 unfold z39
 simp only [pureD, Bool.false_eq_true, if_false, hH, ha, hs, and_self, or_true, if_true]
 rw [zav k cs hp]
 simp only [Option.map_some]
 rw [<- hn, zbu]

def encI (l : List Int) : D := .rsl false 1 (l.map fun n => .int .i64 n)
def z3i (l : List ByteArray) : D := .rsl false 1 (l.map .str)
theorem z2v (l : List ByteArray) : pureD (z3i l) = true := by simp only [z3i, pureD]; exact z1r (fun _ => rfl) l
end Go.Proofs.YtppebcifiejplaaGreat.Abs
namespace Go.Proofs.YtppebcifiejplaaGreat.Abs
theorem z02 {P : Program} {H : HM} {nx k : Nat} {d r : D} (hp : pureD d = true) (h : Le d r) : Fin P (k + 1) r d H nx := ⟨d, z0p k hp, h⟩
theorem z00 {P : Program} {H : HM} {nx : Nat} {b c : Bool} (h : b = c) : Fin P 1 (.bool c) (.bool b) H nx := z02 rfl (by rw [h]; exact Le.refl _)
theorem z33 {P : Program} {H : HM} {nx : Nat} {b c : Int} (h : b = c) : Fin P 1 (.int .i64 c) (.int .i64 b) H nx := z02 rfl (by rw [h]; exact Le.refl _)
end Go.Proofs.YtppebcifiejplaaGreat.Abs
namespace Go.Proofs.YtppebcifiejplaaGreat.Abs
open Go.RowKit
theorem z0o {P : Program} {H : HM} {k : Nat} {d d' : D} {ds ds' : List D} (h : z39 P H k d = some d') (hs : zda (z39 P H k) ds = some ds') : zda (z39 P H k) (d :: ds) = some (d' :: ds') := by
 simp only [zda, h, hs]
theorem z6j {P : Program} {H : HM} {k : Nat} : zda (z39 P H k) [] = some [] := rfl
end Go.Proofs.YtppebcifiejplaaGreat.Abs
namespace Go.Proofs.YtppebcifiejplaaGreat.Abs
open Go.RowKit
theorem zw8 {P : Program} {H : HM} {f : FuncId} {cap cap' : List D} (k : Nat) (hp : pureD.pureL cap = false) (hc : zda (z39 P H k) cap = some cap') : z39 P H (k + 1) (.fn f cap) = some (.fn f cap') := by
 unfold z39
 simp only [pureD, hp, Bool.false_eq_true, if_false, hc, Option.map_some]
theorem z4h {P : Program} {H : HM} {nx k : Nat} {d r : D} (h : z39 P H k d = some r) : Fin P k r d H nx := ⟨r, h, Le.refl _⟩
end Go.Proofs.YtppebcifiejplaaGreat.Abs
namespace Go.Proofs.YtppebcifiejplaaGreat.Abs
open Go.RowKit
theorem z98 {α : Type} {f : α -> List D} {sz : Nat} (h : ∀ x, (f x).length = sz) : ∀ (l : List α), z1k true sz l.length (l.flatMap f) = l.map fun x => .agg (f x)
 | [] => rfl
 | x :: l => by
  simp only [List.length_cons, z1k, if_true, List.flatMap_cons, List.map_cons]
  rw [List.take_left' (h x), List.drop_left' (h x), z98 h l]
theorem z5r {α : Type} {f : α -> List D} (h : ∀ x, pureD.pureL (f x) = true) : ∀ (l : List α), pureD.pureL (l.flatMap f) = true
 | [] => rfl
 | x :: l => by
  have app : ∀ (a b : List D), pureD.pureL a = true -> pureD.pureL b = true -> pureD.pureL (a ++ b) = true := by
   intro a b
   induction a with
   | nil => intro _ h; exact h
   | cons d ds ih =>
    intro h1 h2
    simp only [pureD.pureL, Bool.and_eq_true, List.cons_append] at h1 ⊢
    exact ⟨h1.1, ih h1.2 h2⟩
  exact app _ _ (h x) (z5r h l)
theorem z22 {α : Type} {P : Program} {H : HM} {id e sz : Nat} {f : α -> List D} {l : List α} (k : Nat) (hH : H id = some (.row e l.length (l.flatMap f))) (ha : z0f P e = true) (hs : z08 P e = sz) (h : ∀ x, (f x).length = sz) (hp : ∀ x, pureD.pureL (f x) = true) :
  z39 P H (k + 2) (.osl id l.length) = some (.rsl false sz (l.map fun x => .agg (f x))) := by
 unfold z39
 simp only [pureD, Bool.false_eq_true, if_false, hH, ha, true_or, and_self, if_true, hs]
 rw [zav k _ (z5r hp l)]
 simp only [Option.map_some, z98 h]
end Go.Proofs.YtppebcifiejplaaGreat.Abs
namespace Go.Proofs.YtppebcifiejplaaGreat.Abs
theorem zbv {H : HM} {i j : Nat} {o : Option HObj} (h : ¬ j = i) : z1z H i o j = H j := if_neg h
theorem zzf {H : HM} {i : Nat} {o : Option HObj} : z1z H i o i = o := if_pos rfl
end Go.Proofs.YtppebcifiejplaaGreat.Abs
namespace Go.Proofs.YtppebcifiejplaaGreat.Abs
open Go.RowKit
theorem PC.le {P : Program} {f : FuncId} {ds es : List D} {r : D} (h : PC P f es r) (hp : pureD.pureL ds = true) (hl : LeL ds es) : PC P f ds r :=
 ⟨hp, h.2.1, h.2.2.1, fun s w vs h1 h2 h3 h4 => h.2.2.2 s w vs h1 h2 h3 (zas hl h4)⟩
end Go.Proofs.YtppebcifiejplaaGreat.Abs
namespace Go.Proofs.YtppebcifiejplaaGreat.Abs
open Go.RowKit Go.ChangeShapes

def zbw (W : World) : RS := { m := W.cell?, H := noH, nx := 0, κ := fun _ => .pointer none }
def zsi (W : World) : Prop := ∀ g, rel (zbw W) (globD g) (.pointer (some ⟨g, 0, none⟩))
theorem zor (W : World) : zsi W := fun g => by simp only [globD, rel]
theorem zw9 (P : Program) (W : World) (hg : zsi W) : RH P (zbw W) W :=
 ⟨fun a v h => ⟨h, by rintro ⟨id, hid, _⟩; exact absurd hid (Nat.not_lt_zero _)⟩, fun id o ho => (by cases ho), fun i j hi => (hi rfl).elim, hg⟩
theorem zsj {P : Program} {f : FuncId} {ds : List D} {v : Value} {d : D} (h : PC P f ds d) (hd : ∀ s u, rel s d u -> u = v) {W : World} (hg : zsi W) {vs : List Value} (hr : relAll (zbw W) ds vs) :
  Calls P f vs.toArray W fun e W' => e = .returned v /\ Below W.heap.size W W' := by
 refine (h.2.2.2 (zbw W) W vs rfl rfl (zw9 P W hg) hr).mono fun e W' ⟨u, r', s', he, hrr, hstep, _, hrel⟩ => ?_
 subst hrr
 rw [hd _ _ hrel] at he
 exact ⟨he, hstep.os, hstep.tape, hstep.output, hstep.size, fun k hk => hstep.keep k hk (by rintro ⟨id, hid, _⟩; exact absurd hid (Nat.not_lt_zero _))⟩
end Go.Proofs.YtppebcifiejplaaGreat.Abs
namespace Go.Proofs.YtppebcifiejplaaGreat.Abs
open Go.RowKit Go.ChangeShapes
end Go.Proofs.YtppebcifiejplaaGreat.Abs
namespace Go.Proofs.YtppebcifiejplaaGreat.Abs
open Go.RowKit
variable {P : Program} {own : List Nat} {Q : Exit -> St -> Prop} {st : St}

theorem zqd {c : Operand} {x y b : Code} (t : Bool) (ht : st.ev c = .bool t) (h1 : t = true -> awp P own (.seq x b) Q st) (h2 : t = false -> awp P own (.seq y b) Q st) : awp P own (.seq (.cond c x y) b) Q st :=
 ⟨t, ht, h1, h2⟩
theorem zqb {b : Code} (h : awp P own b Q st) : awp P own (.seq .skip b) Q st := ⟨st, SealTo.refl st, h⟩
theorem zqg {b : Code} (h : Q .ret st) : awp P own (.seq .ret b) Q st := h
theorem zqc {b : Code} {id : Nat} (h : Q (.exit id) st) : awp P own (.seq (.exit id) b) Q st := h
theorem zqa {id : Nat} {c b : Code} (h : awp P own c (zvx id (zs2 (fun st => ∃ st', SealTo P st st' /\ awp P own b Q st') Q)) st) : awp P own (.seq (.block id c) b) Q st := h
theorem zqr {id : Nat} {l : List Oper} (h : ∀ K : St -> Prop, (∀ st, Q .normal st -> K st) -> z2s P own (l.map (·.dst)) l K st) : awp P own (.region id l.toArray false) Q st :=
 zs6 (h _ fun _ h => h)
theorem zqq {id : Nat} {l : List Oper} (h0 : zgb own l.toArray = true) (h : ∀ K : St -> Prop, (∀ st, Q .normal st -> K st) -> z3e P own (l.map (·.dst)) l K st) : awp P own (.region id l.toArray true) Q st :=
 zmn h0 (h _ fun _ h => h)
theorem z37 {c : Code} (I : Nat -> St -> Prop) (h0 : ∃ n, I n st) (h : ∀ n st', I n st' -> awp P own c (zvy I n Q) st') : awp P own (.loop c) Q st := ⟨I, h0, h⟩
def isRN : Exit -> Bool
 | .normal | .ret => true
 | _ => false
theorem zqu {e : Exit} {rs : List ResultVar} {K : D -> HM -> Nat -> Prop} {d : D} (h : resD P st rs = some d) (he : isRN e = true) (hF : K d st.H st.nx) : retQ P rs K e st := by
 cases e <;> first | exact ⟨d, h, hF⟩ | cases he
theorem zqv {Q' : Exit -> St -> Prop} {b : Code} (h : awp P own b Q st) : zs2 (fun st => ∃ st', SealTo P st st' /\ awp P own b Q st') Q' .normal st := ⟨st, SealTo.refl st, h⟩
theorem zaw {Q' : Exit -> St -> Prop} {b : Code} (st' : St) (hs : SealTo P st st') (h : awp P own b Q st') : zs2 (fun st => ∃ st', SealTo P st st' /\ awp P own b Q st') Q' .normal st := ⟨st', hs, h⟩
theorem zqx {k : St -> Prop} (h : Q .ret st) : zs2 k Q .ret st := h
theorem zqy {id : Nat} (h : Q .normal st) : zvx id Q .normal st := h
theorem zqz {id : Nat} (h : Q .normal st) : zvx id Q (.exit id) st := by
 simp only [zvx, if_true]; exact h
theorem z4a {id : Nat} (h : Q .ret st) : zvx id Q .ret st := h
theorem zqp {I : Nat -> St -> Prop} {n id : Nat} (h : Q (.exit id) st) : zvy I n Q (.exit id) st := h
theorem zqo {I : Nat -> St -> Prop} {n : Nat} (h : Q .ret st) : zvy I n Q .ret st := h
section
variable {f : List Oper -> (St -> Prop) -> St -> Prop} {rest : List Oper} {K : St -> Prop} {dst : Option Nat}
theorem zqf {b : Bool} {op : Op} {ty : TypeId} {pos : String} {aft : Array Edge} {g : Option (Nat × Bool)} (h1 : b = true -> f (⟨dst, op, ty, pos, aft, g⟩ :: rest) K st) (h2 : b = false -> f rest K (st.put dst (.tup []))) :
  zs9 (some b) f ⟨dst, op, ty, pos, aft, g⟩ rest K st := by
 cases b with
 | true => exact h1 rfl
 | false => exact h2 rfl
end
attribute [go_sem] encI z3i
theorem zsk {α : Type} {f : α -> D} {l : List α} {i : Int} (h0 : 0 <= i) (h : i.toNat < l.length) : zku (l.map f) i = some (f l[i.toNat]) := by
 unfold zku
 rw [if_pos ⟨h0, by simp; omega⟩]
 simp [h]
theorem zwa {α : Type} {c : Prop} [Decidable c] {x : α} (h : c) : (if c then some x else none) = some x := if_pos h
theorem zsl {α β : Type} (f : α -> β) (l : List α) (i : Nat) : (l.map f).take i = (l.take i).map f := (List.map_take).symm
theorem zsm {α β : Type} (f : α -> β) (l : List α) (i : Nat) : (l.map f).drop i = (l.drop i).map f := (List.map_drop).symm
theorem zos : maxLen = 9223372036854775807 := rfl
attribute [go_sem] zsl zsm zos
theorem nbeq {a b : Nat} (h : ¬ a = b) : (a == b) = false := by simpa using h
theorem nb1 {a : Nat} {st : St} (h : ¬ a = st.nx) : (a == st.nx) = false := nbeq h
theorem nb2 {a : Nat} {st : St} (h : ¬ st.nx = a) : (st.nx == a) = false := nbeq h
theorem nb3 {a k : Nat} {st : St} (h : ¬ a = st.nx + k) : (a == st.nx + k) = false := nbeq h
theorem nb4 {a k : Nat} {st : St} (h : ¬ st.nx + k = a) : (st.nx + k == a) = false := nbeq h
theorem zsn {α : Type} {f : α -> D} {l : List α} {k : Nat} (h : k < l.length) : zku (l.map f) (k : Int) = some (f l[k]) := zw7 f l k h
theorem AC.split {f : FuncId} {pre post : List D} {sz : Nat} {els : List D} {H : HM} {nx : Nat} {K : D -> HM -> Nat -> Prop} (h0 : els = [] -> AC P f (pre ++ .nil :: post) H nx K) (h1 : AC P f (pre ++ .rsl true sz els :: post) H nx K) :
  AC P f (pre ++ .rsl false sz els :: post) H nx K := by
 refine ⟨h1.1, fun s w vs hH hnx hRH hr => ?_⟩
 have key : ∀ (pre : List D) (vs : List Value), relAll s (pre ++ .rsl false sz els :: post) vs -> (els = [] /\ relAll s (pre ++ .nil :: post) vs) \/ relAll s (pre ++ .rsl true sz els :: post) vs := by
  intro pre
  induction pre with
  | nil =>
   intro vs hr
   simp only [List.nil_append, relAll] at hr ⊢
   obtain ⟨v, r, h1, h2, h3⟩ := hr
   simp only [rel] at h2
   rcases h2 with ⟨_, h4, h5⟩ | h2
   ·exact .inl ⟨h4, v, r, h1, by simpa only [rel] using h5, h3⟩
   ·exact .inr ⟨v, r, h1, by simp only [rel]; exact .inr h2, h3⟩
  | cons d ds ih =>
   intro vs hr
   simp only [List.cons_append, relAll] at hr ⊢
   obtain ⟨v, r, h1, h2, h3⟩ := hr
   rcases ih r h3 with ⟨h4, h5⟩ | h4
   ·exact .inl ⟨h4, v, r, h1, h2, h5⟩
   ·exact .inr ⟨v, r, h1, h2, h4⟩
 rcases key pre vs hr with ⟨h2, h3⟩ | h2
 ·exact (h0 h2).2 s w vs hH hnx hRH h3
 ·exact h1.2 s w vs hH hnx hRH h2
theorem zef {P : Program} {H : HM} {ds ds' : List D} (k : Nat) (hp : pureD.pureL ds = false) (hc : zda (z39 P H k) ds = some ds') : z39 P H (k + 1) (.tup ds) = some (.tup ds') := by
 unfold z39
 simp only [pureD, hp, Bool.false_eq_true, if_false, hc, Option.map_some]
theorem zeg {P : Program} {H : HM} {ds ds' : List D} (k : Nat) (hp : pureD.pureL ds = false) (hc : zda (z39 P H k) ds = some ds') : z39 P H (k + 1) (.agg ds) = some (.agg ds') := by
 unfold z39
 simp only [pureD, hp, Bool.false_eq_true, if_false, hc, Option.map_some]
theorem zeh {cs : List D} {n : Nat} (h : n = cs.length) : z1k false 1 n cs = cs := by subst h; exact zbu cs
theorem z6k {α : Type} {f : α -> D} (h : ∀ x, z4d (f x) = some [f x]) : ∀ (l : List α), z1i 1 (l.map f) = some (l.map f)
 | [] => rfl
 | x :: l => by simp [z1i, h, z6k h l]
theorem zso (l : List ByteArray) : z1i 1 (l.map D.str) = some (l.map D.str) := z6k (fun _ => rfl) l
theorem zsp {k : IntKind} (l : List Int) : z1i 1 (l.map (D.int k)) = some (l.map (D.int k)) := z6k (fun _ => rfl) l
theorem zhi (l : List ByteArray) : pureD.pureL (l.map D.str) = true := z1r (fun _ => rfl) l
theorem zwb {k : IntKind} (l : List Int) : pureD.pureL (l.map (D.int k)) = true := z1r (fun _ => rfl) l
theorem zot {α : Type} (f : α -> D) (l : List α) : z1k false 1 l.length (l.map f) = l.map f := zeh (by simp)
attribute [go_sem] List.nil_append List.cons_append Bool.false_or Bool.or_true Bool.true_or Bool.or_false zot
theorem zjb (a b : List D) : pureD.pureL (a ++ b) = (pureD.pureL a && pureD.pureL b) := by
 induction a with
 | nil => rfl
 | cons d ds ih => simp only [List.cons_append, pureD.pureL, ih, Bool.and_assoc]
attribute [go_sem] zjb
theorem zlc {α : Type} (f : α -> D) (l : List α) (x : D) : z1k false 1 (l.length + 1) (l.map f ++ [x]) = l.map f ++ [x] := zeh (by simp)
attribute [go_sem high] zlc
theorem zsq {k : IntKind} (l : List Nat) : z1i 1 (l.map fun n => D.int k (n : Nat)) = some (l.map fun n => D.int k (n : Nat)) := z6k (fun _ => rfl) l
theorem zwc {k : IntKind} (l : List Nat) : pureD.pureL (l.map fun n => D.int k (n : Nat)) = true := z1r (fun _ => rfl) l
attribute [go_sem] zso zsp zhi zwb zsq zwc

theorem zjc : ∀ (n : Nat) (cs : List D), pureD.pureL cs = true -> pureD.pureL (cs.take n) = true
 | 0, _, _ => rfl
 | n + 1, [], _ => rfl
 | n + 1, c :: cs, h => by
  simp only [pureD.pureL, Bool.and_eq_true, List.take_succ_cons] at h ⊢
  exact ⟨h.1, zjc n cs h.2⟩
theorem zjd : ∀ (n : Nat) (cs : List D), pureD.pureL cs = true -> pureD.pureL (cs.drop n) = true
 | 0, _, h => h
 | n + 1, [], _ => rfl
 | n + 1, c :: cs, h => by
  simp only [pureD.pureL, Bool.and_eq_true] at h
  exact zjd n cs h.2
theorem zgj {ag : Bool} {sz : Nat} : ∀ {n : Nat} {cs : List D}, pureD.pureL cs = true -> pureD.pureL (z1k ag sz n cs) = true
 | 0, _, _ => rfl
 | n + 1, cs, h => by
  simp only [z1k, pureD.pureL, Bool.and_eq_true]
  refine ⟨?_, zgj (zjd sz cs h)⟩
  cases ag with
  | true => simp only [if_true, pureD]; exact zjc sz cs h
  | false =>
   cases cs with
   | nil => rfl
   | cons c cs =>
    simp only [pureD.pureL, Bool.and_eq_true] at h
    exact h.1
def zje (P : Program) (id : Nat) (e : TypeId) (k : Nat) (cs : List D) : D -> D
 | .osl j n => cond (j == id && n == k) (.rsl false (z08 P e) (z1k (z0f P e) (z08 P e) k cs)) (.osl j n)
 | d => d
def zsr (P : Program) (id : Nat) (e : TypeId) (k : Nat) (cs : List D) : D -> D
 | .agg ds => .agg (ds.map (zje P id e k cs))
 | d => zje P id e k cs d
def zfn (P : Program) (id : Nat) (e : TypeId) (k : Nat) (cs : List D) : HObj -> HObj
 | .box t ds => .box t (ds.map (zje P id e k cs))
 | .row t n ds => .row t n (ds.map (zje P id e k cs))
 | o => o
def St.given (P : Program) (st : St) (id : Nat) (e : TypeId) (k : Nat) (cs : List D) : St :=
 {t := fun i => zsr P id e k cs (st.t i), H := fun j => cond (j == id) none ((st.H j).map (zfn P id e k cs)), nx := st.nx }
theorem za7 {st : St} {id : Nat} {e : TypeId} {k : Nat} {cs : List D} (h : st.H id = some (.row e k cs)) (ho : zkv P e = true) (hp : pureD.pureL cs = true) : SealTo P st (st.given P id e k cs) := by
 intro N s a w hf
 have hid : s.H id = some (.row e k cs) := by rw [hf.H]; exact h
 obtain ⟨g1, g2⟩ := zen hf.heap (id := id) (by rw [hid]; simp)
 let s' : RS := { s.shut1 w id with H := fun j => cond (j == id) none ((s.H j).map (zfn P id e k cs)) }
 have hm : s'.m = (s.shut1 w id).m := rfl
 have hH' : ∀ j, j ≠ id -> s'.H j = (s.H j).map (zfn P id e k cs) := fun j hj => by
  have : (j == id) = false := by simpa using hj
  show cond (j == id) none _ = _
  rw [this]; rfl
 have hHid : s'.H id = none := by
  show cond (id == id) none _ = _
  simp
 have hlater : Later s s' := by
  refine ⟨Nat.le_refl _, g1.mem, fun j _ => ?_⟩
  by_cases hj : j = id
  ·subst hj
   rw [hHid, hid]; exact .inl rfl
  ·rw [hH' j hj]
   show objLe (s.H j) ((s.H j).map _) (s.κ j) (s.κ j)
   cases s.H j with
   | none => rfl
   | some o =>
    cases o with
    | box t ds => exact .inr ⟨_, rfl, rfl⟩
    | row t n ds => exact .inr ⟨n, _, rfl, Nat.le_refl _, fun _ => rfl⟩
    | map es => exact .inr ⟨_, rfl, rfl⟩
    | raw q => exact .inr ⟨_, rfl, rfl⟩
 have r0 : ∀ d v, rel s d v -> rel s' (zje P id e k cs d) v := by
  intro d v hr
  have stay : rel s' d v := rel.later hlater d v hr
  cases d <;> first | exact stay | skip
  rename_i j n
  simp only [zje]
  cases hc : (j == id && n == k) with
  | false => exact stay
  | true =>
   simp only [Bool.and_eq_true, beq_iff_eq] at hc
   obtain ⟨rfl, rfl⟩ := hc
   have hs : zdu P (.osl j n, s.H, s.nx) = some (.rsl false (z08 P e) (z1k (z0f P e) (z08 P e) n cs), z1z s.H j none, s.nx) := by
    unfold zdu
    simp only [hid]
    rw [if_pos ⟨trivial, ho, hp⟩]
   obtain ⟨s2, _, _, _, _, hr2, he2⟩ := zeo hf.heap rfl rfl hr hs
   have he3 := he2 j n rfl
   subst he3
   have hpp : pureD (.rsl false (z08 P e) (z1k (z0f P e) (z08 P e) n cs)) = true := by
    simp only [pureD]
    exact zgj hp
   exact z6l (s := s.shut1 w j) (s' := s') (fun a v h => h) _ _ hpp hr2
 have r0L : ∀ (ds : List D) (vs : List Value), relAll s ds vs -> relAll s' (ds.map (zje P id e k cs)) vs := by
  intro ds
  induction ds with
  | nil => intro vs hr; simpa [relAll] using hr
  | cons d ds ih =>
   intro vs hr
   simp only [relAll] at hr
   obtain ⟨v, r, rfl, h1, h2⟩ := hr
   exact z0l (r0 d v h1) (ih r h2)
 have r1 : ∀ d v, rel s d v -> rel s' (zsr P id e k cs d) v := by
  intro d v hr
  cases d <;> first | exact r0 _ v hr | skip
  rename_i ds
  simp only [zsr, rel] at hr ⊢
  obtain ⟨vs, h1, h2, h3⟩ := hr
  exact ⟨vs, h1, r0L ds vs h2, h3⟩
 have hnone : ∀ j, s'.H j ≠ none -> j ≠ id /\ s.H j ≠ none := by
  intro j hj
  by_cases hji : j = id
  ·subst hji; exact (hj hHid).elim
  ·rw [hH' j hji] at hj
   exact ⟨hji, fun h0 => hj (by rw [h0]; rfl)⟩
 have hown : ∀ b, owned s' b -> owned (s.shut1 w id) b := by
  rintro b ⟨j, hj, hH, hb⟩
  obtain ⟨h1, h2⟩ := hnone j hH
  exact ⟨j, hj, by simp only [RS.shut1, z1z, if_neg h1]; exact h2, hb⟩
 have hown2 : ∀ b, owned s' b -> owned s b := by
  rintro b ⟨j, hj, hH, hb⟩
  exact ⟨j, hj, (hnone j hH).2, hb⟩
 refine ⟨s', ⟨?_, hf.nx, hf.size, hf.defers, fun i => r1 _ _ (hf.tmps i), ?_⟩, ?_⟩
 ·show (fun j => cond (j == id) none ((s.H j).map (zfn P id e k cs))) = _
  rw [hf.H]; rfl
 ·refine ⟨fun a v hmm => ⟨(g2.mem a v hmm).1, fun ho => (g2.mem a v hmm).2 (hown _ ho)⟩, fun j o hj => ?_, fun i j hi hj hij hbi => ?_, fun g => rel.later hlater _ _ (hf.heap.glob g)⟩
  ·obtain ⟨h1, h2⟩ := hnone j (by rw [hj]; simp)
   rw [hH' j h1] at hj
   cases hs : s.H j with
   | none => exact (h2 hs).elim
   | some o0 =>
    rw [hs] at hj
    simp only [Option.map_some, Option.some.injEq] at hj
    obtain ⟨q1, q2⟩ := hf.heap.obj j o0 hs
    refine ⟨q1, ?_⟩
    show objOK P s' w (s.κ j) o
    cases o0 with
    | box t ds =>
     simp only [zfn] at hj; subst hj
     obtain ⟨b, vs, u1, u2, u3, u4⟩ := q2
     exact ⟨b, vs, u1, u2, r0L _ _ u3, u4⟩
    | row t n ds =>
     simp only [zfn] at hj; subst hj
     obtain ⟨vs, u1, u2, u3⟩ := q2
     exact ⟨vs, u1, r0L _ _ u2, u3⟩
    | map es =>
     simp only [zfn] at hj; subst hj
     obtain ⟨r, ens, clock, u1, u2, u3, u4⟩ := q2
     exact ⟨r, ens, clock, u1, u2, relAll.later hlater _ _ u3, relAll.later hlater _ _ u4⟩
    | raw q =>
     simp only [zfn] at hj; subst hj
     exact q2
  ·exact hf.heap.apart i j (hnone i hi).2 (hnone j hj).2 hij hbi
 ·exact ⟨g1.os, g1.tape, g1.output, g1.size, g1.nx, g1.mem, g1.new, hlater.objs, g1.keep, fun b ho => .inl (hown2 b ho)⟩
@[go_sem] theorem t_seal (st : St) (id e k : Nat) (cs : List D) (i : Nat) : (st.given P id e k cs).t i = zsr P id e k cs (st.t i) := rfl
@[go_sem] theorem H_seal (st : St) (id e k : Nat) (cs : List D) (j : Nat) : (st.given P id e k cs).H j = cond (j == id) none ((st.H j).map (zfn P id e k cs)) := rfl
@[go_sem] theorem nx_seal (st : St) (id e k : Nat) (cs : List D) : (st.given P id e k cs).nx = st.nx := rfl
attribute [go_sem] zje zsr zfn
attribute [go_sem] Bool.not_true Bool.not_false decide_true decide_false List.getElem?_toArray List.map_map ne_eq not_true_eq_false not_false_eq_true List.length_map Nat.zero_le Option.some.injEq List.length_cons List.length_nil beq_self_eq_true Bool.true_and Bool.and_true true_or or_true List.drop_zero List.set_cons_zero List.set_cons_succ List.take_succ_cons List.take_zero List.drop_succ_cons D.int.injEq Prod.mk.injEq Int.toNat_natCast Nat.mul_one Nat.zero_add Nat.add_zero Int.natCast_nonneg List.getElem?_map List.length_set List.length_append List.length_replicate List.length_take List.length_drop List.take_length Bool.false_and Bool.and_false
attribute [go_sem] zsn zsk zed nb1 nb2 nb3 nb4 zwa resD zyz valR
end Go.Proofs.YtppebcifiejplaaGreat.Abs
namespace Go.Proofs.YtppebcifiejplaaGreat.Abs
open Go.RowKit
variable {P : Program}

def zld : HObj -> Bool
 | .box _ cs => pureD.pureL cs
 | .row _ _ cs => pureD.pureL cs
 | .map es => pureD.pureL (es.map (·.1)) && pureD.pureL (es.map (·.2))
 | .raw _ => true
def renD (g : Nat -> Nat) : D -> D
 | .osl j n => .osl (g j) n
 | .ptr j off => .ptr (g j) off
 | .mp j => .mp (g j)
 | .agg ds => .agg (renL ds)
 | .tup ds => .tup (renL ds)
 | d => d
where renL : List D -> List D
 | [] => []
 | d :: ds => renD g d :: renL ds
def okD (k : Nat) : D -> Bool
 | .osl j _ => decide (j < k)
 | .ptr j _ => decide (j < k)
 | .mp j => decide (j < k)
 | .agg ds => okL ds
 | .tup ds => okL ds
 | d => pureD d
where okL : List D -> Bool
 | [] => true
 | d :: ds => okD k d && okL ds
def addL (H : HM) (nx : Nat) : List HObj -> HM
 | [] => H
 | o :: os => addL (z1z H nx (some o)) (nx + 1) os
def OC (P : Program) (f : FuncId) (ds : List D) (objs : List HObj) (r : D) : Prop :=
 pureD.pureL ds = true /\ okD objs.length r = true /\ (∀ o ∈ objs, zld o = true) /\
  ∀ H nx, AC P f ds H nx fun r' H' nx' => r' = renD (fun j => nx + j) r /\ H' = addL H nx objs /\ nx' = nx + objs.length

theorem objOK.pure {s s' : RS} {w : World} {v : Value} {o : HObj} (hm : ∀ a v, s.m a = some v -> s'.m a = some v) (hp : zld o = true) (h : objOK P s w v o) : objOK P s' w v o := by
 cases o with
 | box e cs =>
  obtain ⟨b, vs, h1, h2, h3, h4⟩ := h
  exact ⟨b, vs, h1, h2, z1s hm _ _ hp h3, h4⟩
 | row e n cs =>
  obtain ⟨vs, h1, h2, h3⟩ := h
  exact ⟨vs, h1, z1s hm _ _ hp h2, h3⟩
 | map es =>
  simp only [zld, Bool.and_eq_true] at hp
  obtain ⟨r, ens, clock, h1, h2, h3, h4⟩ := h
  exact ⟨r, ens, clock, h1, h2, z1s hm _ _ hp.1 h3, z1s hm _ _ hp.2 h4⟩
 | raw q => exact h

section
variable {st : St} {dst : Option Nat} {n : FuncId} {cap args : List D} {g : List Oper -> (St -> Prop) -> St -> Prop} {rest : List Oper} {K : St -> Prop}
theorem OC.ac {f : FuncId} {ds : List D} {objs : List HObj} {r : D} (h : OC P f ds objs r) {H : HM} {nx : Nat} {K : D -> HM -> Nat -> Prop} (hk : K (renD (fun j => nx + j) r) (addL H nx objs) (nx + objs.length)) : AC P f ds H nx K :=
 (h.2.2.2 H nx).mono fun _ _ _ ⟨h1, h2, h3⟩ => by subst h1; subst h2; subst h3; exact hk
end
attribute [go_sem] addL renD renD.renL
end Go.Proofs.YtppebcifiejplaaGreat.Abs
namespace Go.Proofs.YtppebcifiejplaaGreat.Abs
open Go.RowKit
variable {P : Program}

def lowD (n : Nat) : D -> Bool
 | .osl j _ => decide (j < n)
 | .ptr j _ => decide (j < n)
 | .eptr j _ _ => decide (j < n)
 | .mp j => decide (j < n)
 | .it j => decide (j < n)
 | .agg ds => lowL ds
 | .tup ds => lowL ds
 | .rsl _ _ els => lowL els
 | .fsl _ els => lowL els
 | .rptr d => lowD n d
 | .fn _ cap => lowL cap
 | _ => true
where lowL : List D -> Bool
 | [] => true
 | d :: ds => lowD n d && lowL ds
def lowO (n : Nat) : HObj -> Bool
 | .box _ cs => lowD.lowL n cs
 | .row _ _ cs => lowD.lowL n cs
 | .map es => lowD.lowL n (es.map (·.1)) && lowD.lowL n (es.map (·.2))
 | .raw _ => true
mutual
theorem zdc (n : Nat) : ∀ d, pureD d = true -> lowD n d = true
 | .agg ds, h => by simp only [pureD] at h; simp only [lowD]; exact z4i n ds h
 | .tup ds, h => by simp only [pureD] at h; simp only [lowD]; exact z4i n ds h
 | .rsl _ _ els, h => by simp only [pureD] at h; simp only [lowD]; exact z4i n els h
 | .fsl _ els, h => by simp only [pureD] at h; simp only [lowD]; exact z4i n els h
 | .rptr d, h => by simp only [pureD] at h; simp only [lowD]; exact zdc n d h
 | .fn _ cap, h => by simp only [pureD] at h; simp only [lowD]; exact z4i n cap h
 | .any, _ => rfl
 | .int _ _, _ => rfl
 | .bool _, _ => rfl
 | .str _, _ => rfl
 | .nil, _ => rfl
 | .nptr, _ => rfl
 | .nfun, _ => rfl
 | .nmp, _ => rfl
 | .e0, _ => rfl
 | .osl .., h => by cases h
 | .ptr .., h => by cases h
 | .eptr .., h => by cases h
 | .mp _, h => by cases h
 | .it _, h => by cases h
theorem z4i (n : Nat) : ∀ ds, pureD.pureL ds = true -> lowD.lowL n ds = true
 | [], _ => rfl
 | d :: ds, h => by
  simp only [pureD.pureL, Bool.and_eq_true] at h
  simp only [lowD.lowL, zdc n d h.1, z4i n ds h.2, Bool.and_self]
end
mutual
theorem zmp {s : RS} : ∀ (d : D) (v : Value), rel s d v -> lowD s.nx d = true
 | .agg ds, v, h => by simp only [rel] at h; obtain ⟨vs, _, h2, _⟩ := h; simp only [lowD]; exact z4z ds vs h2
 | .tup ds, v, h => by simp only [rel] at h; obtain ⟨vs, _, h2⟩ := h; simp only [lowD]; exact z4z ds vs h2
 | .rsl _ _ els, v, h => by
  simp only [rel] at h
  simp only [lowD]
  rcases h with ⟨_, h, _⟩ | ⟨_, _, vs, _, _, _, h4, _⟩
  ·rw [h]; rfl
  ·exact z4z els vs h4
 | .fsl _ els, v, h => by
  simp only [rel] at h
  simp only [lowD]
  rcases h with ⟨h, _⟩ | ⟨_, vs, _, _, h4, _⟩
  ·rw [h]; rfl
  ·exact z4z els vs h4
 | .rptr d, v, h => by simp only [rel] at h; obtain ⟨_, u, _, h2, _⟩ := h; simp only [lowD]; exact zmp d u h2
 | .fn _ cap, v, h => by simp only [rel] at h; obtain ⟨vs, _, h2⟩ := h; simp only [lowD]; exact z4z cap vs h2
 | .any, _, _ => rfl
 | .int _ _, _, _ => rfl
 | .bool _, _, _ => rfl
 | .str _, _, _ => rfl
 | .nil, _, _ => rfl
 | .nptr, _, _ => rfl
 | .nfun, _, _ => rfl
 | .nmp, _, _ => rfl
 | .e0, _, _ => rfl
 | .osl .., v, h => by simp only [rel] at h; simp only [lowD, decide_eq_true_iff]; exact h.1
 | .ptr .., v, h => by simp only [rel] at h; simp only [lowD, decide_eq_true_iff]; exact h.1
 | .eptr .., v, h => by simp only [rel] at h; simp only [lowD, decide_eq_true_iff]; exact h.1
 | .mp _, v, h => by simp only [rel] at h; simp only [lowD, decide_eq_true_iff]; exact h.1
 | .it _, v, h => by simp only [rel] at h; simp only [lowD, decide_eq_true_iff]; exact h.1
theorem z4z {s : RS} : ∀ (ds : List D) (vs : List Value), relAll s ds vs -> lowD.lowL s.nx ds = true
 | [], _, _ => rfl
 | d :: ds, vs, h => by
  simp only [relAll] at h
  obtain ⟨v, r, _, h1, h2⟩ := h
  simp only [lowD.lowL, zmp d v h1, z4z ds r h2, Bool.and_self]
end
theorem zss {s : RS} {w : World} {v : Value} {o : HObj} (h : objOK P s w v o) : lowO s.nx o = true := by
 cases o with
 | box e cs => obtain ⟨_, vs, _, _, h, _⟩ := h; exact z4z cs vs h
 | row e n cs => obtain ⟨vs, _, h, _⟩ := h; exact z4z cs vs h
 | map es => obtain ⟨_, _, _, _, _, h1, h2⟩ := h; simp only [lowO, z4z _ _ h1, z4z _ _ h2, Bool.and_self]
 | raw o => rfl
mutual
theorem zle {s s' : RS} {n : Nat} (hm : ∀ a v, s.m a = some v -> s'.m a = some v) (hn : n <= s'.nx) (hH : ∀ id, id < n -> s'.H id = s.H id /\ s'.κ id = s.κ id) :
  ∀ (d : D) (v : Value), lowD n d = true -> rel s d v -> rel s' d v
 | .agg ds, v, hl, h => by
  simp only [lowD] at hl; simp only [rel] at h ⊢
  obtain ⟨vs, h1, h2, h3⟩ := h
  exact ⟨vs, h1, z3b hm hn hH ds vs hl h2, h3⟩
 | .tup ds, v, hl, h => by
  simp only [lowD] at hl; simp only [rel] at h ⊢
  obtain ⟨vs, h1, h2⟩ := h
  exact ⟨vs, h1, z3b hm hn hH ds vs hl h2⟩
 | .rsl nn sz els, v, hl, h => by
  simp only [lowD] at hl; simp only [rel] at h ⊢
  rcases h with h | ⟨a, cap, vs, h1, h2, h3, h4, h5⟩
  ·exact .inl h
  ·exact .inr ⟨a, cap, vs, h1, h2, h3, z3b hm hn hH els vs hl h4, fun i u hu => ⟨(h5 i u hu).1, (h5 i u hu).2.later hm⟩⟩
 | .fsl sz els, v, hl, h => by
  simp only [lowD] at hl; simp only [rel] at h ⊢
  rcases h with h | ⟨a, vs, h1, h3, h4, h5⟩
  ·exact .inl h
  exact .inr ⟨a, vs, h1, h3, z3b hm hn hH els vs hl h4, fun i u hu => ⟨(h5 i u hu).1, (h5 i u hu).2.later hm⟩⟩
 | .rptr d, v, hl, h => by
  simp only [lowD] at hl; simp only [rel] at h ⊢
  obtain ⟨a, u, h1, h2, h3⟩ := h
  exact ⟨a, u, h1, zle hm hn hH d u hl h2, h3.later hm⟩
 | .fn f cap, v, hl, h => by
  simp only [lowD] at hl; simp only [rel] at h ⊢
  obtain ⟨vs, h1, h2⟩ := h
  exact ⟨vs, h1, z3b hm hn hH cap vs hl h2⟩
 | .any, _, _, _ => by simp [rel]
 | .int _ _, v, _, h => by simpa [rel] using h
 | .bool _, v, _, h => by simpa [rel] using h
 | .str _, v, _, h => by simpa [rel] using h
 | .nil, v, _, h => by simpa [rel] using h
 | .nptr, v, _, h => by simpa [rel] using h
 | .nfun, v, _, h => by simpa [rel] using h
 | .nmp, v, _, h => by simpa [rel] using h
 | .e0, v, _, h => by simpa [rel] using h
 | .osl j k, v, hl, h => by
  simp only [lowD, decide_eq_true_iff] at hl; simp only [rel] at h ⊢
  rw [(hH j hl).1, (hH j hl).2]; exact ⟨by omega, h.2⟩
 | .ptr j k, v, hl, h => by
  simp only [lowD, decide_eq_true_iff] at hl; simp only [rel] at h ⊢
  rw [(hH j hl).1, (hH j hl).2]; exact ⟨by omega, h.2⟩
 | .eptr j k o, v, hl, h => by
  simp only [lowD, decide_eq_true_iff] at hl; simp only [rel] at h ⊢
  rw [(hH j hl).1, (hH j hl).2]; exact ⟨by omega, h.2⟩
 | .mp j, v, hl, h => by
  simp only [lowD, decide_eq_true_iff] at hl; simp only [rel] at h ⊢
  rw [(hH j hl).1, (hH j hl).2]; exact ⟨by omega, h.2⟩
 | .it j, v, hl, h => by
  simp only [lowD, decide_eq_true_iff] at hl; simp only [rel] at h ⊢
  rw [(hH j hl).1, (hH j hl).2]; exact ⟨by omega, h.2⟩
theorem z3b {s s' : RS} {n : Nat} (hm : ∀ a v, s.m a = some v -> s'.m a = some v) (hn : n <= s'.nx) (hH : ∀ id, id < n -> s'.H id = s.H id /\ s'.κ id = s.κ id) :
  ∀ (ds : List D) (vs : List Value), lowD.lowL n ds = true -> relAll s ds vs -> relAll s' ds vs
 | [], vs, _, h => by simpa [relAll] using h
 | d :: ds, vs, hl, h => by
  simp only [lowD.lowL, Bool.and_eq_true] at hl
  simp only [relAll] at h ⊢
  obtain ⟨v, r, h1, h2, h3⟩ := h
  exact ⟨v, r, h1, zle hm hn hH d v hl.1 h2, z3b hm hn hH ds r hl.2 h3⟩
end
theorem zst {s s' : RS} {n : Nat} {w : World} {v : Value} {o : HObj} (hm : ∀ a v, s.m a = some v -> s'.m a = some v) (hn : n <= s'.nx) (hH : ∀ id, id < n -> s'.H id = s.H id /\ s'.κ id = s.κ id)
  (hl : lowO n o = true) (h : objOK P s w v o) : objOK P s' w v o := by
 cases o with
 | box e cs =>
  obtain ⟨b, vs, h1, h2, h3, h4⟩ := h
  exact ⟨b, vs, h1, h2, z3b hm hn hH _ _ hl h3, h4⟩
 | row e k cs =>
  obtain ⟨vs, h1, h2, h3⟩ := h
  exact ⟨vs, h1, z3b hm hn hH _ _ hl h2, h3⟩
 | map es =>
  simp only [lowO, Bool.and_eq_true] at hl
  obtain ⟨r, ens, c, h1, h2, h3, h4⟩ := h
  exact ⟨r, ens, c, h1, h2, z3b hm hn hH _ _ hl.1 h3, z3b hm hn hH _ _ hl.2 h4⟩
 | raw o => exact h
def cutH (n : Nat) (H : HM) : HM := fun id => if id < n then H id else none
theorem zzg {f : FuncId} {ds : List D} {H : HM} {nx : Nat} {K : D -> HM -> Nat -> Prop} (h : AC P f ds H nx K)
  (hk : ∀ r H' nx', K r H' nx' -> lowD nx r = true /\ ∀ id o, id < nx -> H' id = some o -> H id = some o \/ lowO nx o = true) :
  AC P f ds H nx fun r H2 nx2 => nx2 = nx /\ ∃ H' nx', K r H' nx' /\ H2 = cutH nx H' := by
 refine ⟨h.1, fun s w vs h1 h2 h3 h4 => (h.2 s w vs h1 h2 h3 h4).mono fun e w' ⟨v, r, s', he, J, hstep, hRH, hr⟩ => ?_⟩
 subst h1; subst h2
 obtain ⟨hl, hlo⟩ := hk _ _ _ J
 let s2 : RS := { s' with H := cutH s.nx s'.H, nx := s.nx }
 have hH : ∀ id, id < s.nx -> s2.H id = s'.H id /\ s2.κ id = s'.κ id := fun id hid => ⟨if_pos hid, rfl⟩
 have hcut : ∀ (d : D) (v : Value), lowD s.nx d = true -> rel s' d v -> rel s2 d v := zle (s := s') (s' := s2) (fun _ _ h => h) (Nat.le_refl _) hH
 have hown : ∀ k, owned s2 k -> owned s' k := fun k ⟨id, hid, h5, h6⟩ => by
  rw [(hH id hid).1] at h5
  exact ⟨id, Nat.lt_of_lt_of_le hid hstep.nx, h5, h6⟩
 refine ⟨v, r, s2, he, ⟨rfl, s'.H, s'.nx, J, rfl⟩, ?_, ?_, hcut r v hl hr⟩
 ·exact ⟨hstep.os, hstep.tape, hstep.output, hstep.size, Nat.le_refl _, hstep.mem, hstep.new, fun id hid => by rw [(hH id hid).1]; exact hstep.objs id hid, hstep.keep, fun k hk' => hstep.own k (hown k hk')⟩
 ·refine ⟨fun a u hm => ⟨(hRH.mem a u hm).1, fun ho => (hRH.mem a u hm).2 (hown _ ho)⟩, fun id o ho => ?_, fun i j hi hj hij hb => ?_, fun g => ?_⟩
  ·have hid : id < s.nx := by
    rcases Nat.lt_or_ge id s.nx with h9 | h9
    ·exact h9
    ·have : s2.H id = none := if_neg (by omega)
     rw [this] at ho; cases ho
   rw [(hH id hid).1] at ho
   refine ⟨hid, zst (s := s') (s' := s2) (n := s.nx) (fun _ _ h => h) (Nat.le_refl _) hH ?_ (hRH.obj id o ho).2⟩
   rcases hlo id o hid ho with h9 | h9
   ·exact zss (s := s) (h3.obj id o h9).2
   ·exact h9
  ·have lt : ∀ i, s2.H i ≠ none -> i < s.nx /\ s'.H i ≠ none := fun i hi => by
    rcases Nat.lt_or_ge i s.nx with h9 | h9
    ·exact ⟨h9, by rw [<- (hH i h9).1]; exact hi⟩
    ·exact (hi (if_neg (by omega))).elim
   exact hRH.apart i j (lt i hi).2 (lt j hj).2 hij hb
  ·exact hcut _ _ (zdc _ _ (z96 g)) (hRH.glob g)

def Eff {σ : Type} (P : Program) (f : FuncId) (ds : List D) (lo : Nat) (I : σ -> HM -> Prop) (s s' : σ) (r : D) : Prop :=
 ∀ H nx, lo <= nx -> I s H -> AC P f ds H nx fun r' H' nx' => r' = r /\ nx' = nx /\ I s' H' /\ ∀ id, lo <= id -> H' id = H id
structure Low {σ : Type} (lo : Nat) (I : σ -> HM -> Prop) : Prop where
 loc : ∀ s H H', (∀ id, id < lo -> H' id = H id) -> I s H -> I s H'
 low : ∀ s H, I s H -> ∀ id o, id < lo -> H id = some o -> lowO lo o = true
mutual
theorem zjf {m n : Nat} (h : m <= n) : ∀ d, lowD m d = true -> lowD n d = true
 | .agg ds, hl => by simp only [lowD] at hl ⊢; exact z3z h ds hl
 | .tup ds, hl => by simp only [lowD] at hl ⊢; exact z3z h ds hl
 | .rsl _ _ els, hl => by simp only [lowD] at hl ⊢; exact z3z h els hl
 | .fsl _ els, hl => by simp only [lowD] at hl ⊢; exact z3z h els hl
 | .rptr d, hl => by simp only [lowD] at hl ⊢; exact zjf h d hl
 | .fn _ cap, hl => by simp only [lowD] at hl ⊢; exact z3z h cap hl
 | .any, _ => rfl
 | .int _ _, _ => rfl
 | .bool _, _ => rfl
 | .str _, _ => rfl
 | .nil, _ => rfl
 | .nptr, _ => rfl
 | .nfun, _ => rfl
 | .nmp, _ => rfl
 | .e0, _ => rfl
 | .osl .., hl => by simp only [lowD, decide_eq_true_iff] at hl ⊢; omega
 | .ptr .., hl => by simp only [lowD, decide_eq_true_iff] at hl ⊢; omega
 | .eptr .., hl => by simp only [lowD, decide_eq_true_iff] at hl ⊢; omega
 | .mp _, hl => by simp only [lowD, decide_eq_true_iff] at hl ⊢; omega
 | .it _, hl => by simp only [lowD, decide_eq_true_iff] at hl ⊢; omega
theorem z3z {m n : Nat} (h : m <= n) : ∀ ds, lowD.lowL m ds = true -> lowD.lowL n ds = true
 | [], _ => rfl
 | d :: ds, hl => by
  simp only [lowD.lowL, Bool.and_eq_true] at hl ⊢
  exact ⟨zjf h d hl.1, z3z h ds hl.2⟩
end
theorem zsu {m n : Nat} (h : m <= n) {o : HObj} (hl : lowO m o = true) : lowO n o = true := by
 cases o with
 | box e cs => exact z3z h cs hl
 | row e k cs => exact z3z h cs hl
 | map es => simp only [lowO, Bool.and_eq_true] at hl ⊢; exact ⟨z3z h _ hl.1, z3z h _ hl.2⟩
 | raw o => rfl
theorem zjg {σ : Type} {f : FuncId} {ds : List D} {lo : Nat} {I : σ -> HM -> Prop} {s s' : σ} {r : D} (hI : Low lo I) (hr : pureD r = true)
  (h : ∀ H nx, lo <= nx -> I s H -> AC P f ds H nx fun r' H' _ => r' = r /\ I s' H' /\ ∀ id, lo <= id -> id < nx -> H' id = H id) : Eff P f ds lo I s s' r := by
 intro H nx hlo hs
 have h1 := zzg (h H nx hlo hs) (fun r' H' nx' ⟨hr', hi, hs'⟩ => by
  subst hr'
  refine ⟨zdc _ _ hr, fun id o hid ho => ?_⟩
  rcases Nat.lt_or_ge id lo with h9 | h9
  ·exact .inr (zsu hlo (hI.low s' H' hi id o h9 ho))
  ·exact .inl (by rw [<- hs' id h9 hid]; exact ho))
 refine ⟨h1.1, fun s w vs e1 e2 e3 e4 => (h1.2 s w vs e1 e2 e3 e4).mono fun e w' ⟨v, r1, s1, he, ⟨hnx, H', nx', ⟨hr', hi, hs'⟩, hcut⟩, hstep, hRH, hrel⟩ => ⟨v, r1, s1, he, ⟨hr', hnx, ?_, fun id hid => ?_⟩, hstep, hRH, hrel⟩⟩
 ·refine hI.loc _ H' _ (fun id hid => ?_) hi
  rw [hcut]; exact if_pos (by omega)
 ·rw [hcut]
  unfold cutH
  split
  ·rename_i hlt; exact hs' id hid hlt
  ·rename_i hlt
   cases hH : H id with
   | none => rfl
   | some o =>
    have := (e3.obj id o (by rw [e1]; exact hH)).1
    omega
theorem zei {σ : Type} {lo : Nat} {I : σ -> HM -> Prop} {s s' : σ} {r : D} {n : FuncId} {args cap : List D} {g : List Oper -> (St -> Prop) -> St -> Prop} {rest : List Oper} {K : St -> Prop} {st : St} {dst : Option Nat}
  (h : Eff P n (args ++ cap) lo I s s' r) (hlo : lo <= st.nx) (hs : I s st.H)
  (hk : ∀ H', I s' H' -> (∀ id, lo <= id -> H' id = st.H id) -> g rest K ((st.withH H' st.nx).put dst r)) : zsd P (.fn n cap) args g rest K st dst :=
 zhf ((h st.H st.nx hlo hs).mono fun r' H' nx' ⟨h1, h2, h3, h4⟩ => by subst h1; subst h2; exact hk H' h3 h4)
theorem zsv {st : St} {b : Nat} {e : TypeId} (e' : TypeId) (hb : st.H b = some (.box e [.nil])) :
  SealTo P st { st with H := z1z (z1z st.H st.nx (some (.row e' 0 []))) b (some (.box e [.osl st.nx 0])), nx := st.nx + 1 } := by
 intro N s a w hf
 have hHb : s.H b = some (.box e [.nil]) := by rw [hf.H]; exact hb
 have hne : b ≠ s.nx := by have := (hf.heap.obj b _ hHb).1; omega
 obtain ⟨g1, g2⟩ := z6x hf.heap (Grew.refl w) (.row e' 0 []) (.slice none 0 0) (fun b hb => by cases hb) ⟨[], ⟨by simp, .inl ⟨rfl, rfl⟩⟩, z0u, by intro v hv; cases hv⟩
 have hb2 : (s.add (.slice none 0 0) (.row e' 0 [])).H b = some (.box e [.nil]) := by simp [RS.add, z1z, hne, hHb]
 obtain ⟨_, q2⟩ := g2.obj b _ hb2
 obtain ⟨g3, g4⟩ := za4 (w' := w) g2 b _ (.box e [.osl s.nx 0]) ((s.add (.slice none 0 0) (.row e' 0 [])).κ b) hb2 rfl rfl rfl (Nat.le_refl _) (fun _ _ _ => rfl) (.inr ⟨_, rfl, rfl⟩) (fun b hb => .inl hb) (fun hl => by
  obtain ⟨b', vs, u1, u2, u3, u4⟩ := q2
  refine ⟨b', vs, u1, u2, ?_, u4⟩
  simp only [relAll, rel] at u3
  obtain ⟨v, r, rfl, rfl, rfl⟩ := u3
  refine z0l ?_ z0u
  simp only [rel]
  refine ⟨by simp [RS.set, RS.add], ⟨_, _, rfl⟩, fun e2 k cs hH => ⟨Nat.zero_le _, fun _ => ?_⟩⟩
  simp only [RS.set, RS.add]
  rw [if_neg (fun h => hne h.symm)]
  simp)
 refine ⟨_, ⟨?_, ?_, hf.size, hf.defers, fun i => rel.later (g1.trans g3).later _ _ (hf.tmps i), g4⟩, g1.trans g3⟩
 ·simp only [RS.set, RS.add, hf.H, hf.nx]
 ·simp only [RS.set, RS.add, hf.nx]
theorem z5a {id : Nat} {l : List Oper} {b : Code} {own : List Nat} {Q : Exit -> St -> Prop} {st : St} (h : ∀ K : St -> Prop, (∀ st st', SealTo P st st' -> awp P own b Q st' -> K st) -> z2s P own (l.map (·.dst)) l K st) : awp P own (.seq (.region id l.toArray false) b) Q st :=
 ⟨fun h => (by cases h), fun _ => h _ fun _ st' hs hb => ⟨st', hs, hb⟩⟩
theorem zwd {σ : Type} {lo : Nat} (objs : σ -> List HObj) (hl : ∀ s, (objs s).length = lo) (ho : ∀ s, ∀ o ∈ objs s, lowO lo o = true) : Low lo fun s H => ∀ j, j < lo -> H j = (objs s)[j]? :=
 ⟨fun s H H' h hs j hj => (h j hj).trans (hs j hj), fun s H hs id o hid hH => by
  rw [hs id hid] at hH
  exact ho s o (List.mem_of_getElem? hH)⟩
end Go.Proofs.YtppebcifiejplaaGreat.Abs
namespace Go.Proofs.YtppebcifiejplaaGreat.Abs
open Go.RowKit
variable {P : Program}
theorem z03 : (∀ (p : Prop) [Decidable p], (decide p = true) = p) /\ (∀ (p : Prop) [Decidable p], (decide p = false) = ¬p) /\ (∀ p : Prop, (¬¬p) ↔ p) /\ (∀ (α : Type) [BEq α] [LawfulBEq α] (a b : α), (a == b) = true ↔ a = b) /\ (∀ (α : Type) [BEq α] [LawfulBEq α] (a b : α), (a == b) = false ↔ a ≠ b) /\ (∀ (α : Type) [BEq α] [LawfulBEq α] (a b : α), (a != b) = true ↔ a ≠ b) /\ (∀ (α : Type) (a b : α), (a ≠ b) = ¬(a = b)) /\ (∀ b : Bool, ((!b) = true) = (b = false)) /\ (∀ b : Bool, ((!b) = false) = (b = true)) /\ (∀ a b : Bool, ((a && b) = true) = (a = true /\ b = true)) /\ (∀ a b : Bool, ((a || b) = true) = (a = true \/ b = true)) /\ (∀ a b : Bool, ((a && b) = false) = (a = true -> b = false)) /\ (∀ a b : Bool, ((a || b) = false) = (a = false /\ b = false)) /\ (∀ b : Bool, (¬(b = true)) = (b = false)) /\ (∀ b : Bool, (¬(b = false)) = (b = true)) :=
 ⟨fun p _ => decide_eq_true_eq, fun p _ => by simp, fun p => Classical.not_not, fun α _ _ a b => beq_iff_eq, fun α _ _ a b => beq_eq_false_iff_ne, fun α _ _ a b => bne_iff_ne, fun α a b => rfl, fun b => by cases b <;> simp, fun b => by cases b <;> simp, fun a b => by cases a <;> cases b <;> simp, fun a b => by cases a <;> cases b <;> simp, fun a b => by cases a <;> cases b <;> simp, fun a b => by cases a <;> cases b <;> simp, fun b => by cases b <;> simp, fun b => by cases b <;> simp⟩
end Go.Proofs.YtppebcifiejplaaGreat.Abs
namespace Go.Proofs.YtppebcifiejplaaGreat.Facts
open Go.Proofs.YtppebcifiejplaaGreat.Abs
@[go_sem] theorem ty1 : z0f Tryz.prog 1 = false /\ z18 Tryz.prog 1 = true /\ z1m Tryz.prog 1 = none /\ z7g Tryz.prog 1 = none /\ z83 Tryz.prog 1 = none /\ z7a Tryz.prog 1 = false /\ z38 Tryz.prog 1 = false /\ z7x Tryz.prog 1 = none /\ z08 Tryz.prog 1 = 1 /\ z14 Tryz.prog 1 = 8 /\ z23 Tryz.prog 1 = some [D.nfun] /\ z0y Tryz.prog 1 = true := by refine ⟨?_, ?_, ?_, ?_, ?_, ?_, ?_, ?_, ?_, ?_, ?_, ?_⟩ <;> kernel_rfl
@[go_sem] theorem ty2 : z0f Tryz.prog 2 = false /\ z18 Tryz.prog 2 = true /\ z1m Tryz.prog 2 = none /\ z7g Tryz.prog 2 = none /\ z83 Tryz.prog 2 = some .i64 /\ z7a Tryz.prog 2 = false /\ z38 Tryz.prog 2 = false /\ z7x Tryz.prog 2 = none /\ z08 Tryz.prog 2 = 1 /\ z14 Tryz.prog 2 = 8 /\ z23 Tryz.prog 2 = some [D.int .i64 0] /\ z0y Tryz.prog 2 = true := by refine ⟨?_, ?_, ?_, ?_, ?_, ?_, ?_, ?_, ?_, ?_, ?_, ?_⟩ <;> kernel_rfl
@[go_sem] theorem ty3 : z0f Tryz.prog 3 = false /\ z18 Tryz.prog 3 = true /\ z1m Tryz.prog 3 = none /\ z7g Tryz.prog 3 = none /\ z83 Tryz.prog 3 = some .i64 /\ z7a Tryz.prog 3 = false /\ z38 Tryz.prog 3 = false /\ z7x Tryz.prog 3 = none /\ z08 Tryz.prog 3 = 1 /\ z14 Tryz.prog 3 = 8 /\ z23 Tryz.prog 3 = some [D.int .i64 0] /\ z0y Tryz.prog 3 = true := by refine ⟨?_, ?_, ?_, ?_, ?_, ?_, ?_, ?_, ?_, ?_, ?_, ?_⟩ <;> kernel_rfl
theorem z6r : z0f Tryz.prog 3 = false := ty3.1
theorem z6s : z18 Tryz.prog 3 = true := ty3.2.1
theorem z9o : z08 Tryz.prog 3 = 1 := ty3.2.2.2.2.2.2.2.2.1
@[go_sem] theorem ty4 : z0f Tryz.prog 4 = false /\ z18 Tryz.prog 4 = true /\ z1m Tryz.prog 4 = none /\ z7g Tryz.prog 4 = none /\ z83 Tryz.prog 4 = none /\ z7a Tryz.prog 4 = false /\ z38 Tryz.prog 4 = true /\ z7x Tryz.prog 4 = none /\ z08 Tryz.prog 4 = 1 /\ z14 Tryz.prog 4 = 1 /\ z23 Tryz.prog 4 = some [D.bool false] /\ z0y Tryz.prog 4 = true := by refine ⟨?_, ?_, ?_, ?_, ?_, ?_, ?_, ?_, ?_, ?_, ?_, ?_⟩ <;> kernel_rfl
@[go_sem] theorem ty5 : z0f Tryz.prog 5 = false /\ z18 Tryz.prog 5 = true /\ z1m Tryz.prog 5 = none /\ z7g Tryz.prog 5 = none /\ z83 Tryz.prog 5 = some .u8 /\ z7a Tryz.prog 5 = false /\ z38 Tryz.prog 5 = false /\ z7x Tryz.prog 5 = none /\ z08 Tryz.prog 5 = 1 /\ z14 Tryz.prog 5 = 1 /\ z23 Tryz.prog 5 = some [D.int .u8 0] /\ z0y Tryz.prog 5 = true := by refine ⟨?_, ?_, ?_, ?_, ?_, ?_, ?_, ?_, ?_, ?_, ?_, ?_⟩ <;> kernel_rfl
@[go_sem] theorem ty9 : z0f Tryz.prog 9 = false /\ z18 Tryz.prog 9 = true /\ z1m Tryz.prog 9 = none /\ z7g Tryz.prog 9 = none /\ z83 Tryz.prog 9 = none /\ z7a Tryz.prog 9 = true /\ z38 Tryz.prog 9 = false /\ z7x Tryz.prog 9 = none /\ z08 Tryz.prog 9 = 1 /\ z14 Tryz.prog 9 = 16 /\ z23 Tryz.prog 9 = some [D.str ByteArray.empty] /\ z0y Tryz.prog 9 = true := by refine ⟨?_, ?_, ?_, ?_, ?_, ?_, ?_, ?_, ?_, ?_, ?_, ?_⟩ <;> kernel_rfl
theorem z7b : z0f Tryz.prog 9 = false := ty9.1
theorem zbg : z18 Tryz.prog 9 = true := ty9.2.1
theorem z84 : z08 Tryz.prog 9 = 1 := ty9.2.2.2.2.2.2.2.2.1
@[go_sem] theorem ty12 : z0f Tryz.prog 12 = false /\ z18 Tryz.prog 12 = true /\ z1m Tryz.prog 12 = none /\ z7g Tryz.prog 12 = none /\ z83 Tryz.prog 12 = some .u64 /\ z7a Tryz.prog 12 = false /\ z38 Tryz.prog 12 = false /\ z7x Tryz.prog 12 = none /\ z08 Tryz.prog 12 = 1 /\ z14 Tryz.prog 12 = 8 /\ z23 Tryz.prog 12 = some [D.int .u64 0] /\ z0y Tryz.prog 12 = true := by refine ⟨?_, ?_, ?_, ?_, ?_, ?_, ?_, ?_, ?_, ?_, ?_, ?_⟩ <;> kernel_rfl
@[go_sem] theorem ty13 : z0f Tryz.prog 13 = true /\ z18 Tryz.prog 13 = false /\ z1m Tryz.prog 13 = none /\ z7g Tryz.prog 13 = none /\ z83 Tryz.prog 13 = none /\ z7a Tryz.prog 13 = false /\ z38 Tryz.prog 13 = false /\ z7x Tryz.prog 13 = none /\ z08 Tryz.prog 13 = 2 /\ z14 Tryz.prog 13 = 24 /\ z23 Tryz.prog 13 = some [D.str ByteArray.empty, D.int .u64 0] /\ z0y Tryz.prog 13 = true := by refine ⟨?_, ?_, ?_, ?_, ?_, ?_, ?_, ?_, ?_, ?_, ?_, ?_⟩ <;> kernel_rfl
@[go_sem] theorem fieldsOK13 : z30 Tryz.prog 13 = true := by kernel_rfl
@[go_sem] theorem fieldT13_0 : z0w Tryz.prog 13 0 = some (0, 9) := by kernel_rfl
@[go_sem] theorem fieldT13_1 : z0w Tryz.prog 13 1 = some (1, 12) := by kernel_rfl
@[go_sem] theorem ty21 : z0f Tryz.prog 21 = false /\ z18 Tryz.prog 21 = true /\ z1m Tryz.prog 21 = none /\ z7g Tryz.prog 21 = none /\ z83 Tryz.prog 21 = some .i32 /\ z7a Tryz.prog 21 = false /\ z38 Tryz.prog 21 = false /\ z7x Tryz.prog 21 = none /\ z08 Tryz.prog 21 = 1 /\ z14 Tryz.prog 21 = 4 /\ z23 Tryz.prog 21 = some [D.int .i32 0] /\ z0y Tryz.prog 21 = true := by refine ⟨?_, ?_, ?_, ?_, ?_, ?_, ?_, ?_, ?_, ?_, ?_, ?_⟩ <;> kernel_rfl
@[go_sem] theorem ty22 : z0f Tryz.prog 22 = true /\ z18 Tryz.prog 22 = false /\ z1m Tryz.prog 22 = none /\ z7g Tryz.prog 22 = none /\ z83 Tryz.prog 22 = none /\ z7a Tryz.prog 22 = false /\ z38 Tryz.prog 22 = false /\ z7x Tryz.prog 22 = none /\ z08 Tryz.prog 22 = 3 /\ z14 Tryz.prog 22 = 24 /\ z23 Tryz.prog 22 = some [D.int .i64 0, D.int .i64 0, D.int .i64 0] /\ z0y Tryz.prog 22 = true := by refine ⟨?_, ?_, ?_, ?_, ?_, ?_, ?_, ?_, ?_, ?_, ?_, ?_⟩ <;> kernel_rfl
@[go_sem] theorem fieldsOK22 : z30 Tryz.prog 22 = true := by kernel_rfl
@[go_sem] theorem fieldT22_0 : z0w Tryz.prog 22 0 = some (0, 3) := by kernel_rfl
@[go_sem] theorem fieldT22_1 : z0w Tryz.prog 22 1 = some (1, 3) := by kernel_rfl
@[go_sem] theorem fieldT22_2 : z0w Tryz.prog 22 2 = some (2, 3) := by kernel_rfl
@[go_sem] theorem ty23 : z0f Tryz.prog 23 = true /\ z18 Tryz.prog 23 = false /\ z1m Tryz.prog 23 = none /\ z7g Tryz.prog 23 = none /\ z83 Tryz.prog 23 = none /\ z7a Tryz.prog 23 = false /\ z38 Tryz.prog 23 = false /\ z7x Tryz.prog 23 = none /\ z08 Tryz.prog 23 = 3 /\ z14 Tryz.prog 23 = 24 /\ z23 Tryz.prog 23 = some [D.int .i64 0, D.int .i64 0, D.int .i64 0] /\ z0y Tryz.prog 23 = true := by refine ⟨?_, ?_, ?_, ?_, ?_, ?_, ?_, ?_, ?_, ?_, ?_, ?_⟩ <;> kernel_rfl
theorem z6e : z0f Tryz.prog 23 = true := ty23.1
theorem zm5 : z18 Tryz.prog 23 = false := ty23.2.1
theorem z9z : z08 Tryz.prog 23 = 3 := ty23.2.2.2.2.2.2.2.2.1
@[go_sem] theorem fieldsOK23 : z30 Tryz.prog 23 = true := by kernel_rfl
@[go_sem] theorem fieldT23_0 : z0w Tryz.prog 23 0 = some (0, 3) := by kernel_rfl
@[go_sem] theorem fieldT23_1 : z0w Tryz.prog 23 1 = some (1, 3) := by kernel_rfl
@[go_sem] theorem fieldT23_2 : z0w Tryz.prog 23 2 = some (2, 3) := by kernel_rfl
@[go_sem] theorem ty24 : z0f Tryz.prog 24 = false /\ z18 Tryz.prog 24 = true /\ z1m Tryz.prog 24 = some 113 /\ z7g Tryz.prog 24 = none /\ z83 Tryz.prog 24 = none /\ z7a Tryz.prog 24 = false /\ z38 Tryz.prog 24 = false /\ z7x Tryz.prog 24 = none /\ z08 Tryz.prog 24 = 1 /\ z14 Tryz.prog 24 = 24 /\ z23 Tryz.prog 24 = some [D.nil] /\ z0y Tryz.prog 24 = true := by refine ⟨?_, ?_, ?_, ?_, ?_, ?_, ?_, ?_, ?_, ?_, ?_, ?_⟩ <;> kernel_rfl
@[go_sem] theorem ty25 : z0f Tryz.prog 25 = false /\ z18 Tryz.prog 25 = true /\ z1m Tryz.prog 25 = some 27 /\ z7g Tryz.prog 25 = none /\ z83 Tryz.prog 25 = none /\ z7a Tryz.prog 25 = false /\ z38 Tryz.prog 25 = false /\ z7x Tryz.prog 25 = none /\ z08 Tryz.prog 25 = 1 /\ z14 Tryz.prog 25 = 24 /\ z23 Tryz.prog 25 = some [D.nil] /\ z0y Tryz.prog 25 = true := by refine ⟨?_, ?_, ?_, ?_, ?_, ?_, ?_, ?_, ?_, ?_, ?_, ?_⟩ <;> kernel_rfl
@[go_sem] theorem ty27 : z0f Tryz.prog 27 = true /\ z18 Tryz.prog 27 = false /\ z1m Tryz.prog 27 = none /\ z7g Tryz.prog 27 = none /\ z83 Tryz.prog 27 = none /\ z7a Tryz.prog 27 = false /\ z38 Tryz.prog 27 = false /\ z7x Tryz.prog 27 = none /\ z08 Tryz.prog 27 = 8 /\ z14 Tryz.prog 27 = 120 /\ z23 Tryz.prog 27 = some [D.int .i64 0, D.int .i64 0, D.int .i64 0, D.int .i64 0, D.str ByteArray.empty, D.nil, D.nil, D.nil] /\ z0y Tryz.prog 27 = true := by refine ⟨?_, ?_, ?_, ?_, ?_, ?_, ?_, ?_, ?_, ?_, ?_, ?_⟩ <;> kernel_rfl
theorem z5m : z0f Tryz.prog 27 = true := ty27.1
theorem z7c : z08 Tryz.prog 27 = 8 := ty27.2.2.2.2.2.2.2.2.1
@[go_sem] theorem fieldsOK27 : z30 Tryz.prog 27 = true := by kernel_rfl
@[go_sem] theorem fieldT27_0 : z0w Tryz.prog 27 0 = some (0, 23) := by kernel_rfl
@[go_sem] theorem fieldT27_1 : z0w Tryz.prog 27 1 = some (3, 3) := by kernel_rfl
@[go_sem] theorem fieldT27_2 : z0w Tryz.prog 27 2 = some (4, 9) := by kernel_rfl
@[go_sem] theorem fieldT27_3 : z0w Tryz.prog 27 3 = some (5, 24) := by kernel_rfl
@[go_sem] theorem fieldT27_4 : z0w Tryz.prog 27 4 = some (6, 24) := by kernel_rfl
@[go_sem] theorem fieldT27_5 : z0w Tryz.prog 27 5 = some (7, 25) := by kernel_rfl
@[go_sem] theorem ty28 : z0f Tryz.prog 28 = false /\ z18 Tryz.prog 28 = true /\ z1m Tryz.prog 28 = some 59 /\ z7g Tryz.prog 28 = none /\ z83 Tryz.prog 28 = none /\ z7a Tryz.prog 28 = false /\ z38 Tryz.prog 28 = false /\ z7x Tryz.prog 28 = none /\ z08 Tryz.prog 28 = 1 /\ z14 Tryz.prog 28 = 24 /\ z23 Tryz.prog 28 = some [D.nil] /\ z0y Tryz.prog 28 = true := by refine ⟨?_, ?_, ?_, ?_, ?_, ?_, ?_, ?_, ?_, ?_, ?_, ?_⟩ <;> kernel_rfl
@[go_sem] theorem ty29 : z0f Tryz.prog 29 = false /\ z18 Tryz.prog 29 = true /\ z1m Tryz.prog 29 = some 9 /\ z7g Tryz.prog 29 = none /\ z83 Tryz.prog 29 = none /\ z7a Tryz.prog 29 = false /\ z38 Tryz.prog 29 = false /\ z7x Tryz.prog 29 = none /\ z08 Tryz.prog 29 = 1 /\ z14 Tryz.prog 29 = 24 /\ z23 Tryz.prog 29 = some [D.nil] /\ z0y Tryz.prog 29 = true := by refine ⟨?_, ?_, ?_, ?_, ?_, ?_, ?_, ?_, ?_, ?_, ?_, ?_⟩ <;> kernel_rfl
@[go_sem] theorem ty31 : z0f Tryz.prog 31 = true /\ z18 Tryz.prog 31 = false /\ z1m Tryz.prog 31 = none /\ z7g Tryz.prog 31 = none /\ z83 Tryz.prog 31 = none /\ z7a Tryz.prog 31 = false /\ z38 Tryz.prog 31 = false /\ z7x Tryz.prog 31 = none /\ z08 Tryz.prog 31 = 3 /\ z14 Tryz.prog 31 = 32 /\ z23 Tryz.prog 31 = some [D.int .i64 0, D.int .i64 0, D.str ByteArray.empty] /\ z0y Tryz.prog 31 = true := by refine ⟨?_, ?_, ?_, ?_, ?_, ?_, ?_, ?_, ?_, ?_, ?_, ?_⟩ <;> kernel_rfl
@[go_sem] theorem fieldsOK31 : z30 Tryz.prog 31 = true := by kernel_rfl
@[go_sem] theorem fieldT31_0 : z0w Tryz.prog 31 0 = some (0, 3) := by kernel_rfl
@[go_sem] theorem fieldT31_1 : z0w Tryz.prog 31 1 = some (1, 3) := by kernel_rfl
@[go_sem] theorem fieldT31_2 : z0w Tryz.prog 31 2 = some (2, 9) := by kernel_rfl
@[go_sem] theorem ty32 : z0f Tryz.prog 32 = false /\ z18 Tryz.prog 32 = true /\ z1m Tryz.prog 32 = some 34 /\ z7g Tryz.prog 32 = none /\ z83 Tryz.prog 32 = none /\ z7a Tryz.prog 32 = false /\ z38 Tryz.prog 32 = false /\ z7x Tryz.prog 32 = none /\ z08 Tryz.prog 32 = 1 /\ z14 Tryz.prog 32 = 24 /\ z23 Tryz.prog 32 = some [D.nil] /\ z0y Tryz.prog 32 = true := by refine ⟨?_, ?_, ?_, ?_, ?_, ?_, ?_, ?_, ?_, ?_, ?_, ?_⟩ <;> kernel_rfl
@[go_sem] theorem ty34 : z0f Tryz.prog 34 = true /\ z18 Tryz.prog 34 = false /\ z1m Tryz.prog 34 = none /\ z7g Tryz.prog 34 = none /\ z83 Tryz.prog 34 = none /\ z7a Tryz.prog 34 = false /\ z38 Tryz.prog 34 = false /\ z7x Tryz.prog 34 = none /\ z08 Tryz.prog 34 = 25 /\ z14 Tryz.prog 34 = 368 /\ z0y Tryz.prog 34 = true := by refine ⟨?_, ?_, ?_, ?_, ?_, ?_, ?_, ?_, ?_, ?_, ?_⟩ <;> kernel_rfl
theorem zul : z0f Tryz.prog 34 = true := ty34.1
theorem zxz : z08 Tryz.prog 34 = 25 := ty34.2.2.2.2.2.2.2.2.1
@[go_sem] theorem fieldsOK34 : z30 Tryz.prog 34 = true := by kernel_rfl
@[go_sem] theorem fieldT34_0 : z0w Tryz.prog 34 0 = some (0, 3) := by kernel_rfl
@[go_sem] theorem fieldT34_1 : z0w Tryz.prog 34 1 = some (1, 28) := by kernel_rfl
@[go_sem] theorem fieldT34_2 : z0w Tryz.prog 34 2 = some (2, 28) := by kernel_rfl
@[go_sem] theorem fieldT34_3 : z0w Tryz.prog 34 3 = some (3, 3) := by kernel_rfl
@[go_sem] theorem fieldT34_4 : z0w Tryz.prog 34 4 = some (4, 3) := by kernel_rfl
@[go_sem] theorem fieldT34_5 : z0w Tryz.prog 34 5 = some (5, 27) := by kernel_rfl
@[go_sem] theorem fieldT34_6 : z0w Tryz.prog 34 6 = some (13, 29) := by kernel_rfl
@[go_sem] theorem fieldT34_7 : z0w Tryz.prog 34 7 = some (14, 29) := by kernel_rfl
@[go_sem] theorem fieldT34_8 : z0w Tryz.prog 34 8 = some (15, 9) := by kernel_rfl
@[go_sem] theorem fieldT34_9 : z0w Tryz.prog 34 9 = some (16, 9) := by kernel_rfl
@[go_sem] theorem zy0 : z0w Tryz.prog 34 10 = some (17, 31) := by kernel_rfl
@[go_sem] theorem zy1 : z0w Tryz.prog 34 11 = some (20, 3) := by kernel_rfl
@[go_sem] theorem zy2 : z0w Tryz.prog 34 12 = some (21, 3) := by kernel_rfl
@[go_sem] theorem zy3 : z0w Tryz.prog 34 13 = some (22, 3) := by kernel_rfl
@[go_sem] theorem zy4 : z0w Tryz.prog 34 14 = some (23, 9) := by kernel_rfl
@[go_sem] theorem zy5 : z0w Tryz.prog 34 15 = some (24, 32) := by kernel_rfl
@[go_sem] theorem ty36 : z0f Tryz.prog 36 = true /\ z18 Tryz.prog 36 = false /\ z1m Tryz.prog 36 = none /\ z7g Tryz.prog 36 = none /\ z83 Tryz.prog 36 = none /\ z7a Tryz.prog 36 = false /\ z38 Tryz.prog 36 = false /\ z7x Tryz.prog 36 = none /\ z08 Tryz.prog 36 = 28 /\ z14 Tryz.prog 36 = 392 /\ z0y Tryz.prog 36 = true := by refine ⟨?_, ?_, ?_, ?_, ?_, ?_, ?_, ?_, ?_, ?_, ?_⟩ <;> kernel_rfl
@[go_sem] theorem fieldsOK36 : z30 Tryz.prog 36 = true := by kernel_rfl
@[go_sem] theorem fieldT36_0 : z0w Tryz.prog 36 0 = some (0, 3) := by kernel_rfl
@[go_sem] theorem fieldT36_1 : z0w Tryz.prog 36 1 = some (1, 3) := by kernel_rfl
@[go_sem] theorem fieldT36_2 : z0w Tryz.prog 36 2 = some (2, 3) := by kernel_rfl
@[go_sem] theorem fieldT36_3 : z0w Tryz.prog 36 3 = some (3, 34) := by kernel_rfl
theorem zy6 : z23 Tryz.prog 36 = some [D.int .i64 0, D.int .i64 0, D.int .i64 0, D.int .i64 0, D.nil, D.nil, D.int .i64 0, D.int .i64 0, D.int .i64 0, D.int .i64 0, D.int .i64 0, D.int .i64 0, D.str ByteArray.empty, D.nil, D.nil, D.nil, D.nil, D.nil, D.str ByteArray.empty, D.str ByteArray.empty, D.int .i64 0, D.int .i64 0, D.str ByteArray.empty, D.int .i64 0, D.int .i64 0, D.int .i64 0, D.str ByteArray.empty, D.nil] := by kernel_rfl
@[go_sem] theorem ty39 : z0f Tryz.prog 39 = false /\ z18 Tryz.prog 39 = true /\ z1m Tryz.prog 39 = none /\ z7g Tryz.prog 39 = none /\ z83 Tryz.prog 39 = some .i64 /\ z7a Tryz.prog 39 = false /\ z38 Tryz.prog 39 = false /\ z7x Tryz.prog 39 = none /\ z08 Tryz.prog 39 = 1 /\ z14 Tryz.prog 39 = 8 /\ z23 Tryz.prog 39 = some [D.int .i64 0] /\ z0y Tryz.prog 39 = true := by refine ⟨?_, ?_, ?_, ?_, ?_, ?_, ?_, ?_, ?_, ?_, ?_, ?_⟩ <;> kernel_rfl
@[go_sem] theorem ty57 : z0f Tryz.prog 57 = false /\ z18 Tryz.prog 57 = true /\ z1m Tryz.prog 57 = none /\ z7g Tryz.prog 57 = none /\ z83 Tryz.prog 57 = none /\ z7a Tryz.prog 57 = false /\ z38 Tryz.prog 57 = false /\ z7x Tryz.prog 57 = none /\ z08 Tryz.prog 57 = 1 /\ z14 Tryz.prog 57 = 8 /\ z23 Tryz.prog 57 = some [D.nfun] /\ z0y Tryz.prog 57 = true := by refine ⟨?_, ?_, ?_, ?_, ?_, ?_, ?_, ?_, ?_, ?_, ?_, ?_⟩ <;> kernel_rfl
@[go_sem] theorem ty59 : z0f Tryz.prog 59 = true /\ z18 Tryz.prog 59 = false /\ z1m Tryz.prog 59 = none /\ z7g Tryz.prog 59 = none /\ z83 Tryz.prog 59 = none /\ z7a Tryz.prog 59 = false /\ z38 Tryz.prog 59 = false /\ z7x Tryz.prog 59 = none /\ z08 Tryz.prog 59 = 2 /\ z14 Tryz.prog 59 = 24 /\ z23 Tryz.prog 59 = some [D.int .i64 0, D.str ByteArray.empty] /\ z0y Tryz.prog 59 = true := by refine ⟨?_, ?_, ?_, ?_, ?_, ?_, ?_, ?_, ?_, ?_, ?_, ?_⟩ <;> kernel_rfl
theorem zh1 : z0f Tryz.prog 59 = true := ty59.1
theorem zkk : z08 Tryz.prog 59 = 2 := ty59.2.2.2.2.2.2.2.2.1
@[go_sem] theorem fieldsOK59 : z30 Tryz.prog 59 = true := by kernel_rfl
@[go_sem] theorem fieldT59_0 : z0w Tryz.prog 59 0 = some (0, 3) := by kernel_rfl
@[go_sem] theorem fieldT59_1 : z0w Tryz.prog 59 1 = some (1, 9) := by kernel_rfl
@[go_sem] theorem ty73 : z0f Tryz.prog 73 = true /\ z18 Tryz.prog 73 = false /\ z1m Tryz.prog 73 = none /\ z7g Tryz.prog 73 = none /\ z83 Tryz.prog 73 = none /\ z7a Tryz.prog 73 = false /\ z38 Tryz.prog 73 = false /\ z7x Tryz.prog 73 = none /\ z08 Tryz.prog 73 = 4 /\ z14 Tryz.prog 73 = 32 /\ z23 Tryz.prog 73 = some [D.int .i64 0, D.int .i64 0, D.int .i64 0, D.int .i64 0] /\ z0y Tryz.prog 73 = true := by refine ⟨?_, ?_, ?_, ?_, ?_, ?_, ?_, ?_, ?_, ?_, ?_, ?_⟩ <;> kernel_rfl
@[go_sem] theorem fieldsOK73 : z30 Tryz.prog 73 = true := by kernel_rfl
@[go_sem] theorem fieldT73_0 : z0w Tryz.prog 73 0 = some (0, 23) := by kernel_rfl
@[go_sem] theorem fieldT73_1 : z0w Tryz.prog 73 1 = some (3, 3) := by kernel_rfl
@[go_sem] theorem ty85 : z0f Tryz.prog 85 = false /\ z18 Tryz.prog 85 = true /\ z1m Tryz.prog 85 = some 23 /\ z7g Tryz.prog 85 = none /\ z83 Tryz.prog 85 = none /\ z7a Tryz.prog 85 = false /\ z38 Tryz.prog 85 = false /\ z7x Tryz.prog 85 = none /\ z08 Tryz.prog 85 = 1 /\ z14 Tryz.prog 85 = 24 /\ z23 Tryz.prog 85 = some [D.nil] /\ z0y Tryz.prog 85 = true := by refine ⟨?_, ?_, ?_, ?_, ?_, ?_, ?_, ?_, ?_, ?_, ?_, ?_⟩ <;> kernel_rfl
@[go_sem] theorem ty97 : z0f Tryz.prog 97 = false /\ z18 Tryz.prog 97 = true /\ z1m Tryz.prog 97 = none /\ z7g Tryz.prog 97 = none /\ z83 Tryz.prog 97 = none /\ z7a Tryz.prog 97 = false /\ z38 Tryz.prog 97 = false /\ z7x Tryz.prog 97 = none /\ z08 Tryz.prog 97 = 1 /\ z14 Tryz.prog 97 = 8 /\ z23 Tryz.prog 97 = some [D.nfun] /\ z0y Tryz.prog 97 = true := by refine ⟨?_, ?_, ?_, ?_, ?_, ?_, ?_, ?_, ?_, ?_, ?_, ?_⟩ <;> kernel_rfl
@[go_sem] theorem ty98 : z0f Tryz.prog 98 = true /\ z18 Tryz.prog 98 = false /\ z1m Tryz.prog 98 = none /\ z7g Tryz.prog 98 = some (4, 97) /\ z83 Tryz.prog 98 = none /\ z7a Tryz.prog 98 = false /\ z38 Tryz.prog 98 = false /\ z7x Tryz.prog 98 = none /\ z08 Tryz.prog 98 = 4 /\ z14 Tryz.prog 98 = 32 /\ z23 Tryz.prog 98 = some [D.nfun, D.nfun, D.nfun, D.nfun] /\ z0y Tryz.prog 98 = true := by refine ⟨?_, ?_, ?_, ?_, ?_, ?_, ?_, ?_, ?_, ?_, ?_, ?_⟩ <;> kernel_rfl
@[go_sem] theorem under98 : Tryz.prog.underlying 98 = some (.array 4 97) := by kernel_rfl
@[go_sem] theorem zy7 : z0f Tryz.prog 111 = true /\ z18 Tryz.prog 111 = false /\ z1m Tryz.prog 111 = none /\ z7g Tryz.prog 111 = none /\ z83 Tryz.prog 111 = none /\ z7a Tryz.prog 111 = false /\ z38 Tryz.prog 111 = false /\ z7x Tryz.prog 111 = none /\ z08 Tryz.prog 111 = 3 /\ z14 Tryz.prog 111 = 24 /\ z23 Tryz.prog 111 = some [D.int .i64 0, D.int .i64 0, D.int .i64 0] /\ z0y Tryz.prog 111 = true := by refine ⟨?_, ?_, ?_, ?_, ?_, ?_, ?_, ?_, ?_, ?_, ?_, ?_⟩ <;> kernel_rfl
theorem zi6 : z0f Tryz.prog 111 = true := zy7.1
theorem zi7 : z18 Tryz.prog 111 = false := zy7.2.1
theorem zm6 : z08 Tryz.prog 111 = 3 := zy7.2.2.2.2.2.2.2.2.1
@[go_sem] theorem zy8 : z30 Tryz.prog 111 = true := by kernel_rfl
@[go_sem] theorem zy9 : z0w Tryz.prog 111 0 = some (0, 3) := by kernel_rfl
@[go_sem] theorem zya : z0w Tryz.prog 111 1 = some (1, 3) := by kernel_rfl
@[go_sem] theorem zyb : z0w Tryz.prog 111 2 = some (2, 3) := by kernel_rfl
@[go_sem] theorem ty113 : z0f Tryz.prog 113 = true /\ z18 Tryz.prog 113 = false /\ z1m Tryz.prog 113 = none /\ z7g Tryz.prog 113 = none /\ z83 Tryz.prog 113 = none /\ z7a Tryz.prog 113 = false /\ z38 Tryz.prog 113 = false /\ z7x Tryz.prog 113 = none /\ z08 Tryz.prog 113 = 4 /\ z14 Tryz.prog 113 = 40 /\ z23 Tryz.prog 113 = some [D.str ByteArray.empty, D.int .i64 0, D.int .i64 0, D.int .i64 0] /\ z0y Tryz.prog 113 = true := by refine ⟨?_, ?_, ?_, ?_, ?_, ?_, ?_, ?_, ?_, ?_, ?_, ?_⟩ <;> kernel_rfl
theorem zdi : z0f Tryz.prog 113 = true := ty113.1
theorem zh2 : z08 Tryz.prog 113 = 4 := ty113.2.2.2.2.2.2.2.2.1
@[go_sem] theorem zyc : z30 Tryz.prog 113 = true := by kernel_rfl
@[go_sem] theorem zyd : z0w Tryz.prog 113 0 = some (0, 9) := by kernel_rfl
@[go_sem] theorem zye : z0w Tryz.prog 113 1 = some (1, 111) := by kernel_rfl
@[go_sem] theorem ty120 : z0f Tryz.prog 120 = false /\ z18 Tryz.prog 120 = true /\ z1m Tryz.prog 120 = none /\ z7g Tryz.prog 120 = none /\ z83 Tryz.prog 120 = none /\ z7a Tryz.prog 120 = false /\ z38 Tryz.prog 120 = false /\ z7x Tryz.prog 120 = none /\ z08 Tryz.prog 120 = 1 /\ z14 Tryz.prog 120 = 8 /\ z23 Tryz.prog 120 = some [D.nfun] /\ z0y Tryz.prog 120 = true := by refine ⟨?_, ?_, ?_, ?_, ?_, ?_, ?_, ?_, ?_, ?_, ?_, ?_⟩ <;> kernel_rfl
@[go_sem] theorem ty131 : z0f Tryz.prog 131 = false /\ z18 Tryz.prog 131 = true /\ z1m Tryz.prog 131 = none /\ z7g Tryz.prog 131 = none /\ z83 Tryz.prog 131 = none /\ z7a Tryz.prog 131 = false /\ z38 Tryz.prog 131 = false /\ z7x Tryz.prog 131 = none /\ z08 Tryz.prog 131 = 1 /\ z14 Tryz.prog 131 = 8 /\ z23 Tryz.prog 131 = some [D.nfun] /\ z0y Tryz.prog 131 = true := by refine ⟨?_, ?_, ?_, ?_, ?_, ?_, ?_, ?_, ?_, ?_, ?_, ?_⟩ <;> kernel_rfl
@[go_sem] theorem ty137 : z0f Tryz.prog 137 = false /\ z18 Tryz.prog 137 = true /\ z1m Tryz.prog 137 = none /\ z7g Tryz.prog 137 = none /\ z83 Tryz.prog 137 = none /\ z7a Tryz.prog 137 = false /\ z38 Tryz.prog 137 = false /\ z7x Tryz.prog 137 = none /\ z08 Tryz.prog 137 = 1 /\ z14 Tryz.prog 137 = 8 /\ z23 Tryz.prog 137 = some [D.nfun] /\ z0y Tryz.prog 137 = true := by refine ⟨?_, ?_, ?_, ?_, ?_, ?_, ?_, ?_, ?_, ?_, ?_, ?_⟩ <;> kernel_rfl
@[go_sem] theorem ptrT152 : ptrT Tryz.prog 152 = true := by kernel_rfl
theorem z2l {P : Program} {d : Nat} {t : TypeId} {fs : Array Field} {xs ys : List D} (hu : P.underlying t = some (.struct fs)) (hs : P.stoodInHeld t = false) : eqD P (d + 1) t (.agg xs) (.agg ys) = z1h (eqD P d) P xs ys fs.toList := by
 simp only [eqD, hu, hs, if_true]
theorem z6t {P : Program} {d : Nat} {t : TypeId} {k : IntKind} {a b : Int} (hu : P.underlying t = some (.int k)) : eqD P (d + 1) t (.int k a) (.int k b) = some (decide (a = b)) := by
 simp only [eqD, hu, if_true, Option.some.injEq]; by_cases h : a = b <;> simp [h]
theorem zbh {P : Program} {d : Nat} {t : TypeId} {a b : ByteArray} (hu : P.underlying t = some .string) : eqD P (d + 1) t (.str a) (.str b) = some (decide (a = b)) := by
 simp only [eqD, hu]
theorem zum : Tryz.prog.eqGuardType Tryz.prog.depth 22 = false := by kernel_rfl
theorem eqT22 (d : Nat) (a0 b0 : Int) (a1 b1 : Int) (a2 b2 : Int) : eqD Tryz.prog (d + 2) 22 (.agg [.int .i64 a0, .int .i64 a1, .int .i64 a2]) (.agg [.int .i64 b0, .int .i64 b1, .int .i64 b2]) = some (decide (a0 = b0) && decide (a1 = b1) && decide (a2 = b2)) := by
 rw [z2l Tryz.underlying22 (by kernel_rfl)]
 simp only [z1h, z4r, List.getElem?_cons_zero, List.getElem?_cons_succ, List.drop_succ_cons, List.drop_zero, List.take_succ_cons, List.take_zero, List.length_cons, List.length_nil, Nat.reduceAdd, Nat.reduceLeDiff, if_true, if_false, Bool.false_eq_true, ne_eq, String.reduceEq, not_false_eq_true, decide_eq_true_eq, z6r, z6s, z9o, z6t Tryz.underlying3]
 (repeat' split) <;> simp_all
@[go_sem] theorem eqU22 (a0 b0 : Int) (a1 b1 : Int) (a2 b2 : Int) : eqD Tryz.prog 8 22 (.agg [.int .i64 a0, .int .i64 a1, .int .i64 a2]) (.agg [.int .i64 b0, .int .i64 b1, .int .i64 b2]) = some (decide (a0 = b0) && decide (a1 = b1) && decide (a2 = b2)) := eqT22 6 a0 b0 a1 b1 a2 b2
attribute [go_sem] zum
theorem zun : Tryz.prog.eqGuardType Tryz.prog.depth 23 = false := by kernel_rfl
theorem zyf (d : Nat) (a0 b0 : Int) (a1 b1 : Int) (a2 b2 : Int) : eqD Tryz.prog (d + 2) 23 (.agg [.int .i64 a0, .int .i64 a1, .int .i64 a2]) (.agg [.int .i64 b0, .int .i64 b1, .int .i64 b2]) = some (decide (a0 = b0) && decide (a1 = b1) && decide (a2 = b2)) := by
 rw [z2l Tryz.underlying23 (by kernel_rfl)]
 simp only [z1h, z4r, List.getElem?_cons_zero, List.getElem?_cons_succ, List.drop_succ_cons, List.drop_zero, List.take_succ_cons, List.take_zero, List.length_cons, List.length_nil, Nat.reduceAdd, Nat.reduceLeDiff, if_true, if_false, Bool.false_eq_true, ne_eq, String.reduceEq, not_false_eq_true, decide_eq_true_eq, z6r, z6s, z9o, z6t Tryz.underlying3]
 (repeat' split) <;> simp_all
@[go_sem] theorem eqU23 (a0 b0 : Int) (a1 b1 : Int) (a2 b2 : Int) : eqD Tryz.prog 8 23 (.agg [.int .i64 a0, .int .i64 a1, .int .i64 a2]) (.agg [.int .i64 b0, .int .i64 b1, .int .i64 b2]) = some (decide (a0 = b0) && decide (a1 = b1) && decide (a2 = b2)) := zyf 6 a0 b0 a1 b1 a2 b2
attribute [go_sem] zun
theorem zuo : Tryz.prog.eqGuardType Tryz.prog.depth 30 = false := by kernel_rfl
theorem eqT30 (d : Nat) (a0 b0 : Int) (a1 b1 : Int) (a2 b2 : ByteArray) : eqD Tryz.prog (d + 2) 30 (.agg [.int .i64 a0, .int .i64 a1, .str a2]) (.agg [.int .i64 b0, .int .i64 b1, .str b2]) = some (decide (a0 = b0) && decide (a1 = b1) && decide (a2 = b2)) := by
 rw [z2l Tryz.underlying30 (by kernel_rfl)]
 simp only [z1h, z4r, List.getElem?_cons_zero, List.getElem?_cons_succ, List.drop_succ_cons, List.drop_zero, List.take_succ_cons, List.take_zero, List.length_cons, List.length_nil, Nat.reduceAdd, Nat.reduceLeDiff, if_true, if_false, Bool.false_eq_true, ne_eq, String.reduceEq, not_false_eq_true, decide_eq_true_eq, z6r, z6s, z9o, z6t Tryz.underlying3, z7b, zbg, z84, zbh Tryz.underlying9]
 (repeat' split) <;> simp_all
@[go_sem] theorem eqU30 (a0 b0 : Int) (a1 b1 : Int) (a2 b2 : ByteArray) : eqD Tryz.prog 8 30 (.agg [.int .i64 a0, .int .i64 a1, .str a2]) (.agg [.int .i64 b0, .int .i64 b1, .str b2]) = some (decide (a0 = b0) && decide (a1 = b1) && decide (a2 = b2)) := eqT30 6 a0 b0 a1 b1 a2 b2
attribute [go_sem] zuo
theorem zup : Tryz.prog.eqGuardType Tryz.prog.depth 31 = false := by kernel_rfl
theorem eqT31 (d : Nat) (a0 b0 : Int) (a1 b1 : Int) (a2 b2 : ByteArray) : eqD Tryz.prog (d + 2) 31 (.agg [.int .i64 a0, .int .i64 a1, .str a2]) (.agg [.int .i64 b0, .int .i64 b1, .str b2]) = some (decide (a0 = b0) && decide (a1 = b1) && decide (a2 = b2)) := by
 rw [z2l Tryz.underlying31 (by kernel_rfl)]
 simp only [z1h, z4r, List.getElem?_cons_zero, List.getElem?_cons_succ, List.drop_succ_cons, List.drop_zero, List.take_succ_cons, List.take_zero, List.length_cons, List.length_nil, Nat.reduceAdd, Nat.reduceLeDiff, if_true, if_false, Bool.false_eq_true, ne_eq, String.reduceEq, not_false_eq_true, decide_eq_true_eq, z6r, z6s, z9o, z6t Tryz.underlying3, z7b, zbg, z84, zbh Tryz.underlying9]
 (repeat' split) <;> simp_all
@[go_sem] theorem eqU31 (a0 b0 : Int) (a1 b1 : Int) (a2 b2 : ByteArray) : eqD Tryz.prog 8 31 (.agg [.int .i64 a0, .int .i64 a1, .str a2]) (.agg [.int .i64 b0, .int .i64 b1, .str b2]) = some (decide (a0 = b0) && decide (a1 = b1) && decide (a2 = b2)) := eqT31 6 a0 b0 a1 b1 a2 b2
attribute [go_sem] zup
theorem zuq : Tryz.prog.eqGuardType Tryz.prog.depth 58 = false := by kernel_rfl
theorem eqT58 (d : Nat) (a0 b0 : Int) (a1 b1 : ByteArray) : eqD Tryz.prog (d + 2) 58 (.agg [.int .i64 a0, .str a1]) (.agg [.int .i64 b0, .str b1]) = some (decide (a0 = b0) && decide (a1 = b1)) := by
 rw [z2l Tryz.underlying58 (by kernel_rfl)]
 simp only [z1h, z4r, List.getElem?_cons_zero, List.getElem?_cons_succ, List.drop_succ_cons, List.drop_zero, List.take_succ_cons, List.take_zero, List.length_cons, List.length_nil, Nat.reduceAdd, Nat.reduceLeDiff, if_true, if_false, Bool.false_eq_true, ne_eq, String.reduceEq, not_false_eq_true, decide_eq_true_eq, z6r, z6s, z9o, z6t Tryz.underlying3, z7b, zbg, z84, zbh Tryz.underlying9]
 (repeat' split) <;> simp_all
@[go_sem] theorem eqU58 (a0 b0 : Int) (a1 b1 : ByteArray) : eqD Tryz.prog 8 58 (.agg [.int .i64 a0, .str a1]) (.agg [.int .i64 b0, .str b1]) = some (decide (a0 = b0) && decide (a1 = b1)) := eqT58 6 a0 b0 a1 b1
attribute [go_sem] zuq
theorem zur : Tryz.prog.eqGuardType Tryz.prog.depth 59 = false := by kernel_rfl
theorem eqT59 (d : Nat) (a0 b0 : Int) (a1 b1 : ByteArray) : eqD Tryz.prog (d + 2) 59 (.agg [.int .i64 a0, .str a1]) (.agg [.int .i64 b0, .str b1]) = some (decide (a0 = b0) && decide (a1 = b1)) := by
 rw [z2l Tryz.underlying59 (by kernel_rfl)]
 simp only [z1h, z4r, List.getElem?_cons_zero, List.getElem?_cons_succ, List.drop_succ_cons, List.drop_zero, List.take_succ_cons, List.take_zero, List.length_cons, List.length_nil, Nat.reduceAdd, Nat.reduceLeDiff, if_true, if_false, Bool.false_eq_true, ne_eq, String.reduceEq, not_false_eq_true, decide_eq_true_eq, z6r, z6s, z9o, z6t Tryz.underlying3, z7b, zbg, z84, zbh Tryz.underlying9]
 (repeat' split) <;> simp_all
@[go_sem] theorem eqU59 (a0 b0 : Int) (a1 b1 : ByteArray) : eqD Tryz.prog 8 59 (.agg [.int .i64 a0, .str a1]) (.agg [.int .i64 b0, .str b1]) = some (decide (a0 = b0) && decide (a1 = b1)) := eqT59 6 a0 b0 a1 b1
attribute [go_sem] zur
theorem zus : Tryz.prog.eqGuardType Tryz.prog.depth 72 = false := by kernel_rfl
theorem eqT72 (d : Nat) (a0 b0 : Int) (a1 b1 : Int) (a2 b2 : Int) (a3 b3 : Int) : eqD Tryz.prog (d + 3) 72 (.agg [.int .i64 a0, .int .i64 a1, .int .i64 a2, .int .i64 a3]) (.agg [.int .i64 b0, .int .i64 b1, .int .i64 b2, .int .i64 b3]) = some ((decide (a0 = b0) && decide (a1 = b1) && decide (a2 = b2)) && decide (a3 = b3)) := by
 rw [z2l Tryz.underlying72 (by kernel_rfl)]
 simp only [z1h, z4r, List.getElem?_cons_zero, List.getElem?_cons_succ, List.drop_succ_cons, List.drop_zero, List.take_succ_cons, List.take_zero, List.length_cons, List.length_nil, Nat.reduceAdd, Nat.reduceLeDiff, if_true, if_false, Bool.false_eq_true, ne_eq, String.reduceEq, not_false_eq_true, decide_eq_true_eq, z6r, z6s, z9o, z6t Tryz.underlying3, z6e, zm5, z9z, zyf]
 (repeat' split) <;> simp_all
@[go_sem] theorem eqU72 (a0 b0 : Int) (a1 b1 : Int) (a2 b2 : Int) (a3 b3 : Int) : eqD Tryz.prog 8 72 (.agg [.int .i64 a0, .int .i64 a1, .int .i64 a2, .int .i64 a3]) (.agg [.int .i64 b0, .int .i64 b1, .int .i64 b2, .int .i64 b3]) = some ((decide (a0 = b0) && decide (a1 = b1) && decide (a2 = b2)) && decide (a3 = b3)) := eqT72 5 a0 b0 a1 b1 a2 b2 a3 b3
attribute [go_sem] zus
theorem zut : Tryz.prog.eqGuardType Tryz.prog.depth 73 = false := by kernel_rfl
theorem eqT73 (d : Nat) (a0 b0 : Int) (a1 b1 : Int) (a2 b2 : Int) (a3 b3 : Int) : eqD Tryz.prog (d + 3) 73 (.agg [.int .i64 a0, .int .i64 a1, .int .i64 a2, .int .i64 a3]) (.agg [.int .i64 b0, .int .i64 b1, .int .i64 b2, .int .i64 b3]) = some ((decide (a0 = b0) && decide (a1 = b1) && decide (a2 = b2)) && decide (a3 = b3)) := by
 rw [z2l Tryz.underlying73 (by kernel_rfl)]
 simp only [z1h, z4r, List.getElem?_cons_zero, List.getElem?_cons_succ, List.drop_succ_cons, List.drop_zero, List.take_succ_cons, List.take_zero, List.length_cons, List.length_nil, Nat.reduceAdd, Nat.reduceLeDiff, if_true, if_false, Bool.false_eq_true, ne_eq, String.reduceEq, not_false_eq_true, decide_eq_true_eq, z6r, z6s, z9o, z6t Tryz.underlying3, z6e, zm5, z9z, zyf]
 (repeat' split) <;> simp_all
@[go_sem] theorem eqU73 (a0 b0 : Int) (a1 b1 : Int) (a2 b2 : Int) (a3 b3 : Int) : eqD Tryz.prog 8 73 (.agg [.int .i64 a0, .int .i64 a1, .int .i64 a2, .int .i64 a3]) (.agg [.int .i64 b0, .int .i64 b1, .int .i64 b2, .int .i64 b3]) = some ((decide (a0 = b0) && decide (a1 = b1) && decide (a2 = b2)) && decide (a3 = b3)) := eqT73 5 a0 b0 a1 b1 a2 b2 a3 b3
attribute [go_sem] zut
theorem zpu : Tryz.prog.eqGuardType Tryz.prog.depth 110 = false := by kernel_rfl
theorem eqT110 (d : Nat) (a0 b0 : Int) (a1 b1 : Int) (a2 b2 : Int) : eqD Tryz.prog (d + 2) 110 (.agg [.int .i64 a0, .int .i64 a1, .int .i64 a2]) (.agg [.int .i64 b0, .int .i64 b1, .int .i64 b2]) = some (decide (a0 = b0) && decide (a1 = b1) && decide (a2 = b2)) := by
 rw [z2l Tryz.underlying110 (by kernel_rfl)]
 simp only [z1h, z4r, List.getElem?_cons_zero, List.getElem?_cons_succ, List.drop_succ_cons, List.drop_zero, List.take_succ_cons, List.take_zero, List.length_cons, List.length_nil, Nat.reduceAdd, Nat.reduceLeDiff, if_true, if_false, Bool.false_eq_true, ne_eq, String.reduceEq, not_false_eq_true, decide_eq_true_eq, z6r, z6s, z9o, z6t Tryz.underlying3]
 (repeat' split) <;> simp_all
@[go_sem] theorem eqU110 (a0 b0 : Int) (a1 b1 : Int) (a2 b2 : Int) : eqD Tryz.prog 8 110 (.agg [.int .i64 a0, .int .i64 a1, .int .i64 a2]) (.agg [.int .i64 b0, .int .i64 b1, .int .i64 b2]) = some (decide (a0 = b0) && decide (a1 = b1) && decide (a2 = b2)) := eqT110 6 a0 b0 a1 b1 a2 b2
attribute [go_sem] zpu
theorem zpv : Tryz.prog.eqGuardType Tryz.prog.depth 111 = false := by kernel_rfl
theorem zpw (d : Nat) (a0 b0 : Int) (a1 b1 : Int) (a2 b2 : Int) : eqD Tryz.prog (d + 2) 111 (.agg [.int .i64 a0, .int .i64 a1, .int .i64 a2]) (.agg [.int .i64 b0, .int .i64 b1, .int .i64 b2]) = some (decide (a0 = b0) && decide (a1 = b1) && decide (a2 = b2)) := by
 rw [z2l Tryz.underlying111 (by kernel_rfl)]
 simp only [z1h, z4r, List.getElem?_cons_zero, List.getElem?_cons_succ, List.drop_succ_cons, List.drop_zero, List.take_succ_cons, List.take_zero, List.length_cons, List.length_nil, Nat.reduceAdd, Nat.reduceLeDiff, if_true, if_false, Bool.false_eq_true, ne_eq, String.reduceEq, not_false_eq_true, decide_eq_true_eq, z6r, z6s, z9o, z6t Tryz.underlying3]
 (repeat' split) <;> simp_all
@[go_sem] theorem eqU111 (a0 b0 : Int) (a1 b1 : Int) (a2 b2 : Int) : eqD Tryz.prog 8 111 (.agg [.int .i64 a0, .int .i64 a1, .int .i64 a2]) (.agg [.int .i64 b0, .int .i64 b1, .int .i64 b2]) = some (decide (a0 = b0) && decide (a1 = b1) && decide (a2 = b2)) := zpw 6 a0 b0 a1 b1 a2 b2
attribute [go_sem] zpv
theorem zpx : Tryz.prog.eqGuardType Tryz.prog.depth 112 = false := by kernel_rfl
theorem eqT112 (d : Nat) (a0 b0 : ByteArray) (a1 b1 : Int) (a2 b2 : Int) (a3 b3 : Int) : eqD Tryz.prog (d + 3) 112 (.agg [.str a0, .int .i64 a1, .int .i64 a2, .int .i64 a3]) (.agg [.str b0, .int .i64 b1, .int .i64 b2, .int .i64 b3]) = some (decide (a0 = b0) && (decide (a1 = b1) && decide (a2 = b2) && decide (a3 = b3))) := by
 rw [z2l Tryz.underlying112 (by kernel_rfl)]
 simp only [z1h, z4r, List.getElem?_cons_zero, List.getElem?_cons_succ, List.drop_succ_cons, List.drop_zero, List.take_succ_cons, List.take_zero, List.length_cons, List.length_nil, Nat.reduceAdd, Nat.reduceLeDiff, if_true, if_false, Bool.false_eq_true, ne_eq, String.reduceEq, not_false_eq_true, decide_eq_true_eq, z7b, zbg, z84, zbh Tryz.underlying9, zi6, zi7, zm6, zpw]
 (repeat' split) <;> simp_all
@[go_sem] theorem eqU112 (a0 b0 : ByteArray) (a1 b1 : Int) (a2 b2 : Int) (a3 b3 : Int) : eqD Tryz.prog 8 112 (.agg [.str a0, .int .i64 a1, .int .i64 a2, .int .i64 a3]) (.agg [.str b0, .int .i64 b1, .int .i64 b2, .int .i64 b3]) = some (decide (a0 = b0) && (decide (a1 = b1) && decide (a2 = b2) && decide (a3 = b3))) := eqT112 5 a0 b0 a1 b1 a2 b2 a3 b3
attribute [go_sem] zpx
theorem zpy : Tryz.prog.eqGuardType Tryz.prog.depth 113 = false := by kernel_rfl
theorem eqT113 (d : Nat) (a0 b0 : ByteArray) (a1 b1 : Int) (a2 b2 : Int) (a3 b3 : Int) : eqD Tryz.prog (d + 3) 113 (.agg [.str a0, .int .i64 a1, .int .i64 a2, .int .i64 a3]) (.agg [.str b0, .int .i64 b1, .int .i64 b2, .int .i64 b3]) = some (decide (a0 = b0) && (decide (a1 = b1) && decide (a2 = b2) && decide (a3 = b3))) := by
 rw [z2l Tryz.underlying113 (by kernel_rfl)]
 simp only [z1h, z4r, List.getElem?_cons_zero, List.getElem?_cons_succ, List.drop_succ_cons, List.drop_zero, List.take_succ_cons, List.take_zero, List.length_cons, List.length_nil, Nat.reduceAdd, Nat.reduceLeDiff, if_true, if_false, Bool.false_eq_true, ne_eq, String.reduceEq, not_false_eq_true, decide_eq_true_eq, z7b, zbg, z84, zbh Tryz.underlying9, zi6, zi7, zm6, zpw]
 (repeat' split) <;> simp_all
@[go_sem] theorem eqU113 (a0 b0 : ByteArray) (a1 b1 : Int) (a2 b2 : Int) (a3 b3 : Int) : eqD Tryz.prog 8 113 (.agg [.str a0, .int .i64 a1, .int .i64 a2, .int .i64 a3]) (.agg [.str b0, .int .i64 b1, .int .i64 b2, .int .i64 b3]) = some (decide (a0 = b0) && (decide (a1 = b1) && decide (a2 = b2) && decide (a3 = b3))) := eqT113 5 a0 b0 a1 b1 a2 b2 a3 b3
attribute [go_sem] zpy
theorem z0j : Tryz.prog.follows .mixedOrders = true := by kernel_rfl

end Go.Proofs.YtppebcifiejplaaGreat.Facts
namespace Go.Proofs.YtppebcifiejplaaGreat.Abs
open Go.RowKit Go.ChangeShapes

def elD (ag : Bool) (p : List D) : D := if ag = true then .agg p else (p[0]?).getD .any
def elV (ag : Bool) (p : List Value) : Value := if ag = true then .agg p.toArray else (p[0]?).getD undef
def zhw (T : TypeId -> List D -> Prop) : List Field -> List D -> Prop
 | [], ds => ds = []
 | f :: fs, ds => ∃ d1 d2, ds = d1 ++ d2 /\ T f.type d1 /\ zhw T fs d2
def z43 (P : Program) : Nat -> TypeId -> List D -> Prop
 | 0, _, _ => False
 | n + 1, t, ds => match P.underlying t with
  | some .bool => ∃ b, ds = [.bool b]
  | some (.int k) => ∃ i, ds = [.int k i] /\ (Lit.int k i).wf = true
  | some .string => ∃ s : ByteArray, ds = [.str s] /\ s.size <= maxLen
  | some (.slice e) => ∃ parts : List (List D), parts.length <= maxLen /\ (∀ p ∈ parts, z43 P n e p) /\ ds = [.rsl false (z08 P e) (parts.map (elD (z0f P e)))]
  | some (.struct fs) => zhw (z43 P n) fs.toList ds
  | _ => False
def zk9 (P : Program) (n : Nat) : List Field -> Nat -> Bool
 | [], off => off == n
 | f :: fs, off => f.offset == off && zk9 P n fs (off + P.cellsOf f.type)
def zls (P : Program) (S : List TypeId) : Bool :=
 S.all fun t => match P.underlying t with
  | some .bool | some (.int _) | some .string => true
  | some (.slice e) => S.any fun u => u == e
  | some (.struct fs) => zk9 P (P.cellsOf t) fs.toList 0 && fs.toList.all fun f => S.any fun u => u == f.type
  | _ => false

section
variable {H : Type} {enc : TypeId × Value -> H} {P : Program} {W : World} {base : Nat} {spare : Nat -> Bool} {held : Bool}
theorem ztx {S : List TypeId} {e : TypeId} (h : (S.any fun u => u == e) = true) : e ∈ S := by
 obtain ⟨x, hx, he⟩ := List.any_eq_true.1 h
 rw [<- beq_iff_eq.1 he]; exact hx
theorem zbc {d : D} {v : Value} (h : rel (zbw W) d v) (h1 : v.oneCell' = true) : relAll (zbw W) [d] [v] /\ z6v [v] :=
 ⟨z0l h z0u, fun u hu => by simp at hu; subst hu; exact h1⟩
theorem zpf {S : List TypeId} (hS : zls P S = true) : ∀ (n : Nat) (t : TypeId) (cs : List Value) (x : DataW H × List MemPlace), t ∈ S -> DataW.trod enc P W base spare held n t cs = some x ->
  ∃ ds, relAll (zbw W) ds cs /\ z6v cs /\ z43 P n t ds /\ (z0f P t = false -> ∃ c d, cs = [c] /\ ds = [d]) := by
 intro n
 induction n with
 | zero => intro t cs x _ h; simp [DataW.trod] at h
 | succ n ih =>
  intro t cs x ht h
  have hc := List.all_eq_true.1 hS t ht
  cases hu : P.underlying t with
  | none => rw [hu] at hc; cases hc
  | some td =>
   rw [hu] at hc
   cases td <;> first | (cases hc; done) | skip
   case bool =>
    obtain ⟨b, rfl, _⟩ := DataW.trod_bool hu h
    obtain ⟨h1, h2⟩ := zbc (W := W) (d := .bool b) (v := .bool b) (by simp [rel]) rfl
    exact ⟨_, h1, h2, by simp only [z43, hu]; exact ⟨b, rfl⟩, fun _ => ⟨_, _, rfl, rfl⟩⟩
   case int k =>
    obtain ⟨i, rfl, _, hw⟩ := DataW.trod_int hu h
    obtain ⟨h1, h2⟩ := zbc (W := W) (d := .int k i) (v := .int k i) (by simp [rel]) rfl
    exact ⟨_, h1, h2, by simp only [z43, hu]; exact ⟨i, rfl, hw⟩, fun _ => ⟨_, _, rfl, rfl⟩⟩
   case string =>
    obtain ⟨s, rfl, _, hw⟩ := DataW.trod_string hu h
    obtain ⟨h1, h2⟩ := zbc (W := W) (d := .str s) (v := .string s) (by simp [rel]) rfl
    exact ⟨_, h1, h2, by simp only [z43, hu]; exact ⟨s, rfl, hw⟩, fun _ => ⟨_, _, rfl, rfl⟩⟩
   case slice e =>
    have he := ztx hc
    rcases DataW.trod_slice hu h with ⟨rfl, _⟩ | ⟨a, len, cap, elems, rest, m, hm, rfl, _, _, hl, hcm, hlen, hel, _⟩
    ·obtain ⟨h1, h2⟩ := zbc (W := W) (d := .rsl false (z08 P e) []) (v := .slice none 0 0) (by simp only [rel]; exact .inl ⟨trivial, trivial, trivial⟩) rfl
     exact ⟨_, h1, h2, by simp only [z43, hu]; exact ⟨[], by simp, by simp, rfl⟩, fun _ => ⟨_, _, rfl, rfl⟩⟩
    ·cases hm
     have each : ∀ i : _root_.Fin len, ∃ p : List Value × List D, W.cells? base (a.add (i * P.cellsOf e)) (P.cellsOf e) = some p.1 /\ relAll (zbw W) p.2 p.1 /\ z6v p.1 /\ z43 P n e p.2 /\ (z0f P e = false -> ∃ c d, p.1 = [c] /\ p.2 = [d]) := by
      intro i
      have hi := hel i i.2
      rw [List.getElem?_eq_getElem (by omega), Option.bind_eq_some_iff] at hi
      obtain ⟨cs', h1, h2⟩ := hi
      obtain ⟨ds, k1, k2, k3, k4⟩ := ih e cs' _ he h2
      exact ⟨(cs', ds), h1, k1, k2, k3, k4⟩
     obtain ⟨f, hf⟩ := Classical.axiomOfChoice each
     have hag : ∀ i, rel (zbw W) (elD (z0f P e) (f i).2) (elV (z0f P e) (f i).1) /\ (elV (z0f P e) (f i).1).cells.toList = (f i).1 := by
      intro i
      obtain ⟨h1, h2, h3, h4, h5⟩ := hf i
      cases hag : z0f P e with
      | true =>
       simp only [elD, elV, if_true, Value.cells]
       exact ⟨by simp only [rel]; exact ⟨_, rfl, h2, h3⟩, trivial⟩
      | false =>
       obtain ⟨c, d, hc1, hd1⟩ := h5 hag
       rw [hc1, hd1] at h2
       rw [hc1] at h3
       simp only [elD, elV, hc1, hd1, Bool.false_eq_true, if_false, List.getElem?_cons_zero, Option.getD_some]
       simp only [relAll] at h2
       obtain ⟨v, r, hv, hrel, hr⟩ := h2
       simp only [List.cons.injEq] at hv
       obtain ⟨rfl, rfl⟩ := hv
       refine ⟨hrel, ?_⟩
       rw [z2p (h3 c (by simp))]
     have hsz : z08 P e = P.cellsOf e := rfl
     obtain ⟨h1, h2⟩ := zbc (W := W) (d := .rsl false (z08 P e) ((List.ofFn fun i => (f i).2).map (elD (z0f P e)))) (v := .slice (some a) len cap) (by
      simp only [rel]
      refine .inr ⟨a, cap, List.ofFn fun i => elV (z0f P e) (f i).1, by simp, by simpa using hl, hcm, z55 (by simp) (fun i d v hd hv => ?_), fun i v hv => ?_⟩
      ·simp only [List.getElem?_map, List.getElem?_ofFn] at hd hv
       split at hv
       ·rename_i hi
        rw [dif_pos hi] at hd
        simp only [Option.map_some, Option.some.injEq] at hd hv
        subst hd; subst hv
        exact (hag ⟨i, hi⟩).1
       ·cases hv
      ·simp only [List.getElem?_ofFn] at hv
       split at hv
       ·rename_i hi
        simp only [Option.some.injEq] at hv
        subst hv
        obtain ⟨g1, _⟩ := hf ⟨i, hi⟩
        obtain ⟨_, g2, g3⟩ := World.cells?_some g1
        have g4 := (hag ⟨i, hi⟩).2
        refine ⟨by rw [<- Array.length_toList, g4, g2, hsz], fun j c hj => ?_⟩
        rw [g4] at hj
        have hjl : j < P.cellsOf e := by rw [<- g2]; exact (List.getElem?_eq_some_iff.1 hj).1
        have := g3 j hjl
        rw [hj] at this
        exact this
       ·cases hv) rfl
     refine ⟨_, h1, h2, ?_, fun _ => ⟨_, _, rfl, rfl⟩⟩
     simp only [z43, hu]
     refine ⟨List.ofFn fun i => (f i).2, by simp; omega, fun p hp => ?_, rfl⟩
     obtain ⟨i, rfl⟩ := List.mem_ofFn.1 hp
     exact (hf i).2.2.2.1
   case struct fs =>
    obtain ⟨xs, m, hm, _, hcl, hxl, hxf⟩ := DataW.trod_struct hu h
    cases hm
    simp only [Bool.and_eq_true] at hc
    obtain ⟨htile, hfs⟩ := hc
    have key : ∀ (l : List Field) (off k : Nat), (∀ i, l[i]? = fs[k + i]?) -> zk9 P (P.cellsOf t) l off = true -> ∃ ds, relAll (zbw W) ds (cs.drop off) /\ z6v (cs.drop off) /\ zhw (z43 P n) l ds := by
     intro l
     induction l with
     | nil =>
      intro off k _ ht'
      simp only [zk9, beq_iff_eq] at ht'
      subst ht'
      rw [<- hcl, List.drop_length]
      exact ⟨[], z0u, fun v hv => by simp at hv, rfl⟩
     | cons g l ihl =>
      intro off k hl ht'
      simp only [zk9, Bool.and_eq_true, beq_iff_eq] at ht'
      obtain ⟨rfl, ht'⟩ := ht'
      have hg : fs[k]? = some g := by have := hl 0; simpa using this.symm
      have hlt : k < fs.size := (Array.getElem?_eq_some_iff.1 hg).1
      have hx := hxf k g hg
      rw [List.getElem?_eq_getElem (by omega)] at hx
      have hmem : g ∈ fs.toList := by
       obtain ⟨h1, h2⟩ := Array.getElem?_eq_some_iff.1 hg
       rw [<- h2]; exact Array.mem_toList_iff.2 (Array.getElem_mem h1)
      obtain ⟨d1, r1, r2, r3, _⟩ := ih g.type _ _ (ztx (List.all_eq_true.1 hfs g hmem)) hx
      obtain ⟨d2, q1, q2, q3⟩ := ihl (g.offset + P.cellsOf g.type) (k + 1) (fun i => by have := hl (i + 1); simpa [Nat.add_assoc, Nat.add_comm 1 i] using this) ht'
      have hsp : cs.drop g.offset = (cs.drop g.offset).take (P.cellsOf g.type) ++ cs.drop (g.offset + P.cellsOf g.type) := by
       rw [<- List.drop_drop, List.take_append_drop]
      rw [hsp]
      exact ⟨d1 ++ d2, z26 r1 q1, fun v hv => by
       rcases List.mem_append.1 hv with hv | hv
       ·exact r2 v hv
       ·exact q2 v hv, d1, d2, rfl, r3, q3⟩
    obtain ⟨ds, h1, h2, h3⟩ := key fs.toList 0 0 (fun i => by simp) htile
    rw [List.drop_zero] at h1 h2
    refine ⟨ds, h1, h2, by simp only [z43, hu]; exact h3, fun hag => ?_⟩
    simp only [z0f, hu] at hag
    cases hag
theorem zty {S : List TypeId} (hS : zls P S = true) {t : TypeId} {cs : Array Value} {d : DataW H} {p : List MemPlace} (ht : t ∈ S) (h : DataW.Trod enc P W base spare held t (.agg cs) d p) :
  ∃ n ds, z43 P n t ds /\ rel (zbw W) (.agg ds) (.agg cs) := by
 obtain ⟨n, h⟩ := h
 obtain ⟨ds, h1, h2, h3, _⟩ := zpf hS n t _ _ ht h
 refine ⟨n, ds, h3, ?_⟩
 simp only [rel]
 exact ⟨cs.toList, by simp, by simpa [Value.cells] using h1, by simpa [Value.cells] using h2⟩
end
section
variable {P : Program} {n : Nat} {t e : TypeId} {d : D} {ds : List D}
theorem wf_i64 {i : Int} (h : (Lit.int .i64 i).wf = true) : -9223372036854775808 <= i /\ i <= 9223372036854775807 := by
 simp only [Lit.wf, Bool.and_eq_true, decide_eq_true_eq] at h
 exact h
theorem z1t (hu : P.underlying t = some (.int .i64)) (h : z43 P n t ds) : ∃ i : Int, ds = [.int .i64 i] /\ -9223372036854775808 <= i /\ i <= 9223372036854775807 := by
 cases n with
 | zero => exact h.elim
 | succ n =>
  simp only [z43, hu] at h
  obtain ⟨i, h1, h2⟩ := h
  exact ⟨i, h1, wf_i64 h2⟩
theorem z5c (hu : P.underlying t = some .string) (h : z43 P n t ds) : ∃ s : ByteArray, ds = [.str s] /\ s.size <= maxLen := by
 cases n with
 | zero => exact h.elim
 | succ n => simpa only [z43, hu] using h
theorem z6d (hu : P.underlying t = some (.slice e)) (h : z43 P n t ds) : ∃ (m : Nat) (parts : List (List D)), n = m + 1 /\ parts.length <= maxLen /\ (∀ p ∈ parts, z43 P m e p) /\ ds = [.rsl false (z08 P e) (parts.map (elD (z0f P e)))] := by
 cases n with
 | zero => exact h.elim
 | succ n =>
  simp only [z43, hu] at h
  obtain ⟨parts, h1, h2, h3⟩ := h
  exact ⟨n, parts, rfl, h1, h2, h3⟩
theorem z2y {fs : Array Field} (hu : P.underlying t = some (.struct fs)) (h : z43 P n t ds) : ∃ m, n = m + 1 /\ zhw (z43 P m) fs.toList ds := by
 cases n with
 | zero => exact h.elim
 | succ n => exact ⟨n, rfl, by simpa only [z43, hu] using h⟩
theorem z3t {α : Type} {good : List D -> Prop} {f : α -> List D} {q : α -> Prop} (h : ∀ p, good p -> ∃ x, p = f x /\ q x) : ∀ (parts : List (List D)), (∀ p ∈ parts, good p) -> ∃ l : List α, parts = l.map f /\ (∀ x ∈ l, q x)
 | [], _ => ⟨[], rfl, by simp⟩
 | p :: parts, hp => by
  obtain ⟨x, hx, hq⟩ := h p (hp p (by simp))
  obtain ⟨l, hl, hq'⟩ := z3t h parts (fun p' hp' => hp p' (by simp [hp']))
  exact ⟨x :: l, by simp [hx, hl], by simp; exact ⟨hq, hq'⟩⟩
theorem zgv (hu : P.underlying t = some (.slice e)) (he : P.underlying e = some .string) (hs : z08 P e = 1) (h : z43 P n t ds) : ∃ l : List ByteArray, ds = [z3i l] /\ l.length <= maxLen /\ ∀ s ∈ l, s.size <= maxLen := by
 obtain ⟨m, parts, rfl, hl, hp, rfl⟩ := z6d hu h
 obtain ⟨l, rfl, hq⟩ := z3t (f := fun s => [D.str s]) (q := fun s : ByteArray => s.size <= maxLen) (fun p hp => z5c he hp) parts hp
 have hag : z0f P e = false := by simp [z0f, he]
 refine ⟨l, ?_, by simpa using hl, hq⟩
 simp only [z3i, hag, hs, List.map_map]
 rfl
end
end Go.Proofs.YtppebcifiejplaaGreat.Abs
namespace Go.Proofs.YtppebcifiejplaaGreat
section
open Abs
namespace Tr
structure Idv where
 act : Int
 item : Int
 n : Int
instance : DecidableEq Idv := fun a b => decidable_of_iff (a.act = b.act /\ a.item = b.item /\ a.n = b.n) ⟨fun ⟨h1, h2, h3⟩ => by cases a; cases b; simp_all, fun h => by subst h; exact ⟨rfl, rfl, rfl⟩⟩
def Idv.zero : Idv := ⟨0, 0, 0⟩
structure Wd where
 text : ByteArray
 by_ : Idv
instance : DecidableEq Wd := fun a b => decidable_of_iff (a.text = b.text /\ a.by_ = b.by_) ⟨fun ⟨h1, h2⟩ => by cases a; cases b; simp_all, fun h => by subst h; exact ⟨rfl, rfl⟩⟩
inductive T where
 | mk (id : Idv) (kind : Int) (label : ByteArray) (head words : List Wd) (kids : List T)
def T.id : T -> Idv | .mk i _ _ _ _ _ => i
def T.kind : T -> Int | .mk _ k _ _ _ _ => k
def T.label : T -> ByteArray | .mk _ _ l _ _ _ => l
def T.head : T -> List Wd | .mk _ _ _ h _ _ => h
def T.words : T -> List Wd | .mk _ _ _ _ w _ => w
def T.kids : T -> List T | .mk _ _ _ _ _ k => k
theorem T.eta (t : T) : T.mk t.id t.kind t.label t.head t.words t.kids = t := by cases t; rfl
mutual
theorem z3u {p : T -> Prop} (h : ∀ t, (∀ k ∈ t.kids, p k) -> p t) : ∀ t, p t
 | .mk i k l a b ks => h (.mk i k l a b ks) (ind2 h ks)
theorem ind2 {p : T -> Prop} (h : ∀ t, (∀ k ∈ t.kids, p k) -> p t) : ∀ (ks : List T), ∀ k ∈ ks, p k
 | [], k, hk => by cases hk
 | t :: ts, k, hk => by
  rcases List.mem_cons.1 hk with e | hk
  ·rw [e]; exact z3u h t
  ·exact ind2 h ts k hk
end
mutual
def zca {β : Type} (f : T -> List β -> β) : T -> β
 | .mk i k l a b ks => f (.mk i k l a b ks) (recL f ks)
def recL {β : Type} (f : T -> List β -> β) : List T -> List β
 | [] => []
 | t :: ts => zca f t :: recL f ts
end
theorem zpz {β : Type} (f : T -> List β -> β) : ∀ ks, recL f ks = ks.map (zca f)
 | [] => rfl
 | t :: ts => by simp [recL, zpz f ts]
theorem z2r {β : Type} (f : T -> List β -> β) (t : T) : zca f t = f t (t.kids.map (zca f)) := by
 cases t with
 | mk i k l a b ks => rw [zca, zpz]; rfl
end Tr
namespace Abs
open Tr
def z04 (i : Idv) : List D := [.int .i64 i.act, .int .i64 i.item, .int .i64 i.n]
def z3h (i : Idv) : D := .agg (z04 i)
def z2i (l : List Idv) : D := .rsl false 3 (l.map z3h)
def z5z (w : Wd) : List D := [.str w.text, .int .i64 w.by_.act, .int .i64 w.by_.item, .int .i64 w.by_.n]
def znl (w : Wd) : D := .agg (z5z w)
def z0q (l : List Wd) : D := .rsl false 4 (l.map znl)
def zq0 (t : T) (ks : List (List D)) : List D := [.int .i64 t.id.act, .int .i64 t.id.item, .int .i64 t.id.n, .int .i64 t.kind, .str t.label, z0q t.head, z0q t.words, .rsl false 8 (ks.map .agg)]
def z06 (t : T) : List D := zca zq0 t
def z17 (t : T) : D := .agg (z06 t)
def z0e (l : List T) : D := .rsl false 8 (l.map z17)
theorem z10 (t : T) : z06 t = [.int .i64 t.id.act, .int .i64 t.id.item, .int .i64 t.id.n, .int .i64 t.kind, .str t.label, z0q t.head, z0q t.words, z0e t.kids] := by
 unfold z06
 rw [z2r, zq0, List.map_map]; rfl
@[go_sem] theorem z0m (t : T) : (z06 t).length = 8 := by rw [z10]; rfl
@[go_sem] theorem zyg (t : T) : (z06 t)[3]? = some (.int .i64 t.kind) := by rw [z10]; rfl
@[go_sem] theorem zx8 (t : T) : (z06 t)[4]? = some (.str t.label) := by rw [z10]; rfl
@[go_sem] theorem zyh (t : T) : (z06 t)[5]? = some (z0q t.head) := by rw [z10]; rfl
@[go_sem] theorem zx9 (t : T) : (z06 t)[6]? = some (z0q t.words) := by rw [z10]; rfl
@[go_sem] theorem zyi (t : T) : (z06 t)[7]? = some (z0e t.kids) := by rw [z10]; rfl
@[go_sem] theorem cellsU_id (t : T) : List.take 3 (z06 t) = [.int .i64 t.id.act, .int .i64 t.id.item, .int .i64 t.id.n] := by rw [z10]; rfl
@[go_sem] theorem zyj (t : T) : List.take 8 (z06 t) = z06 t := List.take_of_length_le (by rw [z0m]; exact Nat.le_refl _)
@[go_sem] theorem zuu (a b c d e f g h : D) (t : T) : z11 [a, b, c, d, e, f, g, h] 0 (z06 t) = z06 t := by
 rw [z10]; rfl
@[go_sem] theorem encU_agg (t : T) : z17 t = .agg (z06 t) := rfl
@[go_sem] theorem encWd_agg (w : Wd) : znl w = .agg [.str w.text, .int .i64 w.by_.act, .int .i64 w.by_.item, .int .i64 w.by_.n] := rfl
@[go_sem] theorem encId_agg (i : Idv) : z3h i = .agg [.int .i64 i.act, .int .i64 i.item, .int .i64 i.n] := rfl
theorem z0x (l : List Wd) : pureD (z0q l) = true := by simp only [z0q, pureD]; exact z1r (fun _ => rfl) l
theorem z4q (l : List Idv) : pureD (z2i l) = true := by simp only [z2i, pureD]; exact z1r (fun _ => rfl) l
theorem zm7 {f : T -> D} : ∀ {l : List T}, (∀ t ∈ l, pureD (f t) = true) -> pureD.pureL (l.map f) = true
 | [], _ => rfl
 | t :: l, h => by
  simp only [List.map_cons, pureD.pureL, Bool.and_eq_true]
  exact ⟨h t (by simp), zm7 fun k hk => h k (List.mem_cons_of_mem _ hk)⟩
theorem z05 : ∀ t, pureD (z17 t) = true := by
 refine z3u fun t ih => ?_
 rw [z17, z10]
 have hk : pureD (z0e t.kids) = true := by simp only [z0e, pureD]; exact zm7 ih
 simp only [pureD, pureD.pureL, Bool.true_and, Bool.and_true, z0x, hk]
theorem z0d (t : T) : pureD.pureL (z06 t) = true := by have := z05 t; simpa only [z17, pureD] using this
theorem z1e (l : List T) : pureD (z0e l) = true := by simp only [z0e, pureD]; exact z1r z05 l
@[go_sem] theorem znm (l : List T) : pureD.pureL (l.map z17) = true := z1r z05 l
@[go_sem] theorem zyk (l : List Wd) : pureD.pureL (l.map znl) = true := z1r (fun _ => rfl) l
@[go_sem] theorem zyl (l : List Idv) : pureD.pureL (l.map z3h) = true := z1r (fun _ => rfl) l
attribute [go_sem] z0d
@[go_sem] theorem idEq (i j : Idv) : (decide (i.act = j.act) && (decide (i.item = j.item) && decide (i.n = j.n))) = decide (i = j) := by
 obtain ⟨a, b, c⟩ := i; obtain ⟨a', b', c'⟩ := j
 rw [Bool.eq_iff_iff]; simp [Idv.mk.injEq]
@[go_sem] theorem idEq' (i j : Idv) : (decide (i.act = j.act) && decide (i.item = j.item) && decide (i.n = j.n)) = decide (i = j) := by rw [Bool.and_assoc, idEq]
@[go_sem] theorem idZ (i : Idv) : (decide (i.act = 0) && (decide (i.item = 0) && decide (i.n = 0))) = decide (i = Idv.zero) := idEq i Idv.zero
@[go_sem] theorem idZ' (i : Idv) : (decide (i.act = 0) && decide (i.item = 0) && decide (i.n = 0)) = decide (i = Idv.zero) := idEq' i Idv.zero
@[go_sem] theorem wdEq (u v : Wd) : (decide (u.text = v.text) && decide (u.by_ = v.by_)) = decide (u = v) := by
 obtain ⟨a, b⟩ := u; obtain ⟨a', b'⟩ := v
 rw [Bool.eq_iff_iff]; simp [Wd.mk.injEq]
end Abs
end
section
open Abs Facts Tr
attribute [local irreducible] awp
namespace Tr
def z89 (l : List Wd) : Bool := l.all (fun w => decide (w.text.size <= 100)) && decide (l.length <= 300)
def zdq (t : T) : Bool := zca (fun t l => decide (t.label.size <= 30) && (z89 t.head && (z89 t.words && l.all id))) t
theorem zik (t : T) : zdq t = (decide (t.label.size <= 30) && (z89 t.head && (z89 t.words && t.kids.all zdq))) := by
 unfold zdq
 rw [z2r, List.all_map]; rfl
theorem z3y {α : Type} {f : α -> Bool} {l : List α} {k : Nat} (hk : k < l.length) (h : f l[k] = false) : l.all f = false := List.all_eq_false.2 ⟨_, List.getElem_mem hk, by simp [h]⟩
theorem z2g {α : Type} {f : α -> Bool} {l : List α} {k : Nat} (hk : k < l.length) (h : (l.take k).all f = true) (h2 : f l[k] = true) : (l.take (k + 1)).all f = true := by
 rw [List.take_succ_eq_append_getElem hk, List.all_append, h, List.all_cons, h2]; rfl
theorem z2o {α : Type} {f : α -> Bool} {l : List α} {k : Nat} (hk : ¬ k < l.length) (h : (l.take k).all f = true) : l.all f = true := by rwa [List.take_of_length_le (by omega)] at h
end Tr
theorem zmi (l : List Wd) (hl : l.length <= maxLen) : PC Tryz.prog 73 [z0q l] (.bool (z89 l)) := by
 unfold maxLen at hl
 refine z1y 1 (by simp only [pureD.pureL, z0x, Bool.and_self]) rfl (z1w [] Tryz.func73 rfl (by decide +kernel) z0j (by decide +kernel) (by simp [Tryz.ntmps73]) ?_)
 show awp _ _ (Code.seq _ _) _ _
 repeat' (first | refine zqj ?_ | ((refine zqh fun K J => ?_); (simp (disch := omega) only [go_sem, z0q])) | refine zqa ?_ | (refine J _ ?_; clear J K))
 (refine z37 (fun U st => ∃ (k : _), U = l.length - k /\ st.t 0 = z0q l /\ st.t 3 = .int .i64 k /\ (k <= l.length) /\ ((l.take k).all (fun w => decide (w.text.size <= 100)) = true)) ?_ ?_); rotate_left; (rintro U st ⟨k, rfl, s0, s3, sp0, sp1⟩); rotate_left
 ·(refine ⟨_, 0, rfl, ?_⟩); (simp (disch := omega) only [go_sem, Nat.reduceBEq, true_and, Int.natCast_zero, z0q])
  try simp
 repeat' (first | refine zqj ?_ | ((first | refine zqh fun K J => ?_ | refine zqr fun K J => ?_); (simp (disch := omega) only [go_sem, Nat.reduceBEq, ↓reduceIte, reduceCtorEq, Nat.reduceAdd, s0, s3, z0q])) | ((first | refine zqd _ rfl (fun hc => ?_) (fun hc => ?_) | refine zqm _ rfl (fun hc => ?_) (fun hc => ?_)) <;> (((try simp only [z03] at hc); (try (exfalso; omega))))) | refine zqa ?_ | refine zqb ?_ | refine zqc ?_ | refine zqk ?_ | refine zqn ?_ | refine zqv ?_ | refine zqx ?_ | refine zqy ?_ | refine zqz ?_ | refine z4a ?_ | refine zqp ?_ | refine zqo ?_ | refine zqu (by (simp (disch := omega) only [go_sem]); rfl) rfl ?_ | (refine J _ ?_; clear J K))
 ·have hk : k < l.length := by omega
  refine z00 ?_
  have : l.all (fun w => decide (w.text.size <= 100)) = false := z3y hk (decide_eq_false (by omega))
  simp only [z89, this]; rfl
 ·have hk : k < l.length := by omega
  (refine Exists.intro _ (And.intro ?_ ⟨k + 1, rfl, ?_⟩)); rotate_left; (simp (disch := omega) only [go_sem, Nat.reduceBEq, s0, s3, true_and, Int.natCast_add, Int.natCast_one]); rotate_left
  ·omega
  ·exact ⟨by omega, z2g hk sp1 (decide_eq_true (by omega))⟩
 ·have := z2o (by omega) sp1
  refine z00 ?_
  simp only [z89, this, Bool.true_and]
  congr 1; simp only [eq_iff_iff]; omega
namespace Tr
def fitB (t : T) : Bool := zca (fun t l => decide (t.head.length <= maxLen) && (decide (t.words.length <= maxLen) && (decide (t.kids.length <= maxLen) && l.all id))) t
theorem zbl (t : T) : fitB t = true ↔ t.head.length <= maxLen /\ t.words.length <= maxLen /\ t.kids.length <= maxLen /\ ∀ k ∈ t.kids, fitB k = true := by
 unfold fitB
 rw [z2r]
 simp only [List.all_map, Bool.and_eq_true, decide_eq_true_iff, List.all_eq_true]
 rfl
def z3d (deep most : Int) : List (Int -> Int -> Int) -> Int -> Int
 | [], n => n
 | f :: fs, n => if n <= most then z3d deep most fs (n + f (deep + 1) (most - n)) else n
def z3o (t : T) : Int -> Int -> Int := zca (fun _ l deep most => if 20 < deep then most + 1 else z3d deep most l 1) t
theorem zh9 (t : T) (deep most : Int) : z3o t deep most = if 20 < deep then most + 1 else z3d deep most (t.kids.map z3o) 1 := by
 unfold z3o; rw [z2r]
theorem zfz (deep most : Int) (f : Int -> Int -> Int) : ∀ (l : List (Int -> Int -> Int)) (n : Int), z3d deep most l n <= most -> z3d deep most (l ++ [f]) n = z3d deep most l n + f (deep + 1) (most - z3d deep most l n)
 | [], n, h => by simp only [z3d] at h; simp only [List.nil_append, z3d]; rw [if_pos h]
 | g :: l, n, h => by
  simp only [List.cons_append, z3d] at h ⊢
  split at h
  ·rename_i hn
   simp only [hn, if_true]
   exact zfz deep most f l _ h
  ·omega
theorem zg0 (deep most : Int) : ∀ (l r : List (Int -> Int -> Int)) (n : Int), most < z3d deep most l n -> z3d deep most (l ++ r) n = z3d deep most l n
 | [], r, n, h => by
  simp only [z3d] at h
  simp only [List.nil_append]
  cases r with
  | nil => rfl
  | cons f r => simp only [z3d]; rw [if_neg (by omega)]
 | g :: l, r, n, h => by
  simp only [List.cons_append, z3d] at h ⊢
  split
  ·rename_i hn
   simp only [hn, if_true] at h
   exact zg0 deep most l r _ h
  ·rfl
theorem z8a {deep most : Int} : ∀ (l : List T), (∀ k ∈ l, ∀ (deep most : Int), 0 <= most -> 1 <= z3o k deep most /\ z3o k deep most <= most + 1) -> ∀ n : Int, 1 <= n -> n <= most + 1 -> 1 <= z3d deep most (l.map z3o) n /\ z3d deep most (l.map z3o) n <= most + 1
 | [], _, n, h1, h2 => ⟨h1, h2⟩
 | k :: l, hk, n, h1, h2 => by
  simp only [List.map_cons, z3d]
  split
  ·have := hk k (by simp) (deep + 1) (most - n) (by omega)
   exact z8a l (fun q hq => hk q (List.mem_cons_of_mem _ hq)) _ (by omega) (by omega)
  ·exact ⟨h1, h2⟩
theorem z6h : ∀ (t : T) (deep most : Int), 0 <= most -> 1 <= z3o t deep most /\ z3o t deep most <= most + 1 := by
 refine z3u fun t ih deep most hm => ?_
 rw [zh9]
 split
 ·omega
 ·exact z8a t.kids ih 1 (by omega) (by omega)
end Tr
theorem zvh : ∀ t : T, fitB t = true -> PC Tryz.prog 46 [z17 t] (.bool (zdq t)) := by
 refine z3u fun t ih hfit => ?_
 obtain ⟨h1, h2, h3, h4⟩ := (zbl t).1 hfit
 have ih := fun k hk => ih k hk (h4 k hk)
 have hsh := zmi t.head h1
 have hsw := zmi t.words h2
 unfold maxLen at h1 h2 h3
 rw [zik]
 refine z1y 1 (by simp only [pureD.pureL, z05, Bool.and_self]) rfl (z1w [] Tryz.func46 rfl (by decide +kernel) z0j (by decide +kernel) (by simp [Tryz.ntmps46]) ?_)
 show awp _ _ (Code.seq _ _) _ _
 repeat' (first | refine zqj ?_ | ((first | refine zqh fun K J => ?_ | refine zqs (hsh) ?_ | refine zqs (hsw) ?_); (simp (disch := omega) only [go_sem, Nat.reduceBEq, ↓reduceIte, reduceCtorEq, Nat.reduceAdd])) | ((refine zqd _ rfl (fun hc => ?_) (fun hc => ?_)) <;> (first | (cases hc; done) | ((try simp only [z03] at hc); (try (exfalso; omega))))) | refine zqa ?_ | refine zqb ?_ | refine zqg ?_ | refine zqu (by (simp (disch := omega) only [go_sem]); rfl) rfl ?_ | (refine J _ ?_; clear J K) | (refine zqf (fun hb => ?_) (fun hb => ?_) <;> (have hb2 := hb; try simp only [z03] at hb2) <;> ((first | have F : (_ : Bool) = _ := hb2 | have F := eq_false hb2 | have F := eq_true hb2); (simp (disch := omega) only [go_sem, Nat.reduceBEq, ↓reduceIte, reduceCtorEq, Nat.reduceAdd, F]); clear hb F; (try (exfalso; omega)))))
 rotate_right
 all_goals first | exact z00 (by simp_all; try omega) | skip
 have hlab : decide (t.label.size <= 30) = true := decide_eq_true (by omega)
 rw [hlab, ‹z89 t.head = true›, ‹z89 t.words = true›, Bool.true_and, Bool.true_and, Bool.true_and]
 (refine z37 (fun U st => ∃ (i : _), U = t.kids.length - i /\ st.t 1 = .ptr 0 0 /\ st.t 3 = .int .i64 i /\ st.H 0 = some (.box 27 (z06 t)) /\ (i <= t.kids.length) /\ ((t.kids.take i).all zdq = true) /\ (1 <= st.nx)) ?_ ?_); rotate_left; (rintro U st ⟨i, rfl, s1, s3, sH0, sp0, sp1, sp2⟩); rotate_left
 ·(refine ⟨_, 0, rfl, ?_⟩); (simp (disch := omega) only [go_sem, Nat.reduceBEq, Nat.reduceLeDiff, true_and, and_true, Int.natCast_zero])
  try simp
 have hin := fun (h : i < t.kids.length) => ih t.kids[i] (List.getElem_mem h)
 repeat' (first | refine zqj ?_ | ((first | refine zqh fun K J => ?_ | refine zqr fun K J => ?_ | refine zqs (hin (by omega)) ?_); (simp (disch := omega) only [go_sem, Nat.reduceBEq, ↓reduceIte, reduceCtorEq, Nat.reduceAdd, s1, s3, sH0, z0e])) | ((first | refine zqd _ rfl (fun hc => ?_) (fun hc => ?_) | refine zqm _ rfl (fun hc => ?_) (fun hc => ?_)) <;> (((try simp only [z03] at hc); (try (exfalso; omega))))) | refine zqa ?_ | refine zqb ?_ | refine zqc ?_ | refine zqk ?_ | refine zqn ?_ | refine zqv ?_ | refine zqx ?_ | refine zqy ?_ | refine zqz ?_ | refine z4a ?_ | refine zqp ?_ | refine zqo ?_ | refine zqu (by (simp (disch := omega) only [go_sem]); rfl) rfl ?_ | (refine J _ ?_; clear J K))
 ·exact z00 (z3y (k := i) (by omega) (by assumption)).symm
 ·(refine Exists.intro _ (And.intro ?_ ⟨i + 1, rfl, ?_⟩)); rotate_left; (simp (disch := omega) only [go_sem, Nat.reduceBEq, s1, s3, sH0, true_and, Int.natCast_add, Int.natCast_one]); rotate_left
  ·omega
  ·exact ⟨by omega, z2g (by omega) sp1 (by assumption), by omega⟩
 ·exact z00 (z2o (by omega) sp1).symm
theorem zyq : ∀ t : T, fitB t = true -> ∀ deep most : Int, 0 <= deep -> deep <= 21 -> 0 <= most -> most <= 1000 -> PC Tryz.prog 45 [z17 t, .int .i64 deep, .int .i64 most] (.int .i64 (z3o t deep most)) := by
 refine z3u fun t ih hfit deep most hd0 hd1 hm0 hm1 => ?_
 obtain ⟨h1, h2, h3, h4⟩ := (zbl t).1 hfit
 unfold maxLen at h1 h2 h3
 have hb := z6h t deep most hm0
 rw [zh9] at hb ⊢
 refine z1y 1 (by simp only [pureD.pureL, z05, pureD, Bool.and_self]) rfl (z1w [] Tryz.func45 rfl (by decide +kernel) z0j (by decide +kernel) (by simp [Tryz.ntmps45]) ?_)
 show awp _ _ (Code.seq _ _) _ _
 repeat' (first | refine zqj ?_ | ((refine zqh fun K J => ?_); (simp (disch := omega) only [go_sem, Nat.reduceBEq, ↓reduceIte])) | ((refine zqd _ rfl (fun hc => ?_) (fun hc => ?_)) <;> (((try simp only [z03] at hc); (try (exfalso; omega))))) | refine zqa ?_ | refine zqb ?_ | refine zqg ?_ | refine zqu (by (simp (disch := omega) only [go_sem]); rfl) rfl ?_ | (refine J _ ?_; clear J K))
 ·refine z33 ?_
  rw [if_pos (by assumption)]
 ·rw [if_neg (by assumption)] at hb ⊢
  (refine z37 (fun U st => ∃ (i : _), U = t.kids.length - i /\ st.t 1 = .int .i64 deep /\ st.t 2 = .int .i64 most /\ st.t 3 = .ptr 0 0 /\ st.t 7 = .int .i64 (z3d deep most ((t.kids.take i).map z3o) 1) /\ st.t 8 = .int .i64 i /\ st.H 0 = some (.box 27 (z06 t)) /\ (i <= t.kids.length) /\ (1 <= st.nx)) ?_ ?_); rotate_left; (rintro U st ⟨i, rfl, s1, s2, s3, s7, s8, sH0, sp0, sp1⟩); rotate_left
  ·(refine ⟨_, 0, rfl, ?_⟩); (simp (disch := omega) only [go_sem, Nat.reduceBEq, Nat.reduceLeDiff, true_and, and_true, and_self, Int.natCast_zero, List.map_nil])
   try simp [z3d]
  have hin := fun (h : i < t.kids.length) => ih t.kids[i] (List.getElem_mem h) (h4 _ (List.getElem_mem h)) (deep + 1) (most - z3d deep most ((t.kids.take i).map z3o) 1)
  have hpb := z8a (deep := deep) (most := most) (t.kids.take i) (fun k _ => z6h k) 1 (by omega) (by omega)
  have hnext : ∀ h : i < t.kids.length, z3d deep most ((t.kids.take i).map z3o) 1 <= most -> z3d deep most ((t.kids.take (i + 1)).map z3o) 1 = z3d deep most ((t.kids.take i).map z3o) 1 + z3o t.kids[i] (deep + 1) (most - z3d deep most ((t.kids.take i).map z3o) 1) := fun h hle => by
   rw [List.take_succ_eq_append_getElem h, List.map_append, List.map_cons, List.map_nil, zfz _ _ _ _ _ hle]
  have hkb := fun (h : i < t.kids.length) => z6h t.kids[i] (deep + 1) (most - z3d deep most ((t.kids.take i).map z3o) 1)
  have hstop : most < z3d deep most ((t.kids.take i).map z3o) 1 -> z3d deep most (t.kids.map z3o) 1 = z3d deep most ((t.kids.take i).map z3o) 1 := fun h => by
   have := zg0 deep most ((t.kids.take i).map z3o) ((t.kids.drop i).map z3o) 1 h
   rwa [<- List.map_append, List.take_append_drop] at this
  repeat' (first | refine zqj ?_ | ((first | refine zqh fun K J => ?_ | refine zqr fun K J => ?_ | refine zqs (hin (by omega) (by omega) (by omega) (by omega) (by omega)) ?_); (simp (disch := omega) only [go_sem, Nat.reduceBEq, ↓reduceIte, reduceCtorEq, Nat.reduceAdd, s1, s2, s3, s7, s8, sH0, z0e])) | ((refine zqd _ rfl (fun hc => ?_) (fun hc => ?_)) <;> (first | (cases hc; done) | ((try simp only [z03] at hc); (try (exfalso; omega))))) | refine zqa ?_ | refine zqb ?_ | refine zqc ?_ | refine zqn ?_ | refine zqv ?_ | refine zqy ?_ | refine zqz ?_ | refine zqp ?_ | refine zqu (by (simp (disch := omega) only [go_sem]); rfl) rfl ?_ | (refine J _ ?_; clear J K) | (refine zqf (fun hb => ?_) (fun hb => ?_) <;> (have hb2 := hb; try simp only [z03] at hb2) <;> ((first | have F := eq_false hb2 | have F := eq_true hb2); (simp (disch := omega) only [go_sem, Nat.reduceBEq, ↓reduceIte, F, s2, s7]); clear hb F; (try (exfalso; omega)))))
  ·have hk := hkb (by omega) (by omega)
   have hn := hnext (by omega) (by assumption)
   (refine Exists.intro _ (And.intro ?_ ⟨i + 1, rfl, ?_⟩)); rotate_left; (simp (disch := omega) only [go_sem, Nat.reduceBEq, s1, s2, s3, s7, s8, sH0, true_and, Int.natCast_add, Int.natCast_one]); rotate_left
   ·omega
   ·rw [hn]
    exact ⟨rfl, by omega, by omega⟩
  ·exact z33 (hstop (by omega)).symm
  ·have : t.kids.take i = t.kids := List.take_of_length_le (by omega)
   rw [this]
   exact z33 rfl
namespace Tr
def zvi (t : T) (most : Int) : Bool := decide (z3o t 0 most <= most) && zdq t
end Tr
theorem zxf (t : T) (hfit : fitB t = true) (most : Int) (hm0 : 0 <= most) (hm1 : most <= 1000) : PC Tryz.prog 17 [z17 t, .int .i64 most] (.bool (zvi t most)) := by
 refine z1y 1 (by simp only [pureD.pureL, z05, pureD, Bool.and_self]) rfl (z1w [] Tryz.func17 rfl (by decide +kernel) z0j (by decide +kernel) (by simp [Tryz.ntmps17]) ?_)
 show awp _ _ (Code.seq _ _) _ _
 have hs := zyq t hfit 0 most (by omega) (by omega) hm0 hm1
 have hw := zvh t hfit
 repeat' (first | ((first | refine zqh fun K J => ?_ | refine zqs (hs) ?_ | refine zqs (hw) ?_); (simp (disch := omega) only [go_sem, Nat.reduceBEq, ↓reduceIte, Nat.reduceAdd, Nat.reduceLeDiff])) | refine zqn ?_ | refine zqu (by (simp (disch := omega) only [go_sem]); rfl) rfl ?_ | (refine J _ ?_; clear J K) | (refine zqf (fun hb => ?_) (fun hb => ?_) <;> (have hb2 := hb; try simp only [z03] at hb2) <;> ((first | have F := eq_false hb2 | have F := eq_true hb2); (simp (disch := omega) only [go_sem, Nat.reduceBEq, ↓reduceIte, Nat.reduceAdd, Nat.reduceLeDiff, F]); clear hb F; (try (exfalso; omega)))))
 ·exact z00 (by unfold zvi; rw [decide_eq_true (by assumption), Bool.true_and])
 ·exact z00 (by unfold zvi; rw [decide_eq_false (by assumption), Bool.false_and])
namespace Tr
def bl (s : ByteArray) : List UInt8 := s.data.toList
theorem z1b (s : ByteArray) : (bl s).length = s.size := rfl
def dig (b : UInt8) : Bool := decide (48 <= b.toNat /\ b.toNat <= 57)
def cap (b : UInt8) : Bool := decide (65 <= b.toNat /\ b.toNat <= 90)
def ink (b : UInt8) : Bool := decide (33 <= b.toNat /\ b.toNat <= 126)
def z8v (s : ByteArray) : Nat := ((bl s).takeWhile dig).length
def z3j (s : ByteArray) : Bool := decide (1 <= z8v s /\ z8v s <= 4 /\ ((bl s).headD 0).toNat ≠ 48 /\ s.size - z8v s <= 3) && ((bl s).drop (z8v s)).all cap
def z8w (s : ByteArray) : Bool := decide (1 <= s.size /\ s.size <= 24) && (bl s).all ink
def zfi (l : List ByteArray) : Bool := decide (l.length <= 256) && l.all z8w
def zn3 (l : List Wd) : Bool := decide (l.length <= 256) && l.all fun w => z8w w.text
theorem zwj (l : List Wd) : zn3 l = (decide (l.length <= 256) && zfi (l.map (·.text))) := by
 unfold zn3 zfi
 rw [List.length_map, List.all_map]
 cases decide (l.length <= 256) <;> simp [Function.comp_def]
theorem z5s {α : Type} {p : α -> Bool} : ∀ {l : List α} {k : Nat} (_ : k <= l.length), (∀ j, (hj : j < k) -> p (l[j]'(by omega)) = true) -> (∀ h : k < l.length, p l[k] = false) -> (l.takeWhile p).length = k
 | [], k, hk, _, _ => by simp at hk; simp [hk]
 | x :: l, 0, _, _, h2 => by
  have := h2 (by simp)
  simp only [List.getElem_cons_zero] at this
  simp [this]
 | x :: l, k + 1, hk, h1, h2 => by
  have h0 := h1 0 (by omega)
  simp only [List.getElem_cons_zero] at h0
  rw [List.takeWhile_cons, if_pos h0, List.length_cons]
  have := z5s (p := p) (l := l) (k := k) (by simpa using hk) (fun j hj => by simpa using h1 (j + 1) (by omega)) (fun h => h2 (by simpa using h))
  rw [this]
theorem zc0 (s : ByteArray) : z8v s <= s.size := by
 unfold z8v
 rw [<- z1b]
 exact (List.takeWhile_prefix _).length_le
end Tr
theorem zlm {s : ByteArray} {i : Nat} (h : i < s.size) : s[i]? = some ((bl s)[i]'h) := getElem?_pos s i h
theorem zte {s : ByteArray} (h : 0 < s.size) : (bl s)[0]'h = (bl s).headD 0 := by
 have : ∀ (l : List UInt8) (h : 0 < l.length), l[0]'h = l.headD 0 := fun l h => by cases l with
  | nil => exact absurd h (by simp)
  | cons a l => rfl
 exact this _ _
theorem ztf (s : ByteArray) (hs : s.size <= maxLen) : PC Tryz.prog 58 [.str s] (.int .i64 (z8v s)) := by
 unfold maxLen at hs
 refine z1y 1 (by simp only [pureD.pureL, pureD, Bool.and_self]) rfl (z1w [] Tryz.func58 rfl (by decide +kernel) z0j (by decide +kernel) (by simp [Tryz.ntmps58]) ?_)
 show awp _ _ (Code.seq _ _) _ _
 repeat' (first | ((refine zqh fun K J => ?_); (simp (disch := omega) only [go_sem])) | refine zqa ?_ | (refine J _ ?_; clear J K))
 have hbl := z1b s
 (refine z37 (fun U st => ∃ (k : _), U = s.size - k /\ st.t 0 = .str s /\ st.t 3 = .int .i64 k /\ (k <= s.size) /\ (∀ j, (hj : j < k) -> (h : j < (bl s).length) -> dig (bl s)[j] = true)) ?_ ?_); rotate_left; (rintro U st ⟨k, rfl, s0, s3, sp0, sp1⟩); rotate_left
 ·(refine ⟨_, 0, rfl, ?_⟩); (simp (disch := omega) only [go_sem, Nat.reduceBEq, true_and, Int.natCast_zero])
  exact fun j hj => by omega
 repeat' (first | refine zqj ?_ | ((first | refine zqh fun K J => ?_ | refine zqr fun K J => ?_); (simp (disch := omega) only [go_sem, Nat.reduceBEq, ↓reduceIte, s0, s3])) | ((refine zqd _ rfl (fun hc => ?_) (fun hc => ?_)) <;> (first | (cases hc; done) | ((try simp only [z03] at hc); (try (exfalso; omega))))) | refine zqi ?_ | refine zqb ?_ | refine zqc ?_ | refine zqn ?_ | refine zqv ?_ | refine zqy ?_ | refine zqz ?_ | refine zqp ?_ | refine zqu (by (simp (disch := omega) only [go_sem]); rfl) rfl ?_ | (refine J _ ?_; clear J K) | (refine zqf (fun hb => ?_) (fun hb => ?_) <;> (have hb2 := hb; try simp only [z03] at hb2) <;> ((first | have F := eq_false hb2 | have F := eq_true hb2); (simp (disch := omega) only [go_sem, Nat.reduceBEq, ↓reduceIte, F, s0, s3, zlm]); clear hb F; (try (exfalso; omega)))))
 ·(refine Exists.intro _ (And.intro ?_ ⟨k + 1, rfl, ?_⟩)); rotate_left; (simp (disch := omega) only [go_sem, Nat.reduceBEq, s0, s3, true_and, Int.natCast_add, Int.natCast_one]); rotate_left
  ·omega
  ·refine ⟨by omega, fun j hj h => ?_⟩
   by_cases e : j = k
   ·subst e; unfold dig; exact decide_eq_true (by omega)
   ·exact sp1 j (by omega) h
 all_goals
  refine z33 ?_
  have := z5s (p := dig) (l := bl s) (k := k) (by omega) (fun j hj => sp1 j hj (by omega)) (fun h => by
   unfold dig; exact decide_eq_false (by omega))
  unfold z8v; rw [this]
theorem zzq (s : ByteArray) (hs : s.size <= maxLen) : PC Tryz.prog 80 [.str s] (.bool (z8w s)) := by
 unfold maxLen at hs
 refine z1y 1 (by simp only [pureD.pureL, pureD, Bool.and_self]) rfl (z1w [] Tryz.func80 rfl (by decide +kernel) z0j (by decide +kernel) (by simp [Tryz.ntmps80]) ?_)
 show awp _ _ (Code.seq _ _) _ _
 repeat' (first | refine zqj ?_ | ((refine zqh fun K J => ?_); (simp (disch := omega) only [go_sem, Nat.reduceBEq, ↓reduceIte])) | ((refine zqd _ rfl (fun hc => ?_) (fun hc => ?_)) <;> (first | (cases hc; done) | ((try simp only [z03] at hc); (try (exfalso; omega))))) | refine zqa ?_ | refine zqb ?_ | refine zqg ?_ | refine zqu (by (simp (disch := omega) only [go_sem]); rfl) rfl ?_ | (refine J _ ?_; clear J K) | (refine zqf (fun hb => ?_) (fun hb => ?_) <;> (have hb2 := hb; try simp only [z03] at hb2) <;> ((first | have F := eq_false hb2 | have F := eq_true hb2); (simp (disch := omega) only [go_sem, Nat.reduceBEq, ↓reduceIte, F]); clear hb F; (try (exfalso; omega)))))
 ·exact z00 (by unfold z8w; rw [decide_eq_false (by omega)]; rfl)
 ·rw [show z8w s = (bl s).all ink from by unfold z8w; rw [decide_eq_true (by omega)]; rfl]
  (refine z37 (fun U st => ∃ (k : _), U = s.size - k /\ st.t 0 = .str s /\ st.t 3 = .int .i64 k /\ (k <= s.size) /\ (((bl s).take k).all ink = true)) ?_ ?_); rotate_left; (rintro U st ⟨k, rfl, s0, s3, sp0, sp1⟩); rotate_left
  ·(refine ⟨_, 0, rfl, ?_⟩); (simp (disch := omega) only [go_sem, Nat.reduceBEq, true_and, Int.natCast_zero])
   simp
  have hbl := z1b s
  repeat' (first | refine zqj ?_ | ((first | refine zqh fun K J => ?_ | refine zqr fun K J => ?_); (simp (disch := omega) only [go_sem, Nat.reduceBEq, ↓reduceIte, s0, s3, zlm])) | ((first | refine zqd _ rfl (fun hc => ?_) (fun hc => ?_) | refine zqm _ rfl (fun hc => ?_) (fun hc => ?_)) <;> (first | (cases hc; done) | ((try simp only [z03] at hc); (try (exfalso; omega))))) | refine zqa ?_ | refine zqb ?_ | refine zqc ?_ | refine zqk ?_ | refine zqn ?_ | refine zqv ?_ | refine zqx ?_ | refine zqy ?_ | refine zqz ?_ | refine z4a ?_ | refine zqp ?_ | refine zqo ?_ | refine zqu (by (simp (disch := omega) only [go_sem]); rfl) rfl ?_ | (refine J _ ?_; clear J K) | (refine zqf (fun hb => ?_) (fun hb => ?_) <;> (have hb2 := hb; try simp only [z03] at hb2) <;> ((first | have F := eq_false hb2 | have F := eq_true hb2); (simp (disch := omega) only [go_sem, Nat.reduceBEq, ↓reduceIte, F, s0, s3, zlm]); clear hb F; (try (exfalso; omega)))))
  ·exact z00 (z3y (k := k) (by omega) (by unfold ink; exact decide_eq_false (by omega))).symm
  ·(refine Exists.intro _ (And.intro ?_ ⟨k + 1, rfl, ?_⟩)); rotate_left; (simp (disch := omega) only [go_sem, Nat.reduceBEq, s0, s3, true_and, Int.natCast_add, Int.natCast_one]); rotate_left
   ·omega
   ·exact ⟨by omega, z2g (by omega) sp1 (by unfold ink; exact decide_eq_true (by omega))⟩
  ·exact z00 (z3y (k := k) (by omega) (by unfold ink; exact decide_eq_false (by omega))).symm
  ·exact z00 (z2o (by omega) sp1).symm
 ·exact z00 (by unfold z8w; rw [decide_eq_false (by omega)]; rfl)
theorem zxl (l : List ByteArray) (hl : l.length <= maxLen) (hs : ∀ s ∈ l, s.size <= maxLen) : PC Tryz.prog 57 [z3i l] (.bool (zfi l)) := by
 unfold maxLen at hl
 refine z1y 1 (by simp only [pureD.pureL, z2v, Bool.and_self]) rfl (z1w [] Tryz.func57 rfl (by decide +kernel) z0j (by decide +kernel) (by simp [Tryz.ntmps57]) ?_)
 show awp _ _ (Code.seq _ _) _ _
 have hw := fun (i : Nat) (h : i < l.length) => zzq l[i] (hs _ (List.getElem_mem h))
 repeat' (first | refine zqj ?_ | ((refine zqh fun K J => ?_); (simp (disch := omega) only [go_sem, Nat.reduceBEq, ↓reduceIte, z3i])) | ((refine zqd _ rfl (fun hc => ?_) (fun hc => ?_)) <;> (((try simp only [z03] at hc); (try (exfalso; omega))))) | refine zqa ?_ | refine zqb ?_ | refine zqg ?_ | refine zqu (by (simp (disch := omega) only [go_sem]); rfl) rfl ?_ | (refine J _ ?_; clear J K))
 ·exact z00 (by unfold zfi; rw [decide_eq_false (by omega)]; rfl)
 ·rw [show zfi l = l.all z8w from by unfold zfi; rw [decide_eq_true (by omega)]; rfl]
  (refine z37 (fun U st => ∃ (k : _), U = l.length - k /\ st.t 0 = z3i l /\ st.t 3 = .int .i64 k /\ (k <= l.length) /\ ((l.take k).all z8w = true)) ?_ ?_); rotate_left; (rintro U st ⟨k, rfl, s0, s3, sp0, sp1⟩); rotate_left
  ·(refine ⟨_, 0, rfl, ?_⟩); (simp (disch := omega) only [go_sem, Nat.reduceBEq, true_and, Int.natCast_zero, z3i])
   simp
  repeat' (first | refine zqj ?_ | ((first | refine zqh fun K J => ?_ | refine zqr fun K J => ?_ | refine zqs (hw k (by omega)) ?_); (simp (disch := omega) only [go_sem, Nat.reduceBEq, ↓reduceIte, reduceCtorEq, Nat.reduceAdd, s0, s3, z3i])) | ((first | refine zqd _ rfl (fun hc => ?_) (fun hc => ?_) | refine zqm _ rfl (fun hc => ?_) (fun hc => ?_)) <;> (((try simp only [z03] at hc); (try (exfalso; omega))))) | refine zqa ?_ | refine zqb ?_ | refine zqc ?_ | refine zqk ?_ | refine zqn ?_ | refine zqv ?_ | refine zqx ?_ | refine zqy ?_ | refine zqz ?_ | refine z4a ?_ | refine zqp ?_ | refine zqo ?_ | refine zqu (by (simp (disch := omega) only [go_sem]); rfl) rfl ?_ | (refine J _ ?_; clear J K))
  ·exact z00 (z3y (k := k) (by omega) (by assumption)).symm
  ·(refine Exists.intro _ (And.intro ?_ ⟨k + 1, rfl, ?_⟩)); rotate_left; (simp (disch := omega) only [go_sem, Nat.reduceBEq, s0, s3, true_and, Int.natCast_add, Int.natCast_one]); rotate_left
   ·omega
   ·exact ⟨by omega, z2g (by omega) sp1 (by assumption)⟩
  ·exact z00 (z2o (by omega) sp1).symm
theorem zwk (l : List Wd) (hl : l.length <= 1000000) : PC Tryz.prog 107 [z0q l] (z3i (l.map (·.text))) := by
 refine z1y 2 (by simp only [pureD.pureL, z0x, Bool.and_self]) (z2v _) (z1w [5] Tryz.func107 rfl (by decide +kernel) z0j (by decide +kernel) (by simp [Tryz.ntmps107]) ?_)
 show awp _ _ (Code.seq _ _) _ _
 repeat' (first | refine zqj ?_ | ((refine zqh fun K J => ?_); (simp (disch := omega) only [go_sem, Nat.reduceBEq, ↓reduceIte, reduceCtorEq, z0q])) | refine zqa ?_ | (refine J _ ?_; clear J K))
 (refine z37 (fun U st => ∃ (k : _), U = l.length - k /\ st.t 0 = z0q l /\ st.t 3 = .osl 0 k /\ st.t 4 = .int .i64 k /\ st.H 0 = some (.row 9 k (((l.take k).map (·.text)).map .str)) /\ (k <= l.length)) ?_ ?_); rotate_left; (rintro U st ⟨k, rfl, s0, s3, s4, sH0, sp0⟩); rotate_left
 ·(refine ⟨_, 0, rfl, ?_⟩); (simp (disch := omega) only [go_sem, Nat.reduceBEq, and_self, Int.natCast_zero, List.map_nil, z0q])
  try simp
 have htk : ∀ h : k < l.length, l.take (k + 1) = l.take k ++ [l[k]] := fun h => List.take_succ_eq_append_getElem h
 repeat' (first | refine zqj ?_ | ((first | refine zqh fun K J => ?_ | refine zqr fun K J => ?_); (simp (disch := omega) only [go_sem, Nat.reduceBEq, ↓reduceIte, reduceCtorEq, Nat.reduceAdd, Nat.reduceLeDiff, Nat.reduceLT, s0, s3, s4, sH0, z0q])) | ((refine zqd _ rfl (fun hc => ?_) (fun hc => ?_)) <;> (((try simp only [z03] at hc); (try (exfalso; omega))))) | refine zqa ?_ | refine zqb ?_ | refine zqc ?_ | refine zqn ?_ | refine zqv ?_ | refine zqy ?_ | refine zqz ?_ | refine zqp ?_ | refine zqu (by (simp (disch := omega) only [go_sem]); rfl) rfl ?_ | (refine J _ ?_; clear J K))
 ·have htk := htk (by omega)
  (refine Exists.intro _ (And.intro ?_ ⟨k + 1, rfl, ?_⟩)); rotate_left; (simp (disch := omega) only [go_sem, Nat.reduceBEq, s0, s3, s4, sH0, true_and, Int.natCast_add, Int.natCast_one, List.map_append, List.map_cons, List.map_nil, htk]); rotate_left
  ·omega
  ·omega
 ·have hk : k = l.length := by omega
  subst hk
  rw [List.take_length] at sH0
  have h2 : l.length = ((l.map (·.text))).length := by simp
  rw [h2] at sH0 ⊢
  exact z4h (zee 0 sH0 z7b z84 (by simp) (zhi _))
theorem ztg (l : List Wd) (hl : l.length <= 1000000) (hs : ∀ w ∈ l, w.text.size <= maxLen) : PC Tryz.prog 97 [z0q l] (.bool (zn3 l)) := by
 refine z1y 1 (by simp only [pureD.pureL, z0x, Bool.and_self]) rfl (z1w [] Tryz.func97 rfl (by decide +kernel) z0j (by decide +kernel) (by simp [Tryz.ntmps97]) ?_)
 show awp _ _ (Code.seq _ _) _ _
 have h1 := zwk l hl
 have h2 := zxl (l.map (·.text)) (by unfold maxLen; simp; omega) (fun s hs' => by obtain ⟨w, hw, rfl⟩ := List.mem_map.1 hs'; exact hs w hw)
 rw [zwj]
 simp only [z3i, List.map_map] at h1 h2
 repeat' (first | ((first | refine zqh fun K J => ?_ | refine zqs (h1) ?_ | refine zqs (h2) ?_); (simp (disch := omega) only [go_sem, Nat.reduceBEq, ↓reduceIte, z0q])) | refine zqn ?_ | refine zqu (by (simp (disch := omega) only [go_sem]); rfl) rfl ?_ | (refine J _ ?_; clear J K) | (refine zqf (fun hb => ?_) (fun hb => ?_) <;> (have hb2 := hb; try simp only [z03] at hb2) <;> ((first | have F := eq_false hb2 | have F := eq_true hb2); (simp (disch := omega) only [go_sem, Nat.reduceBEq, ↓reduceIte, F]); clear hb F; (try (exfalso; omega)))))
 ·exact z00 (by rw [decide_eq_true (by omega)]; rfl)
 ·exact z00 (by rw [decide_eq_false (by omega)]; rfl)
theorem zdg (s : ByteArray) (hs : s.size <= maxLen) : PC Tryz.prog 28 [.str s] (.bool (z3j s)) := by
 unfold maxLen at hs
 refine z1y 1 (by simp only [pureD.pureL, pureD, Bool.and_self]) rfl (z1w [] Tryz.func28 rfl (by decide +kernel) z0j (by decide +kernel) (by simp [Tryz.ntmps28]) ?_)
 show awp _ _ (Code.seq _ _) _ _
 have h1 := ztf s hs
 have hn := zc0 s
 have hbl := z1b s
 have hz : Int.toNat 0 = 0 := rfl
 have hne : ∀ h : 0 < s.size, (bl s)[0].toNat = ((bl s).headD 0).toNat := fun h => congrArg UInt8.toNat (zte h)
 repeat' (first | refine zqj ?_ | ((first | refine zqh fun K J => ?_ | refine zqs (h1) ?_); (simp (disch := omega) only [go_sem, Nat.reduceBEq, ↓reduceIte])) | ((refine zqd _ rfl (fun hc => ?_) (fun hc => ?_)) <;> (first | (cases hc; done) | ((try simp only [z03] at hc); (try (exfalso; omega))))) | refine zqa ?_ | refine zqb ?_ | refine zqg ?_ | refine zqu (by (simp (disch := omega) only [go_sem]); rfl) rfl ?_ | (refine J _ ?_; clear J K) | (refine zqf (fun hb => ?_) (fun hb => ?_) <;> (have hb2 := hb; try simp only [z03] at hb2) <;> ((first | have F := eq_false hb2 | have F := eq_true hb2); (simp (disch := omega) only [go_sem, Nat.reduceBEq, ↓reduceIte, Int.reduceLE, F, zlm, hz]); clear hb F; (try (exfalso; omega)))))
 ·exact z00 (by unfold z3j; rw [decide_eq_false (by omega)]; rfl)
 ·have hf := hne (by omega)
  rw [show z3j s = ((bl s).drop (z8v s)).all cap from by unfold z3j; rw [decide_eq_true (by omega)]; rfl]
  (refine z37 (fun U st => ∃ (k : _), U = s.size - k /\ st.t 0 = .str s /\ st.t 4 = .int .i64 k /\ (z8v s <= k) /\ (k <= s.size) /\ ((((bl s).drop (z8v s)).take (k - z8v s)).all cap = true)) ?_ ?_); rotate_left; (rintro U st ⟨k, rfl, s0, s4, sp0, sp1, sp2⟩); rotate_left
  ·(refine ⟨_, z8v s, rfl, ?_⟩); (simp (disch := omega) only [go_sem, Nat.reduceBEq, true_and])
   exact ⟨Nat.le_refl _, by omega, by rw [Nat.sub_self]; rfl⟩
  have hk : ∀ h : k < s.size, ((bl s).drop (z8v s))[k - z8v s]'(by rw [List.length_drop, z1b]; omega) = (bl s)[k]'h := fun h => by
   rw [List.getElem_drop]; congr 1; omega
  have hl : ((bl s).drop (z8v s)).length = s.size - z8v s := by rw [List.length_drop, z1b]
  repeat' (first | refine zqj ?_ | ((first | refine zqh fun K J => ?_ | refine zqr fun K J => ?_); (simp (disch := omega) only [go_sem, Nat.reduceBEq, ↓reduceIte, s0, s4, zlm])) | ((first | refine zqd _ rfl (fun hc => ?_) (fun hc => ?_) | refine zqm _ rfl (fun hc => ?_) (fun hc => ?_)) <;> (first | (cases hc; done) | ((try simp only [z03] at hc); (try (exfalso; omega))))) | refine zqa ?_ | refine zqb ?_ | refine zqc ?_ | refine zqk ?_ | refine zqn ?_ | refine zqv ?_ | refine zqx ?_ | refine zqy ?_ | refine zqz ?_ | refine z4a ?_ | refine zqp ?_ | refine zqo ?_ | refine zqu (by (simp (disch := omega) only [go_sem]); rfl) rfl ?_ | (refine J _ ?_; clear J K) | (refine zqf (fun hb => ?_) (fun hb => ?_) <;> (have hb2 := hb; try simp only [z03] at hb2) <;> ((first | have F := eq_false hb2 | have F := eq_true hb2); (simp (disch := omega) only [go_sem, Nat.reduceBEq, ↓reduceIte, F, s0, s4, zlm]); clear hb F; (try (exfalso; omega)))))
  ·exact z00 (z3y (k := k - z8v s) (by omega) (by rw [hk (by omega)]; unfold cap; exact decide_eq_false (by omega))).symm
  ·(refine Exists.intro _ (And.intro ?_ ⟨k + 1, rfl, ?_⟩)); rotate_left; (simp (disch := omega) only [go_sem, Nat.reduceBEq, s0, s4, true_and, Int.natCast_add, Int.natCast_one]); rotate_left
   ·omega
   ·refine ⟨by omega, by omega, ?_⟩
    rw [show k + 1 - z8v s = k - z8v s + 1 from by omega]
    exact z2g (by omega) sp2 (by rw [hk (by omega)]; unfold cap; exact decide_eq_true (by omega))
  ·exact z00 (z3y (k := k - z8v s) (by omega) (by rw [hk (by omega)]; unfold cap; exact decide_eq_false (by omega))).symm
  ·exact z00 (z2o (k := k - z8v s) (by omega) sp2).symm
 ·have hf := hne (by omega)
  exact z00 (by unfold z3j; rw [decide_eq_false (by omega)]; rfl)
 ·exact z00 (by unfold z3j; rw [decide_eq_false (by omega)]; rfl)
 ·exact z00 (by unfold z3j; rw [decide_eq_false (by omega)]; rfl)
end
section
open Abs Facts Tr
attribute [local irreducible] awp
namespace Tr
def z09 (t : T) : List T := zca (fun t l => t :: l.flatten) t
theorem z1x (t : T) : z09 t = t :: t.kids.flatMap z09 := by
 unfold z09; rw [z2r, List.flatMap]
theorem z2b (t : T) : t ∈ z09 t := by rw [z1x]; exact List.mem_cons_self
theorem z3m {t k x : T} (hk : k ∈ t.kids) (hx : x ∈ z09 k) : x ∈ z09 t := by
 rw [z1x]; exact List.mem_cons_of_mem _ (List.mem_flatMap.2 ⟨k, hk, hx⟩)
variable {σ : Type}
end Tr
namespace Tr
def cntT (t : T) : Nat := (z09 t).length
def z0c (t : T) : List Idv := (z09 t).map T.id
end Tr
theorem znx (n : Nat) (u : T) : lowD.lowL n (z06 u) = true := z4i n _ (z0d u)
end
section
open Abs Facts Tr
attribute [local irreducible] awp
namespace Tr
def z81 (p : Int -> Bool) (s : ByteArray) : Nat := ((bl s).takeWhile fun b => !p b.toNat).length
theorem zk3 {p : Int -> Bool} {s : ByteArray} {k : Nat} (hk : k <= s.size) (h1 : ∀ j, (hj : j < k) -> p ((bl s)[j]'(by rw [z1b]; omega)).toNat = false) (h2 : ∀ h : k < s.size, p ((bl s)[k]'h).toNat = true) : z81 p s = k := by
 unfold z81
 refine z5s (by rw [z1b]; exact hk) (fun j hj => by rw [h1 j hj]; rfl) (fun h => by rw [h2 h]; rfl)
end Tr
theorem ztm {s : ByteArray} {i : Nat} (h : i < s.size) (hb : ((bl s)[i]'h).toNat < 128) : Utf8.decode s i = (((bl s)[i]'h).toNat, 1) := decode_ascii s i h hb
theorem ztn {s : ByteArray} {i : Nat} (h : i < s.size) (hb : 128 <= ((bl s)[i]'h).toNat) : 128 <= (Utf8.decode s i).1 := (decode_high s i h hb).1
theorem zk4 (s : ByteArray) (hs : s.size <= maxLen) {g : FuncId} {cap : List D} (p : Int -> Bool) (hc : pureD.pureL cap = true)
  (hp : ∀ r : Nat, r <= 2147483647 -> PC Tryz.prog g (.int .i32 r :: cap) (.bool (p r))) (hbig : ∀ r : Nat, 128 <= r -> p r = true) :
  PC Tryz.prog 120 [.str s, .fn g cap, .bool true] (.int .i64 (if z81 p s < s.size then (z81 p s : Int) else -1)) := by
 unfold maxLen at hs
 refine z1y 1 (by simp only [pureD.pureL, pureD, hc, Bool.and_self]) rfl (z1w [] Tryz.func120 rfl (by decide +kernel) z0j (by decide +kernel) (by simp [Tryz.ntmps120]) ?_)
 show awp _ _ (Code.seq _ _) _ _
 repeat' (first | refine zqj ?_ | ((refine zqh fun K J => ?_); (simp (disch := omega) only [go_sem, Nat.reduceBEq, ↓reduceIte])) | refine zqa ?_ | (refine J _ ?_; clear J K))
 have hdp : ∀ i (h : i < s.size), p (Utf8.decode s i).1 = p ((bl s)[i]'h).toNat /\ (p ((bl s)[i]'h).toNat = false -> (Utf8.decode s i).2 = 1) := fun i h => by
  rcases Nat.lt_or_ge ((bl s)[i]'h).toNat 128 with hb | hb
  ·rw [ztm h hb]; exact ⟨rfl, fun _ => rfl⟩
  ·rw [hbig _ (ztn h hb), hbig _ hb]; exact ⟨rfl, fun h => by cases h⟩
 (refine z37 (fun U st => ∃ (i : _), U = s.size - i /\ st.t 1 = .fn g cap /\ st.t 2 = .bool true /\ st.t 10 = .it 0 /\ st.H 0 = some (.raw (.stringIter s i)) /\ (i <= s.size) /\ (∀ j, (hj : j < i) -> (h : j < (bl s).length) -> p (bl s)[j].toNat = false) /\ (1 <= st.nx)) ?_ ?_); rotate_left; (rintro U st ⟨i, rfl, q1, q2, q10, qH0, qp0, qp1, qp2⟩); rotate_left
 ·(refine ⟨_, 0, rfl, ?_⟩); (simp (disch := omega) only [go_sem, Nat.reduceBEq, Nat.reduceLeDiff, true_and, and_true])
  intro j hj; omega
 by_cases hi : i < s.size
 ·have hp := hp (Utf8.decode s i).1 (decode_le s i)
  obtain ⟨hd1, hd2⟩ := hdp i hi
  repeat' (first | ((first | refine zqh fun K J => ?_ | refine zqs (hp) ?_); (simp (disch := omega) only [go_sem, Nat.reduceBEq, ↓reduceIte, q1, q2, q10, qH0, hi])) | ((first | refine zqd _ rfl (fun hc => ?_) (fun hc => ?_) | refine zqm _ rfl (fun hc => ?_) (fun hc => ?_)) <;> (first | (cases hc; done) | ((try simp only [] at hc); (try (exfalso; omega))))) | refine zqi ?_ | refine zqb ?_ | refine zqk ?_ | refine zqn ?_ | refine zqx ?_ | refine zqy ?_ | refine z4a ?_ | refine zqo ?_ | refine zqu (by (simp (disch := omega) only [go_sem]); rfl) rfl ?_ | (refine J _ ?_; clear J K))
  ·refine z33 ?_
   rw [zk3 (k := i) (by omega) (fun j hj => qp1 j hj (by rw [z1b]; omega)) (fun h => by rw [<- hd1]; assumption), if_pos hi]
  ·have hd1 := hd1.symm.trans (by assumption)
   have hd2 := hd2 hd1
   (refine Exists.intro _ (And.intro ?_ ⟨i + 1, rfl, ?_⟩)); rotate_left; (simp (disch := omega) only [go_sem, Nat.reduceBEq, q1, q2, q10, qH0, true_and, hd2]); rotate_left
   ·omega
   ·refine ⟨by omega, fun j hj h => ?_, by omega⟩
    by_cases e : j = i
    ·subst e; exact hd1
    ·exact qp1 j (by omega) h
 ·repeat' (first | ((refine zqh fun K J => ?_); (simp (disch := omega) only [go_sem, ↓reduceIte, q10, qH0, hi])) | ((refine zqd _ rfl (fun hc => ?_) (fun hc => ?_)) <;> (first | (cases hc; done) | ((try simp only [] at hc); (try (exfalso; omega))))) | refine zqc ?_ | refine zqn ?_ | refine zqv ?_ | refine zqz ?_ | refine zqp ?_ | refine zqu (by (simp (disch := omega) only [go_sem]); rfl) rfl ?_ | (refine J _ ?_; clear J K))
  refine z33 ?_
  have hi2 : i = s.size := by omega
  subst hi2
  rw [zk3 (k := s.size) (by omega) (fun j hj => qp1 j hj (by rw [z1b]; omega)) (fun h => by omega), if_neg (by omega)]
theorem zcq (s : ByteArray) (hs : s.size <= maxLen) {g : FuncId} {cap : List D} (p : Int -> Bool) (hc : pureD.pureL cap = true)
  (hp : ∀ r : Nat, r <= 2147483647 -> PC Tryz.prog g (.int .i32 r :: cap) (.bool (p r))) (hbig : ∀ r : Nat, 128 <= r -> p r = true) :
  PC Tryz.prog 118 [.str s, .fn g cap] (.int .i64 (if z81 p s < s.size then (z81 p s : Int) else -1)) := by
 have h := zk4 s hs p hc hp hbig
 refine z1y 1 (by simp only [pureD.pureL, pureD, hc, Bool.and_self]) rfl (z1w [] Tryz.func118 rfl (by decide +kernel) z0j (by decide +kernel) (by simp [Tryz.ntmps118]) ?_)
 show awp _ _ (Code.seq _ _) _ _
 repeat' (first | ((first | refine zqh fun K J => ?_ | refine zqs (h) ?_); (simp (disch := omega) only [go_sem, Nat.reduceBEq])) | refine zqn ?_ | refine zqu (by (simp (disch := omega) only [go_sem]); rfl) rfl ?_ | (refine J _ ?_; clear J K))
 exact z33 rfl
theorem zd2 (s : ByteArray) (hs : s.size <= maxLen) {g : FuncId} {cap : List D} (p : Int -> Bool) (hc : pureD.pureL cap = true)
  (hp : ∀ r : Nat, r <= 2147483647 -> PC Tryz.prog g (.int .i32 r :: cap) (.bool (p r))) (hbig : ∀ r : Nat, 128 <= r -> p r = true) :
  PC Tryz.prog 117 [.str s, .fn g cap] (.bool (decide (z81 p s < s.size))) := by
 have h := zcq s hs p hc hp hbig
 refine z1y 1 (by simp only [pureD.pureL, pureD, hc, Bool.and_self]) rfl (z1w [] Tryz.func117 rfl (by decide +kernel) z0j (by decide +kernel) (by simp [Tryz.ntmps117]) ?_)
 show awp _ _ (Code.seq _ _) _ _
 repeat' (first | ((first | refine zqh fun K J => ?_ | refine zqs (h) ?_); (simp (disch := omega) only [go_sem, Nat.reduceBEq, ↓reduceIte])) | refine zqn ?_ | refine zqu (by (simp (disch := omega) only [go_sem]); rfl) rfl ?_ | (refine J _ ?_; clear J K))
 refine z00 ?_
 by_cases h : z81 p s < s.size
 ·rw [if_pos h]; simp [h]
 ·rw [if_neg h]; simp [h]
def zcr (r : Int) : Bool := decide (r < 48) || decide (57 < r)
def zb9 (r : Int) : Bool := decide (r < 65) || decide (90 < r)
theorem zp7 (r : Nat) : PC Tryz.prog 119 [.int .i32 r] (.bool (zcr r)) := by
 refine z1y 1 (by simp only [pureD.pureL, pureD, Bool.and_self]) rfl (z1w [] Tryz.func119 rfl (by decide +kernel) z0j (by decide +kernel) (by simp [Tryz.ntmps119]) ?_)
 show awp _ _ (Code.seq _ _) _ _
 repeat' (first | ((refine zqh fun K J => ?_); (simp (disch := omega) only [go_sem, Nat.reduceBEq, ↓reduceIte])) | refine zqn ?_ | refine zqu (by (simp (disch := omega) only [go_sem]); rfl) rfl ?_ | (refine J _ ?_; clear J K) | (refine zqf (fun hb => ?_) (fun hb => ?_) <;> (have hb2 := hb; try simp only [z03] at hb2) <;> ((first | have F := eq_false hb2 | have F := eq_true hb2); (simp (disch := omega) only [go_sem, Nat.reduceBEq, ↓reduceIte, F]); clear hb F; (try (exfalso; omega)))))
 ·exact z00 (by unfold zcr; rw [decide_eq_false (show ¬ (r : Int) < 48 by assumption)]; rfl)
 ·exact z00 (by unfold zcr; rw [decide_eq_true (show (r : Int) < 48 by assumption)]; rfl)
theorem zto (r : Nat) : PC Tryz.prog 116 [.int .i32 r] (.bool (zb9 r)) := by
 refine z1y 1 (by simp only [pureD.pureL, pureD, Bool.and_self]) rfl (z1w [] Tryz.func116 rfl (by decide +kernel) z0j (by decide +kernel) (by simp [Tryz.ntmps116]) ?_)
 show awp _ _ (Code.seq _ _) _ _
 repeat' (first | ((refine zqh fun K J => ?_); (simp (disch := omega) only [go_sem, Nat.reduceBEq, ↓reduceIte])) | refine zqn ?_ | refine zqu (by (simp (disch := omega) only [go_sem]); rfl) rfl ?_ | (refine J _ ?_; clear J K) | (refine zqf (fun hb => ?_) (fun hb => ?_) <;> (have hb2 := hb; try simp only [z03] at hb2) <;> ((first | have F := eq_false hb2 | have F := eq_true hb2); (simp (disch := omega) only [go_sem, Nat.reduceBEq, ↓reduceIte, F]); clear hb F; (try (exfalso; omega)))))
 ·exact z00 (by unfold zb9; rw [decide_eq_false (show ¬ (r : Int) < 65 by assumption)]; rfl)
 ·exact z00 (by unfold zb9; rw [decide_eq_true (show (r : Int) < 65 by assumption)]; rfl)
def zk5 (s : ByteArray) : ByteArray := if z8v s < s.size then s.extract 0 (z8v s) else s
def zp8 (s : ByteArray) : ByteArray := if z8v s < s.size then s.extract (z8v s) s.size else ByteArray.empty
theorem zgq (s : ByteArray) (a b : Nat) : bl (s.extract a b) = ((bl s).take b).drop a := by
 unfold bl
 rw [ByteArray.data_extract, Array.toList_extract, List.extract]
 rw [List.drop_take]
theorem zn7 (s : ByteArray) : bl (zk5 s) = (bl s).take (z8v s) := by
 unfold zk5
 have := zc0 s
 split
 ·rw [zgq, List.drop_zero]
 ·rw [List.take_of_length_le (by rw [z1b]; omega)]
theorem zn8 (s : ByteArray) : bl (zp8 s) = (bl s).drop (z8v s) := by
 unfold zp8
 have := zc0 s
 split
 ·rw [zgq, List.take_of_length_le (by rw [z1b]; omega)]
 ·rw [List.drop_eq_nil_of_le (by rw [z1b]; omega)]; rfl
theorem zp9 (s : ByteArray) : (zk5 s).size = z8v s := by
 have := zc0 s
 rw [<- z1b, zn7, List.length_take, z1b]; omega
theorem zpa (s : ByteArray) : (zp8 s).size = s.size - z8v s := by rw [<- z1b, zn8, List.length_drop, z1b]
theorem zpb : (fun b : UInt8 => !zcr b.toNat) = dig := by
 funext b
 unfold zcr dig
 rcases Nat.lt_or_ge b.toNat 48 with h | h
 ·rw [decide_eq_true (show (b.toNat : Int) < 48 by omega), decide_eq_false (show ¬ (48 <= b.toNat /\ b.toNat <= 57) by omega)]; rfl
 ·rw [decide_eq_false (show ¬ (b.toNat : Int) < 48 by omega)]
  rcases Nat.lt_or_ge 57 b.toNat with h2 | h2
  ·rw [decide_eq_true (show (57 : Int) < b.toNat by omega), decide_eq_false (show ¬ (48 <= b.toNat /\ b.toNat <= 57) by omega)]; rfl
  ·rw [decide_eq_false (show ¬ (57 : Int) < b.toNat by omega), decide_eq_true (show 48 <= b.toNat /\ b.toNat <= 57 by omega)]; rfl
theorem zgr : (fun b : UInt8 => !zb9 b.toNat) = cap := by
 funext b
 unfold zb9 cap
 rcases Nat.lt_or_ge b.toNat 65 with h | h
 ·rw [decide_eq_true (show (b.toNat : Int) < 65 by omega), decide_eq_false (show ¬ (65 <= b.toNat /\ b.toNat <= 90) by omega)]; rfl
 ·rw [decide_eq_false (show ¬ (b.toNat : Int) < 65 by omega)]
  rcases Nat.lt_or_ge 90 b.toNat with h2 | h2
  ·rw [decide_eq_true (show (90 : Int) < b.toNat by omega), decide_eq_false (show ¬ (65 <= b.toNat /\ b.toNat <= 90) by omega)]; rfl
  ·rw [decide_eq_false (show ¬ (90 : Int) < b.toNat by omega), decide_eq_true (show 65 <= b.toNat /\ b.toNat <= 90 by omega)]; rfl
theorem z7w {α : Type} (q : α -> Bool) : ∀ (l : List α), ((l.takeWhile q).length < l.length) ↔ l.all q = false
 | [] => by simp
 | x :: l => by
  rw [List.takeWhile_cons, List.all_cons]
  cases q x
  ·simp
  ·simp [z7w q l]
theorem zhs (s : ByteArray) : decide (z81 zb9 s < s.size) = !(bl s).all cap := by
 have h := z7w (fun b : UInt8 => !zb9 b.toNat) (bl s)
 rw [zgr] at h
 unfold z81
 rw [zgr, <- z1b]
 cases ha : (bl s).all cap
 ·exact decide_eq_true (h.2 ha)
 ·exact decide_eq_false (fun h2 => by rw [h.1 h2] at ha; cases ha)
theorem ztp (s : ByteArray) (hs : s.size <= maxLen) : PC Tryz.prog 115 [.str s] (.tup [.str (zk5 s), .str (zp8 s)]) := by
 have h := zcq s hs (cap := []) zcr rfl (fun r _ => zp7 r) (fun r hr => by unfold zcr; rw [decide_eq_true (show (57 : Int) < r by omega), Bool.or_true])
 rw [show z81 zcr s = z8v s from by unfold z81 z8v; rw [zpb]] at h
 have hle := zc0 s
 unfold maxLen at hs
 refine z1y 2 (by simp only [pureD.pureL, pureD, Bool.and_self]) rfl (z1w [] Tryz.func115 rfl (by decide +kernel) z0j (by decide +kernel) (by simp [Tryz.ntmps115]) ?_)
 show awp _ _ (Code.seq _ _) _ _
 unfold zk5 zp8
 by_cases hd : z8v s < s.size
 ·rw [if_pos hd] at h
  rw [if_pos hd, if_pos hd]
  repeat' (first | refine zqj ?_ | ((first | refine zqh fun K J => ?_ | refine zqe (by decide +kernel) fun K J => ?_ | refine zqs (h) ?_); (simp (disch := omega) only [go_sem, Nat.reduceBEq, ↓reduceIte])) | ((refine zqd _ rfl (fun hc => ?_) (fun hc => ?_)) <;> (first | (cases hc; done) | ((try simp only [decide_eq_false_iff_not] at hc); (try (exfalso; omega))))) | refine zqb ?_ | refine zqn ?_ | refine zqu (by (simp (disch := omega) only [go_sem]); rfl) rfl ?_ | (refine J _ ?_; clear J K))
  exact z02 rfl (Le.refl _)
 ·rw [if_neg hd] at h
  rw [if_neg hd, if_neg hd]
  repeat' (first | refine zqj ?_ | ((first | refine zqh fun K J => ?_ | refine zqs (h) ?_); (simp (disch := omega) only [go_sem, Nat.reduceBEq, ↓reduceIte, Int.reduceLT])) | ((refine zqd _ rfl (fun hc => ?_) (fun hc => ?_)) <;> (first | (cases hc; done) | ((try simp only [] at hc); (try (exfalso; omega))))) | refine zqg ?_ | refine zqu (by (simp (disch := omega) only [go_sem]); rfl) rfl ?_ | (refine J _ ?_; clear J K))
  exact z02 rfl (Le.refl _)
theorem zht (s : ByteArray) (hs : s.size <= maxLen) : PC Tryz.prog 112 [.str s] (.bool (z3j s)) := by
 have h := ztp s hs
 have hA := zp9 s
 have hB := zpa s
 have hle := zc0 s
 have hc := zd2 (zp8 s) (by omega) (cap := []) zb9 rfl (fun r _ => zto r) (fun r hr => by unfold zb9; rw [decide_eq_true (show (90 : Int) < r by omega), Bool.or_true])
 rw [zhs, zn8] at hc
 have hbl := z1b (zk5 s)
 unfold maxLen at hs
 have hz : Int.toNat 0 = 0 := rfl
 have hne : ∀ h : 0 < (zk5 s).size, (bl (zk5 s))[0].toNat = ((bl s).headD 0).toNat := fun h => by
  refine (congrArg UInt8.toNat (zte h)).trans ?_
  rw [zn7]
  congr 1
  obtain ⟨n, hn⟩ : ∃ n, z8v s = n + 1 := ⟨z8v s - 1, by omega⟩
  rw [hn]
  cases bl s <;> rfl
 refine z1y 1 (by simp only [pureD.pureL, pureD, Bool.and_self]) rfl (z1w [] Tryz.func112 rfl (by decide +kernel) z0j (by decide +kernel) (by simp [Tryz.ntmps112]) ?_)
 show awp _ _ (Code.seq _ _) _ _
 repeat' (first | ((first | refine zqh fun K J => ?_ | refine zqs (h) ?_ | refine zqs (hc) ?_); (simp (disch := omega) only [go_sem, Nat.reduceBEq, ↓reduceIte])) | refine zqn ?_ | refine zqu (by (simp (disch := omega) only [go_sem]); rfl) rfl ?_ | (refine J _ ?_; clear J K) | (refine zqf (fun hb => ?_) (fun hb => ?_) <;> (have hb2 := hb; try simp only [z03] at hb2) <;> ((first | have F := eq_false hb2 | have F := eq_true hb2); (simp (disch := omega) only [go_sem, Nat.reduceBEq, ↓reduceIte, Int.reduceLE, F, zlm, hz]); clear hb F; (try (exfalso; omega)))))
 ·have hf := hne (by omega)
  exact z00 (by unfold z3j; rw [decide_eq_true (by omega), Bool.true_and, Bool.not_not])
 ·exact z00 (by unfold z3j; rw [decide_eq_false (by omega)]; rfl)
 ·have hf := hne (by omega)
  exact z00 (by unfold z3j; rw [decide_eq_false (by omega)]; rfl)
 ·exact z00 (by unfold z3j; rw [decide_eq_false (by omega)]; rfl)
 ·exact z00 (by unfold z3j; rw [decide_eq_false (by omega)]; rfl)
namespace Tr
def z2h {α : Type} (f : α -> Bool) (l : List α) : Nat := (l.takeWhile fun x => !f x).length
theorem z41 {α : Type} {f : α -> Bool} {l : List α} {k : Nat} (hk : k <= l.length) (h1 : ∀ j, (hj : j < k) -> f (l[j]'(by omega)) = false) (h2 : ∀ h : k < l.length, f l[k] = true) : z2h f l = k := by
 unfold z2h
 exact z5s hk (fun j hj => by rw [h1 j hj]; rfl) (fun h => by rw [h2 h]; rfl)
theorem zhu {α : Type} (f : α -> Bool) (l : List α) : decide (z2h f l < l.length) = l.any f := by
 have h := z7w (fun x => !f x) l
 have h2 : (l.all fun x => !f x) = !l.any f := by rw [<- List.not_any_eq_all_not]
 unfold z2h
 rw [h2] at h
 cases ha : l.any f
 ·exact decide_eq_false (fun h3 => by have := h.1 h3; rw [ha] at this; cases this)
 ·exact decide_eq_true (h.2 (by rw [ha]; rfl))
end Tr
theorem zhv (nn : Bool) (l : List T) (hl : l.length <= maxLen) {g : FuncId} {cap : List D} (f : T -> Bool) (hc : pureD.pureL cap = true) (hp : ∀ x ∈ l, PC Tryz.prog g (z17 x :: cap) (.bool (f x))) :
  PC Tryz.prog 91 [.rsl nn 8 (l.map z17), .fn g cap] (.int .i64 (if z2h f l < l.length then (z2h f l : Int) else -1)) := by
 unfold maxLen at hl
 refine z1y 1 (by simp only [pureD.pureL, pureD, hc, z1r (f := z17) (z05) l, Bool.and_self]) rfl (z1w [] Tryz.func91 rfl (by decide +kernel) z0j (by decide +kernel) (by simp [Tryz.ntmps91]) ?_)
 show awp _ _ (Code.seq _ _) _ _
 repeat' (first | refine zqj ?_ | ((refine zqh fun K J => ?_); (simp (disch := omega) only [go_sem, Nat.reduceBEq])) | refine zqa ?_ | (refine J _ ?_; clear J K))
 (refine z37 (fun U st => ∃ (i : _), U = l.length - i /\ st.t 0 = .rsl nn 8 (l.map z17) /\ st.t 1 = .fn g cap /\ st.t 7 = .int .i64 l.length /\ st.t 8 = .int .i64 i /\ (i <= l.length) /\ (∀ j, (hj : j < i) -> (h : j < l.length) -> f l[j] = false)) ?_ ?_); rotate_left; (rintro U st ⟨i, rfl, q0, q1, q7, q8, qp0, qp1⟩); rotate_left
 ·(refine ⟨_, 0, rfl, ?_⟩); (simp (disch := omega) only [go_sem, Nat.reduceBEq, true_and, Int.natCast_zero])
  intro j hj; omega
 have hp := fun (h : i < l.length) => hp l[i] (List.getElem_mem h)
 repeat' (first | ((first | refine zqh fun K J => ?_ | refine zqr fun K J => ?_ | refine zqs (hp (by omega)) ?_); (simp (disch := omega) only [go_sem, Nat.reduceBEq, ↓reduceIte, reduceCtorEq, Nat.reduceAdd, q0, q1, q7, q8])) | ((first | refine zqd _ rfl (fun hc => ?_) (fun hc => ?_) | refine zqm _ rfl (fun hc => ?_) (fun hc => ?_)) <;> (((try simp only [z03] at hc); (try (exfalso; omega))))) | refine zqa ?_ | refine zqb ?_ | refine zqc ?_ | refine zqk ?_ | refine zqn ?_ | refine zqv ?_ | refine zqx ?_ | refine zqy ?_ | refine zqz ?_ | refine z4a ?_ | refine zqp ?_ | refine zqo ?_ | refine zqu (by (simp (disch := omega) only [go_sem]); rfl) rfl ?_ | (refine J _ ?_; clear J K))
 ·refine z33 ?_
  rw [z41 (k := i) (by omega) (fun j hj => qp1 j hj (by omega)) (fun h => by assumption), if_pos (by omega)]
 ·(refine Exists.intro _ (And.intro ?_ ⟨i + 1, rfl, ?_⟩)); rotate_left; (simp (disch := omega) only [go_sem, Nat.reduceBEq, q0, q1, q7, q8, true_and, Int.natCast_add, Int.natCast_one]); rotate_left
  ·omega
  ·refine ⟨by omega, fun j hj h => ?_⟩
   by_cases e : j = i
   ·subst e; assumption
   ·exact qp1 j (by omega) h
 ·refine z33 ?_
  have hi : i = l.length := by omega
  subst hi
  rw [z41 (k := l.length) (by omega) (fun j hj => qp1 j hj (by omega)) (fun h => by omega), if_neg (by omega)]
def nameL : List ByteArray := [⟨#[98, 111, 111, 107]⟩, ⟨#[112, 97, 114, 116]⟩, ⟨#[115, 101, 99, 116, 105, 111, 110]⟩, ⟨#[112, 97, 114, 97, 103, 114, 97, 112, 104]⟩, ⟨#[116, 97, 98, 108, 101]⟩, ⟨#[114, 111, 119]⟩, ⟨#[99, 101, 108, 108]⟩, ⟨#[110, 111, 116, 101]⟩]
def znn (k : Int) : ByteArray := if 0 <= k /\ k < 8 then nameL.getD k.toNat ByteArray.empty else ByteArray.empty
theorem zq2 {k : Int} (h : 0 <= k /\ k < 8) : k = 0 \/ k = 1 \/ k = 2 \/ k = 3 \/ k = 4 \/ k = 5 \/ k = 6 \/ k = 7 := by omega
def belowL : List (List Int) := [[1, 2], [2], [3, 4, 7], [3, 4, 7], [5], [6], [], []]
def z20 (p k : Int) : Bool := if 0 <= p /\ p < 8 then (belowL.getD p.toNat []).any (fun x => decide (k = x)) else false
namespace Tr
def z9n (l : List Nat) : Nat := l.foldl (fun d x => max d (1 + x)) 0
def depT (t : T) : Nat := zca (fun _ l => z9n l) t
theorem z42 (t : T) : depT t = z9n (t.kids.map depT) := by unfold depT; rw [z2r]
theorem zk2 (l : List Nat) (x : Nat) : z9n (l ++ [x]) = max (z9n l) (1 + x) := by unfold z9n; rw [List.foldl_append]; rfl
theorem zzv {l : List Nat} : ∀ (a : Nat), (a <= l.foldl (fun d x => max d (1 + x)) a) /\ ∀ x ∈ l, 1 + x <= l.foldl (fun d x => max d (1 + x)) a := by
 induction l with
 | nil => intro a; simp
 | cons y l ih =>
  intro a
  simp only [List.foldl_cons]
  obtain ⟨h1, h2⟩ := ih (max a (1 + y))
  refine ⟨by omega, fun x hx => ?_⟩
  rcases List.mem_cons.1 hx with rfl | hx
  ·omega
  ·exact h2 x hx
theorem z3s {t k : T} (h : k ∈ t.kids) : 1 + depT k <= depT t := by
 rw [z42 t]
 exact (zzv 0).2 _ (List.mem_map.2 ⟨k, h, rfl⟩)
end Tr
namespace Tr
def z1d (id : Idv) (t : T) : List T := zca (fun t l => if t.id = id then [t] else match l.find? (fun w => !w.isEmpty) with
 | some w => t :: w
 | none => []) t
theorem z8y (id : Idv) (t : T) : z1d id t = if t.id = id then [t] else match (t.kids.map (z1d id)).find? (fun w => !w.isEmpty) with
  | some w => t :: w
  | none => [] := by
 unfold z1d; rw [z2r]
theorem zf4 {α β : Type} (f : α -> List β) : ∀ {l : List α} {i : Nat}, (∀ j, (hj : j < i) -> (h : j < l.length) -> f l[j] = []) -> l.length <= i -> (l.map f).find? (fun w => !w.isEmpty) = none
 | [], _, _, _ => rfl
 | x :: l, i, h, hi => by
  rw [List.map_cons, List.find?_cons]
  have h0 := h 0 (by simp at hi; omega) (by simp)
  simp only [List.getElem_cons_zero] at h0
  rw [h0]
  exact zf4 f (l := l) (i := i - 1) (fun j hj hl => h (j + 1) (by omega) (by simpa using hl)) (by simp at hi; omega)
theorem zf5 {α β : Type} (f : α -> List β) : ∀ {l : List α} {i : Nat} (hi : i < l.length), (∀ j, (hj : j < i) -> (h : j < l.length) -> f l[j] = []) -> f l[i] ≠ [] -> (l.map f).find? (fun w => !w.isEmpty) = some (f l[i])
 | x :: l, 0, _, _, hn => by
  simp only [List.getElem_cons_zero] at hn ⊢
  rw [List.map_cons, List.find?_cons]
  cases hf : f x with
  | nil => exact (hn hf).elim
  | cons a b => rfl
 | x :: l, i + 1, hi, h, hn => by
  rw [List.map_cons, List.find?_cons]
  have h0 := h 0 (by omega) (by simp)
  simp only [List.getElem_cons_zero] at h0
  rw [h0]
  simp only [List.getElem_cons_succ] at hn ⊢
  exact zf5 f (l := l) (i := i) (by simpa using hi) (fun j hj hl => h (j + 1) (by omega) (by simpa using hl)) hn
end Tr
theorem z4l : ∀ w : List T, z1i 8 (w.map z17) = some (w.flatMap z06)
 | [] => rfl
 | t :: w => by
  rw [List.map_cons, List.flatMap_cons]
  unfold z1i
  rw [z4l w]
  simp only [z17, z4d, z0m, if_true]
theorem z50 (id : Idv) : ∀ t : T, (z1d id t).length <= 1 + depT t := by
 refine z3u fun t ih => ?_
 rw [z8y]
 split
 ·simp
 ·split
  ·rename_i w hw
   have hm := List.mem_of_find?_eq_some hw
   obtain ⟨k, hk, rfl⟩ := List.mem_map.1 hm
   have h1 := ih k hk
   have h2 := z3s hk
   simp only [List.length_cons]; omega
  ·simp
def zb7 (w : List T) : D := if w = [] then .nil else .rsl true 8 (w.map z17)
theorem zlo (w : List T) : pureD (zb7 w) = true := by
 unfold zb7
 split
 ·rfl
 ·simp only [pureD]; exact z1r z05 w
theorem le_nn {sz : Nat} {els : List D} (h : els ≠ []) : Le (.rsl false sz els) (.rsl true sz els) := fun s v hr => by
 simp only [rel] at hr ⊢
 rcases hr with ⟨_, h1, _⟩ | hr
 ·exact (h h1).elim
 ·exact .inr hr
theorem zn6 (id : Idv) : ∀ t : T, fitB t = true -> depT t <= 1000000000 -> PC Tryz.prog 90 [z17 t, z3h id] (zb7 (z1d id t)) := by
 refine z3u fun t ih hfit hd => ?_
 obtain ⟨h1, h2, h3, h4⟩ := (zbl t).1 hfit
 unfold maxLen at h3
 refine z1y 3 (by simp only [pureD.pureL, z05]; rfl) (zlo _) (z1w [27] Tryz.func90 rfl (by decide +kernel) z0j (by decide +kernel) (by simp [Tryz.ntmps90]) ?_)
 show awp _ _ (Code.seq _ _) _ _
 rw [z8y]
 repeat' (first | refine zqj ?_ | ((refine zqh fun K J => ?_); (simp (disch := omega) only [go_sem, Nat.reduceBEq, ↓reduceIte, reduceCtorEq, Nat.reduceAdd, Nat.reduceMul, Nat.reduceLeDiff])) | ((refine zqd _ rfl (fun hc => ?_) (fun hc => ?_)) <;> (((try simp only [z03] at hc); (try (exfalso; omega))))) | refine zqa ?_ | refine zqb ?_ | refine zqg ?_ | refine zqu (by (simp (disch := omega) only [go_sem]); rfl) rfl ?_ | (refine J _ ?_; clear J K))
 ·rw [if_pos (by assumption), zb7, if_neg (by simp)]
  exact z02 (z1r z05 [t]) (Le.refl _)
 ·rw [if_neg (by assumption)]
  (refine z37 (fun U st => ∃ (i : _), U = t.kids.length - i /\ st.t 2 = .ptr 0 0 /\ st.t 3 = .ptr 1 0 /\ st.t 15 = z0e t.kids /\ st.t 16 = .int .i64 t.kids.length /\ st.t 17 = .int .i64 i /\ st.H 0 = some (.box 27 (z06 t)) /\ st.H 1 = some (.box 23 (z04 id)) /\ (i <= t.kids.length) /\ (2 <= st.nx) /\ (∀ j, (hj : j < i) -> (h : j < t.kids.length) -> z1d id t.kids[j] = [])) ?_ ?_); rotate_left; (rintro U st ⟨i, rfl, q2, q3, q15, q16, q17, qH0, qH1, qp0, qp1, qp2⟩); rotate_left
  ·(refine ⟨_, 0, rfl, ?_⟩); (simp (disch := omega) only [go_sem, Nat.reduceBEq, Nat.reduceLeDiff, true_and, Int.natCast_zero, z0e, z04])
   intro j hj; omega
  have hin := fun (h : i < t.kids.length) => ih t.kids[i] (List.getElem_mem h) (h4 _ (List.getElem_mem h)) (by have := z3s (List.getElem_mem h); omega)
  have hlen := fun (h : i < t.kids.length) => z50 id t.kids[i]
  have hdk := fun (h : i < t.kids.length) => z3s (t := t) (List.getElem_mem h)
  by_cases hw : ∃ h : i < t.kids.length, z1d id t.kids[i] = []
  ·obtain ⟨hi, hw⟩ := hw
   have hin := hin hi
   rw [hw, zb7, if_pos rfl] at hin
   repeat' (first | ((first | refine zqh fun K J => ?_ | refine zqr fun K J => ?_ | refine zqs (hin) ?_); (simp (disch := omega) only [go_sem, Nat.reduceBEq, ↓reduceIte, reduceCtorEq, Nat.reduceAdd, Nat.reduceLeDiff, q3, q15, q16, q17, qH1, z0e, z04])) | ((first | refine zqd _ rfl (fun hc => ?_) (fun hc => ?_) | refine zqm _ rfl (fun hc => ?_) (fun hc => ?_)) <;> (first | (cases hc; done) | ((try simp only [z03] at hc); (try (exfalso; omega))))) | refine zqa ?_ | refine zqb ?_ | refine zqk ?_ | refine zqv ?_ | refine zqy ?_ | (refine J _ ?_; clear J K))
   (refine Exists.intro _ (And.intro ?_ ⟨i + 1, rfl, ?_⟩)); rotate_left; (simp (disch := omega) only [go_sem, Nat.reduceBEq, Nat.reduceLeDiff, q2, q3, q15, q16, q17, qH0, qH1, true_and, Int.natCast_add, Int.natCast_one]); rotate_left
   ·omega
   ·refine ⟨by omega, by omega, fun j hj h => ?_⟩
    by_cases e : j = i
    ·subst e; exact hw
    ·exact qp2 j (by omega) h
  ·have hin := fun h => by
    have := hin h
    rw [zb7, if_neg (fun hh => hw ⟨h, hh⟩)] at this
    exact this
   by_cases hi : i < t.kids.length
   ·have hl := hlen hi
    have hdk := hdk hi
    have hne : z1d id t.kids[i] ≠ [] := fun hh => hw ⟨hi, hh⟩
    rw [zf5 (z1d id) hi qp2 hne]
    repeat' (first | ((first | refine zqh fun K J => ?_ | refine zqs (hin hi) ?_); (simp (disch := omega) only [go_sem, Nat.reduceBEq, ↓reduceIte, reduceCtorEq, Nat.reduceAdd, Nat.reduceMul, Nat.reduceLeDiff, q2, q3, q15, q16, q17, qH0, qH1, z0e, z04, z4l])) | ((first | refine zqd _ rfl (fun hc => ?_) (fun hc => ?_) | refine zqm _ rfl (fun hc => ?_) (fun hc => ?_)) <;> (first | (cases hc; done) | ((try simp only [z03] at hc); (try (exfalso; omega))))) | refine zqa ?_ | refine zqb ?_ | refine zqn ?_ | refine zqx ?_ | refine z4a ?_ | refine zqo ?_ | refine zqu (by (simp (disch := omega) only [go_sem]); rfl) rfl ?_ | (refine J _ ?_; clear J K))
    have he : zb7 (t :: z1d id t.kids[i]) = .rsl true 8 ((t :: z1d id t.kids[i]).map z17) := if_neg (List.cons_ne_nil _ _)
    simp only [he]
    (simp (disch := omega) only [go_sem, Nat.reduceBEq, Nat.add_comm 1])
    refine ⟨_, z22 (l := t :: z1d id t.kids[i]) (f := z06) 1 ?_ z5m z7c z0m z0d, le_nn (by simp)⟩
    (simp (disch := omega) only [go_sem])
    rw [List.append_nil, List.flatMap_cons]
   ·rw [zf4 (z1d id) qp2 (by omega)]
    repeat' (first | ((refine zqh fun K J => ?_); (simp (disch := omega) only [go_sem, Nat.reduceBEq, ↓reduceIte, q16, q17])) | ((refine zqd _ rfl (fun hc => ?_) (fun hc => ?_)) <;> (((try simp only [z03] at hc); (try (exfalso; omega))))) | refine zqc ?_ | refine zqn ?_ | refine zqv ?_ | refine zqz ?_ | refine zqp ?_ | refine zqu (by (simp (disch := omega) only [go_sem]); rfl) rfl ?_ | (refine J _ ?_; clear J K))
    exact z02 rfl (Le.refl _)
theorem PC_nn {P : Program} {f : FuncId} {sz : Nat} {els ds : List D} {r : D} (h1 : els = [] -> PC P f (.nil :: ds) r) (h2 : PC P f (.rsl true sz els :: ds) r) : PC P f (.rsl false sz els :: ds) r := by
 refine ⟨?_, h2.2.1, h2.2.2.1, fun s w vs e1 e2 e3 e4 => ?_⟩
 ·have := h2.1
  simpa only [pureD.pureL, pureD] using this
 ·simp only [relAll, rel] at e4
  obtain ⟨v, q, rfl, hv, hq⟩ := e4
  rcases hv with ⟨_, he, rfl⟩ | hv
  ·exact (h1 he).2.2.2 s w _ e1 e2 e3 (z0l (by simp only [rel]) hq)
  ·exact h2.2.2.2 s w _ e1 e2 e3 (z0l (by simp only [rel]; exact .inr hv) hq)
theorem z9p : ∀ l : List Wd, z1i 4 (l.map znl) = some (l.flatMap z5z)
 | [] => rfl
 | t :: w => by
  rw [List.map_cons, List.flatMap_cons]
  unfold z1i
  rw [z9p w]
  rfl
theorem zi8 (l : List Wd) : pureD.pureL (l.flatMap z5z) = true := z5r (fun _ => rfl) l
theorem zh3 (l : List Wd) : z1k true 4 l.length (l.flatMap z5z) = l.map znl := z98 (f := z5z) (sz := 4) (fun _ => rfl) l
theorem zi9 (l : List Wd) (hl : l.length <= 1000000000000) : PC Tryz.prog 114 [z0q l] (z0q l) := by
  refine PC_nn (fun he => ?_) ?_
  · refine z1y 2 rfl (z0x l) (z1w [1000005, 1000007] Tryz.func114 rfl (by decide +kernel) z0j (by decide +kernel) (by simp [Tryz.ntmps114]) ?_)
    show awp _ _ (Code.seq _ _) _ _
    repeat' (first | refine zqj ?_ | ((refine zqh fun K J => ?_); (simp (disch := omega) only [go_sem, Nat.reduceBEq, ↓reduceIte])) | ((refine zqd _ rfl (fun hc => ?_) (fun hc => ?_)) <;> (first | (cases hc; done) | ((try simp only [] at hc); (try (exfalso; omega))))) | refine zqg ?_ | refine zqu (by (simp (disch := omega) only [go_sem]); rfl) rfl ?_ | (refine J _ ?_; clear J K))
    exact z02 rfl (by have h2 : z0q l = .rsl false 4 [] := by unfold z0q; rw [he]
                      rw [h2]; exact Le.nil 4)
  · refine z1y 2 (by simp only [pureD.pureL, pureD, z1r (f := znl) (fun _ => rfl) l, Bool.and_self]) (z0x l) (z1w [1000005, 1000007] Tryz.func114 rfl (by decide +kernel) z0j (by decide +kernel) (by simp [Tryz.ntmps114]) ?_)
    show awp _ _ (Code.seq _ _) _ _
    repeat' (first | refine zqj ?_ | ((refine zqh fun K J => ?_); (simp (disch := omega) only [go_sem, Nat.reduceBEq, ↓reduceIte, reduceCtorEq, Nat.reduceAdd, Nat.reduceMul, z9p, zi8, zh3])) | ((refine zqd _ rfl (fun hc => ?_) (fun hc => ?_)) <;> (first | (cases hc; done) | ((try simp only [] at hc); (try (exfalso; omega))))) | refine zqb ?_ | refine zqn ?_ | refine zqu (by (simp (disch := omega) only [go_sem]); rfl) rfl ?_ | (refine J _ ?_; clear J K))
    exact z02 (z0x l) (Le.refl _)
namespace Tr
def smB (t : T) : Bool := zca (fun t l => decide (t.head.length <= 1000000) && (decide (t.words.length <= 1000000) && (decide (t.kids.length <= 1000000) && l.all id))) t
theorem zia (t : T) : smB t = true ↔ t.head.length <= 1000000 /\ t.words.length <= 1000000 /\ t.kids.length <= 1000000 /\ ∀ k ∈ t.kids, smB k = true := by
 unfold smB
 rw [z2r]
 simp only [List.all_map, Bool.and_eq_true, decide_eq_true_iff, List.all_eq_true]
 rfl
theorem zib : ∀ t : T, smB t = true -> fitB t = true := by
 refine z3u fun t ih h => ?_
 obtain ⟨h1, h2, h3, h4⟩ := (zia t).1 h
 exact (zbl t).2 ⟨by unfold maxLen; omega, by unfold maxLen; omega, by unfold maxLen; omega, fun k hk => ih k hk (h4 k hk)⟩
end Tr
theorem zq1 : ∀ t : T, smB t = true -> PC Tryz.prog 111 [z17 t] (z17 t) := by
 refine z3u fun t ih hfit => ?_
 obtain ⟨h1, h2, h3, h4⟩ := (zia t).1 hfit
 have hc1 := zi9 t.head (by omega)
 have hc2 := zi9 t.words (by omega)
 refine z1y 4 (by simp only [pureD.pureL, z05, Bool.and_self]) (z05 _) (z1w [3] Tryz.func111 rfl (by decide +kernel) z0j (by decide +kernel) (by simp [Tryz.ntmps111]) ?_)
 show awp _ _ (Code.seq _ _) _ _
 rw [show Tryz.f111.results.toList = [.cell 2 27] from rfl]
 rw [z17, z10]
 repeat' (first | refine zqj ?_ | ((first | refine zqh fun K J => ?_ | refine zqe (by decide +kernel) fun K J => ?_ | refine zqt (hc1) ?_ | refine zqt (hc2) ?_); (simp (disch := omega) only [go_sem, Nat.reduceBEq, ↓reduceIte, reduceCtorEq, Nat.reduceAdd])) | refine zqa ?_ | (refine J _ ?_; clear J K))
 (refine z37 (fun U st => ∃ (i : _), U = t.kids.length - i /\ st.t 1 = .ptr 0 0 /\ st.t 2 = .ptr 1 0 /\ st.t 3 = .osl 2 i /\ st.t 15 = z0e t.kids /\ st.t 16 = .int .i64 t.kids.length /\ st.t 17 = .int .i64 i /\ st.H 2 = some (.row 27 i ((t.kids.take i).flatMap z06)) /\ st.H 0 = some (.box 27 [.int .i64 t.id.act, .int .i64 t.id.item, .int .i64 t.id.n, .int .i64 t.kind, .str t.label, z0q t.head, z0q t.words, z0e t.kids]) /\ st.H 1 = some (.box 27 [.int .i64 0, .int .i64 0, .int .i64 0, .int .i64 0, .str ByteArray.empty, .nil, .nil, .nil]) /\ (i <= t.kids.length) /\ (3 <= st.nx)) ?_ ?_); rotate_left; (rintro U st ⟨i, rfl, q1, q2, q3, q15, q16, q17, qH2, qH0, qH1, qp0, qp1⟩); rotate_left
 ·(refine ⟨_, 0, rfl, ?_⟩); (simp (disch := omega) only [go_sem, Nat.reduceBEq, Nat.reduceLeDiff, true_and, and_true, and_self, Int.natCast_zero, List.flatMap_nil, z0e])
  all_goals rfl
 have hin := fun (h : i < t.kids.length) => ih t.kids[i] (List.getElem_mem h) (h4 _ (List.getElem_mem h))
 repeat' (first | ((first | refine zqh fun K J => ?_ | refine zqr fun K J => ?_ | refine zqs (hin (by omega)) ?_); (simp (disch := omega) only [go_sem, Nat.reduceBEq, ↓reduceIte, reduceCtorEq, Nat.reduceAdd, Nat.reduceMul, Nat.reduceLeDiff, Nat.reduceLT, q1, q2, q3, q15, q16, q17, qH2, qH0, qH1, z0e])) | ((refine zqd _ rfl (fun hc => ?_) (fun hc => ?_)) <;> (((try simp only [z03] at hc); (try (exfalso; omega))))) | refine zqa ?_ | refine zqb ?_ | refine zqc ?_ | refine zqn ?_ | refine zqv ?_ | refine zqy ?_ | refine zqz ?_ | refine zqp ?_ | refine zqu (by (simp (disch := omega) only [go_sem, Nat.reduceBEq, ↓reduceIte, Nat.reduceAdd, Nat.reduceLeDiff, q2, qH1]); rfl) rfl ?_ | (refine J _ ?_; clear J K))
 ·have htk := List.take_succ_eq_append_getElem (l := t.kids) (i := i) (by omega)
  (refine Exists.intro _ (And.intro ?_ ⟨i + 1, rfl, ?_⟩)); rotate_left; (simp (disch := omega) only [go_sem, Nat.reduceBEq, Nat.reduceLeDiff, q1, q2, q3, q15, q16, q17, qH2, qH0, qH1, true_and, Int.natCast_add, Int.natCast_one, List.flatMap_append, List.flatMap_cons, List.flatMap_nil, List.append_nil, htk]); rotate_left
  all_goals omega
 have hi : i = t.kids.length := by omega
 subst hi
 rw [List.take_length] at qH2
 refine z4h (zeg (k := 3) (by simp [pureD.pureL, pureD]) ?_)
 simp only [z0e]
 refine z0o (z0p 2 rfl) (z0o (z0p 2 rfl) (z0o (z0p 2 rfl) (z0o (z0p 2 rfl) (z0o (z0p 2 rfl) (z0o (z0p 2 (z0x _)) (z0o (z0p 2 (z0x _)) (z0o ?_ z6j)))))))
 refine z22 (f := z06) (l := t.kids) 1 ?_ z5m z7c z0m z0d
 (simp (disch := omega) only [go_sem, Nat.reduceBEq, qH2])
namespace Tr
def szB (t : T) : Bool := zca (fun t l => decide (t.label.size <= 1000000) && (decide (t.head.length <= 1000000) && ((t.head.all fun w => decide (w.text.size <= 1000000)) && (decide (t.words.length <= 1000000) && ((t.words.all fun w => decide (w.text.size <= 1000000)) && (decide (t.kids.length <= 1000000) && l.all id)))))) t
theorem z1l (t : T) : szB t = true ↔ t.label.size <= 1000000 /\ t.head.length <= 1000000 /\ (∀ w ∈ t.head, w.text.size <= 1000000) /\ t.words.length <= 1000000 /\ (∀ w ∈ t.words, w.text.size <= 1000000) /\ t.kids.length <= 1000000 /\ ∀ k ∈ t.kids, szB k = true := by
 unfold szB
 rw [z2r]
 simp only [List.all_map, Bool.and_eq_true, decide_eq_true_iff, List.all_eq_true]
 rfl
theorem zr5 : ∀ t : T, szB t = true -> smB t = true := by
 refine z3u fun t ih h => ?_
 obtain ⟨_, h1, _, h2, _, h3, h4⟩ := (z1l t).1 h
 exact (zia t).2 ⟨h1, h2, h3, fun k hk => ih k hk (h4 k hk)⟩
theorem sz_fit (t : T) (h : szB t = true) : fitB t = true := zib t (zr5 t h)
def z1j : ByteArray := ⟨#[]⟩
def z4b (t : T) : Bool := decide (0 <= t.kind /\ t.kind <= 7) && (decide (t.kids.length <= 64) && (zn3 t.head && (zn3 t.words && (if t.kind = 0 then decide (t.label = z1j) && (decide (t.head.length = 0) && decide (t.words.length = 0)) else z3j t.label))))
def z60 (t : T) : Int × ByteArray := (t.kind, t.label)
def z2x (t : T) : Bool := zca (fun t l => z4b t && ((t.kids.all fun k => z20 t.kind k.kind) && (l.all id && decide ((t.kids.map z60).Nodup)))) t
theorem z53 (t : T) : z2x t = (z4b t && ((t.kids.all fun k => z20 t.kind k.kind) && (t.kids.all z2x && decide ((t.kids.map z60).Nodup)))) := by
 unfold z2x
 rw [z2r, List.all_map]; rfl
theorem zbi {α β : Type} {f : α -> β} {l : List α} {k : Nat} (hk : k < l.length) (h : ((l.take k).map f).Nodup) (h2 : ∀ j, (hj : j < k) -> f (l[j]'(by omega)) ≠ f l[k]) : ((l.take (k + 1)).map f).Nodup := by
 rw [List.take_succ_eq_append_getElem hk, List.map_append, List.nodup_append]
 refine ⟨h, by simp, fun a ha b hb => ?_⟩
 simp only [List.map_cons, List.map_nil, List.mem_singleton] at hb
 subst hb
 obtain ⟨x, hx, rfl⟩ := List.mem_map.1 ha
 obtain ⟨j, hj, rfl⟩ := List.getElem_of_mem hx
 rw [List.length_take] at hj
 rw [List.getElem_take]
 exact h2 j (by omega)
theorem zh5 {α β : Type} {f : α -> β} {l : List α} {j k : Nat} (hj : j < k) (hk : k < l.length) (h : f (l[j]'(by omega)) = f l[k]) : ¬ (l.map f).Nodup := fun hn => by
 have h2 := (List.pairwise_iff_getElem.1 hn) j k (by simp; omega) (by simpa using hk) hj
 simp only [List.getElem_map] at h2
 exact h2 h
end Tr
theorem zv2 (p k : Int) : PC Tryz.prog 75 [.int .i64 p, .int .i64 k] (.bool (z20 p k)) := by
 refine z1y 1 rfl rfl (z1w [] Tryz.func75 rfl (by decide +kernel) z0j (by decide +kernel) (by simp [Tryz.ntmps75]) ?_)
 show awp _ _ (Code.seq _ _) _ _
 by_cases hk : 0 <= p /\ p < 8
 ·rcases zq2 hk with rfl | rfl | rfl | rfl | rfl | rfl | rfl | rfl
  all_goals clear hk
  all_goals (repeat' (first | refine zqj ?_ | ((refine zqh fun K J => ?_); (simp (disch := omega) only [go_sem, Nat.reduceBEq, ↓reduceIte, Int.reduceEq])) | ((first | refine zqd _ rfl (fun hc => ?_) (fun hc => ?_) | refine zqm _ rfl (fun hc => ?_) (fun hc => ?_)) <;> (first | (cases hc; done) | ((try simp only [] at hc); (try (exfalso; omega))))) | refine zqa ?_ | refine zqb ?_ | refine zqk ?_ | refine zqn ?_ | refine zqv ?_ | refine zqx ?_ | refine zqy ?_ | refine z4a ?_ | refine zqu (by (simp (disch := omega) only [go_sem]); rfl) rfl ?_ | (refine J _ ?_; clear J K) | (refine zqf (fun hb => ?_) (fun hb => ?_) <;> (have hb2 := hb; try simp only [z03] at hb2) <;> ((first | have F := eq_false hb2 | have F := eq_true hb2); (simp (disch := omega) only [go_sem, Nat.reduceBEq, ↓reduceIte, F]); clear hb F; (try (exfalso; omega))))))
  all_goals refine z00 ?_
  all_goals (simp_all [z20, belowL]; done)
 ·rw [show z20 p k = false from if_neg hk]
  repeat' (first | refine zqj ?_ | ((refine zqh fun K J => ?_); (simp (disch := omega) only [go_sem, Nat.reduceBEq, ↓reduceIte])) | ((first | refine zqd _ rfl (fun hc => ?_) (fun hc => ?_) | refine zqm _ rfl (fun hc => ?_) (fun hc => ?_)) <;> (((try simp only [z03] at hc); (try (exfalso; omega))))) | refine zqa ?_ | refine zqk ?_ | refine zqn ?_ | refine zqv ?_ | refine zqy ?_ | refine zqu (by (simp (disch := omega) only [go_sem]); rfl) rfl ?_ | (refine J _ ?_; clear J K))
  all_goals exact z00 rfl
theorem zr6 (t : T) (hs : szB t = true) : PC Tryz.prog 74 [z17 t] (.bool (z4b t)) := by
 obtain ⟨h0, h1, g1, h2, g2, h3, _⟩ := (z1l t).1 hs
 have r1 := ztg t.head h1 (fun w hw => by have := g1 w hw; unfold maxLen; omega)
 have r2 := ztg t.words h2 (fun w hw => by have := g2 w hw; unfold maxLen; omega)
 have r3 := zdg t.label (by unfold maxLen; omega)
 refine z1y 1 (by simp only [pureD.pureL, z05, Bool.and_self]) rfl (z1w [] Tryz.func74 rfl (by decide +kernel) z0j (by decide +kernel) (by simp [Tryz.ntmps74]) ?_)
 show awp _ _ (Code.seq _ _) _ _
 repeat' (first | refine zqj ?_ | ((first | refine zqh fun K J => ?_ | refine zqs (r1) ?_ | refine zqs (r2) ?_ | refine zqs (r3) ?_); (simp (disch := omega) only [go_sem, Nat.reduceBEq, ↓reduceIte, reduceCtorEq, Nat.reduceAdd])) | ((refine zqd _ rfl (fun hc => ?_) (fun hc => ?_)) <;> (first | (cases hc; done) | ((try simp only [z03] at hc); (try (exfalso; omega))))) | refine zqb ?_ | refine zqg ?_ | refine zqn ?_ | refine zqu (by (simp (disch := omega) only [go_sem]); rfl) rfl ?_ | (refine J _ ?_; clear J K) | (refine zqf (fun hb => ?_) (fun hb => ?_) <;> (have hb2 := hb; try simp only [z03] at hb2) <;> ((first | have F : (_ : Bool) = _ := hb2 | have F := eq_false hb2 | have F := eq_true hb2); (simp (disch := omega) only [go_sem, Nat.reduceBEq, ↓reduceIte, reduceCtorEq, Nat.reduceAdd, F, z0q, z0e]); clear hb F; (try (exfalso; omega)))))
 all_goals refine z00 ?_
 all_goals unfold z4b
 all_goals first
  | (rw [decide_eq_false (by omega)]; rfl)
  | (rw [decide_eq_true (by omega), decide_eq_false (by omega)]; rfl)
  | (rw [decide_eq_true (by omega), decide_eq_true (by omega)]; simp_all [z1j]; done)
  | (rw [decide_eq_true (show 0 <= t.kind /\ t.kind <= 7 by omega), decide_eq_true (show t.kids.length <= 64 by omega)]; simp_all [z1j]; done)
  | skip
theorem zv3 : ∀ t : T, szB t = true -> PC Tryz.prog 47 [z17 t] (.bool (z2x t)) := by
 refine z3u fun t ih hs => ?_
 have ha := zr6 t hs
 obtain ⟨h0, h1, g1, h2, g2, h3, h4⟩ := (z1l t).1 hs
 rw [z53]
 refine z1y 1 (by simp only [pureD.pureL, z05, Bool.and_self]) rfl (z1w [] Tryz.func47 rfl (by decide +kernel) z0j (by decide +kernel) (by simp [Tryz.ntmps47]) ?_)
 show awp _ _ (Code.seq _ _) _ _
 repeat' (first | refine zqj ?_ | ((first | refine zqh fun K J => ?_ | refine zqs (ha) ?_); (simp (disch := omega) only [go_sem, Nat.reduceBEq, ↓reduceIte, Nat.reduceAdd, Nat.reduceLeDiff])) | ((refine zqd _ rfl (fun hc => ?_) (fun hc => ?_)) <;> (((try simp only [z03] at hc); (try (exfalso; omega))))) | refine zqa ?_ | refine zqb ?_ | refine zqg ?_ | refine zqu (by (simp (disch := omega) only [go_sem]); rfl) rfl ?_ | (refine J _ ?_; clear J K))
 ·exact z00 (by simp_all)
 rw [‹z4b t = true›, Bool.true_and]
 (refine z37 (fun U st => ∃ (i : _), U = t.kids.length - i /\ st.t 1 = .ptr 0 0 /\ st.t 3 = .int .i64 i /\ st.H 0 = some (.box 27 (z06 t)) /\ (i <= t.kids.length) /\ (1 <= st.nx) /\ ((t.kids.take i).all (fun k => z20 t.kind k.kind) = true) /\ ((t.kids.take i).all z2x = true) /\ (((t.kids.take i).map z60).Nodup)) ?_ ?_); rotate_left; (rintro U st ⟨i, rfl, q1, q3, qH0, qp0, qp1, qp2, qp3, qp4⟩); rotate_left
 ·(refine ⟨_, 0, rfl, ?_⟩); (simp (disch := omega) only [go_sem, Nat.reduceBEq, Nat.reduceLeDiff, true_and, Int.natCast_zero, List.map_nil])
  all_goals simp
 have hin := fun (h : i < t.kids.length) => ih t.kids[i] (List.getElem_mem h) (h4 _ (List.getElem_mem h))
 have hn := fun (h : i < t.kids.length) => zv2 t.kind t.kids[i].kind
 repeat' (first | refine zqj ?_ | ((first | refine zqh fun K J => ?_ | refine zqe (by decide +kernel) fun K J => ?_ | refine zqt (hn (by omega)) ?_ | refine zqt (hin (by omega)) ?_); (simp (disch := omega) only [go_sem, Nat.reduceBEq, ↓reduceIte, reduceCtorEq, Nat.reduceAdd, q1, q3, qH0, z0e])) | ((refine zqd _ rfl (fun hc => ?_) (fun hc => ?_)) <;> (first | (cases hc; done) | ((try simp only [z03] at hc); (try (exfalso; omega))))) | refine zqa ?_ | refine zqi ?_ | refine zqb ?_ | refine zqg ?_ | refine zqc ?_ | refine zqn ?_ | refine zqv ?_ | refine zqx ?_ | refine zqz ?_ | refine z4a ?_ | refine zqp ?_ | refine zqo ?_ | refine zqu (by (simp (disch := omega) only [go_sem]); rfl) rfl ?_ | (refine J _ ?_; clear J K) | (refine zqf (fun hb => ?_) (fun hb => ?_) <;> (have hb2 := hb; try simp only [z03] at hb2) <;> ((have F : (_ : Bool) = _ := hb2); (simp (disch := omega) only [go_sem, Nat.reduceBEq, ↓reduceIte, reduceCtorEq, Nat.reduceAdd, F, q1, q3, qH0, z0e]); clear hb F; (try (exfalso; omega)))))
 ·exact z00 (by rw [z3y (f := z2x) (k := i) (by omega) (by assumption), Bool.false_and, Bool.and_false])
 ·(refine z37 (fun U st => ∃ (k : _), U = i - k /\ st.t 1 = .ptr 0 0 /\ st.t 3 = .int .i64 i /\ st.t 4 = .int .i64 k /\ st.H 0 = some (.box 27 (z06 t)) /\ (k <= i) /\ (1 <= st.nx) /\ (∀ j, (hj : j < k) -> (h : j < t.kids.length) -> (h2 : i < t.kids.length) -> z60 t.kids[j] ≠ z60 t.kids[i])) ?_ ?_); rotate_left; (rintro U st ⟨k, rfl, r1, r3, r4, rH0, rp0, rp1, rp2⟩); rotate_left
  ·(refine ⟨_, 0, rfl, ?_⟩); (simp (disch := omega) only [go_sem, Nat.reduceBEq, q1, q3, qH0, true_and, Int.natCast_zero])
   exact ⟨by omega, fun j hj => by omega⟩
  repeat' (first | refine zqj ?_ | ((first | refine zqh fun K J => ?_ | refine zqe (by decide +kernel) fun K J => ?_ | refine zqr fun K J => ?_); (simp (disch := omega) only [go_sem, Nat.reduceBEq, ↓reduceIte, reduceCtorEq, Nat.reduceAdd, r1, r3, r4, rH0, z0e])) | ((first | refine zqd _ rfl (fun hc => ?_) (fun hc => ?_) | refine zqm _ rfl (fun hc => ?_) (fun hc => ?_)) <;> (first | (cases hc; done) | ((try simp only [z03] at hc); (try (exfalso; omega))))) | refine zqa ?_ | refine zqb ?_ | refine zqc ?_ | refine zqk ?_ | refine zqn ?_ | refine zqv ?_ | refine zqx ?_ | refine zqy ?_ | refine zqz ?_ | refine z4a ?_ | refine zqp ?_ | refine zqo ?_ | refine zqu (by (simp (disch := omega) only [go_sem]); rfl) rfl ?_ | (refine J _ ?_; clear J K) | (refine zqf (fun hb => ?_) (fun hb => ?_) <;> (have hb2 := hb; try simp only [z03] at hb2) <;> ((first | have F := eq_false hb2 | have F := eq_true hb2); (simp (disch := omega) only [go_sem, Nat.reduceBEq, ↓reduceIte, reduceCtorEq, Nat.reduceAdd, F, r1, r3, r4, rH0, z0e]); clear hb F; (try (exfalso; omega)))))
  ·refine z00 ?_
   have hno := zh5 (f := z60) (l := t.kids) (j := k) (k := i) (by omega) (by omega) (by unfold z60; rw [‹t.kids[k].kind = t.kids[i].kind›, ‹t.kids[k].label = t.kids[i].label›])
   rw [decide_eq_false hno, Bool.and_false, Bool.and_false]
  ·(refine Exists.intro _ (And.intro ?_ ⟨k + 1, rfl, ?_⟩)); rotate_left; (simp (disch := omega) only [go_sem, Nat.reduceBEq, r1, r3, r4, rH0, true_and, Int.natCast_add, Int.natCast_one]); rotate_left
   ·omega
   ·refine ⟨by omega, by omega, fun j hj h h2 => ?_⟩
    by_cases e : j = k
    ·subst e; exact fun h => absurd (congrArg Prod.snd h) (by assumption)
    ·exact rp2 j (by omega) h h2
  ·(refine Exists.intro _ (And.intro ?_ ⟨k + 1, rfl, ?_⟩)); rotate_left; (simp (disch := omega) only [go_sem, Nat.reduceBEq, r1, r3, r4, rH0, true_and, Int.natCast_add, Int.natCast_one]); rotate_left
   ·omega
   ·refine ⟨by omega, by omega, fun j hj h h2 => ?_⟩
    by_cases e : j = k
    ·subst e; exact fun h => absurd (congrArg Prod.fst h) (by assumption)
    ·exact rp2 j (by omega) h h2
  ·skip
   have hi : i < t.kids.length := by omega
   (refine Exists.intro _ (And.intro ?_ ⟨i + 1, rfl, ?_⟩)); rotate_left; (simp (disch := omega) only [go_sem, Nat.reduceBEq, true_and, Int.natCast_add, Int.natCast_one, r1, r3, rH0]); rotate_left
   ·omega
   ·exact ⟨by omega, by omega, z2g (by omega) qp2 (by assumption), z2g (by omega) qp3 (by assumption), zbi hi qp4 (fun j hj => rp2 j (by omega) (by omega) hi)⟩
 ·exact z00 (by rw [z3y (f := fun k : T => z20 t.kind k.kind) (k := i) (by omega) (by assumption), Bool.false_and])
 ·refine z00 ?_
  rw [z2o (by omega) qp2, z2o (by omega) qp3]
  rw [List.take_of_length_le (by omega)] at qp4
  rw [decide_eq_true qp4]; rfl
namespace Tr
theorem z3w (t : T) : cntT t = 1 + (t.kids.flatMap z09).length := by unfold cntT; rw [z1x, List.length_cons, Nat.add_comm]
theorem z2z (l : List T) (i : Nat) : ((l.take i).flatMap z09).length <= (l.flatMap z09).length := by
 have : l.flatMap z09 = (l.take i).flatMap z09 ++ (l.drop i).flatMap z09 := by rw [<- List.flatMap_append, List.take_append_drop]
 rw [this, List.length_append]; omega
theorem z4c (l : List T) (i : Nat) (h : i < l.length) : ((l.take (i + 1)).flatMap z09).length = ((l.take i).flatMap z09).length + cntT l[i] := by
 rw [List.take_succ_eq_append_getElem h, List.flatMap_append, List.length_append]; simp [cntT]
theorem z88 {t k : T} (h : k ∈ t.kids) : 1 + cntT k <= cntT t := by
 rw [z3w t]
 obtain ⟨i, hi, rfl⟩ := List.getElem_of_mem h
 have h1 := z4c t.kids i hi
 have h2 := z2z t.kids (i + 1)
 omega
theorem zh6 (t : T) : 1 <= cntT t := by rw [z3w]; omega
theorem z1g (t : T) : z0c t = t.id :: t.kids.flatMap z0c := by
 unfold z0c
 rw [z1x, List.map_cons, List.map_flatMap]
theorem z6g (t : T) : (z0c t).length = cntT t := by unfold z0c cntT; rw [List.length_map]
def zxb (t : T) : Bool := (z0c t).all (fun i => decide (i = Idv.zero)) || (decide ((t.id = Idv.zero) ↔ (t.kind = 0)) && decide ((z0c t).Nodup))
def z71 (t : T) : Bool := z2x t && (decide (depT t <= 8) && (decide (cntT t <= 1024) && zxb t))
end Tr
theorem zr7 : ∀ t : T, szB t = true -> cntT t <= 1000000000 -> PC Tryz.prog 49 [z17 t] (.int .i64 (cntT t)) := by
 refine z3u fun t ih hs hc => ?_
 obtain ⟨h0, h1, g1, h2, g2, h3, h4⟩ := (z1l t).1 hs
 have hce := z3w t
 refine z1y 1 (by simp only [pureD.pureL, z05, Bool.and_self]) rfl (z1w [] Tryz.func49 rfl (by decide +kernel) z0j (by decide +kernel) (by simp [Tryz.ntmps49]) ?_)
 show awp _ _ (Code.seq _ _) _ _
 repeat' (first | refine zqj ?_ | ((refine zqh fun K J => ?_); (simp (disch := omega) only [go_sem])) | refine zqa ?_ | (refine J _ ?_; clear J K))
 (refine z37 (fun U st => ∃ (i : _), U = t.kids.length - i /\ st.t 1 = .ptr 0 0 /\ st.t 3 = .int .i64 (1 + ((t.kids.take i).flatMap z09).length : Nat) /\ st.t 4 = .int .i64 i /\ st.H 0 = some (.box 27 (z06 t)) /\ (i <= t.kids.length) /\ (1 <= st.nx)) ?_ ?_); rotate_left; (rintro U st ⟨i, rfl, q1, q3, q4, qH0, qp0, qp1⟩); rotate_left
 ·(refine ⟨_, 0, rfl, ?_⟩); (simp (disch := omega) only [go_sem, Nat.reduceBEq, Nat.reduceLeDiff, and_self, Int.natCast_one, Int.natCast_zero, List.flatMap_nil])
  try simp
 have hin := fun (h : i < t.kids.length) => ih t.kids[i] (List.getElem_mem h) (h4 _ (List.getElem_mem h)) (by have := z88 (List.getElem_mem h); omega)
 have hb := z2z t.kids (i + 1)
 have hsu := fun (h : i < t.kids.length) => z4c t.kids i h
 repeat' (first | refine zqj ?_ | ((first | refine zqh fun K J => ?_ | refine zqr fun K J => ?_ | refine zqs (hin (by omega)) ?_); (simp (disch := omega) only [go_sem, Nat.reduceBEq, ↓reduceIte, reduceCtorEq, Nat.reduceAdd, q1, q3, q4, qH0, z0e])) | ((refine zqd _ rfl (fun hc => ?_) (fun hc => ?_)) <;> (((try simp only [z03] at hc); (try (exfalso; omega))))) | refine zqa ?_ | refine zqb ?_ | refine zqc ?_ | refine zqn ?_ | refine zqv ?_ | refine zqy ?_ | refine zqz ?_ | refine zqp ?_ | refine zqu (by (simp (disch := omega) only [go_sem]); rfl) rfl ?_ | (refine J _ ?_; clear J K))
 ·have hsu := hsu (by omega)
  (refine Exists.intro _ (And.intro ?_ ⟨i + 1, rfl, ?_⟩)); rotate_left; (simp (disch := omega) only [go_sem, Nat.reduceBEq, q1, q3, q4, qH0, true_and, Int.natCast_add, Int.natCast_one, hsu]); rotate_left
  ·omega
  ·exact ⟨by omega, by omega, by omega⟩
 ·have hi : i = t.kids.length := by omega
  subst hi
  refine z33 ?_
  rw [List.take_length, hce]
theorem zr8 : ∀ t : T, szB t = true -> depT t <= 1000000000 -> PC Tryz.prog 48 [z17 t] (.int .i64 (depT t)) := by
 refine z3u fun t ih hs hd => ?_
 obtain ⟨h0, h1, g1, h2, g2, h3, h4⟩ := (z1l t).1 hs
 refine z1y 1 (by simp only [pureD.pureL, z05, Bool.and_self]) rfl (z1w [] Tryz.func48 rfl (by decide +kernel) z0j (by decide +kernel) (by simp [Tryz.ntmps48]) ?_)
 show awp _ _ (Code.seq _ _) _ _
 repeat' (first | refine zqj ?_ | ((refine zqh fun K J => ?_); (simp (disch := omega) only [go_sem])) | refine zqa ?_ | (refine J _ ?_; clear J K))
 (refine z37 (fun U st => ∃ (i : _), U = t.kids.length - i /\ st.t 1 = .ptr 0 0 /\ st.t 3 = .int .i64 (z9n ((t.kids.take i).map depT) : Nat) /\ st.t 4 = .int .i64 i /\ st.H 0 = some (.box 27 (z06 t)) /\ (i <= t.kids.length) /\ (1 <= st.nx)) ?_ ?_); rotate_left; (rintro U st ⟨i, rfl, q1, q3, q4, qH0, qp0, qp1⟩); rotate_left
 ·(refine ⟨_, 0, rfl, ?_⟩); (simp (disch := omega) only [go_sem, Nat.reduceBEq, Nat.reduceLeDiff, true_and, and_true, and_self, Int.natCast_zero, List.map_nil])
  rfl
 have hin := fun (h : i < t.kids.length) => ih t.kids[i] (List.getElem_mem h) (h4 _ (List.getElem_mem h)) (by have := z3s (List.getElem_mem h); omega)
 have hk := fun (h : i < t.kids.length) => z3s (t := t) (List.getElem_mem h)
 have hsn : ∀ h : i < t.kids.length, z9n ((t.kids.take (i + 1)).map depT) = max (z9n ((t.kids.take i).map depT)) (1 + depT t.kids[i]) := fun h => by
  rw [List.take_succ_eq_append_getElem h, List.map_append, List.map_cons, List.map_nil, zk2]
 repeat' (first | refine zqj ?_ | ((first | refine zqh fun K J => ?_ | refine zqr fun K J => ?_ | refine zqs (hin (by omega)) ?_); (simp (disch := omega) only [go_sem, Nat.reduceBEq, ↓reduceIte, reduceCtorEq, Nat.reduceAdd, q1, q3, q4, qH0, z0e])) | ((refine zqd _ rfl (fun hc => ?_) (fun hc => ?_)) <;> (((try simp only [z03] at hc); (try (exfalso; omega))))) | refine zqa ?_ | refine zqb ?_ | refine zqc ?_ | refine zqn ?_ | refine zqv ?_ | refine zqy ?_ | refine zqz ?_ | refine zqp ?_ | refine zqu (by (simp (disch := omega) only [go_sem]); rfl) rfl ?_ | (refine J _ ?_; clear J K))
 ·have hs := hsn (by omega)
  (refine Exists.intro _ (And.intro ?_ ⟨i + 1, rfl, ?_⟩)); rotate_left; (simp (disch := omega) only [go_sem, Nat.reduceBEq, q1, q3, q4, qH0, true_and, Int.natCast_add, Int.natCast_one, hs]); rotate_left
  ·omega
  ·have := hk (by omega); refine ⟨?_, by omega⟩
   rw [zed (by omega)]; omega
 ·refine z33 ?_
  have hi : i = t.kids.length := by omega
  subst hi
  rw [List.take_length, <- z42]
theorem z9q : ∀ l : List Idv, z1i 3 (l.map z3h) = some (l.flatMap z04)
 | [] => rfl
 | t :: w => by
  rw [List.map_cons, List.flatMap_cons]
  unfold z1i
  rw [z9q w]
  rfl
theorem pc_All : ∀ t : T, szB t = true -> cntT t <= 1000000000 -> PC Tryz.prog 76 [z17 t] (z2i (z0c t)) := by
 refine z3u fun t ih hs hc => ?_
 obtain ⟨h0, h1, g1, h2, g2, h3, h4⟩ := (z1l t).1 hs
 have hce := z3w t
 have hle0 := z6g t
 refine z1y 2 (by simp only [pureD.pureL, z05, Bool.and_self]) (z4q _) (z1w [7] Tryz.func76 rfl (by decide +kernel) z0j (by decide +kernel) (by simp [Tryz.ntmps76]) ?_)
 show awp _ _ (Code.seq _ _) _ _
 repeat' (first | refine zqj ?_ | ((refine zqh fun K J => ?_); (simp (disch := omega) only [go_sem, Nat.reduceBEq, ↓reduceIte, reduceCtorEq, Nat.reduceAdd, Nat.reduceMul, Nat.reduceLeDiff])) | refine zqa ?_ | (refine J _ ?_; clear J K))
 (refine z37 (fun U st => ∃ (i : _), U = t.kids.length - i /\ st.t 1 = .ptr 0 0 /\ st.t 3 = .osl 1 (1 + ((t.kids.take i).flatMap z09).length) /\ st.t 4 = .int .i64 i /\ st.H 0 = some (.box 27 (z06 t)) /\ st.H 1 = some (.row 23 (1 + ((t.kids.take i).flatMap z09).length) (([t.id] ++ (t.kids.take i).flatMap z0c).flatMap z04)) /\ (i <= t.kids.length) /\ (2 <= st.nx)) ?_ ?_); rotate_left; (rintro U st ⟨i, rfl, q1, q3, q4, qH0, qH1, qp0, qp1⟩); rotate_left
 ·(refine ⟨_, 0, rfl, ?_⟩); (simp (disch := omega) only [go_sem, Nat.reduceBEq, Nat.reduceLeDiff, true_and, and_true, and_self, Int.natCast_zero, List.flatMap_nil, List.append_nil])
  try simp [z04]
 have hin := fun (h : i < t.kids.length) => ih t.kids[i] (List.getElem_mem h) (h4 _ (List.getElem_mem h)) (by have := z88 (List.getElem_mem h); omega)
 have hb := z2z t.kids (i + 1)
 by_cases hi : i < t.kids.length
 ·have hsu := z4c t.kids i hi
  have hil := z6g t.kids[i]
  have htk : (t.kids.take (i + 1)).flatMap z0c = (t.kids.take i).flatMap z0c ++ z0c t.kids[i] := by
   rw [List.take_succ_eq_append_getElem hi, List.flatMap_append]; simp
  repeat' (first | refine zqj ?_ | ((first | refine zqh fun K J => ?_ | refine zqr fun K J => ?_ | refine zqs (hin hi) ?_); (simp (disch := omega) only [go_sem, Nat.reduceBEq, ↓reduceIte, reduceCtorEq, Nat.reduceAdd, q1, q3, q4, qH0, qH1, z0e, z2i, z9q])) | ((refine zqd _ rfl (fun hc => ?_) (fun hc => ?_)) <;> (((try simp only [z03] at hc); (try (exfalso; omega))))) | refine zqa ?_ | refine zqb ?_ | refine zqv ?_ | refine zqy ?_ | (refine J _ ?_; clear J K))
  (refine Exists.intro _ (And.intro ?_ ⟨i + 1, rfl, ?_⟩)); rotate_left; (simp (disch := omega) only [go_sem, Nat.reduceBEq, q1, q3, q4, qH0, qH1, true_and, Int.natCast_add, Int.natCast_one, List.flatMap_append, List.flatMap_cons, List.cons_append, List.nil_append, hsu, htk, hil, Nat.add_assoc, List.append_assoc]); rotate_left
  ·omega
  ·omega
 ·repeat' (first | refine zqj ?_ | ((refine zqh fun K J => ?_); (simp (disch := omega) only [go_sem, Nat.reduceBEq, ↓reduceIte, reduceCtorEq, Nat.reduceAdd, q1, q3, q4, qH0, z0e])) | ((refine zqd _ rfl (fun hc => ?_) (fun hc => ?_)) <;> (((try simp only [z03] at hc); (try (exfalso; omega))))) | refine zqc ?_ | refine zqn ?_ | refine zqv ?_ | refine zqz ?_ | refine zqp ?_ | refine zqu (by (simp (disch := omega) only [go_sem]); rfl) rfl ?_ | (refine J _ ?_; clear J K))
  have hi2 : i = t.kids.length := by omega
  subst hi2
  rw [List.take_length] at qH1
  have hle : 1 + (t.kids.flatMap z09).length = (z0c t).length := by rw [hle0, hce]
  rw [hle, List.singleton_append, <- z1g] at qH1
  rw [List.take_length, hle]
  refine z4h (z22 0 ?_ z6e z9z (fun _ => rfl) (fun _ => rfl))
  simp (disch := omega) only [go_sem, qH1]
namespace Tr
theorem zad {α : Type} (f : α -> Bool) {l : List α} {k : Nat} (h : k < l.length) : (l.take (k + 1)).all f = ((l.take k).all f && f l[k]) := by
 rw [List.take_succ_eq_append_getElem h, List.all_append, List.all_cons, List.all_nil, Bool.and_true]
theorem zkr {α : Type} {l : List α} {k : Nat} (hk : k < l.length) (h : (l.take k).Nodup) (h2 : ∀ j, (hj : j < k) -> l[j]'(by omega) ≠ l[k]) : (l.take (k + 1)).Nodup := by
 have := zbi (f := id) hk (by simpa using h) h2
 simpa using this
theorem zre {α : Type} {l : List α} {j k : Nat} (hj : j < k) (hk : k < l.length) (h : l[j]'(by omega) = l[k]) : ¬ l.Nodup := fun hn => by
 have := zh5 (f := id) hj hk h
 simp at this; exact this hn
end Tr
theorem zyo (t : T) (hs : szB t = true) (hc : cntT t <= 1000000000) : PC Tryz.prog 50 [z17 t] (.bool (zxb t)) := by
 have ha := pc_All t hs hc
 have hl := z6g t
 have hp := zh6 t
 have hid0 : ∀ h, (z0c t)[Int.toNat 0]'h = t.id := fun h => by simp [z1g]
 refine z1y 1 (by simp only [pureD.pureL, z05, Bool.and_self]) rfl (z1w [] Tryz.func50 rfl (by decide +kernel) z0j (by decide +kernel) (by simp [Tryz.ntmps50]) ?_)
 show awp _ _ (Code.seq _ _) _ _
 repeat' (first | refine zqj ?_ | ((first | refine zqh fun K J => ?_ | refine zqs (ha) ?_); (simp (disch := omega) only [go_sem, Nat.reduceBEq, ↓reduceIte, Nat.reduceAdd, Nat.reduceLeDiff])) | refine zqa ?_ | (refine J _ ?_; clear J K))
 (refine z37 (fun U st => ∃ (i : _), U = (z0c t).length - i /\ st.t 1 = .ptr 0 0 /\ st.t 3 = z2i (z0c t) /\ st.t 4 = .bool (((z0c t).take i).all fun i => decide (i = Idv.zero)) /\ st.t 5 = .int .i64 i /\ st.H 0 = some (.box 27 (z06 t)) /\ (i <= (z0c t).length) /\ (1 <= st.nx)) ?_ ?_); rotate_left; (rintro U st ⟨i, rfl, q1, q3, q4, q5, qH0, qp0, qp1⟩); rotate_left
 ·(refine ⟨_, 0, rfl, ?_⟩); (simp (disch := omega) only [go_sem, Nat.reduceBEq, Nat.reduceLeDiff, true_and, and_true, and_self, Int.natCast_zero, z2i])
  try simp
 repeat' (first | refine zqj ?_ | ((first | refine zqh fun K J => ?_ | refine zqe (by decide +kernel) fun K J => ?_ | refine zqr fun K J => ?_); (simp (disch := omega) only [go_sem, Nat.reduceBEq, ↓reduceIte, reduceCtorEq, Nat.reduceAdd, q1, q3, q4, q5, qH0, z2i, hid0])) | ((refine zqd _ rfl (fun hc => ?_) (fun hc => ?_)) <;> (((try simp only [z03] at hc); (try (exfalso; omega))))) | refine zqa ?_ | refine zqb ?_ | refine zqg ?_ | refine zqc ?_ | refine zqv ?_ | refine zqy ?_ | refine zqz ?_ | refine zqp ?_ | refine zqu (by (simp (disch := omega) only [go_sem]); rfl) rfl ?_ | (refine J _ ?_; clear J K) | (refine zqf (fun hb => ?_) (fun hb => ?_) <;> (have hb2 := hb; try simp only [z03] at hb2) <;> ((have F : (_ : Bool) = _ := hb2); (simp (disch := omega) only [go_sem, Nat.reduceBEq, ↓reduceIte, reduceCtorEq, Nat.reduceAdd, hb, q3, q5, z2i]); clear hb F; (try (exfalso; omega)))))
 ·(refine Exists.intro _ (And.intro ?_ ⟨i + 1, rfl, ?_⟩)); rotate_left; (simp (disch := omega) only [go_sem, Nat.reduceBEq, q1, q3, q4, q5, qH0, true_and, Int.natCast_add, Int.natCast_one]); rotate_left
  ·omega
  ·rw [zad _ (by omega), ‹((z0c t).take i).all _ = true›]
   exact ⟨rfl, by omega, by omega⟩
 ·(refine Exists.intro _ (And.intro ?_ ⟨i + 1, rfl, ?_⟩)); rotate_left; (simp (disch := omega) only [go_sem, Nat.reduceBEq, q1, q3, q4, q5, qH0, true_and, Int.natCast_add, Int.natCast_one]); rotate_left
  ·omega
  ·rw [zad _ (by omega), ‹((z0c t).take i).all _ = false›]
   exact ⟨rfl, by omega, by omega⟩
 ·refine z00 ?_
  have hz : ((z0c t).all fun i => decide (i = Idv.zero)) = true := by rw [<- List.take_of_length_le (l := z0c t) (i := i) (by omega)]; assumption
  unfold zxb; rw [hz]; rfl
 ·refine z00 ?_
  have hz : ((z0c t).all fun i => decide (i = Idv.zero)) = false := by rw [<- List.take_of_length_le (l := z0c t) (i := i) (by omega)]; assumption
  have hk : ¬ (t.id = Idv.zero ↔ t.kind = 0) := fun h => by
   have : decide (t.id = Idv.zero) = decide (t.kind = 0) := decide_eq_decide.2 h
   contradiction
  unfold zxb
  rw [hz, decide_eq_false hk]; rfl
 ·have hz : ((z0c t).all fun i => decide (i = Idv.zero)) = false := by rw [<- List.take_of_length_le (l := z0c t) (i := i) (by omega)]; assumption
  have hbne : ∀ {a b : Bool}, (a != b) = false -> a = b := fun {a b} h => by cases a <;> cases b <;> first | rfl | cases h
  have hk : (t.id = Idv.zero ↔ t.kind = 0) := by
   have h := hbne ‹(decide (t.id = Idv.zero) != decide (t.kind = 0)) = false›
   exact decide_eq_decide.1 h
  rw [show zxb t = decide ((z0c t).Nodup) from by unfold zxb; rw [hz, decide_eq_true hk]; rfl]
  (refine z37 (fun U st => ∃ (j : Nat), U = (z0c t).length - j /\ st.t 1 = .ptr 0 0 /\ st.t 3 = z2i (z0c t) /\ st.t 6 = .int .i64 j /\ st.H 0 = some (.box 27 (z06 t)) /\ (j <= (z0c t).length) /\ (((z0c t).take j).Nodup) /\ (1 <= st.nx)) ?_ ?_); rotate_left; (rintro U st ⟨j, rfl, r1, r3, r6, rH0, rp0, rp1, rp2⟩); rotate_left
  ·(refine ⟨_, 0, rfl, ?_⟩); (simp (disch := omega) only [go_sem, Nat.reduceBEq, true_and, Int.natCast_zero, z2i, q1, q3, qH0])
   (repeat' (first | omega | refine And.intro ?_ ?_))
   all_goals simp
  repeat' (first | refine zqj ?_ | ((refine zqh fun K J => ?_); (simp (disch := omega) only [go_sem, Nat.reduceBEq, ↓reduceIte, r3, r6, z2i])) | ((refine zqd _ rfl (fun hc => ?_) (fun hc => ?_)) <;> (((try simp only [z03] at hc); (try (exfalso; omega))))) | refine zqa ?_ | refine zqi ?_ | refine zqb ?_ | refine zqc ?_ | refine zqn ?_ | refine zqv ?_ | refine zqz ?_ | refine zqp ?_ | refine zqu (by (simp (disch := omega) only [go_sem]); rfl) rfl ?_ | (refine J _ ?_; clear J K))
  ·(refine z37 (fun U st => ∃ (k : Nat), U = j - k /\ st.t 1 = .ptr 0 0 /\ st.t 3 = z2i (z0c t) /\ st.t 6 = .int .i64 j /\ st.t 7 = .int .i64 k /\ st.H 0 = some (.box 27 (z06 t)) /\ (k <= j) /\ (1 <= st.nx) /\ (∀ m, (hm : m < k) -> (h : m < (z0c t).length) -> (h2 : j < (z0c t).length) -> (z0c t)[m] ≠ (z0c t)[j])) ?_ ?_); rotate_left; (rintro U st ⟨k, rfl, w1, w3, w6, w7, wH0, wp0, wp1, wp2⟩); rotate_left
   ·(refine ⟨_, 0, rfl, ?_⟩); (simp (disch := omega) only [go_sem, Nat.reduceBEq, r1, r3, r6, rH0, true_and, Int.natCast_zero, z2i])
    (repeat' (first | omega | refine And.intro ?_ ?_))
    all_goals exact fun m hm => by omega
   repeat' (first | refine zqj ?_ | ((first | refine zqh fun K J => ?_ | refine zqe (by decide +kernel) fun K J => ?_ | refine zqr fun K J => ?_); (simp (disch := omega) only [go_sem, Nat.reduceBEq, ↓reduceIte, reduceCtorEq, Nat.reduceAdd, w3, w6, w7, z2i])) | ((first | refine zqd _ rfl (fun hc => ?_) (fun hc => ?_) | refine zqm _ rfl (fun hc => ?_) (fun hc => ?_)) <;> (((try simp only [z03] at hc); (try (exfalso; omega))))) | refine zqa ?_ | refine zqb ?_ | refine zqc ?_ | refine zqk ?_ | refine zqn ?_ | refine zqv ?_ | refine zqx ?_ | refine zqy ?_ | refine zqz ?_ | refine z4a ?_ | refine zqp ?_ | refine zqo ?_ | refine zqu (by (simp (disch := omega) only [go_sem]); rfl) rfl ?_ | (refine J _ ?_; clear J K))
   ·exact z00 (decide_eq_false (zre (j := k) (k := j) (by omega) (by omega) (by assumption))).symm
   ·(refine Exists.intro _ (And.intro ?_ ⟨k + 1, rfl, ?_⟩)); rotate_left; (simp (disch := omega) only [go_sem, Nat.reduceBEq, w1, w3, w6, w7, wH0, true_and, Int.natCast_add, Int.natCast_one, z2i]); rotate_left
    ·omega
    ·refine ⟨by omega, by omega, fun m hm h h2 => ?_⟩
     by_cases e : m = k
     ·subst e; assumption
     ·exact wp2 m (by omega) h h2
   ·skip
    have hj : j < (z0c t).length := by omega
    (refine Exists.intro _ (And.intro ?_ ⟨j + 1, rfl, ?_⟩)); rotate_left; (simp (disch := omega) only [go_sem, Nat.reduceBEq, true_and, Int.natCast_add, Int.natCast_one, w1, w3, wH0]); rotate_left
    ·omega
    ·exact ⟨by omega, zkr hj rp1 (fun m hm => wp2 m (by omega) (by omega) hj), by omega⟩
  ·refine z00 ?_
   rw [List.take_of_length_le (by omega)] at rp1
   exact (decide_eq_true rp1).symm
theorem zxd (t : T) (hs : szB t = true) (hc : cntT t <= 1000000000) (hd : depT t <= 1000000000) : PC Tryz.prog 18 [z17 t] (.bool (z71 t)) := by
 have h1 := zv3 t hs
 have h2 := zr8 t hs hd
 have h3 := zr7 t hs hc
 have h4 := zyo t hs hc
 refine z1y 1 (by simp only [pureD.pureL, z05, Bool.and_self]) rfl (z1w [] Tryz.func18 rfl (by decide +kernel) z0j (by decide +kernel) (by simp [Tryz.ntmps18]) ?_)
 show awp _ _ (Code.seq _ _) _ _
 repeat' (first | ((first | refine zqh fun K J => ?_ | refine zqs (h1) ?_ | refine zqs (h2) ?_ | refine zqs (h3) ?_ | refine zqs (h4) ?_); (simp (disch := omega) only [go_sem, Nat.reduceBEq, ↓reduceIte, Nat.reduceAdd, Nat.reduceLeDiff])) | refine zqn ?_ | refine zqu (by (simp (disch := omega) only [go_sem]); rfl) rfl ?_ | (refine J _ ?_; clear J K) | (refine zqf (fun hb => ?_) (fun hb => ?_) <;> (have hb2 := hb; try simp only [z03] at hb2) <;> ((first | have F : (_ : Bool) = _ := hb2 | have F := eq_false hb2 | have F := eq_true hb2); (simp (disch := omega) only [go_sem, Nat.reduceBEq, ↓reduceIte, Nat.reduceAdd, Nat.reduceLeDiff, hb, F]); clear hb F; (try (exfalso; omega)))))
 all_goals refine z00 ?_
 all_goals unfold z71
 all_goals (simp (disch := omega) only [decide_eq_true, decide_eq_false, Bool.true_and, Bool.false_and, Bool.and_false, *])
theorem zi2 {P : Program} {H : HM} {id e : Nat} {cs : List D} (k : Nat) (hH : H id = some (.box e cs)) (ha : z0f P e = true) (hp : pureD.pureL cs = true) : z39 P H (k + 2) (.ptr id 0) = some (.rptr (.agg cs)) := by
 unfold z39
 simp only [pureD, Bool.false_eq_true, if_false, hH, ha, true_or, and_self, if_true, zav k cs hp, Option.map_some]
namespace Tr
theorem zm4 : ∀ t : T, smB t = true -> ∀ x ∈ z09 t, smB x = true := by
 refine z3u fun t ih h x hx => ?_
 rw [z1x] at hx
 rcases List.mem_cons.1 hx with rfl | hx
 ·exact h
 ·obtain ⟨k, hk, hx⟩ := List.mem_flatMap.1 hx
  exact ih k hk ((zia t).1 h |>.2.2.2 k hk) x hx
theorem z9y (id : Idv) : ∀ t : T, ∀ x ∈ z1d id t, x ∈ z09 t := by
 refine z3u fun t ih x hx => ?_
 rw [z8y] at hx
 split at hx
 ·rw [List.mem_singleton.1 hx]; exact z2b t
 ·split at hx
  ·rename_i w hw
   obtain ⟨k, hk, rfl⟩ := List.mem_map.1 (List.mem_of_find?_eq_some hw)
   rcases List.mem_cons.1 hx with rfl | hx
   ·exact z2b _
   ·exact z3m hk (ih k hk x hx)
  ·cases hx
def T.zero : T := .mk Idv.zero 0 ByteArray.empty [] [] []
def z07 (id : Idv) (t : T) : T × Bool := match (z1d id t).getLast? with
 | some x => (x, true)
 | none => (T.zero, false)
def z2u (id : Idv) (t : T) : Idv × Int × Bool :=
 let w := z1d id t
 if h : w.length < 2 then (Idv.zero, -1, false) else
  let p := w[w.length - 2]
  let n := z2h (fun k => !(z1d id k).isEmpty) p.kids
  (p.id, if n < p.kids.length then (n : Int) else -1, true)
def z5f (id : Idv) (t : T) : List Idv := ((z1d id t).dropLast.map T.id).reverse
end Tr
theorem z94 {w : List T} (h : w = []) : zb7 w = .nil := if_pos h
theorem z5y {w : List T} (h : w ≠ []) : zb7 w = .rsl true 8 (w.map z17) := if_neg h
theorem zd5 {α : Type} : ∀ (l : List α) (h : l ≠ []), l.getLast? = some (l[l.length - 1]'(by have := List.length_pos_iff.2 h; omega))
 | l, h => by rw [List.getLast?_eq_getElem?, List.getElem?_eq_getElem (by have := List.length_pos_iff.2 h; omega)]
theorem zd6 : Le (.agg [.int .i64 0, .int .i64 0, .int .i64 0, .int .i64 0, .str ByteArray.empty, .nil, .nil, .nil]) (z17 T.zero) := by
 rw [z17, z10]
 exact Le.agg ⟨Le.refl _, Le.refl _, Le.refl _, Le.refl _, Le.refl _, Le.nil 4, Le.nil 4, Le.nil 8, trivial⟩
theorem zxy (t : T) (hs : smB t = true) (hd : depT t <= 1000000000) (id : Idv) : PC Tryz.prog 100 [z17 t, z3h id] (.tup [z17 (z07 id t).1, .bool (z07 id t).2]) := by
 have hw := zn6 id t (zib t hs) hd
 have hl := z50 id t
 refine z1y 3 (by simp only [pureD.pureL, z05]; rfl) (by simp only [pureD, pureD.pureL, z05, Bool.and_self]) (z1w [] Tryz.func100 rfl (by decide +kernel) z0j (by decide +kernel) (by simp [Tryz.ntmps100]) ?_)
 show awp _ _ (Code.seq _ _) _ _
 rw [show Tryz.f100.results.toList = [.cell 4 27, .tmp 5] from rfl]
 by_cases h0 : z1d id t = []
 ·rw [z94 h0] at hw
  have hf : z07 id t = (T.zero, false) := by unfold z07; rw [h0]; rfl
  rw [hf]
  repeat' (first | refine zqj ?_ | ((first | refine zqh fun K J => ?_ | refine zqs (hw) ?_); (simp (disch := omega) only [go_sem, Nat.reduceBEq, ↓reduceIte, Nat.reduceAdd, Nat.reduceLeDiff])) | ((refine zqd _ rfl (fun hc => ?_) (fun hc => ?_)) <;> (first | (cases hc; done) | ((try simp only [] at hc); (try (exfalso; omega))))) | refine zqg ?_ | refine zqu (by (simp (disch := omega) only [go_sem, Nat.reduceBEq, ↓reduceIte, Nat.reduceAdd, Nat.reduceLeDiff]); rfl) rfl ?_ | (refine J _ ?_; clear J K))
  exact z02 (by simp only [pureD, pureD.pureL, Bool.and_self]) (Le.tup ⟨zd6, Le.refl _, trivial⟩)
 ·rw [z5y h0] at hw
  have hpos := List.length_pos_iff.2 h0
  have hi : (((z1d id t).length : Int) - 1).toNat = (z1d id t).length - 1 := by omega
  have hcp := zq1 ((z1d id t)[(z1d id t).length - 1]'(by omega)) (zm4 t hs _ (z9y id t _ (List.getElem_mem _)))
  have hf : z07 id t = ((z1d id t)[(z1d id t).length - 1]'(by omega), true) := by unfold z07; rw [zd5 _ h0]
  rw [hf]
  repeat' (first | refine zqj ?_ | ((first | refine zqh fun K J => ?_ | refine zqs (hw) ?_ | refine zqs (hcp) ?_); (simp (disch := omega) only [go_sem, Nat.reduceBEq, ↓reduceIte, reduceCtorEq, Nat.reduceAdd, Nat.reduceLeDiff, hi])) | ((refine zqd _ rfl (fun hc => ?_) (fun hc => ?_)) <;> (((try simp only [z03] at hc); (try (exfalso; omega))))) | refine zqb ?_ | refine zqn ?_ | refine zqu (by (simp (disch := omega) only [go_sem, Nat.reduceBEq, ↓reduceIte, Nat.reduceLeDiff]); rfl) rfl ?_ | (refine J _ ?_; clear J K))
  exact z02 (by simp only [pureD, pureD.pureL, z0d, Bool.and_self]) (Le.refl _)
theorem znk (t : T) (hs : smB t = true) (hd : depT t <= 1000000000) (id : Idv) : PC Tryz.prog 92 [z17 t, .rptr (z3h id)] (.bool (!(z1d id t).isEmpty)) := by
 have hw := zn6 id t (zib t hs) hd
 refine z1y 1 (by simp only [pureD.pureL, z05, pureD]; rfl) rfl (z1w [] Tryz.func92 rfl (by decide +kernel) z0j (by decide +kernel) (by simp [Tryz.ntmps92]) ?_)
 show awp _ _ (Code.seq _ _) _ _
 by_cases h0 : z1d id t = []
 ·rw [z94 h0] at hw
  rw [h0]
  repeat' (first | ((first | refine zqh fun K J => ?_ | refine zqs (hw) ?_); (simp (disch := omega) only [go_sem, Nat.reduceBEq, ↓reduceIte, Nat.reduceAdd, Nat.reduceLeDiff])) | refine zqn ?_ | refine zqu (by (simp (disch := omega) only [go_sem]); rfl) rfl ?_ | (refine J _ ?_; clear J K))
  exact z00 rfl
 ·rw [z5y h0] at hw
  rw [show (z1d id t).isEmpty = false from by simpa using h0]
  repeat' (first | ((first | refine zqh fun K J => ?_ | refine zqs (hw) ?_); (simp (disch := omega) only [go_sem, Nat.reduceBEq, ↓reduceIte, Nat.reduceAdd, Nat.reduceLeDiff])) | refine zqn ?_ | refine zqu (by (simp (disch := omega) only [go_sem]); rfl) rfl ?_ | (refine J _ ?_; clear J K))
  exact z00 rfl
theorem zi3 : ∀ t : T, ∀ x ∈ z09 t, depT x <= depT t := by
 refine z3u fun t ih x hx => ?_
 rw [z1x] at hx
 rcases List.mem_cons.1 hx with rfl | hx
 ·exact Nat.le_refl _
 ·obtain ⟨k, hk, hx⟩ := List.mem_flatMap.1 hx
  have := ih k hk x hx
  have := z3s hk
  omega
theorem zi4 (t : T) (hs : smB t = true) (hd : depT t <= 1000000000) (id : Idv) : PC Tryz.prog 61 [z17 t, z3h id] (.tup [z3h (z2u id t).1, .int .i64 (z2u id t).2.1, .bool (z2u id t).2.2]) := by
 have hw := zn6 id t (zib t hs) hd
 have hl := z50 id t
 refine z1y 3 (by simp only [pureD.pureL, z05]; rfl) rfl (z1w [] Tryz.func61 rfl (by decide +kernel) z0j (by decide +kernel) (by simp [Tryz.ntmps61]) ?_)
 show awp _ _ (Code.seq _ _) _ _
 rw [show Tryz.f61.results.toList = [.cell 4 23, .tmp 5, .tmp 6] from rfl]
 by_cases h2 : (z1d id t).length < 2
 ·have hp : z2u id t = (Idv.zero, -1, false) := by unfold z2u; exact dif_pos h2
  rw [hp]
  by_cases h0 : z1d id t = []
  ·rw [z94 h0] at hw
   repeat' (first | refine zqj ?_ | ((first | refine zqh fun K J => ?_ | refine zqs (hw) ?_); (simp (disch := omega) only [go_sem, Nat.reduceBEq, ↓reduceIte, Nat.reduceAdd, Nat.reduceLeDiff, Int.reduceLT])) | ((refine zqd _ rfl (fun hc => ?_) (fun hc => ?_)) <;> (first | (cases hc; done) | ((try simp only [] at hc); (try (exfalso; omega))))) | refine zqg ?_ | refine zqu (by (simp (disch := omega) only [go_sem, Nat.reduceBEq, ↓reduceIte, Nat.reduceAdd, Nat.reduceLeDiff]); rfl) rfl ?_ | (refine J _ ?_; clear J K))
   exact z02 rfl (Le.refl _)
  ·rw [z5y h0] at hw
   repeat' (first | refine zqj ?_ | ((first | refine zqh fun K J => ?_ | refine zqs (hw) ?_); (simp (disch := omega) only [go_sem, Nat.reduceBEq, ↓reduceIte, Nat.reduceAdd, Nat.reduceLeDiff])) | ((refine zqd _ rfl (fun hc => ?_) (fun hc => ?_)) <;> (((try simp only [z03] at hc); (try (exfalso; omega))))) | refine zqg ?_ | refine zqu (by (simp (disch := omega) only [go_sem, Nat.reduceBEq, ↓reduceIte, Nat.reduceAdd, Nat.reduceLeDiff]); rfl) rfl ?_ | (refine J _ ?_; clear J K))
   exact z02 rfl (Le.refl _)
 ·have h0 : z1d id t ≠ [] := fun h => by rw [h] at h2; simp at h2
  rw [z5y h0] at hw
  have hi : (((z1d id t).length : Int) - 2).toNat = (z1d id t).length - 2 := by omega
  obtain ⟨p, hpe⟩ : ∃ p, p = ((z1d id t)[(z1d id t).length - 2]'(by omega)) := ⟨_, rfl⟩
  have hpm : p ∈ z09 t := by rw [hpe]; exact z9y id t _ (List.getElem_mem _)
  have hsp := zm4 t hs p hpm
  have hdp := zi3 t p hpm
  obtain ⟨_, _, h3, h4⟩ := (zia p).1 hsp
  have hpar : z2u id t = (p.id, (if z2h (fun k => !(z1d id k).isEmpty) p.kids < p.kids.length then (z2h (fun k => !(z1d id k).isEmpty) p.kids : Int) else -1), true) := by unfold z2u; rw [dif_neg h2, <- hpe]
  rw [hpar]
  have hix := zhv false p.kids (by unfold maxLen; omega) (g := 92) (cap := [.rptr (z3h id)]) (fun k => !(z1d id k).isEmpty) rfl (fun k hk => znk k (h4 k hk) (by have := z3s hk; omega) id)
  repeat' (first | refine zqj ?_ | ((first | refine zqh fun K J => ?_ | refine zqs (hw) ?_); (simp (disch := omega) only [go_sem, Nat.reduceBEq, ↓reduceIte, reduceCtorEq, Nat.reduceAdd, Nat.reduceLeDiff, hi, <- hpe])) | ((refine zqd _ rfl (fun hc => ?_) (fun hc => ?_)) <;> (((try simp only [z03] at hc); (try (exfalso; omega))))) | refine zqb ?_ | (refine J _ ?_; clear J K))
  refine zw0 (PC.borrow hix rfl 4 (z0o (z0p 3 (z1e _)) (z0o (zw8 3 rfl (z0o (zi2 (e := 23) (cs := z04 id) 1 ?_ z6e rfl) z6j)) z6j))) ?_
  ·(simp (disch := omega) only [go_sem, Nat.reduceBEq, z04])
  (try (simp (disch := omega) only [go_sem, Nat.reduceBEq])); repeat' (first | ((refine zqh fun K J => ?_); (simp (disch := omega) only [go_sem, Nat.reduceBEq, ↓reduceIte, reduceCtorEq, Nat.reduceAdd, Nat.reduceLeDiff])) | refine zqn ?_ | refine zqu (by (simp (disch := omega) only [go_sem, Nat.reduceBEq, ↓reduceIte, Nat.reduceAdd, Nat.reduceLeDiff]); rfl) rfl ?_ | (refine J _ ?_; clear J K))
  exact z02 rfl (Le.refl _)
theorem zi5 (t : T) (hs : smB t = true) (hd : depT t <= 1000000000) (id : Idv) : PC Tryz.prog 63 [z17 t, z3h id] (z2i (z5f id t)) := by
 have hw := zn6 id t (zib t hs) hd
 have hl := z50 id t
 refine z1y 3 (by simp only [pureD.pureL, z05]; rfl) (z4q _) (z1w [5] Tryz.func63 rfl (by decide +kernel) z0j (by decide +kernel) (by simp [Tryz.ntmps63]) ?_)
 show awp _ _ (Code.seq _ _) _ _
 by_cases h0 : z1d id t = []
 ·rw [z94 h0] at hw
  have ha : z5f id t = [] := by unfold z5f; rw [h0]; rfl
  rw [ha]
  repeat' (first | refine zqj ?_ | ((first | refine zqh fun K J => ?_ | refine zqs (hw) ?_); (simp (disch := omega) only [go_sem, Nat.reduceBEq, ↓reduceIte, Nat.reduceAdd, Nat.reduceLeDiff])) | refine zqa ?_ | (refine J _ ?_; clear J K))
  (refine z37 (fun U st => ∃ (i : Nat), U = i - i /\ st.t 5 = .osl 2 0 /\ st.t 7 = .int .i64 (-2) /\ st.H 2 = some (.row 23 0 []) /\ (i = 0)) ?_ ?_); rotate_left; (rintro U st ⟨i, rfl, q5, q7, qH2, qp0⟩); rotate_left
  ·(refine ⟨_, 0, rfl, ?_⟩); (simp (disch := omega) only [go_sem, Nat.reduceBEq, true_and, and_true, and_self])
   rfl
  repeat' (first | refine zqj ?_ | ((refine zqh fun K J => ?_); (simp (disch := omega) only [go_sem, Nat.reduceBEq, ↓reduceIte, Int.reduceLE, q5, q7])) | ((refine zqd _ rfl (fun hc => ?_) (fun hc => ?_)) <;> (first | (cases hc; done) | ((try simp only [] at hc); (try (exfalso; omega))))) | refine zqc ?_ | refine zqn ?_ | refine zqv ?_ | refine zqz ?_ | refine zqp ?_ | refine zqu (by (simp (disch := omega) only [go_sem]); rfl) rfl ?_ | (refine J _ ?_; clear J K))
  refine z4h (z22 (l := []) (f := fun i : Idv => z04 i) 1 ?_ z6e z9z (fun _ => rfl) (fun _ => rfl))
  (simp (disch := omega) only [go_sem, qH2])
  rfl
 ·rw [z5y h0] at hw
  have hpos := List.length_pos_iff.2 h0
  have hal : (z5f id t).length = (z1d id t).length - 1 := by unfold z5f; simp
  have hag : ∀ k (h : k < (z5f id t).length), (z5f id t)[k] = ((z1d id t)[(z1d id t).length - 2 - k]'(by omega)).id := fun k h => by
   have h1 : k < (z1d id t).length - 1 := by omega
   have h2 := List.getElem_reverse (l := (z1d id t).dropLast.map T.id) (i := k) (by simp; omega)
   refine h2.trans ?_
   simp only [List.getElem_map, List.getElem_dropLast, List.length_map, List.length_dropLast]
   congr 1
  repeat' (first | refine zqj ?_ | ((first | refine zqh fun K J => ?_ | refine zqs (hw) ?_); (simp (disch := omega) only [go_sem, Nat.reduceBEq, ↓reduceIte, Nat.reduceAdd, Nat.reduceLeDiff])) | refine zqa ?_ | (refine J _ ?_; clear J K))
  (refine z37 (fun U st => ∃ (k : _), U = (z1d id t).length - k /\ st.t 5 = .osl 2 k /\ st.t 6 = .rsl true 8 ((z1d id t).map z17) /\ st.t 7 = .int .i64 ((z1d id t).length - 2 - k) /\ st.H 2 = some (.row 23 k (((z5f id t).take k).flatMap z04)) /\ (k <= (z5f id t).length) /\ (2 <= st.nx)) ?_ ?_); rotate_left; (rintro U st ⟨k, rfl, q5, q6, q7, qH2, qp0, qp1⟩); rotate_left
  ·(refine ⟨_, 0, rfl, ?_⟩); (simp (disch := omega) only [go_sem, Nat.reduceBEq, Nat.reduceLeDiff, true_and, and_true, and_self, Int.natCast_zero, List.flatMap_nil])
   omega
  by_cases hk : k < (z5f id t).length
  ·have hidx : (((z1d id t).length : Int) - 2 - k).toNat = (z1d id t).length - 2 - k := by omega
   have hag := hag k hk
   have htk := List.take_succ_eq_append_getElem hk
   rw [hag] at htk
   repeat' (first | refine zqj ?_ | ((first | refine zqh fun K J => ?_ | refine zqr fun K J => ?_); (simp (disch := omega) only [go_sem, Nat.reduceBEq, ↓reduceIte, reduceCtorEq, Nat.reduceAdd, Nat.reduceMul, Nat.reduceLeDiff, q5, q6, q7, qH2, hidx])) | ((refine zqd _ rfl (fun hc => ?_) (fun hc => ?_)) <;> (((try simp only [z03] at hc); (try (exfalso; omega))))) | refine zqa ?_ | refine zqb ?_ | refine zqv ?_ | refine zqy ?_ | (refine J _ ?_; clear J K))
   (refine Exists.intro _ (And.intro ?_ ⟨k + 1, rfl, ?_⟩)); rotate_left; (simp (disch := omega) only [go_sem, Nat.reduceBEq, q5, q6, q7, qH2, true_and, Int.natCast_add, Int.natCast_one, List.flatMap_append, List.flatMap_cons, List.flatMap_nil, List.append_nil, htk, z04]); rotate_left
   ·omega
   ·refine ⟨by omega, by omega, by omega⟩
  ·repeat' (first | refine zqj ?_ | ((refine zqh fun K J => ?_); (simp (disch := omega) only [go_sem, Nat.reduceBEq, ↓reduceIte, q5, q7])) | ((refine zqd _ rfl (fun hc => ?_) (fun hc => ?_)) <;> (((try simp only [z03] at hc); (try (exfalso; omega))))) | refine zqc ?_ | refine zqn ?_ | refine zqv ?_ | refine zqz ?_ | refine zqp ?_ | refine zqu (by (simp (disch := omega) only [go_sem]); rfl) rfl ?_ | (refine J _ ?_; clear J K))
   have hk2 : k = (z5f id t).length := by omega
   subst hk2
   rw [List.take_length] at qH2
   exact z4h (z22 1 (by (simp (disch := omega) only [go_sem, qH2])) z6e z9z (fun _ => rfl) (fun _ => rfl))
end
section
open Abs Facts Tr
theorem z7r {α : Type} [DecidableEq α] (enc : α -> D) (v : α -> D) (k : α) (x : D) : ∀ l : List α, l.Nodup -> k ∈ l -> z8e (l.map fun a => (enc a, v a)) (l.idxOf k) x = l.map fun a => (enc a, if a = k then x else v a)
 | [], _, h => by cases h
 | a :: l, hn, h => by
  simp only [List.map_cons, List.idxOf_cons]
  by_cases e : a = k
  ·subst e
   simp only [beq_self_eq_true, cond_true, z8e, if_true, List.cons.injEq, true_and]
   refine List.map_congr_left fun b hb => ?_
   have : b ≠ a := fun e => by subst e; exact (List.nodup_cons.1 hn).1 hb
   rw [if_neg this]
  ·rw [show (a == k) = false from by simpa using e]
   simp only [cond_false, z8e, if_neg e, List.cons.injEq, true_and]
   refine z7r enc v k x l (List.nodup_cons.1 hn).2 ?_
   rcases List.mem_cons.1 h with h | h
   ·exact (e h.symm).elim
   ·exact h
namespace Tr
end Tr
end
section
open Abs Facts Tr
attribute [local irreducible] awp
namespace Tr
theorem z7d : ∀ t : T, szB t = true -> ∀ x ∈ z09 t, szB x = true := by
 refine z3u fun t ih h x hx => ?_
 rw [z1x] at hx
 rcases List.mem_cons.1 hx with rfl | hx
 ·exact h
 ·obtain ⟨k, hk, hx⟩ := List.mem_flatMap.1 hx
  obtain ⟨_, _, _, _, _, _, h4⟩ := (z1l t).1 h
  exact ih k hk (h4 k hk) x hx
end Tr
namespace Tr
instance : DecidableEq ByteArray := inferInstance
def zk6 : List (T -> Bool) -> List T -> Bool
 | [], [] => true
 | f :: fs, t :: ts => f t && zk6 fs ts
 | _, _ => false
def zpc (a : T) : T -> Bool := zca (fun a l b => decide (a.id = b.id) && (decide (a.kind = b.kind) && (decide (a.label = b.label) && (decide (a.head = b.head) && (decide (a.words = b.words) && (decide (a.kids.length = b.kids.length) && zk6 l b.kids)))))) a
theorem zwo (a b : T) : zpc a b = (decide (a.id = b.id) && (decide (a.kind = b.kind) && (decide (a.label = b.label) && (decide (a.head = b.head) && (decide (a.words = b.words) && (decide (a.kids.length = b.kids.length) && zk6 (a.kids.map zpc) b.kids)))))) := by
 unfold zpc; rw [z2r]
theorem zk7 : ∀ (l m : List T), (∀ k ∈ l, ∀ b, zpc k b = true ↔ k = b) -> (zk6 (l.map zpc) m = true ↔ l = m)
 | [], [], _ => by simp [zk6]
 | [], _ :: _, _ => by simp [zk6]
 | _ :: _, [], _ => by simp [zk6]
 | a :: l, b :: m, h => by
  simp only [List.map_cons, zk6, Bool.and_eq_true, List.cons.injEq]
  rw [h a (by simp) b, zk7 l m (fun k hk => h k (List.mem_cons_of_mem _ hk))]
theorem ztq : ∀ a b : T, zpc a b = true ↔ a = b := by
 refine z3u fun a ih b => ?_
 rw [zwo]
 simp only [Bool.and_eq_true, decide_eq_true_eq]
 rw [zk7 a.kids b.kids ih]
 constructor
 ·rintro ⟨h1, h2, h3, h4, h5, _, h6⟩
  rw [<- T.eta a, <- T.eta b, h1, h2, h3, h4, h5, h6]
 ·rintro rfl; exact ⟨rfl, rfl, rfl, rfl, rfl, rfl, rfl⟩
instance : DecidableEq T := fun a b => decidable_of_iff _ (ztq a b)
theorem zba {α : Type} {a b : List α} {k : Nat} (hk : k < a.length) (hl : a.length = b.length) (h : a.take k = b.take k) (h2 : a[k] = b[k]'(by omega)) : a.take (k + 1) = b.take (k + 1) := by
 rw [List.take_succ_eq_append_getElem hk, List.take_succ_eq_append_getElem (show k < b.length by omega), h, h2]
theorem zwp {α : Type} {a b : List α} {k : Nat} (hk : k < a.length) (hl : a.length = b.length) (h2 : ¬ a[k] = b[k]'(by omega)) : ¬ a = b := fun h => by subst h; exact h2 rfl
theorem zf8 {α : Type} {a b : List α} {k : Nat} (hk : a.length <= k) (hl : a.length = b.length) (h : a.take k = b.take k) : a = b := by
 rwa [List.take_of_length_le hk, List.take_of_length_le (by omega)] at h
end Tr
theorem zn9 (a b : List Wd) (ha : a.length <= maxLen) (hb : b.length <= maxLen) : PC Tryz.prog 44 [z0q a, z0q b] (.bool (decide (a = b))) := by
 unfold maxLen at ha hb
 refine z1y 1 (by simp only [pureD.pureL, z0x, Bool.and_self]) rfl (z1w [] Tryz.func44 rfl (by decide +kernel) z0j (by decide +kernel) (by simp [Tryz.ntmps44]) ?_)
 show awp _ _ (Code.seq _ _) _ _
 repeat' (first | refine zqj ?_ | ((refine zqh fun K J => ?_); (simp (disch := omega) only [go_sem, Nat.reduceBEq, ↓reduceIte, z0q])) | ((refine zqd _ rfl (fun hc => ?_) (fun hc => ?_)) <;> (((try simp only [z03] at hc); (try (exfalso; omega))))) | refine zqa ?_ | refine zqb ?_ | refine zqg ?_ | refine zqu (by (simp (disch := omega) only [go_sem]); rfl) rfl ?_ | (refine J _ ?_; clear J K))
 ·exact z00 (decide_eq_false (fun h => by subst h; contradiction)).symm
 ·have hl : a.length = b.length := by omega
  (refine z37 (fun U st => ∃ (k : _), U = a.length - k /\ st.t 0 = z0q a /\ st.t 1 = z0q b /\ st.t 5 = .int .i64 k /\ (k <= a.length) /\ (a.take k = b.take k)) ?_ ?_); rotate_left; (rintro U st ⟨k, rfl, q0, q1, q5, qp0, qp1⟩); rotate_left
  ·(refine ⟨_, 0, rfl, ?_⟩); (simp (disch := omega) only [go_sem, Nat.reduceBEq, and_self, Int.natCast_zero, z0q])
   try simp
  repeat' (first | refine zqj ?_ | ((first | refine zqh fun K J => ?_ | refine zqe (by decide +kernel) fun K J => ?_ | refine zqr fun K J => ?_); (simp (disch := omega) only [go_sem, Nat.reduceBEq, ↓reduceIte, reduceCtorEq, Nat.reduceAdd, q0, q1, q5, z0q])) | ((first | refine zqd _ rfl (fun hc => ?_) (fun hc => ?_) | refine zqm _ rfl (fun hc => ?_) (fun hc => ?_)) <;> (((try simp only [z03] at hc); (try (exfalso; omega))))) | refine zqa ?_ | refine zqb ?_ | refine zqc ?_ | refine zqk ?_ | refine zqn ?_ | refine zqv ?_ | refine zqx ?_ | refine zqy ?_ | refine zqz ?_ | refine z4a ?_ | refine zqp ?_ | refine zqo ?_ | refine zqu (by (simp (disch := omega) only [go_sem]); rfl) rfl ?_ | (refine J _ ?_; clear J K))
  ·exact z00 (decide_eq_false (zwp (k := k) (by omega) hl (by assumption))).symm
  ·(refine Exists.intro _ (And.intro ?_ ⟨k + 1, rfl, ?_⟩)); rotate_left; (simp (disch := omega) only [go_sem, Nat.reduceBEq, q0, q1, q5, true_and, Int.natCast_add, Int.natCast_one, z0q]); rotate_left
   ·omega
   ·exact ⟨by omega, zba (by omega) hl qp1 (by assumption)⟩
  ·exact z00 (decide_eq_true (zf8 (by omega) hl qp1)).symm
theorem zlp : ∀ a : T, szB a = true -> ∀ b : T, szB b = true -> PC Tryz.prog 16 [z17 a, z17 b] (.bool (decide (a = b))) := by
 refine z3u fun a ih hs b hb => ?_
 obtain ⟨a0, a1, _, a2, _, a3, a4⟩ := (z1l a).1 hs
 obtain ⟨b0, b1, _, b2, _, b3, b4⟩ := (z1l b).1 hb
 have r1 := zn9 a.head b.head (by unfold maxLen; omega) (by unfold maxLen; omega)
 have r2 := zn9 a.words b.words (by unfold maxLen; omega) (by unfold maxLen; omega)
 refine z1y 1 (by simp only [pureD.pureL, z05, Bool.and_self]) rfl (z1w [] Tryz.func16 rfl (by decide +kernel) z0j (by decide +kernel) (by simp [Tryz.ntmps16]) ?_)
 show awp _ _ (Code.seq _ _) _ _
 repeat' (first | refine zqj ?_ | ((first | refine zqh fun K J => ?_ | refine zqs (r1) ?_ | refine zqs (r2) ?_); (simp (disch := omega) only [go_sem, Nat.reduceBEq, ↓reduceIte, reduceCtorEq, Nat.reduceAdd, Nat.reduceLeDiff])) | ((refine zqd _ rfl (fun hc => ?_) (fun hc => ?_)) <;> (first | (cases hc; done) | ((try simp only [z03] at hc); (try (exfalso; omega))))) | refine zqa ?_ | refine zqb ?_ | refine zqg ?_ | refine zqu (by (simp (disch := omega) only [go_sem]); rfl) rfl ?_ | (refine J _ ?_; clear J K) | (refine zqf (fun hb => ?_) (fun hb => ?_) <;> (have hb2 := hb; try simp only [z03] at hb2) <;> ((first | have F := eq_false hb2 | have F := eq_true hb2); (simp (disch := omega) only [go_sem, Nat.reduceBEq, ↓reduceIte, reduceCtorEq, Nat.reduceAdd, F, z0e]); clear hb F; (try (exfalso; omega)))))
 rotate_left
 rotate_left
 all_goals first | exact z00 (decide_eq_false (fun h => by subst h; contradiction)).symm | skip
 have hl : a.kids.length = b.kids.length := by omega
 (refine z37 (fun U st => ∃ (k : _), U = a.kids.length - k /\ st.t 2 = .ptr 0 0 /\ st.t 3 = .ptr 1 0 /\ st.t 5 = .int .i64 k /\ st.H 0 = some (.box 27 (z06 a)) /\ st.H 1 = some (.box 27 (z06 b)) /\ (k <= a.kids.length) /\ (2 <= st.nx) /\ (a.kids.take k = b.kids.take k)) ?_ ?_); rotate_left; (rintro U st ⟨k, rfl, q2, q3, q5, qH0, qH1, qp0, qp1, qp2⟩); rotate_left
 ·(refine ⟨_, 0, rfl, ?_⟩); (simp (disch := omega) only [go_sem, Nat.reduceBEq, Nat.reduceLeDiff, and_self, Int.natCast_zero])
  try simp
 by_cases hk : k < a.kids.length
 ·have hin := ih a.kids[k] (List.getElem_mem hk) (a4 _ (List.getElem_mem hk)) b.kids[k] (b4 _ (List.getElem_mem (by omega)))
  repeat' (first | refine zqj ?_ | ((first | refine zqh fun K J => ?_ | refine zqe (by decide +kernel) fun K J => ?_ | refine zqr fun K J => ?_ | refine zqt (hin) ?_); (simp (disch := omega) only [go_sem, Nat.reduceBEq, ↓reduceIte, reduceCtorEq, Nat.reduceAdd, q2, q3, q5, qH0, qH1, z0e])) | ((first | refine zqd _ rfl (fun hc => ?_) (fun hc => ?_) | refine zqm _ rfl (fun hc => ?_) (fun hc => ?_)) <;> (((try simp only [z03] at hc); (try (exfalso; omega))))) | refine zqa ?_ | refine zqb ?_ | refine zqk ?_ | refine zqn ?_ | refine zqv ?_ | refine zqx ?_ | refine zqy ?_ | refine z4a ?_ | refine zqo ?_ | refine zqu (by (simp (disch := omega) only [go_sem]); rfl) rfl ?_ | (refine J _ ?_; clear J K))
  ·exact z00 (decide_eq_false (fun h => zwp hk hl (by assumption) (congrArg T.kids h))).symm
  ·(refine Exists.intro _ (And.intro ?_ ⟨k + 1, rfl, ?_⟩)); rotate_left; (simp (disch := omega) only [go_sem, Nat.reduceBEq, q2, q3, q5, qH0, qH1, true_and, Int.natCast_add, Int.natCast_one]); rotate_left
   ·omega
   ·exact ⟨by omega, by omega, zba hk hl qp2 (by assumption)⟩
 ·repeat' (first | refine zqj ?_ | ((refine zqh fun K J => ?_); (simp (disch := omega) only [go_sem, Nat.reduceBEq, ↓reduceIte, reduceCtorEq, Nat.reduceAdd, q2, q5, qH0, z0e])) | ((refine zqd _ rfl (fun hc => ?_) (fun hc => ?_)) <;> (((try simp only [z03] at hc); (try (exfalso; omega))))) | refine zqc ?_ | refine zqn ?_ | refine zqv ?_ | refine zqz ?_ | refine zqp ?_ | refine zqu (by (simp (disch := omega) only [go_sem]); rfl) rfl ?_ | (refine J _ ?_; clear J K))
  refine z00 (decide_eq_true ?_).symm
  have hkk := zf8 (by omega) hl qp2
  rw [<- T.eta a, <- T.eta b, ‹a.id = b.id›, ‹a.kind = b.kind›, ‹a.label = b.label›, ‹a.head = b.head›, ‹a.words = b.words›, hkk]
theorem zna (l : List Wd) (hl : l.length <= 1000000) : PC Tryz.prog 79 [z0q l] (z0q (l.map fun w => ⟨w.text, Idv.zero⟩)) := by
 refine z1y 2 (by simp only [pureD.pureL, z0x, Bool.and_self]) (z0x _) (z1w [5] Tryz.func79 rfl (by decide +kernel) z0j (by decide +kernel) (by simp [Tryz.ntmps79]) ?_)
 show awp _ _ (Code.seq _ _) _ _
 repeat' (first | refine zqj ?_ | ((refine zqh fun K J => ?_); (simp (disch := omega) only [go_sem, Nat.reduceBEq, ↓reduceIte, reduceCtorEq, Nat.reduceMul, z0q])) | refine zqa ?_ | (refine J _ ?_; clear J K))
 (refine z37 (fun U st => ∃ (k : _), U = l.length - k /\ st.t 0 = z0q l /\ st.t 3 = .osl 0 k /\ st.t 4 = .int .i64 k /\ st.H 0 = some (.row 113 k (((l.take k).map fun w => (⟨w.text, Idv.zero⟩ : Wd)).flatMap z5z)) /\ (k <= l.length)) ?_ ?_); rotate_left; (rintro U st ⟨k, rfl, q0, q3, q4, qH0, qp0⟩); rotate_left
 ·(refine ⟨_, 0, rfl, ?_⟩); (simp (disch := omega) only [go_sem, Nat.reduceBEq, and_self, Int.natCast_zero, List.flatMap_nil, List.map_nil, z0q])
 by_cases hk : k < l.length
 ·have htk := List.take_succ_eq_append_getElem hk
  repeat' (first | refine zqj ?_ | ((first | refine zqh fun K J => ?_ | refine zqr fun K J => ?_); (simp (disch := omega) only [go_sem, Nat.reduceBEq, ↓reduceIte, reduceCtorEq, Nat.reduceAdd, Nat.reduceMul, Nat.reduceLeDiff, q0, q3, q4, qH0, z0q])) | ((refine zqd _ rfl (fun hc => ?_) (fun hc => ?_)) <;> (((try simp only [z03] at hc); (try (exfalso; omega))))) | refine zqa ?_ | refine zqb ?_ | refine zqv ?_ | refine zqy ?_ | (refine J _ ?_; clear J K))
  (refine Exists.intro _ (And.intro ?_ ⟨k + 1, rfl, ?_⟩)); rotate_left; (simp (disch := omega) only [go_sem, Nat.reduceBEq, q0, q3, q4, qH0, true_and, Int.natCast_add, Int.natCast_one, List.flatMap_append, List.flatMap_cons, List.flatMap_nil, List.map_append, List.map_cons, List.map_nil, List.append_nil, htk, z5z, Idv.zero]); rotate_left
  ·omega
  ·omega
 ·repeat' (first | refine zqj ?_ | ((refine zqh fun K J => ?_); (simp (disch := omega) only [go_sem, Nat.reduceBEq, ↓reduceIte, q0, q3, q4, z0q])) | ((refine zqd _ rfl (fun hc => ?_) (fun hc => ?_)) <;> (((try simp only [z03] at hc); (try (exfalso; omega))))) | refine zqc ?_ | refine zqn ?_ | refine zqv ?_ | refine zqz ?_ | refine zqp ?_ | refine zqu (by (simp (disch := omega) only [go_sem]); rfl) rfl ?_ | (refine J _ ?_; clear J K))
  have hk2 : k = l.length := by omega
  subst hk2
  rw [List.take_length] at qH0
  have hlen : l.length = (l.map fun w => (⟨w.text, Idv.zero⟩ : Wd)).length := by simp
  rw [hlen] at qH0 ⊢
  refine z4h (z22 0 ?_ zdi zh2 (fun _ => rfl) (fun _ => rfl))
  (simp (disch := omega) only [go_sem, qH0])
namespace Tr
theorem z2w {id : Idv} {t : T} (h : t.id = id) : z1d id t = [t] := by rw [z8y, if_pos h]
theorem z3f {id : Idv} {t : T} {i : Nat} (h0 : ¬ t.id = id) (hi : i < t.kids.length) (h1 : ∀ j, (hj : j < i) -> (h : j < t.kids.length) -> z1d id t.kids[j] = []) (h2 : z1d id t.kids[i] ≠ []) : z1d id t = t :: z1d id t.kids[i] := by
 rw [z8y, if_neg h0, zf5 (z1d id) hi h1 h2]
theorem z6c {id : Idv} {t : T} {i : Nat} (h0 : ¬ t.id = id) (hi : t.kids.length <= i) (h1 : ∀ j, (hj : j < i) -> (h : j < t.kids.length) -> z1d id t.kids[j] = []) : z1d id t = [] := by
 rw [z8y, if_neg h0, zf4 (z1d id) h1 hi]
theorem zwq {id : Idv} {t : T} (h : z1d id t ≠ []) : (z07 id t).2 = true := by unfold z07; rw [zd5 _ h]
theorem z9h {id : Idv} {t : T} (h : z1d id t = []) : z07 id t = (T.zero, false) := by unfold z07; rw [h]; rfl
theorem zbb {id : Idv} {t : T} : (z07 id t).2 = false ↔ z1d id t = [] := by
 constructor
 ·intro h
  by_cases h2 : z1d id t = []
  ·exact h2
  ·rw [zwq h2] at h; cases h
 ·intro h; rw [z9h h]
theorem z5x {id : Idv} {t : T} : (z07 id t).2 = true ↔ z1d id t ≠ [] := by
 rw [<- Bool.not_eq_false, zbb]
theorem z1o {id : Idv} {t : T} (h : t.id = id) : z07 id t = (t, true) := by unfold z07; rw [z2w h]; rfl
theorem z2n {id : Idv} {t k : T} (h : z1d id t = t :: z1d id k) (h2 : z1d id k ≠ []) : z07 id t = z07 id k := by
 unfold z07
 rw [h, List.getLast?_cons_of_ne_nil h2]
end Tr
theorem znb (id : Idv) : ∀ t : T, szB t = true -> PC Tryz.prog 14 [z17 t, z3h id] (.tup [z17 (z07 id t).1, .bool (z07 id t).2]) := by
 refine z3u fun t ih hs => ?_
 obtain ⟨h0, h1, g1, h2, g2, h3, h4⟩ := (z1l t).1 hs
 refine z1y 3 (by simp only [pureD.pureL, z05]; rfl) (by simp only [pureD, pureD.pureL, z05, Bool.and_self]) (z1w [3000023, 3000025, 3000026, 3000027, 5000028] Tryz.func14 rfl (by decide +kernel) z0j (by decide +kernel) (by simp [Tryz.ntmps14]) ?_)
 show awp _ _ (Code.seq _ _) _ _
 rw [show Tryz.f14.results.toList = [.cell 4 27, .tmp 5] from rfl]
 repeat' (first | refine zqj ?_ | ((refine zqh fun K J => ?_); (simp (disch := omega) only [go_sem, Nat.reduceBEq, ↓reduceIte, reduceCtorEq, Nat.reduceAdd, Nat.reduceLeDiff])) | ((refine zqd _ rfl (fun hc => ?_) (fun hc => ?_)) <;> (((try simp only [z03] at hc); (try (exfalso; omega))))) | refine zqa ?_ | refine zqb ?_ | refine zqg ?_ | refine zqu (by (simp (disch := omega) only [go_sem, Nat.reduceBEq, ↓reduceIte, Nat.reduceLeDiff]); rfl) rfl ?_ | (refine J _ ?_; clear J K))
 ·rw [z1o (by assumption)]
  exact z02 (by simp only [pureD, pureD.pureL, z0d, Bool.and_self]) (Le.refl _)
 ·have hne : ¬ t.id = id := by assumption
  (refine z37 (fun U st => ∃ (i : _), U = t.kids.length - i /\ st.t 2 = .ptr 0 0 /\ st.t 3 = .ptr 1 0 /\ st.t 4 = .ptr 2 0 /\ st.t 6 = .int .i64 i /\ st.H 0 = some (.box 27 (z06 t)) /\ st.H 1 = some (.box 23 (z04 id)) /\ st.H 2 = some (.box 27 [.int .i64 0, .int .i64 0, .int .i64 0, .int .i64 0, .str ByteArray.empty, .nil, .nil, .nil]) /\ (i <= t.kids.length) /\ (3 <= st.nx) /\ (∀ j, (hj : j < i) -> (h : j < t.kids.length) -> z1d id t.kids[j] = [])) ?_ ?_); rotate_left; (rintro U st ⟨i, rfl, q2, q3, q4, q6, qH0, qH1, qH2, qp0, qp1, qp2⟩); rotate_left
  ·(refine ⟨_, 0, rfl, ?_⟩); (simp (disch := omega) only [go_sem, Nat.reduceBEq, Nat.reduceLeDiff, true_and, Int.natCast_zero, z04])
   (repeat' (omega))
  by_cases hi : i < t.kids.length
  ·have hin := ih t.kids[i] (List.getElem_mem hi) (h4 _ (List.getElem_mem hi))
   repeat' (first | refine zqj ?_ | ((first | refine zqh fun K J => ?_ | refine zqe (by decide +kernel) fun K J => ?_ | refine zqr fun K J => ?_ | refine zqt (hin) ?_); (simp (disch := omega) only [go_sem, Nat.reduceBEq, Nat.reduceEqDiff, ↓reduceIte, reduceCtorEq, Nat.reduceAdd, Nat.reduceLeDiff, q2, q3, q4, q6, qH0, qH1, qH2, z0e, z04])) | ((first | refine zqd _ rfl (fun hc => ?_) (fun hc => ?_) | refine zqm _ rfl (fun hc => ?_) (fun hc => ?_)) <;> (((try simp only [z03] at hc); (try (exfalso; omega))))) | refine zqa ?_ | refine zqb ?_ | refine zqk ?_ | refine zqn ?_ | refine zqv ?_ | refine zqx ?_ | refine zqy ?_ | refine z4a ?_ | refine zqo ?_ | refine zqu (by (simp (disch := omega) only [go_sem, Nat.reduceBEq, ↓reduceIte, Nat.reduceLeDiff, q4, qH2]); rfl) rfl ?_ | (refine J _ ?_; clear J K))
   ·have hf := z5x.1 ‹(z07 id t.kids[i]).2 = true›
    rw [z2n (z3f hne hi qp2 hf) hf, ‹(z07 id t.kids[i]).2 = true›]
    exact z02 (by simp only [pureD, pureD.pureL, z0d, Bool.and_self]) (Le.refl _)
   ·have hf := zbb.1 ‹(z07 id t.kids[i]).2 = false›
    (refine Exists.intro _ (And.intro ?_ ⟨i + 1, rfl, ?_⟩)); rotate_left; (simp (disch := omega) only [go_sem, Nat.reduceBEq, Nat.reduceLeDiff, q2, q3, q4, q6, qH0, qH1, qH2, true_and, Int.natCast_add, Int.natCast_one, z04]); rotate_left
    ·omega
    ·refine ⟨by omega, by omega, fun j hj h => ?_⟩
     by_cases e : j = i
     ·subst e; exact hf
     ·exact qp2 j (by omega) h
  ·repeat' (first | refine zqj ?_ | ((refine zqh fun K J => ?_); (simp (disch := omega) only [go_sem, Nat.reduceBEq, ↓reduceIte, reduceCtorEq, Nat.reduceAdd, Nat.reduceLeDiff, q2, q4, q6, qH0, qH2, z0e])) | ((refine zqd _ rfl (fun hc => ?_) (fun hc => ?_)) <;> (((try simp only [z03] at hc); (try (exfalso; omega))))) | refine zqc ?_ | refine zqn ?_ | refine zqv ?_ | refine zqz ?_ | refine zqp ?_ | refine zqu (by (simp (disch := omega) only [go_sem, Nat.reduceBEq, ↓reduceIte, Nat.reduceAdd, Nat.reduceLeDiff, q4, qH2]); rfl) rfl ?_ | (refine J _ ?_; clear J K))
   rw [z9h (z6c hne (by omega) qp2)]
   exact z02 (by simp only [pureD, pureD.pureL, Bool.and_self]) (Le.tup ⟨zd6, Le.refl _, trivial⟩)
namespace Tr
theorem zgs {id : Idv} {t : T} (h : (z1d id t).length < 2) : z2u id t = (Idv.zero, -1, false) := by unfold z2u; exact dif_pos h
theorem ztr {id : Idv} {t : T} (h : t.id = id) : z2u id t = (Idv.zero, -1, false) := zgs (by rw [z2w h]; simp)
theorem zts {id : Idv} {t : T} (h : z1d id t = []) : z2u id t = (Idv.zero, -1, false) := zgs (by rw [h]; simp)
theorem zf9 {id : Idv} {t : T} {i : Nat} (h0 : ¬ t.id = id) (hi : i < t.kids.length) (h1 : ∀ j, (hj : j < i) -> (h : j < t.kids.length) -> z1d id t.kids[j] = []) (h2 : t.kids[i].id = id) : z2u id t = (t.id, (i : Int), true) := by
 have hw := z2w h2
 have hw2 := z3f h0 hi h1 (by rw [hw]; simp)
 rw [hw] at hw2
 have hn : z2h (fun k => !(z1d id k).isEmpty) t.kids = i := z41 (by omega) (fun j hj => by rw [h1 j hj (by omega)]; rfl) (fun h => by rw [hw]; rfl)
 unfold z2u
 simp only [hw2, List.length_cons, List.length_nil]
 rw [dif_neg (by omega)]
 simp only [show 0 + 1 + 1 - 2 = 0 from rfl, List.getElem_cons_zero, hn, hi, if_true]
theorem zlq {id : Idv} {t : T} {i : Nat} (h0 : ¬ t.id = id) (hi : i < t.kids.length) (h1 : ∀ j, (hj : j < i) -> (h : j < t.kids.length) -> z1d id t.kids[j] = []) (h2 : ¬ t.kids[i].id = id) (h3 : z1d id t.kids[i] ≠ []) : z2u id t = z2u id t.kids[i] := by
 have hw2 := z3f h0 hi h1 h3
 have hl : 2 <= (z1d id t.kids[i]).length := by
  rw [z8y, if_neg h2] at h3 ⊢
  split
  ·rename_i w hw
   have := List.find?_some hw
   cases w with
   | nil => simp at this
   | cons a w => simp
  ·rename_i hw; rw [hw] at h3; exact (h3 rfl).elim
 unfold z2u
 simp only [hw2, List.length_cons]
 rw [dif_neg (by omega), dif_neg (by omega)]
 have e : (z1d id t.kids[i]).length + 1 - 2 = (z1d id t.kids[i]).length - 2 + 1 := by omega
 simp only [e, List.getElem_cons_succ]
theorem zfa {id : Idv} {t : T} (h : t.id = id) : z5f id t = [] := by unfold z5f; rw [z2w h]; rfl
theorem znc {id : Idv} {t : T} {i : Nat} (h0 : ¬ t.id = id) (hi : i < t.kids.length) (h1 : ∀ j, (hj : j < i) -> (h : j < t.kids.length) -> z1d id t.kids[j] = []) (h3 : z1d id t.kids[i] ≠ []) : z5f id t = z5f id t.kids[i] ++ [t.id] := by
 unfold z5f
 rw [z3f h0 hi h1 h3, List.dropLast_cons_of_ne_nil h3, List.map_cons, List.reverse_cons]
end Tr
theorem zpd (id : Idv) : ∀ t : T, szB t = true -> PC Tryz.prog 13 [z17 t, z3h id] (.tup [z3h (z2u id t).1, .int .i64 (z2u id t).2.1, .bool (z2u id t).2.2]) := by
 refine z3u fun t ih hs => ?_
 obtain ⟨h0, h1, g1, h2, g2, h3, h4⟩ := (z1l t).1 hs
 refine z1y 3 (by simp only [pureD.pureL, z05]; rfl) rfl (z1w [3000035, 3000037, 3000038, 3000039, 5000040] Tryz.func13 rfl (by decide +kernel) z0j (by decide +kernel) (by simp [Tryz.ntmps13]) ?_)
 show awp _ _ (Code.seq _ _) _ _
 rw [show Tryz.f13.results.toList = [.cell 4 23, .tmp 5, .tmp 6] from rfl]
 repeat' (first | refine zqj ?_ | ((refine zqh fun K J => ?_); (simp (disch := omega) only [go_sem, Nat.reduceBEq, ↓reduceIte, reduceCtorEq, Nat.reduceAdd, Nat.reduceLeDiff])) | ((refine zqd _ rfl (fun hc => ?_) (fun hc => ?_)) <;> (((try simp only [z03] at hc); (try (exfalso; omega))))) | refine zqa ?_ | refine zqb ?_ | refine zqg ?_ | refine zqu (by (simp (disch := omega) only [go_sem, Nat.reduceBEq, ↓reduceIte, Nat.reduceAdd, Nat.reduceLeDiff]); rfl) rfl ?_ | (refine J _ ?_; clear J K))
 ·rw [ztr (by assumption)]
  exact z02 rfl (Le.refl _)
 ·have hne : ¬ t.id = id := by assumption
  (refine z37 (fun U st => ∃ (i : _), U = t.kids.length - i /\ st.t 2 = .ptr 0 0 /\ st.t 3 = .ptr 1 0 /\ st.t 4 = .ptr 2 0 /\ st.t 7 = .int .i64 i /\ st.H 0 = some (.box 27 (z06 t)) /\ st.H 1 = some (.box 23 (z04 id)) /\ st.H 2 = some (.box 23 (z04 Idv.zero)) /\ (i <= t.kids.length) /\ (3 <= st.nx) /\ (∀ j, (hj : j < i) -> (h : j < t.kids.length) -> z1d id t.kids[j] = [])) ?_ ?_); rotate_left; (rintro U st ⟨i, rfl, q2, q3, q4, q7, qH0, qH1, qH2, qp0, qp1, qp2⟩); rotate_left
  ·(refine ⟨_, 0, rfl, ?_⟩); (simp (disch := omega) only [go_sem, Nat.reduceBEq, Nat.reduceLeDiff, true_and, Int.natCast_zero, z04, Idv.zero])
   (repeat' (omega))
   all_goals intro j hj; omega
  by_cases hi : i < t.kids.length
  ·have hin := ih t.kids[i] (List.getElem_mem hi) (h4 _ (List.getElem_mem hi))
   have hfn := znb id t.kids[i] (h4 _ (List.getElem_mem hi))
   repeat' (first | refine zqj ?_ | ((first | refine zqh fun K J => ?_ | refine zqe (by decide +kernel) fun K J => ?_ | refine zqr fun K J => ?_ | refine zqt (hfn) ?_ | refine zqt (hin) ?_); (simp (disch := omega) only [go_sem, Nat.reduceBEq, Nat.reduceEqDiff, ↓reduceIte, reduceCtorEq, Nat.reduceAdd, Nat.reduceLeDiff, q2, q3, q4, q7, qH0, qH1, qH2, z0e, z04, Idv.zero])) | ((first | refine zqd _ rfl (fun hc => ?_) (fun hc => ?_) | refine zqm _ rfl (fun hc => ?_) (fun hc => ?_)) <;> (((try simp only [z03] at hc); (try (exfalso; omega))))) | refine zqa ?_ | refine zqb ?_ | refine zqg ?_ | refine zqk ?_ | refine zqn ?_ | refine zqv ?_ | refine zqx ?_ | refine zqy ?_ | refine z4a ?_ | refine zqo ?_ | refine zqu (by (simp (disch := omega) only [go_sem, Nat.reduceBEq, ↓reduceIte, Nat.reduceAdd, Nat.reduceLeDiff, q4, qH2, z04, Idv.zero]); rfl) rfl ?_ | (refine J _ ?_; clear J K))
   ·rw [zf9 hne hi qp2 (by assumption)]
    exact z02 rfl (Le.refl _)
   ·rw [zlq hne hi qp2 (by assumption) (z5x.1 (by assumption))]
    exact z02 rfl (Le.refl _)
   ·have hf := zbb.1 ‹(z07 id t.kids[i]).2 = false›
    (refine Exists.intro _ (And.intro ?_ ⟨i + 1, rfl, ?_⟩)); rotate_left; (simp (disch := omega) only [go_sem, Nat.reduceBEq, Nat.reduceLeDiff, q2, q3, q4, q7, qH0, qH1, qH2, true_and, Int.natCast_add, Int.natCast_one, z04, Idv.zero]); rotate_left
    ·omega
    ·refine ⟨by omega, by omega, fun j hj h => ?_⟩
     by_cases e : j = i
     ·subst e; exact hf
     ·exact qp2 j (by omega) h
  ·repeat' (first | refine zqj ?_ | ((refine zqh fun K J => ?_); (simp (disch := omega) only [go_sem, Nat.reduceBEq, ↓reduceIte, reduceCtorEq, Nat.reduceAdd, Nat.reduceLeDiff, q2, q4, q7, qH0, qH2, z0e, z04, Idv.zero])) | ((refine zqd _ rfl (fun hc => ?_) (fun hc => ?_)) <;> (((try simp only [z03] at hc); (try (exfalso; omega))))) | refine zqc ?_ | refine zqn ?_ | refine zqv ?_ | refine zqz ?_ | refine zqp ?_ | refine zqu (by (simp (disch := omega) only [go_sem, Nat.reduceBEq, ↓reduceIte, Nat.reduceAdd, Nat.reduceLeDiff, q4, qH2, z04, Idv.zero]); rfl) rfl ?_ | (refine J _ ?_; clear J K))
   rw [zts (z6c hne (by omega) qp2)]
   exact z02 rfl (Le.refl _)
end
end Go.Proofs.YtppebcifiejplaaGreat
