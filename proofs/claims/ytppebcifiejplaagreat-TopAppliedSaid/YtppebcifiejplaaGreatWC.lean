import Derived.Test.YtppebcifiejplaaGreatWB
import Derived.ProofKit
import Derived.ChangeSlices
import Derived.Below
import Derived.Test.YtppebcifiejplaaGreatProg
import Derived.KernelRfl
import Derived.ChangeArms
import Derived.DataReads
import Derived.Laws.RangeAny
/-
 Lemmas of the claim. No condition but those that each names.
-/
set_option linter.unusedSimpArgs false
set_option linter.unusedVariables false
set_option maxRecDepth 100000
set_option maxHeartbeats 8000000
set_option linter.unusedSectionVars false
namespace Go.Proofs.YtppebcifiejplaaGreat.Abs
open Go.RowKit

theorem zf6 {n : Int} (h : -9223372036854775808 <= n /\ n <= 9223372036854775807) : IntKind.i64.wrap n = n := by rw [IntKind.wrap_i64]; omega
theorem zva {α : Type} (f : α -> D) (l : List α) (k : Nat) (h : k < l.length) : zkd (l.map f) (k : Int) = some (f l[k]) := by
 unfold zkd
 rw [if_pos ⟨by omega, by simpa using h⟩]
 simp [h]
theorem z1m {α : Type} {f : α -> D} (h : ∀ x, pureD (f x) = true) : ∀ (l : List α), pureD.pureL (l.map f) = true
 | [] => rfl
 | x :: l => by simp only [List.map_cons, pureD.pureL, h x, z1m h l, Bool.and_self]
theorem z0p {P : Program} {H : HM} {d : D} (k : Nat) (h : pureD d = true) : z30 P H (k + 1) d = some d := by unfold z30; rw [if_pos h]
theorem zal {P : Program} {H : HM} (k : Nat) : ∀ (ds : List D), pureD.pureL ds = true -> zcy (z30 P H (k + 1)) ds = some ds
 | [], _ => rfl
 | d :: ds, h => by
  simp only [pureD.pureL, Bool.and_eq_true] at h
  simp only [zcy, z0p k h.1, zal k ds h.2]
theorem zbn : ∀ (cs : List D), z1f false 1 cs.length cs = cs
 | [] => rfl
 | c :: cs => by
  simp only [List.length_cons, z1f, Bool.false_eq_true, if_false, List.getElem?_cons_zero, Option.getD_some, List.drop_succ_cons, List.drop_zero]
  rw [zbn cs]
theorem ze2 {P : Program} {H : HM} {id n e : Nat} {cs : List D} (k : Nat) (hH : H id = some (.row e n cs)) (ha : z0f P e = false) (hs : z06 P e = 1) (hn : cs.length = n) (hp : pureD.pureL cs = true) :
  z30 P H (k + 2) (.osl id n) = some (.rsl false 1 cs) := by
 unfold z30
 simp only [pureD, Bool.false_eq_true, if_false, hH, ha, hs, and_self, or_true, if_true]
 rw [zal k cs hp]
 simp only [Option.map_some]
 rw [<- hn, zbn]

def encI (l : List Int) : D := .rsl false 1 (l.map fun n => .int .i64 n)
def z39 (l : List ByteArray) : D := .rsl false 1 (l.map .str)
theorem z2o (l : List ByteArray) : pureD (z39 l) = true := by simp only [z39, pureD]; exact z1m (fun _ => rfl) l
end Go.Proofs.YtppebcifiejplaaGreat.Abs
namespace Go.Proofs.YtppebcifiejplaaGreat.Abs
theorem z02 {P : Program} {H : HM} {nx k : Nat} {d r : D} (hp : pureD d = true) (h : Le d r) : Fin P (k + 1) r d H nx := ⟨d, z0p k hp, h⟩
theorem z00 {P : Program} {H : HM} {nx : Nat} {b c : Bool} (h : b = c) : Fin P 1 (.bool c) (.bool b) H nx := z02 rfl (by rw [h]; exact Le.refl _)
theorem z2w {P : Program} {H : HM} {nx : Nat} {b c : Int} (h : b = c) : Fin P 1 (.int .i64 c) (.int .i64 b) H nx := z02 rfl (by rw [h]; exact Le.refl _)
end Go.Proofs.YtppebcifiejplaaGreat.Abs
namespace Go.Proofs.YtppebcifiejplaaGreat.Abs
open Go.RowKit
theorem z0q {P : Program} {H : HM} {k : Nat} {d d' : D} {ds ds' : List D} (h : z30 P H k d = some d') (hs : zcy (z30 P H k) ds = some ds') : zcy (z30 P H k) (d :: ds) = some (d' :: ds') := by
 simp only [zcy, h, hs]
theorem z90 {P : Program} {H : HM} {k : Nat} : zcy (z30 P H k) [] = some [] := rfl
end Go.Proofs.YtppebcifiejplaaGreat.Abs
namespace Go.Proofs.YtppebcifiejplaaGreat.Abs
open Go.RowKit
theorem zvb {P : Program} {H : HM} {f : FuncId} {cap cap' : List D} (k : Nat) (hp : pureD.pureL cap = false) (hc : zcy (z30 P H k) cap = some cap') : z30 P H (k + 1) (.fn f cap) = some (.fn f cap') := by
 unfold z30
 simp only [pureD, hp, Bool.false_eq_true, if_false, hc, Option.map_some]
theorem z50 {P : Program} {H : HM} {nx k : Nat} {d r : D} (h : z30 P H k d = some r) : Fin P k r d H nx := ⟨r, h, Le.refl _⟩
end Go.Proofs.YtppebcifiejplaaGreat.Abs
namespace Go.Proofs.YtppebcifiejplaaGreat.Abs
open Go.RowKit
theorem z91 {α : Type} {f : α -> List D} {sz : Nat} (h : ∀ x, (f x).length = sz) : ∀ (l : List α), z1f true sz l.length (l.flatMap f) = l.map fun x => .agg (f x)
 | [] => rfl
 | x :: l => by
  simp only [List.length_cons, z1f, if_true, List.flatMap_cons, List.map_cons]
  rw [List.take_left' (h x), List.drop_left' (h x), z91 h l]
theorem z5g {α : Type} {f : α -> List D} (h : ∀ x, pureD.pureL (f x) = true) : ∀ (l : List α), pureD.pureL (l.flatMap f) = true
 | [] => rfl
 | x :: l => by
  have app : ∀ (a b : List D), pureD.pureL a = true -> pureD.pureL b = true -> pureD.pureL (a ++ b) = true := by
   intro a b
   induction a with
   | nil => intro _ h; exact h
   | cons d ds ih =>
    intro h1 h2
    simp only [pureD.pureL, Bool.and_eq_true, List.cons_append] at h1 ⊢
    exact ⟨h1.1, ih h1.2 h2⟩
  exact app _ _ (h x) (z5g h l)
theorem z1z {α : Type} {P : Program} {H : HM} {id e sz : Nat} {f : α -> List D} {l : List α} (k : Nat) (hH : H id = some (.row e l.length (l.flatMap f))) (ha : z0f P e = true) (hs : z06 P e = sz) (h : ∀ x, (f x).length = sz) (hp : ∀ x, pureD.pureL (f x) = true) :
  z30 P H (k + 2) (.osl id l.length) = some (.rsl false sz (l.map fun x => .agg (f x))) := by
 unfold z30
 simp only [pureD, Bool.false_eq_true, if_false, hH, ha, true_or, and_self, if_true, hs]
 rw [zal k _ (z5g hp l)]
 simp only [Option.map_some, z91 h]
end Go.Proofs.YtppebcifiejplaaGreat.Abs
namespace Go.Proofs.YtppebcifiejplaaGreat.Abs
theorem zbo {H : HM} {i j : Nat} {o : Option HObj} (h : ¬ j = i) : z1u H i o j = H j := if_neg h
theorem zyj {H : HM} {i : Nat} {o : Option HObj} : z1u H i o i = o := if_pos rfl
end Go.Proofs.YtppebcifiejplaaGreat.Abs
namespace Go.Proofs.YtppebcifiejplaaGreat.Abs
open Go.RowKit
theorem PC.le {P : Program} {f : FuncId} {ds es : List D} {r : D} (h : PC P f es r) (hp : pureD.pureL ds = true) (hl : LeL ds es) : PC P f ds r :=
 ⟨hp, h.2.1, h.2.2.1, fun s w vs h1 h2 h3 h4 => h.2.2.2 s w vs h1 h2 h3 (zai hl h4)⟩
end Go.Proofs.YtppebcifiejplaaGreat.Abs
namespace Go.Proofs.YtppebcifiejplaaGreat.Abs
open Go.RowKit Go.ChangeShapes

def zbp (W : World) : RS := { m := W.cell?, H := noH, nx := 0, κ := fun _ => .pointer none }
def zrl (W : World) : Prop := ∀ g, rel (zbp W) (globD g) (.pointer (some ⟨g, 0, none⟩))
theorem zo1 (W : World) : zrl W := fun g => by simp only [globD, rel]
theorem zvc (P : Program) (W : World) (hg : zrl W) : RH P (zbp W) W :=
 ⟨fun a v h => ⟨h, by rintro ⟨id, hid, _⟩; exact absurd hid (Nat.not_lt_zero _)⟩, fun id o ho => (by cases ho), fun i j hi => (hi rfl).elim, hg⟩
theorem zrm {P : Program} {f : FuncId} {ds : List D} {v : Value} {d : D} (h : PC P f ds d) (hd : ∀ s u, rel s d u -> u = v) {W : World} (hg : zrl W) {vs : List Value} (hr : relAll (zbp W) ds vs) :
  Calls P f vs.toArray W fun e W' => e = .returned v /\ Below W.heap.size W W' := by
 refine (h.2.2.2 (zbp W) W vs rfl rfl (zvc P W hg) hr).mono fun e W' ⟨u, r', s', he, hrr, hstep, _, hrel⟩ => ?_
 subst hrr
 rw [hd _ _ hrel] at he
 exact ⟨he, hstep.os, hstep.tape, hstep.output, hstep.size, fun k hk => hstep.keep k hk (by rintro ⟨id, hid, _⟩; exact absurd hid (Nat.not_lt_zero _))⟩
end Go.Proofs.YtppebcifiejplaaGreat.Abs
namespace Go.Proofs.YtppebcifiejplaaGreat.Abs
open Go.RowKit Go.ChangeShapes
end Go.Proofs.YtppebcifiejplaaGreat.Abs
namespace Go.Proofs.YtppebcifiejplaaGreat.Abs
open Go.RowKit
variable {P : Program} {own : List Nat} {Q : Exit -> St -> Prop} {st : St}

theorem zqd {c : Operand} {x y b : Code} (t : Bool) (ht : st.ev c = .bool t) (h1 : t = true -> awp P own (.seq x b) Q st) (h2 : t = false -> awp P own (.seq y b) Q st) : awp P own (.seq (.cond c x y) b) Q st :=
 ⟨t, ht, h1, h2⟩
theorem zqb {b : Code} (h : awp P own b Q st) : awp P own (.seq .skip b) Q st := ⟨st, SealTo.refl st, h⟩
theorem zqg {b : Code} (h : Q .ret st) : awp P own (.seq .ret b) Q st := h
theorem zqc {b : Code} {id : Nat} (h : Q (.exit id) st) : awp P own (.seq (.exit id) b) Q st := h
theorem zqa {id : Nat} {c b : Code} (h : awp P own c (zv1 id (zr5 (fun st => ∃ st', SealTo P st st' /\ awp P own b Q st') Q)) st) : awp P own (.seq (.block id c) b) Q st := h
theorem zqr {id : Nat} {l : List Oper} (h : ∀ K : St -> Prop, (∀ st, Q .normal st -> K st) -> z2m P own (l.map (·.dst)) l K st) : awp P own (.region id l.toArray false) Q st :=
 zr9 (h _ fun _ h => h)
theorem zqq {id : Nat} {l : List Oper} (h0 : zft own l.toArray = true) (h : ∀ K : St -> Prop, (∀ st, Q .normal st -> K st) -> z37 P own (l.map (·.dst)) l K st) : awp P own (.region id l.toArray true) Q st :=
 zm4 h0 (h _ fun _ h => h)
theorem z35 {c : Code} (I : Nat -> St -> Prop) (h0 : ∃ n, I n st) (h : ∀ n st', I n st' -> awp P own c (zv2 I n Q) st') : awp P own (.loop c) Q st := ⟨I, h0, h⟩
def isRN : Exit -> Bool
 | .normal | .ret => true
 | _ => false
theorem zqu {e : Exit} {rs : List ResultVar} {K : D -> HM -> Nat -> Prop} {d : D} (h : resD P st rs = some d) (he : isRN e = true) (hF : K d st.H st.nx) : retQ P rs K e st := by
 cases e <;> first | exact ⟨d, h, hF⟩ | cases he
theorem zqv {Q' : Exit -> St -> Prop} {b : Code} (h : awp P own b Q st) : zr5 (fun st => ∃ st', SealTo P st st' /\ awp P own b Q st') Q' .normal st := ⟨st, SealTo.refl st, h⟩
theorem zam {Q' : Exit -> St -> Prop} {b : Code} (st' : St) (hs : SealTo P st st') (h : awp P own b Q st') : zr5 (fun st => ∃ st', SealTo P st st' /\ awp P own b Q st') Q' .normal st := ⟨st', hs, h⟩
theorem zqx {k : St -> Prop} (h : Q .ret st) : zr5 k Q .ret st := h
theorem zqy {id : Nat} (h : Q .normal st) : zv1 id Q .normal st := h
theorem zqz {id : Nat} (h : Q .normal st) : zv1 id Q (.exit id) st := by
 simp only [zv1, if_true]; exact h
theorem z4f {id : Nat} (h : Q .ret st) : zv1 id Q .ret st := h
theorem zqp {I : Nat -> St -> Prop} {n id : Nat} (h : Q (.exit id) st) : zv2 I n Q (.exit id) st := h
theorem zqo {I : Nat -> St -> Prop} {n : Nat} (h : Q .ret st) : zv2 I n Q .ret st := h
section
variable {f : List Oper -> (St -> Prop) -> St -> Prop} {rest : List Oper} {K : St -> Prop} {dst : Option Nat}
theorem zqf {b : Bool} {op : Op} {ty : TypeId} {pos : String} {aft : Array Edge} {g : Option (Nat × Bool)} (h1 : b = true -> f (⟨dst, op, ty, pos, aft, g⟩ :: rest) K st) (h2 : b = false -> f rest K (st.put dst (.tup []))) :
  zrc (some b) f ⟨dst, op, ty, pos, aft, g⟩ rest K st := by
 cases b with
 | true => exact h1 rfl
 | false => exact h2 rfl
end
attribute [go_sem] encI z39
theorem zrn {α : Type} {f : α -> D} {l : List α} {i : Int} (h0 : 0 <= i) (h : i.toNat < l.length) : zkd (l.map f) i = some (f l[i.toNat]) := by
 unfold zkd
 rw [if_pos ⟨h0, by simp; omega⟩]
 simp [h]
theorem zvd {α : Type} {c : Prop} [Decidable c] {x : α} (h : c) : (if c then some x else none) = some x := if_pos h
theorem zro {α β : Type} (f : α -> β) (l : List α) (i : Nat) : (l.map f).take i = (l.take i).map f := (List.map_take).symm
theorem zrp {α β : Type} (f : α -> β) (l : List α) (i : Nat) : (l.map f).drop i = (l.drop i).map f := (List.map_drop).symm
theorem zo2 : maxLen = 9223372036854775807 := rfl
attribute [go_sem] zro zrp zo2
theorem nbeq {a b : Nat} (h : ¬ a = b) : (a == b) = false := by simpa using h
theorem nb1 {a : Nat} {st : St} (h : ¬ a = st.nx) : (a == st.nx) = false := nbeq h
theorem nb2 {a : Nat} {st : St} (h : ¬ st.nx = a) : (st.nx == a) = false := nbeq h
theorem nb3 {a k : Nat} {st : St} (h : ¬ a = st.nx + k) : (a == st.nx + k) = false := nbeq h
theorem nb4 {a k : Nat} {st : St} (h : ¬ st.nx + k = a) : (st.nx + k == a) = false := nbeq h
theorem zrq {α : Type} {f : α -> D} {l : List α} {k : Nat} (h : k < l.length) : zkd (l.map f) (k : Int) = some (f l[k]) := zva f l k h
theorem AC.split {f : FuncId} {pre post : List D} {sz : Nat} {els : List D} {H : HM} {nx : Nat} {K : D -> HM -> Nat -> Prop} (h0 : els = [] -> AC P f (pre ++ .nil :: post) H nx K) (h1 : AC P f (pre ++ .rsl true sz els :: post) H nx K) :
  AC P f (pre ++ .rsl false sz els :: post) H nx K := by
 refine ⟨h1.1, fun s w vs hH hnx hRH hr => ?_⟩
 have key : ∀ (pre : List D) (vs : List Value), relAll s (pre ++ .rsl false sz els :: post) vs -> (els = [] /\ relAll s (pre ++ .nil :: post) vs) \/ relAll s (pre ++ .rsl true sz els :: post) vs := by
  intro pre
  induction pre with
  | nil =>
   intro vs hr
   simp only [List.nil_append, relAll] at hr ⊢
   obtain ⟨v, r, h1, h2, h3⟩ := hr
   simp only [rel] at h2
   rcases h2 with ⟨_, h4, h5⟩ | h2
   ·exact .inl ⟨h4, v, r, h1, by simpa only [rel] using h5, h3⟩
   ·exact .inr ⟨v, r, h1, by simp only [rel]; exact .inr h2, h3⟩
  | cons d ds ih =>
   intro vs hr
   simp only [List.cons_append, relAll] at hr ⊢
   obtain ⟨v, r, h1, h2, h3⟩ := hr
   rcases ih r h3 with ⟨h4, h5⟩ | h4
   ·exact .inl ⟨h4, v, r, h1, h2, h5⟩
   ·exact .inr ⟨v, r, h1, h2, h4⟩
 rcases key pre vs hr with ⟨h2, h3⟩ | h2
 ·exact (h0 h2).2 s w vs hH hnx hRH h3
 ·exact h1.2 s w vs hH hnx hRH h2
theorem zrr {P : Program} {H : HM} {ds ds' : List D} (k : Nat) (hp : pureD.pureL ds = false) (hc : zcy (z30 P H k) ds = some ds') : z30 P H (k + 1) (.tup ds) = some (.tup ds') := by
 unfold z30
 simp only [pureD, hp, Bool.false_eq_true, if_false, hc, Option.map_some]
theorem ze3 {P : Program} {H : HM} {ds ds' : List D} (k : Nat) (hp : pureD.pureL ds = false) (hc : zcy (z30 P H k) ds = some ds') : z30 P H (k + 1) (.agg ds) = some (.agg ds') := by
 unfold z30
 simp only [pureD, hp, Bool.false_eq_true, if_false, hc, Option.map_some]
theorem ze4 {cs : List D} {n : Nat} (h : n = cs.length) : z1f false 1 n cs = cs := by subst h; exact zbn cs
theorem z67 {α : Type} {f : α -> D} (h : ∀ x, z44 (f x) = some [f x]) : ∀ (l : List α), z1k 1 (l.map f) = some (l.map f)
 | [] => rfl
 | x :: l => by simp [z1k, h, z67 h l]
theorem zrs (l : List ByteArray) : z1k 1 (l.map D.str) = some (l.map D.str) := z67 (fun _ => rfl) l
theorem zrt {k : IntKind} (l : List Int) : z1k 1 (l.map (D.int k)) = some (l.map (D.int k)) := z67 (fun _ => rfl) l
theorem zgv (l : List ByteArray) : pureD.pureL (l.map D.str) = true := z1m (fun _ => rfl) l
theorem zve {k : IntKind} (l : List Int) : pureD.pureL (l.map (D.int k)) = true := z1m (fun _ => rfl) l
theorem zo3 {α : Type} (f : α -> D) (l : List α) : z1f false 1 l.length (l.map f) = l.map f := ze4 (by simp)
attribute [go_sem] List.nil_append List.cons_append Bool.false_or Bool.or_true Bool.true_or Bool.or_false zo3
theorem zio (a b : List D) : pureD.pureL (a ++ b) = (pureD.pureL a && pureD.pureL b) := by
 induction a with
 | nil => rfl
 | cons d ds ih => simp only [List.cons_append, pureD.pureL, ih, Bool.and_assoc]
attribute [go_sem] zio
theorem zku {α : Type} (f : α -> D) (l : List α) (x : D) : z1f false 1 (l.length + 1) (l.map f ++ [x]) = l.map f ++ [x] := ze4 (by simp)
attribute [go_sem high] zku
theorem zru {k : IntKind} (l : List Nat) : z1k 1 (l.map fun n => D.int k (n : Nat)) = some (l.map fun n => D.int k (n : Nat)) := z67 (fun _ => rfl) l
theorem zvf {k : IntKind} (l : List Nat) : pureD.pureL (l.map fun n => D.int k (n : Nat)) = true := z1m (fun _ => rfl) l
attribute [go_sem] zrs zrt zgv zve zru zvf

theorem ziq : ∀ (n : Nat) (cs : List D), pureD.pureL cs = true -> pureD.pureL (cs.take n) = true
 | 0, _, _ => rfl
 | n + 1, [], _ => rfl
 | n + 1, c :: cs, h => by
  simp only [pureD.pureL, Bool.and_eq_true, List.take_succ_cons] at h ⊢
  exact ⟨h.1, ziq n cs h.2⟩
theorem zir : ∀ (n : Nat) (cs : List D), pureD.pureL cs = true -> pureD.pureL (cs.drop n) = true
 | 0, _, h => h
 | n + 1, [], _ => rfl
 | n + 1, c :: cs, h => by
  simp only [pureD.pureL, Bool.and_eq_true] at h
  exact zir n cs h.2
theorem zg0 {ag : Bool} {sz : Nat} : ∀ {n : Nat} {cs : List D}, pureD.pureL cs = true -> pureD.pureL (z1f ag sz n cs) = true
 | 0, _, _ => rfl
 | n + 1, cs, h => by
  simp only [z1f, pureD.pureL, Bool.and_eq_true]
  refine ⟨?_, zg0 (zir sz cs h)⟩
  cases ag with
  | true => simp only [if_true, pureD]; exact ziq sz cs h
  | false =>
   cases cs with
   | nil => rfl
   | cons c cs =>
    simp only [pureD.pureL, Bool.and_eq_true] at h
    exact h.1
def zis (P : Program) (id : Nat) (e : TypeId) (k : Nat) (cs : List D) : D -> D
 | .osl j n => cond (j == id && n == k) (.rsl false (z06 P e) (z1f (z0f P e) (z06 P e) k cs)) (.osl j n)
 | d => d
def zrv (P : Program) (id : Nat) (e : TypeId) (k : Nat) (cs : List D) : D -> D
 | .agg ds => .agg (ds.map (zis P id e k cs))
 | d => zis P id e k cs d
def zf7 (P : Program) (id : Nat) (e : TypeId) (k : Nat) (cs : List D) : HObj -> HObj
 | .box t ds => .box t (ds.map (zis P id e k cs))
 | .row t n ds => .row t n (ds.map (zis P id e k cs))
 | o => o
def St.given (P : Program) (st : St) (id : Nat) (e : TypeId) (k : Nat) (cs : List D) : St :=
 {t := fun i => zrv P id e k cs (st.t i), H := fun j => cond (j == id) none ((st.H j).map (zf7 P id e k cs)), nx := st.nx }
theorem z9y {st : St} {id : Nat} {e : TypeId} {k : Nat} {cs : List D} (h : st.H id = some (.row e k cs)) (ho : zke P e = true) (hp : pureD.pureL cs = true) : SealTo P st (st.given P id e k cs) := by
 intro N s a w hf
 have hid : s.H id = some (.row e k cs) := by rw [hf.H]; exact h
 obtain ⟨g1, g2⟩ := zea hf.heap (id := id) (by rw [hid]; simp)
 let s' : RS := { s.shut1 w id with H := fun j => cond (j == id) none ((s.H j).map (zf7 P id e k cs)) }
 have hm : s'.m = (s.shut1 w id).m := rfl
 have hH' : ∀ j, j ≠ id -> s'.H j = (s.H j).map (zf7 P id e k cs) := fun j hj => by
  have : (j == id) = false := by simpa using hj
  show cond (j == id) none _ = _
  rw [this]; rfl
 have hHid : s'.H id = none := by
  show cond (id == id) none _ = _
  simp
 have hlater : Later s s' := by
  refine ⟨Nat.le_refl _, g1.mem, fun j _ => ?_⟩
  by_cases hj : j = id
  ·subst hj
   rw [hHid, hid]; exact .inl rfl
  ·rw [hH' j hj]
   show objLe (s.H j) ((s.H j).map _) (s.κ j) (s.κ j)
   cases s.H j with
   | none => rfl
   | some o =>
    cases o with
    | box t ds => exact .inr ⟨_, rfl, rfl⟩
    | row t n ds => exact .inr ⟨n, _, rfl, Nat.le_refl _, fun _ => rfl⟩
    | map es => exact .inr ⟨_, rfl, rfl⟩
    | raw q => exact .inr ⟨_, rfl, rfl⟩
 have r0 : ∀ d v, rel s d v -> rel s' (zis P id e k cs d) v := by
  intro d v hr
  have stay : rel s' d v := rel.later hlater d v hr
  cases d <;> first | exact stay | skip
  rename_i j n
  simp only [zis]
  cases hc : (j == id && n == k) with
  | false => exact stay
  | true =>
   simp only [Bool.and_eq_true, beq_iff_eq] at hc
   obtain ⟨rfl, rfl⟩ := hc
   have hs : zdk P (.osl j n, s.H, s.nx) = some (.rsl false (z06 P e) (z1f (z0f P e) (z06 P e) n cs), z1u s.H j none, s.nx) := by
    unfold zdk
    simp only [hid]
    rw [if_pos ⟨trivial, ho, hp⟩]
   obtain ⟨s2, _, _, _, _, hr2, he2⟩ := zeb hf.heap rfl rfl hr hs
   have he3 := he2 j n rfl
   subst he3
   have hpp : pureD (.rsl false (z06 P e) (z1f (z0f P e) (z06 P e) n cs)) = true := by
    simp only [pureD]
    exact zg0 hp
   exact z68 (s := s.shut1 w j) (s' := s') (fun a v h => h) _ _ hpp hr2
 have r0L : ∀ (ds : List D) (vs : List Value), relAll s ds vs -> relAll s' (ds.map (zis P id e k cs)) vs := by
  intro ds
  induction ds with
  | nil => intro vs hr; simpa [relAll] using hr
  | cons d ds ih =>
   intro vs hr
   simp only [relAll] at hr
   obtain ⟨v, r, rfl, h1, h2⟩ := hr
   exact z0j (r0 d v h1) (ih r h2)
 have r1 : ∀ d v, rel s d v -> rel s' (zrv P id e k cs d) v := by
  intro d v hr
  cases d <;> first | exact r0 _ v hr | skip
  rename_i ds
  simp only [zrv, rel] at hr ⊢
  obtain ⟨vs, h1, h2, h3⟩ := hr
  exact ⟨vs, h1, r0L ds vs h2, h3⟩
 have hnone : ∀ j, s'.H j ≠ none -> j ≠ id /\ s.H j ≠ none := by
  intro j hj
  by_cases hji : j = id
  ·subst hji; exact (hj hHid).elim
  ·rw [hH' j hji] at hj
   exact ⟨hji, fun h0 => hj (by rw [h0]; rfl)⟩
 have hown : ∀ b, owned s' b -> owned (s.shut1 w id) b := by
  rintro b ⟨j, hj, hH, hb⟩
  obtain ⟨h1, h2⟩ := hnone j hH
  exact ⟨j, hj, by simp only [RS.shut1, z1u, if_neg h1]; exact h2, hb⟩
 have hown2 : ∀ b, owned s' b -> owned s b := by
  rintro b ⟨j, hj, hH, hb⟩
  exact ⟨j, hj, (hnone j hH).2, hb⟩
 refine ⟨s', ⟨?_, hf.nx, hf.size, hf.defers, fun i => r1 _ _ (hf.tmps i), ?_⟩, ?_⟩
 ·show (fun j => cond (j == id) none ((s.H j).map (zf7 P id e k cs))) = _
  rw [hf.H]; rfl
 ·refine ⟨fun a v hmm => ⟨(g2.mem a v hmm).1, fun ho => (g2.mem a v hmm).2 (hown _ ho)⟩, fun j o hj => ?_, fun i j hi hj hij hbi => ?_, fun g => rel.later hlater _ _ (hf.heap.glob g)⟩
  ·obtain ⟨h1, h2⟩ := hnone j (by rw [hj]; simp)
   rw [hH' j h1] at hj
   cases hs : s.H j with
   | none => exact (h2 hs).elim
   | some o0 =>
    rw [hs] at hj
    simp only [Option.map_some, Option.some.injEq] at hj
    obtain ⟨q1, q2⟩ := hf.heap.obj j o0 hs
    refine ⟨q1, ?_⟩
    show objOK P s' w (s.κ j) o
    cases o0 with
    | box t ds =>
     simp only [zf7] at hj; subst hj
     obtain ⟨b, vs, u1, u2, u3, u4⟩ := q2
     exact ⟨b, vs, u1, u2, r0L _ _ u3, u4⟩
    | row t n ds =>
     simp only [zf7] at hj; subst hj
     obtain ⟨vs, u1, u2, u3⟩ := q2
     exact ⟨vs, u1, r0L _ _ u2, u3⟩
    | map es =>
     simp only [zf7] at hj; subst hj
     obtain ⟨r, ens, clock, u1, u2, u3, u4⟩ := q2
     exact ⟨r, ens, clock, u1, u2, relAll.later hlater _ _ u3, relAll.later hlater _ _ u4⟩
    | raw q =>
     simp only [zf7] at hj; subst hj
     exact q2
  ·exact hf.heap.apart i j (hnone i hi).2 (hnone j hj).2 hij hbi
 ·exact ⟨g1.os, g1.tape, g1.output, g1.size, g1.nx, g1.mem, g1.new, hlater.objs, g1.keep, fun b ho => .inl (hown2 b ho)⟩
@[go_sem] theorem t_seal (st : St) (id e k : Nat) (cs : List D) (i : Nat) : (st.given P id e k cs).t i = zrv P id e k cs (st.t i) := rfl
@[go_sem] theorem H_seal (st : St) (id e k : Nat) (cs : List D) (j : Nat) : (st.given P id e k cs).H j = cond (j == id) none ((st.H j).map (zf7 P id e k cs)) := rfl
@[go_sem] theorem nx_seal (st : St) (id e k : Nat) (cs : List D) : (st.given P id e k cs).nx = st.nx := rfl
attribute [go_sem] zis zrv zf7
attribute [go_sem] Bool.not_true Bool.not_false decide_true decide_false List.getElem?_toArray List.map_map ne_eq not_true_eq_false not_false_eq_true List.length_map Nat.zero_le Option.some.injEq List.length_cons List.length_nil beq_self_eq_true Bool.true_and Bool.and_true true_or or_true List.drop_zero List.set_cons_zero List.set_cons_succ List.take_succ_cons List.take_zero List.drop_succ_cons D.int.injEq Prod.mk.injEq Int.toNat_natCast Nat.mul_one Nat.zero_add Nat.add_zero Int.natCast_nonneg List.getElem?_map List.length_set List.length_append List.length_replicate List.length_take List.length_drop List.take_length Bool.false_and Bool.and_false
attribute [go_sem] zrq zrn zf6 nb1 nb2 nb3 nb4 zvd resD zy5 valR
end Go.Proofs.YtppebcifiejplaaGreat.Abs
namespace Go.Proofs.YtppebcifiejplaaGreat.Abs
open Go.RowKit
variable {P : Program}

def zkv : HObj -> Bool
 | .box _ cs => pureD.pureL cs
 | .row _ _ cs => pureD.pureL cs
 | .map es => pureD.pureL (es.map (·.1)) && pureD.pureL (es.map (·.2))
 | .raw _ => true
def renD (g : Nat -> Nat) : D -> D
 | .osl j n => .osl (g j) n
 | .ptr j off => .ptr (g j) off
 | .mp j => .mp (g j)
 | .agg ds => .agg (renL ds)
 | .tup ds => .tup (renL ds)
 | d => d
where renL : List D -> List D
 | [] => []
 | d :: ds => renD g d :: renL ds
def okD (k : Nat) : D -> Bool
 | .osl j _ => decide (j < k)
 | .ptr j _ => decide (j < k)
 | .mp j => decide (j < k)
 | .agg ds => okL ds
 | .tup ds => okL ds
 | d => pureD d
where okL : List D -> Bool
 | [] => true
 | d :: ds => okD k d && okL ds
def addL (H : HM) (nx : Nat) : List HObj -> HM
 | [] => H
 | o :: os => addL (z1u H nx (some o)) (nx + 1) os
def OC (P : Program) (f : FuncId) (ds : List D) (objs : List HObj) (r : D) : Prop :=
 pureD.pureL ds = true /\ okD objs.length r = true /\ (∀ o ∈ objs, zkv o = true) /\
  ∀ H nx, AC P f ds H nx fun r' H' nx' => r' = renD (fun j => nx + j) r /\ H' = addL H nx objs /\ nx' = nx + objs.length

theorem objOK.pure {s s' : RS} {w : World} {v : Value} {o : HObj} (hm : ∀ a v, s.m a = some v -> s'.m a = some v) (hp : zkv o = true) (h : objOK P s w v o) : objOK P s' w v o := by
 cases o with
 | box e cs =>
  obtain ⟨b, vs, h1, h2, h3, h4⟩ := h
  exact ⟨b, vs, h1, h2, z1n hm _ _ hp h3, h4⟩
 | row e n cs =>
  obtain ⟨vs, h1, h2, h3⟩ := h
  exact ⟨vs, h1, z1n hm _ _ hp h2, h3⟩
 | map es =>
  simp only [zkv, Bool.and_eq_true] at hp
  obtain ⟨r, ens, clock, h1, h2, h3, h4⟩ := h
  exact ⟨r, ens, clock, h1, h2, z1n hm _ _ hp.1 h3, z1n hm _ _ hp.2 h4⟩
 | raw q => exact h

section
variable {st : St} {dst : Option Nat} {n : FuncId} {cap args : List D} {g : List Oper -> (St -> Prop) -> St -> Prop} {rest : List Oper} {K : St -> Prop}
theorem OC.ac {f : FuncId} {ds : List D} {objs : List HObj} {r : D} (h : OC P f ds objs r) {H : HM} {nx : Nat} {K : D -> HM -> Nat -> Prop} (hk : K (renD (fun j => nx + j) r) (addL H nx objs) (nx + objs.length)) : AC P f ds H nx K :=
 (h.2.2.2 H nx).mono fun _ _ _ ⟨h1, h2, h3⟩ => by subst h1; subst h2; subst h3; exact hk
end
attribute [go_sem] addL renD renD.renL
end Go.Proofs.YtppebcifiejplaaGreat.Abs
namespace Go.Proofs.YtppebcifiejplaaGreat.Abs
open Go.RowKit
variable {P : Program}

def lowD (n : Nat) : D -> Bool
 | .osl j _ => decide (j < n)
 | .ptr j _ => decide (j < n)
 | .eptr j _ _ => decide (j < n)
 | .mp j => decide (j < n)
 | .it j => decide (j < n)
 | .agg ds => lowL ds
 | .tup ds => lowL ds
 | .rsl _ _ els => lowL els
 | .fsl _ els => lowL els
 | .rptr d => lowD n d
 | .fn _ cap => lowL cap
 | _ => true
where lowL : List D -> Bool
 | [] => true
 | d :: ds => lowD n d && lowL ds
def lowO (n : Nat) : HObj -> Bool
 | .box _ cs => lowD.lowL n cs
 | .row _ _ cs => lowD.lowL n cs
 | .map es => lowD.lowL n (es.map (·.1)) && lowD.lowL n (es.map (·.2))
 | .raw _ => true
mutual
theorem zd0 (n : Nat) : ∀ d, pureD d = true -> lowD n d = true
 | .agg ds, h => by simp only [pureD] at h; simp only [lowD]; exact z48 n ds h
 | .tup ds, h => by simp only [pureD] at h; simp only [lowD]; exact z48 n ds h
 | .rsl _ _ els, h => by simp only [pureD] at h; simp only [lowD]; exact z48 n els h
 | .fsl _ els, h => by simp only [pureD] at h; simp only [lowD]; exact z48 n els h
 | .rptr d, h => by simp only [pureD] at h; simp only [lowD]; exact zd0 n d h
 | .fn _ cap, h => by simp only [pureD] at h; simp only [lowD]; exact z48 n cap h
 | .any, _ => rfl
 | .int _ _, _ => rfl
 | .bool _, _ => rfl
 | .str _, _ => rfl
 | .nil, _ => rfl
 | .nptr, _ => rfl
 | .nfun, _ => rfl
 | .nmp, _ => rfl
 | .e0, _ => rfl
 | .osl .., h => by cases h
 | .ptr .., h => by cases h
 | .eptr .., h => by cases h
 | .mp _, h => by cases h
 | .it _, h => by cases h
theorem z48 (n : Nat) : ∀ ds, pureD.pureL ds = true -> lowD.lowL n ds = true
 | [], _ => rfl
 | d :: ds, h => by
  simp only [pureD.pureL, Bool.and_eq_true] at h
  simp only [lowD.lowL, zd0 n d h.1, z48 n ds h.2, Bool.and_self]
end
mutual
theorem zm6 {s : RS} : ∀ (d : D) (v : Value), rel s d v -> lowD s.nx d = true
 | .agg ds, v, h => by simp only [rel] at h; obtain ⟨vs, _, h2, _⟩ := h; simp only [lowD]; exact z4t ds vs h2
 | .tup ds, v, h => by simp only [rel] at h; obtain ⟨vs, _, h2⟩ := h; simp only [lowD]; exact z4t ds vs h2
 | .rsl _ _ els, v, h => by
  simp only [rel] at h
  simp only [lowD]
  rcases h with ⟨_, h, _⟩ | ⟨_, _, vs, _, _, _, h4, _⟩
  ·rw [h]; rfl
  ·exact z4t els vs h4
 | .fsl _ els, v, h => by
  simp only [rel] at h
  simp only [lowD]
  rcases h with ⟨h, _⟩ | ⟨_, vs, _, _, h4, _⟩
  ·rw [h]; rfl
  ·exact z4t els vs h4
 | .rptr d, v, h => by simp only [rel] at h; obtain ⟨_, u, _, h2, _⟩ := h; simp only [lowD]; exact zm6 d u h2
 | .fn _ cap, v, h => by simp only [rel] at h; obtain ⟨vs, _, h2⟩ := h; simp only [lowD]; exact z4t cap vs h2
 | .any, _, _ => rfl
 | .int _ _, _, _ => rfl
 | .bool _, _, _ => rfl
 | .str _, _, _ => rfl
 | .nil, _, _ => rfl
 | .nptr, _, _ => rfl
 | .nfun, _, _ => rfl
 | .nmp, _, _ => rfl
 | .e0, _, _ => rfl
 | .osl .., v, h => by simp only [rel] at h; simp only [lowD, decide_eq_true_iff]; exact h.1
 | .ptr .., v, h => by simp only [rel] at h; simp only [lowD, decide_eq_true_iff]; exact h.1
 | .eptr .., v, h => by simp only [rel] at h; simp only [lowD, decide_eq_true_iff]; exact h.1
 | .mp _, v, h => by simp only [rel] at h; simp only [lowD, decide_eq_true_iff]; exact h.1
 | .it _, v, h => by simp only [rel] at h; simp only [lowD, decide_eq_true_iff]; exact h.1
theorem z4t {s : RS} : ∀ (ds : List D) (vs : List Value), relAll s ds vs -> lowD.lowL s.nx ds = true
 | [], _, _ => rfl
 | d :: ds, vs, h => by
  simp only [relAll] at h
  obtain ⟨v, r, _, h1, h2⟩ := h
  simp only [lowD.lowL, zm6 d v h1, z4t ds r h2, Bool.and_self]
end
theorem zrw {s : RS} {w : World} {v : Value} {o : HObj} (h : objOK P s w v o) : lowO s.nx o = true := by
 cases o with
 | box e cs => obtain ⟨_, vs, _, _, h, _⟩ := h; exact z4t cs vs h
 | row e n cs => obtain ⟨vs, _, h, _⟩ := h; exact z4t cs vs h
 | map es => obtain ⟨_, _, _, _, _, h1, h2⟩ := h; simp only [lowO, z4t _ _ h1, z4t _ _ h2, Bool.and_self]
 | raw o => rfl
mutual
theorem zkw {s s' : RS} {n : Nat} (hm : ∀ a v, s.m a = some v -> s'.m a = some v) (hn : n <= s'.nx) (hH : ∀ id, id < n -> s'.H id = s.H id /\ s'.κ id = s.κ id) :
  ∀ (d : D) (v : Value), lowD n d = true -> rel s d v -> rel s' d v
 | .agg ds, v, hl, h => by
  simp only [lowD] at hl; simp only [rel] at h ⊢
  obtain ⟨vs, h1, h2, h3⟩ := h
  exact ⟨vs, h1, z33 hm hn hH ds vs hl h2, h3⟩
 | .tup ds, v, hl, h => by
  simp only [lowD] at hl; simp only [rel] at h ⊢
  obtain ⟨vs, h1, h2⟩ := h
  exact ⟨vs, h1, z33 hm hn hH ds vs hl h2⟩
 | .rsl nn sz els, v, hl, h => by
  simp only [lowD] at hl; simp only [rel] at h ⊢
  rcases h with h | ⟨a, cap, vs, h1, h2, h3, h4, h5⟩
  ·exact .inl h
  ·exact .inr ⟨a, cap, vs, h1, h2, h3, z33 hm hn hH els vs hl h4, fun i u hu => ⟨(h5 i u hu).1, (h5 i u hu).2.later hm⟩⟩
 | .fsl sz els, v, hl, h => by
  simp only [lowD] at hl; simp only [rel] at h ⊢
  rcases h with h | ⟨a, vs, h1, h3, h4, h5⟩
  ·exact .inl h
  exact .inr ⟨a, vs, h1, h3, z33 hm hn hH els vs hl h4, fun i u hu => ⟨(h5 i u hu).1, (h5 i u hu).2.later hm⟩⟩
 | .rptr d, v, hl, h => by
  simp only [lowD] at hl; simp only [rel] at h ⊢
  obtain ⟨a, u, h1, h2, h3⟩ := h
  exact ⟨a, u, h1, zkw hm hn hH d u hl h2, h3.later hm⟩
 | .fn f cap, v, hl, h => by
  simp only [lowD] at hl; simp only [rel] at h ⊢
  obtain ⟨vs, h1, h2⟩ := h
  exact ⟨vs, h1, z33 hm hn hH cap vs hl h2⟩
 | .any, _, _, _ => by simp [rel]
 | .int _ _, v, _, h => by simpa [rel] using h
 | .bool _, v, _, h => by simpa [rel] using h
 | .str _, v, _, h => by simpa [rel] using h
 | .nil, v, _, h => by simpa [rel] using h
 | .nptr, v, _, h => by simpa [rel] using h
 | .nfun, v, _, h => by simpa [rel] using h
 | .nmp, v, _, h => by simpa [rel] using h
 | .e0, v, _, h => by simpa [rel] using h
 | .osl j k, v, hl, h => by
  simp only [lowD, decide_eq_true_iff] at hl; simp only [rel] at h ⊢
  rw [(hH j hl).1, (hH j hl).2]; exact ⟨by omega, h.2⟩
 | .ptr j k, v, hl, h => by
  simp only [lowD, decide_eq_true_iff] at hl; simp only [rel] at h ⊢
  rw [(hH j hl).1, (hH j hl).2]; exact ⟨by omega, h.2⟩
 | .eptr j k o, v, hl, h => by
  simp only [lowD, decide_eq_true_iff] at hl; simp only [rel] at h ⊢
  rw [(hH j hl).1, (hH j hl).2]; exact ⟨by omega, h.2⟩
 | .mp j, v, hl, h => by
  simp only [lowD, decide_eq_true_iff] at hl; simp only [rel] at h ⊢
  rw [(hH j hl).1, (hH j hl).2]; exact ⟨by omega, h.2⟩
 | .it j, v, hl, h => by
  simp only [lowD, decide_eq_true_iff] at hl; simp only [rel] at h ⊢
  rw [(hH j hl).1, (hH j hl).2]; exact ⟨by omega, h.2⟩
theorem z33 {s s' : RS} {n : Nat} (hm : ∀ a v, s.m a = some v -> s'.m a = some v) (hn : n <= s'.nx) (hH : ∀ id, id < n -> s'.H id = s.H id /\ s'.κ id = s.κ id) :
  ∀ (ds : List D) (vs : List Value), lowD.lowL n ds = true -> relAll s ds vs -> relAll s' ds vs
 | [], vs, _, h => by simpa [relAll] using h
 | d :: ds, vs, hl, h => by
  simp only [lowD.lowL, Bool.and_eq_true] at hl
  simp only [relAll] at h ⊢
  obtain ⟨v, r, h1, h2, h3⟩ := h
  exact ⟨v, r, h1, zkw hm hn hH d v hl.1 h2, z33 hm hn hH ds r hl.2 h3⟩
end
theorem zrx {s s' : RS} {n : Nat} {w : World} {v : Value} {o : HObj} (hm : ∀ a v, s.m a = some v -> s'.m a = some v) (hn : n <= s'.nx) (hH : ∀ id, id < n -> s'.H id = s.H id /\ s'.κ id = s.κ id)
  (hl : lowO n o = true) (h : objOK P s w v o) : objOK P s' w v o := by
 cases o with
 | box e cs =>
  obtain ⟨b, vs, h1, h2, h3, h4⟩ := h
  exact ⟨b, vs, h1, h2, z33 hm hn hH _ _ hl h3, h4⟩
 | row e k cs =>
  obtain ⟨vs, h1, h2, h3⟩ := h
  exact ⟨vs, h1, z33 hm hn hH _ _ hl h2, h3⟩
 | map es =>
  simp only [lowO, Bool.and_eq_true] at hl
  obtain ⟨r, ens, c, h1, h2, h3, h4⟩ := h
  exact ⟨r, ens, c, h1, h2, z33 hm hn hH _ _ hl.1 h3, z33 hm hn hH _ _ hl.2 h4⟩
 | raw o => exact h
def cutH (n : Nat) (H : HM) : HM := fun id => if id < n then H id else none
theorem zyk {f : FuncId} {ds : List D} {H : HM} {nx : Nat} {K : D -> HM -> Nat -> Prop} (h : AC P f ds H nx K)
  (hk : ∀ r H' nx', K r H' nx' -> lowD nx r = true /\ ∀ id o, id < nx -> H' id = some o -> H id = some o \/ lowO nx o = true) :
  AC P f ds H nx fun r H2 nx2 => nx2 = nx /\ ∃ H' nx', K r H' nx' /\ H2 = cutH nx H' := by
 refine ⟨h.1, fun s w vs h1 h2 h3 h4 => (h.2 s w vs h1 h2 h3 h4).mono fun e w' ⟨v, r, s', he, J, hstep, hRH, hr⟩ => ?_⟩
 subst h1; subst h2
 obtain ⟨hl, hlo⟩ := hk _ _ _ J
 let s2 : RS := { s' with H := cutH s.nx s'.H, nx := s.nx }
 have hH : ∀ id, id < s.nx -> s2.H id = s'.H id /\ s2.κ id = s'.κ id := fun id hid => ⟨if_pos hid, rfl⟩
 have hcut : ∀ (d : D) (v : Value), lowD s.nx d = true -> rel s' d v -> rel s2 d v := zkw (s := s') (s' := s2) (fun _ _ h => h) (Nat.le_refl _) hH
 have hown : ∀ k, owned s2 k -> owned s' k := fun k ⟨id, hid, h5, h6⟩ => by
  rw [(hH id hid).1] at h5
  exact ⟨id, Nat.lt_of_lt_of_le hid hstep.nx, h5, h6⟩
 refine ⟨v, r, s2, he, ⟨rfl, s'.H, s'.nx, J, rfl⟩, ?_, ?_, hcut r v hl hr⟩
 ·exact ⟨hstep.os, hstep.tape, hstep.output, hstep.size, Nat.le_refl _, hstep.mem, hstep.new, fun id hid => by rw [(hH id hid).1]; exact hstep.objs id hid, hstep.keep, fun k hk' => hstep.own k (hown k hk')⟩
 ·refine ⟨fun a u hm => ⟨(hRH.mem a u hm).1, fun ho => (hRH.mem a u hm).2 (hown _ ho)⟩, fun id o ho => ?_, fun i j hi hj hij hb => ?_, fun g => ?_⟩
  ·have hid : id < s.nx := by
    rcases Nat.lt_or_ge id s.nx with h9 | h9
    ·exact h9
    ·have : s2.H id = none := if_neg (by omega)
     rw [this] at ho; cases ho
   rw [(hH id hid).1] at ho
   refine ⟨hid, zrx (s := s') (s' := s2) (n := s.nx) (fun _ _ h => h) (Nat.le_refl _) hH ?_ (hRH.obj id o ho).2⟩
   rcases hlo id o hid ho with h9 | h9
   ·exact zrw (s := s) (h3.obj id o h9).2
   ·exact h9
  ·have lt : ∀ i, s2.H i ≠ none -> i < s.nx /\ s'.H i ≠ none := fun i hi => by
    rcases Nat.lt_or_ge i s.nx with h9 | h9
    ·exact ⟨h9, by rw [<- (hH i h9).1]; exact hi⟩
    ·exact (hi (if_neg (by omega))).elim
   exact hRH.apart i j (lt i hi).2 (lt j hj).2 hij hb
  ·exact hcut _ _ (zd0 _ _ (z8y g)) (hRH.glob g)

def Eff {σ : Type} (P : Program) (f : FuncId) (ds : List D) (lo : Nat) (I : σ -> HM -> Prop) (s s' : σ) (r : D) : Prop :=
 ∀ H nx, lo <= nx -> I s H -> AC P f ds H nx fun r' H' nx' => r' = r /\ nx' = nx /\ I s' H' /\ ∀ id, lo <= id -> H' id = H id
structure Low {σ : Type} (lo : Nat) (I : σ -> HM -> Prop) : Prop where
 loc : ∀ s H H', (∀ id, id < lo -> H' id = H id) -> I s H -> I s H'
 low : ∀ s H, I s H -> ∀ id o, id < lo -> H id = some o -> lowO lo o = true
mutual
theorem zit {m n : Nat} (h : m <= n) : ∀ d, lowD m d = true -> lowD n d = true
 | .agg ds, hl => by simp only [lowD] at hl ⊢; exact z3n h ds hl
 | .tup ds, hl => by simp only [lowD] at hl ⊢; exact z3n h ds hl
 | .rsl _ _ els, hl => by simp only [lowD] at hl ⊢; exact z3n h els hl
 | .fsl _ els, hl => by simp only [lowD] at hl ⊢; exact z3n h els hl
 | .rptr d, hl => by simp only [lowD] at hl ⊢; exact zit h d hl
 | .fn _ cap, hl => by simp only [lowD] at hl ⊢; exact z3n h cap hl
 | .any, _ => rfl
 | .int _ _, _ => rfl
 | .bool _, _ => rfl
 | .str _, _ => rfl
 | .nil, _ => rfl
 | .nptr, _ => rfl
 | .nfun, _ => rfl
 | .nmp, _ => rfl
 | .e0, _ => rfl
 | .osl .., hl => by simp only [lowD, decide_eq_true_iff] at hl ⊢; omega
 | .ptr .., hl => by simp only [lowD, decide_eq_true_iff] at hl ⊢; omega
 | .eptr .., hl => by simp only [lowD, decide_eq_true_iff] at hl ⊢; omega
 | .mp _, hl => by simp only [lowD, decide_eq_true_iff] at hl ⊢; omega
 | .it _, hl => by simp only [lowD, decide_eq_true_iff] at hl ⊢; omega
theorem z3n {m n : Nat} (h : m <= n) : ∀ ds, lowD.lowL m ds = true -> lowD.lowL n ds = true
 | [], _ => rfl
 | d :: ds, hl => by
  simp only [lowD.lowL, Bool.and_eq_true] at hl ⊢
  exact ⟨zit h d hl.1, z3n h ds hl.2⟩
end
theorem zry {m n : Nat} (h : m <= n) {o : HObj} (hl : lowO m o = true) : lowO n o = true := by
 cases o with
 | box e cs => exact z3n h cs hl
 | row e k cs => exact z3n h cs hl
 | map es => simp only [lowO, Bool.and_eq_true] at hl ⊢; exact ⟨z3n h _ hl.1, z3n h _ hl.2⟩
 | raw o => rfl
theorem ziu {σ : Type} {f : FuncId} {ds : List D} {lo : Nat} {I : σ -> HM -> Prop} {s s' : σ} {r : D} (hI : Low lo I) (hr : pureD r = true)
  (h : ∀ H nx, lo <= nx -> I s H -> AC P f ds H nx fun r' H' _ => r' = r /\ I s' H' /\ ∀ id, lo <= id -> id < nx -> H' id = H id) : Eff P f ds lo I s s' r := by
 intro H nx hlo hs
 have h1 := zyk (h H nx hlo hs) (fun r' H' nx' ⟨hr', hi, hs'⟩ => by
  subst hr'
  refine ⟨zd0 _ _ hr, fun id o hid ho => ?_⟩
  rcases Nat.lt_or_ge id lo with h9 | h9
  ·exact .inr (zry hlo (hI.low s' H' hi id o h9 ho))
  ·exact .inl (by rw [<- hs' id h9 hid]; exact ho))
 refine ⟨h1.1, fun s w vs e1 e2 e3 e4 => (h1.2 s w vs e1 e2 e3 e4).mono fun e w' ⟨v, r1, s1, he, ⟨hnx, H', nx', ⟨hr', hi, hs'⟩, hcut⟩, hstep, hRH, hrel⟩ => ⟨v, r1, s1, he, ⟨hr', hnx, ?_, fun id hid => ?_⟩, hstep, hRH, hrel⟩⟩
 ·refine hI.loc _ H' _ (fun id hid => ?_) hi
  rw [hcut]; exact if_pos (by omega)
 ·rw [hcut]
  unfold cutH
  split
  ·rename_i hlt; exact hs' id hid hlt
  ·rename_i hlt
   cases hH : H id with
   | none => rfl
   | some o =>
    have := (e3.obj id o (by rw [e1]; exact hH)).1
    omega
theorem ze5 {σ : Type} {lo : Nat} {I : σ -> HM -> Prop} {s s' : σ} {r : D} {n : FuncId} {args cap : List D} {g : List Oper -> (St -> Prop) -> St -> Prop} {rest : List Oper} {K : St -> Prop} {st : St} {dst : Option Nat}
  (h : Eff P n (args ++ cap) lo I s s' r) (hlo : lo <= st.nx) (hs : I s st.H)
  (hk : ∀ H', I s' H' -> (∀ id, lo <= id -> H' id = st.H id) -> g rest K ((st.withH H' st.nx).put dst r)) : zrg P (.fn n cap) args g rest K st dst :=
 zgs ((h st.H st.nx hlo hs).mono fun r' H' nx' ⟨h1, h2, h3, h4⟩ => by subst h1; subst h2; exact hk H' h3 h4)
theorem zrz {st : St} {b : Nat} {e : TypeId} (e' : TypeId) (hb : st.H b = some (.box e [.nil])) :
  SealTo P st { st with H := z1u (z1u st.H st.nx (some (.row e' 0 []))) b (some (.box e [.osl st.nx 0])), nx := st.nx + 1 } := by
 intro N s a w hf
 have hHb : s.H b = some (.box e [.nil]) := by rw [hf.H]; exact hb
 have hne : b ≠ s.nx := by have := (hf.heap.obj b _ hHb).1; omega
 obtain ⟨g1, g2⟩ := z6k hf.heap (Grew.refl w) (.row e' 0 []) (.slice none 0 0) (fun b hb => by cases hb) ⟨[], ⟨by simp, .inl ⟨rfl, rfl⟩⟩, z0t, by intro v hv; cases hv⟩
 have hb2 : (s.add (.slice none 0 0) (.row e' 0 [])).H b = some (.box e [.nil]) := by simp [RS.add, z1u, hne, hHb]
 obtain ⟨_, q2⟩ := g2.obj b _ hb2
 obtain ⟨g3, g4⟩ := z9v (w' := w) g2 b _ (.box e [.osl s.nx 0]) ((s.add (.slice none 0 0) (.row e' 0 [])).κ b) hb2 rfl rfl rfl (Nat.le_refl _) (fun _ _ _ => rfl) (.inr ⟨_, rfl, rfl⟩) (fun b hb => .inl hb) (fun hl => by
  obtain ⟨b', vs, u1, u2, u3, u4⟩ := q2
  refine ⟨b', vs, u1, u2, ?_, u4⟩
  simp only [relAll, rel] at u3
  obtain ⟨v, r, rfl, rfl, rfl⟩ := u3
  refine z0j ?_ z0t
  simp only [rel]
  refine ⟨by simp [RS.set, RS.add], ⟨_, _, rfl⟩, fun e2 k cs hH => ⟨Nat.zero_le _, fun _ => ?_⟩⟩
  simp only [RS.set, RS.add]
  rw [if_neg (fun h => hne h.symm)]
  simp)
 refine ⟨_, ⟨?_, ?_, hf.size, hf.defers, fun i => rel.later (g1.trans g3).later _ _ (hf.tmps i), g4⟩, g1.trans g3⟩
 ·simp only [RS.set, RS.add, hf.H, hf.nx]
 ·simp only [RS.set, RS.add, hf.nx]
theorem z51 {id : Nat} {l : List Oper} {b : Code} {own : List Nat} {Q : Exit -> St -> Prop} {st : St} (h : ∀ K : St -> Prop, (∀ st st', SealTo P st st' -> awp P own b Q st' -> K st) -> z2m P own (l.map (·.dst)) l K st) : awp P own (.seq (.region id l.toArray false) b) Q st :=
 ⟨fun h => (by cases h), fun _ => h _ fun _ st' hs hb => ⟨st', hs, hb⟩⟩
theorem zvg {σ : Type} {lo : Nat} (objs : σ -> List HObj) (hl : ∀ s, (objs s).length = lo) (ho : ∀ s, ∀ o ∈ objs s, lowO lo o = true) : Low lo fun s H => ∀ j, j < lo -> H j = (objs s)[j]? :=
 ⟨fun s H H' h hs j hj => (h j hj).trans (hs j hj), fun s H hs id o hid hH => by
  rw [hs id hid] at hH
  exact ho s o (List.mem_of_getElem? hH)⟩
end Go.Proofs.YtppebcifiejplaaGreat.Abs
namespace Go.Proofs.YtppebcifiejplaaGreat.Abs
open Go.RowKit
variable {P : Program}
theorem z03 : (∀ (p : Prop) [Decidable p], (decide p = true) = p) /\ (∀ (p : Prop) [Decidable p], (decide p = false) = ¬p) /\ (∀ p : Prop, (¬¬p) ↔ p) /\ (∀ (α : Type) [BEq α] [LawfulBEq α] (a b : α), (a == b) = true ↔ a = b) /\ (∀ (α : Type) [BEq α] [LawfulBEq α] (a b : α), (a == b) = false ↔ a ≠ b) /\ (∀ (α : Type) [BEq α] [LawfulBEq α] (a b : α), (a != b) = true ↔ a ≠ b) /\ (∀ (α : Type) (a b : α), (a ≠ b) = ¬(a = b)) /\ (∀ b : Bool, ((!b) = true) = (b = false)) /\ (∀ b : Bool, ((!b) = false) = (b = true)) /\ (∀ a b : Bool, ((a && b) = true) = (a = true /\ b = true)) /\ (∀ a b : Bool, ((a || b) = true) = (a = true \/ b = true)) /\ (∀ a b : Bool, ((a && b) = false) = (a = true -> b = false)) /\ (∀ a b : Bool, ((a || b) = false) = (a = false /\ b = false)) /\ (∀ b : Bool, (¬(b = true)) = (b = false)) /\ (∀ b : Bool, (¬(b = false)) = (b = true)) :=
 ⟨fun p _ => decide_eq_true_eq, fun p _ => by simp, fun p => Classical.not_not, fun α _ _ a b => beq_iff_eq, fun α _ _ a b => beq_eq_false_iff_ne, fun α _ _ a b => bne_iff_ne, fun α a b => rfl, fun b => by cases b <;> simp, fun b => by cases b <;> simp, fun a b => by cases a <;> cases b <;> simp, fun a b => by cases a <;> cases b <;> simp, fun a b => by cases a <;> cases b <;> simp, fun a b => by cases a <;> cases b <;> simp, fun b => by cases b <;> simp, fun b => by cases b <;> simp⟩
end Go.Proofs.YtppebcifiejplaaGreat.Abs
namespace Go.Proofs.YtppebcifiejplaaGreat.Facts
open Go.Proofs.YtppebcifiejplaaGreat.Abs
@[go_sem] theorem ty1 : z0f Tryz.prog 1 = false /\ z15 Tryz.prog 1 = true /\ z1g Tryz.prog 1 = none /\ z74 Tryz.prog 1 = none /\ z7u Tryz.prog 1 = none /\ z6z Tryz.prog 1 = false /\ z2z Tryz.prog 1 = false /\ z7o Tryz.prog 1 = none /\ z06 Tryz.prog 1 = 1 /\ z14 Tryz.prog 1 = 8 /\ z23 Tryz.prog 1 = some [D.nfun] /\ z0x Tryz.prog 1 = true := by refine ⟨?_, ?_, ?_, ?_, ?_, ?_, ?_, ?_, ?_, ?_, ?_, ?_⟩ <;> kernel_rfl
@[go_sem] theorem ty2 : z0f Tryz.prog 2 = false /\ z15 Tryz.prog 2 = true /\ z1g Tryz.prog 2 = none /\ z74 Tryz.prog 2 = none /\ z7u Tryz.prog 2 = some .i64 /\ z6z Tryz.prog 2 = false /\ z2z Tryz.prog 2 = false /\ z7o Tryz.prog 2 = none /\ z06 Tryz.prog 2 = 1 /\ z14 Tryz.prog 2 = 8 /\ z23 Tryz.prog 2 = some [D.int .i64 0] /\ z0x Tryz.prog 2 = true := by refine ⟨?_, ?_, ?_, ?_, ?_, ?_, ?_, ?_, ?_, ?_, ?_, ?_⟩ <;> kernel_rfl
@[go_sem] theorem ty3 : z0f Tryz.prog 3 = false /\ z15 Tryz.prog 3 = true /\ z1g Tryz.prog 3 = none /\ z74 Tryz.prog 3 = none /\ z7u Tryz.prog 3 = some .i64 /\ z6z Tryz.prog 3 = false /\ z2z Tryz.prog 3 = false /\ z7o Tryz.prog 3 = none /\ z06 Tryz.prog 3 = 1 /\ z14 Tryz.prog 3 = 8 /\ z23 Tryz.prog 3 = some [D.int .i64 0] /\ z0x Tryz.prog 3 = true := by refine ⟨?_, ?_, ?_, ?_, ?_, ?_, ?_, ?_, ?_, ?_, ?_, ?_⟩ <;> kernel_rfl
theorem z6f : z0f Tryz.prog 3 = false := ty3.1
theorem z6g : z15 Tryz.prog 3 = true := ty3.2.1
theorem z9f : z06 Tryz.prog 3 = 1 := ty3.2.2.2.2.2.2.2.2.1
@[go_sem] theorem ty4 : z0f Tryz.prog 4 = false /\ z15 Tryz.prog 4 = true /\ z1g Tryz.prog 4 = none /\ z74 Tryz.prog 4 = none /\ z7u Tryz.prog 4 = none /\ z6z Tryz.prog 4 = false /\ z2z Tryz.prog 4 = true /\ z7o Tryz.prog 4 = none /\ z06 Tryz.prog 4 = 1 /\ z14 Tryz.prog 4 = 1 /\ z23 Tryz.prog 4 = some [D.bool false] /\ z0x Tryz.prog 4 = true := by refine ⟨?_, ?_, ?_, ?_, ?_, ?_, ?_, ?_, ?_, ?_, ?_, ?_⟩ <;> kernel_rfl
@[go_sem] theorem ty5 : z0f Tryz.prog 5 = false /\ z15 Tryz.prog 5 = true /\ z1g Tryz.prog 5 = none /\ z74 Tryz.prog 5 = none /\ z7u Tryz.prog 5 = some .u8 /\ z6z Tryz.prog 5 = false /\ z2z Tryz.prog 5 = false /\ z7o Tryz.prog 5 = none /\ z06 Tryz.prog 5 = 1 /\ z14 Tryz.prog 5 = 1 /\ z23 Tryz.prog 5 = some [D.int .u8 0] /\ z0x Tryz.prog 5 = true := by refine ⟨?_, ?_, ?_, ?_, ?_, ?_, ?_, ?_, ?_, ?_, ?_, ?_⟩ <;> kernel_rfl
@[go_sem] theorem ty9 : z0f Tryz.prog 9 = false /\ z15 Tryz.prog 9 = true /\ z1g Tryz.prog 9 = none /\ z74 Tryz.prog 9 = none /\ z7u Tryz.prog 9 = none /\ z6z Tryz.prog 9 = true /\ z2z Tryz.prog 9 = false /\ z7o Tryz.prog 9 = none /\ z06 Tryz.prog 9 = 1 /\ z14 Tryz.prog 9 = 16 /\ z23 Tryz.prog 9 = some [D.str ByteArray.empty] /\ z0x Tryz.prog 9 = true := by refine ⟨?_, ?_, ?_, ?_, ?_, ?_, ?_, ?_, ?_, ?_, ?_, ?_⟩ <;> kernel_rfl
theorem z70 : z0f Tryz.prog 9 = false := ty9.1
theorem zb9 : z15 Tryz.prog 9 = true := ty9.2.1
theorem z7v : z06 Tryz.prog 9 = 1 := ty9.2.2.2.2.2.2.2.2.1
@[go_sem] theorem ty12 : z0f Tryz.prog 12 = false /\ z15 Tryz.prog 12 = true /\ z1g Tryz.prog 12 = none /\ z74 Tryz.prog 12 = none /\ z7u Tryz.prog 12 = some .u64 /\ z6z Tryz.prog 12 = false /\ z2z Tryz.prog 12 = false /\ z7o Tryz.prog 12 = none /\ z06 Tryz.prog 12 = 1 /\ z14 Tryz.prog 12 = 8 /\ z23 Tryz.prog 12 = some [D.int .u64 0] /\ z0x Tryz.prog 12 = true := by refine ⟨?_, ?_, ?_, ?_, ?_, ?_, ?_, ?_, ?_, ?_, ?_, ?_⟩ <;> kernel_rfl
@[go_sem] theorem ty13 : z0f Tryz.prog 13 = true /\ z15 Tryz.prog 13 = false /\ z1g Tryz.prog 13 = none /\ z74 Tryz.prog 13 = none /\ z7u Tryz.prog 13 = none /\ z6z Tryz.prog 13 = false /\ z2z Tryz.prog 13 = false /\ z7o Tryz.prog 13 = none /\ z06 Tryz.prog 13 = 2 /\ z14 Tryz.prog 13 = 24 /\ z23 Tryz.prog 13 = some [D.str ByteArray.empty, D.int .u64 0] /\ z0x Tryz.prog 13 = true := by refine ⟨?_, ?_, ?_, ?_, ?_, ?_, ?_, ?_, ?_, ?_, ?_, ?_⟩ <;> kernel_rfl
@[go_sem] theorem zzg : z2t Tryz.prog 13 = true := by kernel_rfl
@[go_sem] theorem zzh : z0v Tryz.prog 13 0 = some (0, 9) := by kernel_rfl
@[go_sem] theorem zzi : z0v Tryz.prog 13 1 = some (1, 12) := by kernel_rfl
@[go_sem] theorem ty21 : z0f Tryz.prog 21 = false /\ z15 Tryz.prog 21 = true /\ z1g Tryz.prog 21 = none /\ z74 Tryz.prog 21 = none /\ z7u Tryz.prog 21 = some .i32 /\ z6z Tryz.prog 21 = false /\ z2z Tryz.prog 21 = false /\ z7o Tryz.prog 21 = none /\ z06 Tryz.prog 21 = 1 /\ z14 Tryz.prog 21 = 4 /\ z23 Tryz.prog 21 = some [D.int .i32 0] /\ z0x Tryz.prog 21 = true := by refine ⟨?_, ?_, ?_, ?_, ?_, ?_, ?_, ?_, ?_, ?_, ?_, ?_⟩ <;> kernel_rfl
@[go_sem] theorem ty22 : z0f Tryz.prog 22 = true /\ z15 Tryz.prog 22 = false /\ z1g Tryz.prog 22 = none /\ z74 Tryz.prog 22 = none /\ z7u Tryz.prog 22 = none /\ z6z Tryz.prog 22 = false /\ z2z Tryz.prog 22 = false /\ z7o Tryz.prog 22 = none /\ z06 Tryz.prog 22 = 3 /\ z14 Tryz.prog 22 = 24 /\ z23 Tryz.prog 22 = some [D.int .i64 0, D.int .i64 0, D.int .i64 0] /\ z0x Tryz.prog 22 = true := by refine ⟨?_, ?_, ?_, ?_, ?_, ?_, ?_, ?_, ?_, ?_, ?_, ?_⟩ <;> kernel_rfl
@[go_sem] theorem zzj : z2t Tryz.prog 22 = true := by kernel_rfl
@[go_sem] theorem zzk : z0v Tryz.prog 22 0 = some (0, 3) := by kernel_rfl
@[go_sem] theorem zzl : z0v Tryz.prog 22 1 = some (1, 3) := by kernel_rfl
@[go_sem] theorem zzm : z0v Tryz.prog 22 2 = some (2, 3) := by kernel_rfl
@[go_sem] theorem ty23 : z0f Tryz.prog 23 = true /\ z15 Tryz.prog 23 = false /\ z1g Tryz.prog 23 = none /\ z74 Tryz.prog 23 = none /\ z7u Tryz.prog 23 = none /\ z6z Tryz.prog 23 = false /\ z2z Tryz.prog 23 = false /\ z7o Tryz.prog 23 = none /\ z06 Tryz.prog 23 = 3 /\ z14 Tryz.prog 23 = 24 /\ z23 Tryz.prog 23 = some [D.int .i64 0, D.int .i64 0, D.int .i64 0] /\ z0x Tryz.prog 23 = true := by refine ⟨?_, ?_, ?_, ?_, ?_, ?_, ?_, ?_, ?_, ?_, ?_, ?_⟩ <;> kernel_rfl
theorem z63 : z0f Tryz.prog 23 = true := ty23.1
theorem zlm : z15 Tryz.prog 23 = false := ty23.2.1
theorem z9p : z06 Tryz.prog 23 = 3 := ty23.2.2.2.2.2.2.2.2.1
@[go_sem] theorem zzn : z2t Tryz.prog 23 = true := by kernel_rfl
@[go_sem] theorem zzo : z0v Tryz.prog 23 0 = some (0, 3) := by kernel_rfl
@[go_sem] theorem zzp : z0v Tryz.prog 23 1 = some (1, 3) := by kernel_rfl
@[go_sem] theorem zzq : z0v Tryz.prog 23 2 = some (2, 3) := by kernel_rfl
@[go_sem] theorem ty24 : z0f Tryz.prog 24 = false /\ z15 Tryz.prog 24 = true /\ z1g Tryz.prog 24 = some 113 /\ z74 Tryz.prog 24 = none /\ z7u Tryz.prog 24 = none /\ z6z Tryz.prog 24 = false /\ z2z Tryz.prog 24 = false /\ z7o Tryz.prog 24 = none /\ z06 Tryz.prog 24 = 1 /\ z14 Tryz.prog 24 = 24 /\ z23 Tryz.prog 24 = some [D.nil] /\ z0x Tryz.prog 24 = true := by refine ⟨?_, ?_, ?_, ?_, ?_, ?_, ?_, ?_, ?_, ?_, ?_, ?_⟩ <;> kernel_rfl
@[go_sem] theorem ty25 : z0f Tryz.prog 25 = false /\ z15 Tryz.prog 25 = true /\ z1g Tryz.prog 25 = some 27 /\ z74 Tryz.prog 25 = none /\ z7u Tryz.prog 25 = none /\ z6z Tryz.prog 25 = false /\ z2z Tryz.prog 25 = false /\ z7o Tryz.prog 25 = none /\ z06 Tryz.prog 25 = 1 /\ z14 Tryz.prog 25 = 24 /\ z23 Tryz.prog 25 = some [D.nil] /\ z0x Tryz.prog 25 = true := by refine ⟨?_, ?_, ?_, ?_, ?_, ?_, ?_, ?_, ?_, ?_, ?_, ?_⟩ <;> kernel_rfl
@[go_sem] theorem ty27 : z0f Tryz.prog 27 = true /\ z15 Tryz.prog 27 = false /\ z1g Tryz.prog 27 = none /\ z74 Tryz.prog 27 = none /\ z7u Tryz.prog 27 = none /\ z6z Tryz.prog 27 = false /\ z2z Tryz.prog 27 = false /\ z7o Tryz.prog 27 = none /\ z06 Tryz.prog 27 = 8 /\ z14 Tryz.prog 27 = 120 /\ z23 Tryz.prog 27 = some [D.int .i64 0, D.int .i64 0, D.int .i64 0, D.int .i64 0, D.str ByteArray.empty, D.nil, D.nil, D.nil] /\ z0x Tryz.prog 27 = true := by refine ⟨?_, ?_, ?_, ?_, ?_, ?_, ?_, ?_, ?_, ?_, ?_, ?_⟩ <;> kernel_rfl
theorem z5b : z0f Tryz.prog 27 = true := ty27.1
theorem z71 : z06 Tryz.prog 27 = 8 := ty27.2.2.2.2.2.2.2.2.1
@[go_sem] theorem zzr : z2t Tryz.prog 27 = true := by kernel_rfl
@[go_sem] theorem zzs : z0v Tryz.prog 27 0 = some (0, 23) := by kernel_rfl
@[go_sem] theorem zzt : z0v Tryz.prog 27 1 = some (3, 3) := by kernel_rfl
@[go_sem] theorem zzu : z0v Tryz.prog 27 2 = some (4, 9) := by kernel_rfl
@[go_sem] theorem zzv : z0v Tryz.prog 27 3 = some (5, 24) := by kernel_rfl
@[go_sem] theorem zzw : z0v Tryz.prog 27 4 = some (6, 24) := by kernel_rfl
@[go_sem] theorem zzx : z0v Tryz.prog 27 5 = some (7, 25) := by kernel_rfl
@[go_sem] theorem ty28 : z0f Tryz.prog 28 = false /\ z15 Tryz.prog 28 = true /\ z1g Tryz.prog 28 = some 59 /\ z74 Tryz.prog 28 = none /\ z7u Tryz.prog 28 = none /\ z6z Tryz.prog 28 = false /\ z2z Tryz.prog 28 = false /\ z7o Tryz.prog 28 = none /\ z06 Tryz.prog 28 = 1 /\ z14 Tryz.prog 28 = 24 /\ z23 Tryz.prog 28 = some [D.nil] /\ z0x Tryz.prog 28 = true := by refine ⟨?_, ?_, ?_, ?_, ?_, ?_, ?_, ?_, ?_, ?_, ?_, ?_⟩ <;> kernel_rfl
@[go_sem] theorem ty29 : z0f Tryz.prog 29 = false /\ z15 Tryz.prog 29 = true /\ z1g Tryz.prog 29 = some 9 /\ z74 Tryz.prog 29 = none /\ z7u Tryz.prog 29 = none /\ z6z Tryz.prog 29 = false /\ z2z Tryz.prog 29 = false /\ z7o Tryz.prog 29 = none /\ z06 Tryz.prog 29 = 1 /\ z14 Tryz.prog 29 = 24 /\ z23 Tryz.prog 29 = some [D.nil] /\ z0x Tryz.prog 29 = true := by refine ⟨?_, ?_, ?_, ?_, ?_, ?_, ?_, ?_, ?_, ?_, ?_, ?_⟩ <;> kernel_rfl
@[go_sem] theorem ty31 : z0f Tryz.prog 31 = true /\ z15 Tryz.prog 31 = false /\ z1g Tryz.prog 31 = none /\ z74 Tryz.prog 31 = none /\ z7u Tryz.prog 31 = none /\ z6z Tryz.prog 31 = false /\ z2z Tryz.prog 31 = false /\ z7o Tryz.prog 31 = none /\ z06 Tryz.prog 31 = 3 /\ z14 Tryz.prog 31 = 32 /\ z23 Tryz.prog 31 = some [D.int .i64 0, D.int .i64 0, D.str ByteArray.empty] /\ z0x Tryz.prog 31 = true := by refine ⟨?_, ?_, ?_, ?_, ?_, ?_, ?_, ?_, ?_, ?_, ?_, ?_⟩ <;> kernel_rfl
@[go_sem] theorem zzy : z2t Tryz.prog 31 = true := by kernel_rfl
@[go_sem] theorem zzz : z0v Tryz.prog 31 0 = some (0, 3) := by kernel_rfl
@[go_sem] theorem z000 : z0v Tryz.prog 31 1 = some (1, 3) := by kernel_rfl
@[go_sem] theorem z001 : z0v Tryz.prog 31 2 = some (2, 9) := by kernel_rfl
@[go_sem] theorem ty32 : z0f Tryz.prog 32 = false /\ z15 Tryz.prog 32 = true /\ z1g Tryz.prog 32 = some 34 /\ z74 Tryz.prog 32 = none /\ z7u Tryz.prog 32 = none /\ z6z Tryz.prog 32 = false /\ z2z Tryz.prog 32 = false /\ z7o Tryz.prog 32 = none /\ z06 Tryz.prog 32 = 1 /\ z14 Tryz.prog 32 = 24 /\ z23 Tryz.prog 32 = some [D.nil] /\ z0x Tryz.prog 32 = true := by refine ⟨?_, ?_, ?_, ?_, ?_, ?_, ?_, ?_, ?_, ?_, ?_, ?_⟩ <;> kernel_rfl
@[go_sem] theorem ty34 : z0f Tryz.prog 34 = true /\ z15 Tryz.prog 34 = false /\ z1g Tryz.prog 34 = none /\ z74 Tryz.prog 34 = none /\ z7u Tryz.prog 34 = none /\ z6z Tryz.prog 34 = false /\ z2z Tryz.prog 34 = false /\ z7o Tryz.prog 34 = none /\ z06 Tryz.prog 34 = 25 /\ z14 Tryz.prog 34 = 368 /\ z0x Tryz.prog 34 = true := by refine ⟨?_, ?_, ?_, ?_, ?_, ?_, ?_, ?_, ?_, ?_, ?_⟩ <;> kernel_rfl
theorem zto : z0f Tryz.prog 34 = true := ty34.1
theorem zx4 : z06 Tryz.prog 34 = 25 := ty34.2.2.2.2.2.2.2.2.1
@[go_sem] theorem z002 : z2t Tryz.prog 34 = true := by kernel_rfl
@[go_sem] theorem z003 : z0v Tryz.prog 34 0 = some (0, 3) := by kernel_rfl
@[go_sem] theorem z004 : z0v Tryz.prog 34 1 = some (1, 28) := by kernel_rfl
@[go_sem] theorem z005 : z0v Tryz.prog 34 2 = some (2, 28) := by kernel_rfl
@[go_sem] theorem z006 : z0v Tryz.prog 34 3 = some (3, 3) := by kernel_rfl
@[go_sem] theorem z007 : z0v Tryz.prog 34 4 = some (4, 3) := by kernel_rfl
@[go_sem] theorem z008 : z0v Tryz.prog 34 5 = some (5, 27) := by kernel_rfl
@[go_sem] theorem z009 : z0v Tryz.prog 34 6 = some (13, 29) := by kernel_rfl
@[go_sem] theorem z00a : z0v Tryz.prog 34 7 = some (14, 29) := by kernel_rfl
@[go_sem] theorem z00b : z0v Tryz.prog 34 8 = some (15, 9) := by kernel_rfl
@[go_sem] theorem z00c : z0v Tryz.prog 34 9 = some (16, 9) := by kernel_rfl
@[go_sem] theorem zx5 : z0v Tryz.prog 34 10 = some (17, 31) := by kernel_rfl
@[go_sem] theorem zx6 : z0v Tryz.prog 34 11 = some (20, 3) := by kernel_rfl
@[go_sem] theorem zx7 : z0v Tryz.prog 34 12 = some (21, 3) := by kernel_rfl
@[go_sem] theorem zx8 : z0v Tryz.prog 34 13 = some (22, 3) := by kernel_rfl
@[go_sem] theorem zx9 : z0v Tryz.prog 34 14 = some (23, 9) := by kernel_rfl
@[go_sem] theorem zxa : z0v Tryz.prog 34 15 = some (24, 32) := by kernel_rfl
@[go_sem] theorem ty36 : z0f Tryz.prog 36 = true /\ z15 Tryz.prog 36 = false /\ z1g Tryz.prog 36 = none /\ z74 Tryz.prog 36 = none /\ z7u Tryz.prog 36 = none /\ z6z Tryz.prog 36 = false /\ z2z Tryz.prog 36 = false /\ z7o Tryz.prog 36 = none /\ z06 Tryz.prog 36 = 28 /\ z14 Tryz.prog 36 = 392 /\ z0x Tryz.prog 36 = true := by refine ⟨?_, ?_, ?_, ?_, ?_, ?_, ?_, ?_, ?_, ?_, ?_⟩ <;> kernel_rfl
@[go_sem] theorem z00d : z2t Tryz.prog 36 = true := by kernel_rfl
@[go_sem] theorem z00e : z0v Tryz.prog 36 0 = some (0, 3) := by kernel_rfl
@[go_sem] theorem z00f : z0v Tryz.prog 36 1 = some (1, 3) := by kernel_rfl
@[go_sem] theorem z00g : z0v Tryz.prog 36 2 = some (2, 3) := by kernel_rfl
@[go_sem] theorem z00h : z0v Tryz.prog 36 3 = some (3, 34) := by kernel_rfl
@[go_sem] theorem ty39 : z0f Tryz.prog 39 = false /\ z15 Tryz.prog 39 = true /\ z1g Tryz.prog 39 = none /\ z74 Tryz.prog 39 = none /\ z7u Tryz.prog 39 = some .i64 /\ z6z Tryz.prog 39 = false /\ z2z Tryz.prog 39 = false /\ z7o Tryz.prog 39 = none /\ z06 Tryz.prog 39 = 1 /\ z14 Tryz.prog 39 = 8 /\ z23 Tryz.prog 39 = some [D.int .i64 0] /\ z0x Tryz.prog 39 = true := by refine ⟨?_, ?_, ?_, ?_, ?_, ?_, ?_, ?_, ?_, ?_, ?_, ?_⟩ <;> kernel_rfl
@[go_sem] theorem ty57 : z0f Tryz.prog 57 = false /\ z15 Tryz.prog 57 = true /\ z1g Tryz.prog 57 = none /\ z74 Tryz.prog 57 = none /\ z7u Tryz.prog 57 = none /\ z6z Tryz.prog 57 = false /\ z2z Tryz.prog 57 = false /\ z7o Tryz.prog 57 = none /\ z06 Tryz.prog 57 = 1 /\ z14 Tryz.prog 57 = 8 /\ z23 Tryz.prog 57 = some [D.nfun] /\ z0x Tryz.prog 57 = true := by refine ⟨?_, ?_, ?_, ?_, ?_, ?_, ?_, ?_, ?_, ?_, ?_, ?_⟩ <;> kernel_rfl
@[go_sem] theorem ty59 : z0f Tryz.prog 59 = true /\ z15 Tryz.prog 59 = false /\ z1g Tryz.prog 59 = none /\ z74 Tryz.prog 59 = none /\ z7u Tryz.prog 59 = none /\ z6z Tryz.prog 59 = false /\ z2z Tryz.prog 59 = false /\ z7o Tryz.prog 59 = none /\ z06 Tryz.prog 59 = 2 /\ z14 Tryz.prog 59 = 24 /\ z23 Tryz.prog 59 = some [D.int .i64 0, D.str ByteArray.empty] /\ z0x Tryz.prog 59 = true := by refine ⟨?_, ?_, ?_, ?_, ?_, ?_, ?_, ?_, ?_, ?_, ?_, ?_⟩ <;> kernel_rfl
theorem ztp : z0f Tryz.prog 59 = true := ty59.1
theorem zxb : z06 Tryz.prog 59 = 2 := ty59.2.2.2.2.2.2.2.2.1
@[go_sem] theorem z00i : z2t Tryz.prog 59 = true := by kernel_rfl
@[go_sem] theorem z00j : z0v Tryz.prog 59 0 = some (0, 3) := by kernel_rfl
@[go_sem] theorem z00k : z0v Tryz.prog 59 1 = some (1, 9) := by kernel_rfl
@[go_sem] theorem ty73 : z0f Tryz.prog 73 = true /\ z15 Tryz.prog 73 = false /\ z1g Tryz.prog 73 = none /\ z74 Tryz.prog 73 = none /\ z7u Tryz.prog 73 = none /\ z6z Tryz.prog 73 = false /\ z2z Tryz.prog 73 = false /\ z7o Tryz.prog 73 = none /\ z06 Tryz.prog 73 = 4 /\ z14 Tryz.prog 73 = 32 /\ z23 Tryz.prog 73 = some [D.int .i64 0, D.int .i64 0, D.int .i64 0, D.int .i64 0] /\ z0x Tryz.prog 73 = true := by refine ⟨?_, ?_, ?_, ?_, ?_, ?_, ?_, ?_, ?_, ?_, ?_, ?_⟩ <;> kernel_rfl
@[go_sem] theorem z00l : z2t Tryz.prog 73 = true := by kernel_rfl
@[go_sem] theorem z00m : z0v Tryz.prog 73 0 = some (0, 23) := by kernel_rfl
@[go_sem] theorem z00n : z0v Tryz.prog 73 1 = some (3, 3) := by kernel_rfl
@[go_sem] theorem ty85 : z0f Tryz.prog 85 = false /\ z15 Tryz.prog 85 = true /\ z1g Tryz.prog 85 = some 23 /\ z74 Tryz.prog 85 = none /\ z7u Tryz.prog 85 = none /\ z6z Tryz.prog 85 = false /\ z2z Tryz.prog 85 = false /\ z7o Tryz.prog 85 = none /\ z06 Tryz.prog 85 = 1 /\ z14 Tryz.prog 85 = 24 /\ z23 Tryz.prog 85 = some [D.nil] /\ z0x Tryz.prog 85 = true := by refine ⟨?_, ?_, ?_, ?_, ?_, ?_, ?_, ?_, ?_, ?_, ?_, ?_⟩ <;> kernel_rfl
@[go_sem] theorem ty97 : z0f Tryz.prog 97 = false /\ z15 Tryz.prog 97 = true /\ z1g Tryz.prog 97 = none /\ z74 Tryz.prog 97 = none /\ z7u Tryz.prog 97 = none /\ z6z Tryz.prog 97 = false /\ z2z Tryz.prog 97 = false /\ z7o Tryz.prog 97 = none /\ z06 Tryz.prog 97 = 1 /\ z14 Tryz.prog 97 = 8 /\ z23 Tryz.prog 97 = some [D.nfun] /\ z0x Tryz.prog 97 = true := by refine ⟨?_, ?_, ?_, ?_, ?_, ?_, ?_, ?_, ?_, ?_, ?_, ?_⟩ <;> kernel_rfl
@[go_sem] theorem ty98 : z0f Tryz.prog 98 = true /\ z15 Tryz.prog 98 = false /\ z1g Tryz.prog 98 = none /\ z74 Tryz.prog 98 = some (4, 97) /\ z7u Tryz.prog 98 = none /\ z6z Tryz.prog 98 = false /\ z2z Tryz.prog 98 = false /\ z7o Tryz.prog 98 = none /\ z06 Tryz.prog 98 = 4 /\ z14 Tryz.prog 98 = 32 /\ z23 Tryz.prog 98 = some [D.nfun, D.nfun, D.nfun, D.nfun] /\ z0x Tryz.prog 98 = true := by refine ⟨?_, ?_, ?_, ?_, ?_, ?_, ?_, ?_, ?_, ?_, ?_, ?_⟩ <;> kernel_rfl
@[go_sem] theorem under98 : Tryz.prog.underlying 98 = some (.array 4 97) := by kernel_rfl
@[go_sem] theorem zxc : z0f Tryz.prog 111 = true /\ z15 Tryz.prog 111 = false /\ z1g Tryz.prog 111 = none /\ z74 Tryz.prog 111 = none /\ z7u Tryz.prog 111 = none /\ z6z Tryz.prog 111 = false /\ z2z Tryz.prog 111 = false /\ z7o Tryz.prog 111 = none /\ z06 Tryz.prog 111 = 3 /\ z14 Tryz.prog 111 = 24 /\ z23 Tryz.prog 111 = some [D.int .i64 0, D.int .i64 0, D.int .i64 0] /\ z0x Tryz.prog 111 = true := by refine ⟨?_, ?_, ?_, ?_, ?_, ?_, ?_, ?_, ?_, ?_, ?_, ?_⟩ <;> kernel_rfl
theorem zhj : z0f Tryz.prog 111 = true := zxc.1
theorem zhk : z15 Tryz.prog 111 = false := zxc.2.1
theorem zln : z06 Tryz.prog 111 = 3 := zxc.2.2.2.2.2.2.2.2.1
@[go_sem] theorem zxd : z2t Tryz.prog 111 = true := by kernel_rfl
@[go_sem] theorem zxe : z0v Tryz.prog 111 0 = some (0, 3) := by kernel_rfl
@[go_sem] theorem zxf : z0v Tryz.prog 111 1 = some (1, 3) := by kernel_rfl
@[go_sem] theorem zxg : z0v Tryz.prog 111 2 = some (2, 3) := by kernel_rfl
@[go_sem] theorem ty113 : z0f Tryz.prog 113 = true /\ z15 Tryz.prog 113 = false /\ z1g Tryz.prog 113 = none /\ z74 Tryz.prog 113 = none /\ z7u Tryz.prog 113 = none /\ z6z Tryz.prog 113 = false /\ z2z Tryz.prog 113 = false /\ z7o Tryz.prog 113 = none /\ z06 Tryz.prog 113 = 4 /\ z14 Tryz.prog 113 = 40 /\ z23 Tryz.prog 113 = some [D.str ByteArray.empty, D.int .i64 0, D.int .i64 0, D.int .i64 0] /\ z0x Tryz.prog 113 = true := by refine ⟨?_, ?_, ?_, ?_, ?_, ?_, ?_, ?_, ?_, ?_, ?_, ?_⟩ <;> kernel_rfl
theorem zd7 : z0f Tryz.prog 113 = true := ty113.1
theorem zgg : z06 Tryz.prog 113 = 4 := ty113.2.2.2.2.2.2.2.2.1
@[go_sem] theorem zxh : z2t Tryz.prog 113 = true := by kernel_rfl
@[go_sem] theorem zxi : z0v Tryz.prog 113 0 = some (0, 9) := by kernel_rfl
@[go_sem] theorem zxj : z0v Tryz.prog 113 1 = some (1, 111) := by kernel_rfl
@[go_sem] theorem ty120 : z0f Tryz.prog 120 = false /\ z15 Tryz.prog 120 = true /\ z1g Tryz.prog 120 = none /\ z74 Tryz.prog 120 = none /\ z7u Tryz.prog 120 = none /\ z6z Tryz.prog 120 = false /\ z2z Tryz.prog 120 = false /\ z7o Tryz.prog 120 = none /\ z06 Tryz.prog 120 = 1 /\ z14 Tryz.prog 120 = 8 /\ z23 Tryz.prog 120 = some [D.nfun] /\ z0x Tryz.prog 120 = true := by refine ⟨?_, ?_, ?_, ?_, ?_, ?_, ?_, ?_, ?_, ?_, ?_, ?_⟩ <;> kernel_rfl
@[go_sem] theorem ty131 : z0f Tryz.prog 131 = false /\ z15 Tryz.prog 131 = true /\ z1g Tryz.prog 131 = none /\ z74 Tryz.prog 131 = none /\ z7u Tryz.prog 131 = none /\ z6z Tryz.prog 131 = false /\ z2z Tryz.prog 131 = false /\ z7o Tryz.prog 131 = none /\ z06 Tryz.prog 131 = 1 /\ z14 Tryz.prog 131 = 8 /\ z23 Tryz.prog 131 = some [D.nfun] /\ z0x Tryz.prog 131 = true := by refine ⟨?_, ?_, ?_, ?_, ?_, ?_, ?_, ?_, ?_, ?_, ?_, ?_⟩ <;> kernel_rfl
@[go_sem] theorem ty137 : z0f Tryz.prog 137 = false /\ z15 Tryz.prog 137 = true /\ z1g Tryz.prog 137 = none /\ z74 Tryz.prog 137 = none /\ z7u Tryz.prog 137 = none /\ z6z Tryz.prog 137 = false /\ z2z Tryz.prog 137 = false /\ z7o Tryz.prog 137 = none /\ z06 Tryz.prog 137 = 1 /\ z14 Tryz.prog 137 = 8 /\ z23 Tryz.prog 137 = some [D.nfun] /\ z0x Tryz.prog 137 = true := by refine ⟨?_, ?_, ?_, ?_, ?_, ?_, ?_, ?_, ?_, ?_, ?_, ?_⟩ <;> kernel_rfl
@[go_sem] theorem ptrT152 : ptrT Tryz.prog 152 = true := by kernel_rfl
theorem z2g {P : Program} {d : Nat} {t : TypeId} {fs : Array Field} {xs ys : List D} (hu : P.underlying t = some (.struct fs)) (hs : P.stoodInHeld t = false) : eqD P (d + 1) t (.agg xs) (.agg ys) = z1c (eqD P d) P xs ys fs.toList := by
 simp only [eqD, hu, hs, if_true]
theorem z6h {P : Program} {d : Nat} {t : TypeId} {k : IntKind} {a b : Int} (hu : P.underlying t = some (.int k)) : eqD P (d + 1) t (.int k a) (.int k b) = some (decide (a = b)) := by
 simp only [eqD, hu, if_true, Option.some.injEq]; by_cases h : a = b <;> simp [h]
theorem zba {P : Program} {d : Nat} {t : TypeId} {a b : ByteArray} (hu : P.underlying t = some .string) : eqD P (d + 1) t (.str a) (.str b) = some (decide (a = b)) := by
 simp only [eqD, hu]
theorem ztq : Tryz.prog.eqGuardType Tryz.prog.depth 22 = false := by kernel_rfl
theorem eqT22 (d : Nat) (a0 b0 : Int) (a1 b1 : Int) (a2 b2 : Int) : eqD Tryz.prog (d + 2) 22 (.agg [.int .i64 a0, .int .i64 a1, .int .i64 a2]) (.agg [.int .i64 b0, .int .i64 b1, .int .i64 b2]) = some (decide (a0 = b0) && decide (a1 = b1) && decide (a2 = b2)) := by
 rw [z2g Tryz.underlying22 (by kernel_rfl)]
 simp only [z1c, z4l, List.getElem?_cons_zero, List.getElem?_cons_succ, List.drop_succ_cons, List.drop_zero, List.take_succ_cons, List.take_zero, List.length_cons, List.length_nil, Nat.reduceAdd, Nat.reduceLeDiff, if_true, if_false, Bool.false_eq_true, ne_eq, String.reduceEq, not_false_eq_true, decide_eq_true_eq, z6f, z6g, z9f, z6h Tryz.underlying3]
 (repeat' split) <;> simp_all
@[go_sem] theorem eqU22 (a0 b0 : Int) (a1 b1 : Int) (a2 b2 : Int) : eqD Tryz.prog 8 22 (.agg [.int .i64 a0, .int .i64 a1, .int .i64 a2]) (.agg [.int .i64 b0, .int .i64 b1, .int .i64 b2]) = some (decide (a0 = b0) && decide (a1 = b1) && decide (a2 = b2)) := eqT22 6 a0 b0 a1 b1 a2 b2
attribute [go_sem] ztq
theorem ztr : Tryz.prog.eqGuardType Tryz.prog.depth 23 = false := by kernel_rfl
theorem zxk (d : Nat) (a0 b0 : Int) (a1 b1 : Int) (a2 b2 : Int) : eqD Tryz.prog (d + 2) 23 (.agg [.int .i64 a0, .int .i64 a1, .int .i64 a2]) (.agg [.int .i64 b0, .int .i64 b1, .int .i64 b2]) = some (decide (a0 = b0) && decide (a1 = b1) && decide (a2 = b2)) := by
 rw [z2g Tryz.underlying23 (by kernel_rfl)]
 simp only [z1c, z4l, List.getElem?_cons_zero, List.getElem?_cons_succ, List.drop_succ_cons, List.drop_zero, List.take_succ_cons, List.take_zero, List.length_cons, List.length_nil, Nat.reduceAdd, Nat.reduceLeDiff, if_true, if_false, Bool.false_eq_true, ne_eq, String.reduceEq, not_false_eq_true, decide_eq_true_eq, z6f, z6g, z9f, z6h Tryz.underlying3]
 (repeat' split) <;> simp_all
@[go_sem] theorem eqU23 (a0 b0 : Int) (a1 b1 : Int) (a2 b2 : Int) : eqD Tryz.prog 8 23 (.agg [.int .i64 a0, .int .i64 a1, .int .i64 a2]) (.agg [.int .i64 b0, .int .i64 b1, .int .i64 b2]) = some (decide (a0 = b0) && decide (a1 = b1) && decide (a2 = b2)) := zxk 6 a0 b0 a1 b1 a2 b2
attribute [go_sem] ztr
theorem zts : Tryz.prog.eqGuardType Tryz.prog.depth 30 = false := by kernel_rfl
theorem eqT30 (d : Nat) (a0 b0 : Int) (a1 b1 : Int) (a2 b2 : ByteArray) : eqD Tryz.prog (d + 2) 30 (.agg [.int .i64 a0, .int .i64 a1, .str a2]) (.agg [.int .i64 b0, .int .i64 b1, .str b2]) = some (decide (a0 = b0) && decide (a1 = b1) && decide (a2 = b2)) := by
 rw [z2g Tryz.underlying30 (by kernel_rfl)]
 simp only [z1c, z4l, List.getElem?_cons_zero, List.getElem?_cons_succ, List.drop_succ_cons, List.drop_zero, List.take_succ_cons, List.take_zero, List.length_cons, List.length_nil, Nat.reduceAdd, Nat.reduceLeDiff, if_true, if_false, Bool.false_eq_true, ne_eq, String.reduceEq, not_false_eq_true, decide_eq_true_eq, z6f, z6g, z9f, z6h Tryz.underlying3, z70, zb9, z7v, zba Tryz.underlying9]
 (repeat' split) <;> simp_all
@[go_sem] theorem eqU30 (a0 b0 : Int) (a1 b1 : Int) (a2 b2 : ByteArray) : eqD Tryz.prog 8 30 (.agg [.int .i64 a0, .int .i64 a1, .str a2]) (.agg [.int .i64 b0, .int .i64 b1, .str b2]) = some (decide (a0 = b0) && decide (a1 = b1) && decide (a2 = b2)) := eqT30 6 a0 b0 a1 b1 a2 b2
attribute [go_sem] zts
theorem ztt : Tryz.prog.eqGuardType Tryz.prog.depth 31 = false := by kernel_rfl
theorem eqT31 (d : Nat) (a0 b0 : Int) (a1 b1 : Int) (a2 b2 : ByteArray) : eqD Tryz.prog (d + 2) 31 (.agg [.int .i64 a0, .int .i64 a1, .str a2]) (.agg [.int .i64 b0, .int .i64 b1, .str b2]) = some (decide (a0 = b0) && decide (a1 = b1) && decide (a2 = b2)) := by
 rw [z2g Tryz.underlying31 (by kernel_rfl)]
 simp only [z1c, z4l, List.getElem?_cons_zero, List.getElem?_cons_succ, List.drop_succ_cons, List.drop_zero, List.take_succ_cons, List.take_zero, List.length_cons, List.length_nil, Nat.reduceAdd, Nat.reduceLeDiff, if_true, if_false, Bool.false_eq_true, ne_eq, String.reduceEq, not_false_eq_true, decide_eq_true_eq, z6f, z6g, z9f, z6h Tryz.underlying3, z70, zb9, z7v, zba Tryz.underlying9]
 (repeat' split) <;> simp_all
@[go_sem] theorem eqU31 (a0 b0 : Int) (a1 b1 : Int) (a2 b2 : ByteArray) : eqD Tryz.prog 8 31 (.agg [.int .i64 a0, .int .i64 a1, .str a2]) (.agg [.int .i64 b0, .int .i64 b1, .str b2]) = some (decide (a0 = b0) && decide (a1 = b1) && decide (a2 = b2)) := eqT31 6 a0 b0 a1 b1 a2 b2
attribute [go_sem] ztt
theorem ztu : Tryz.prog.eqGuardType Tryz.prog.depth 58 = false := by kernel_rfl
theorem eqT58 (d : Nat) (a0 b0 : Int) (a1 b1 : ByteArray) : eqD Tryz.prog (d + 2) 58 (.agg [.int .i64 a0, .str a1]) (.agg [.int .i64 b0, .str b1]) = some (decide (a0 = b0) && decide (a1 = b1)) := by
 rw [z2g Tryz.underlying58 (by kernel_rfl)]
 simp only [z1c, z4l, List.getElem?_cons_zero, List.getElem?_cons_succ, List.drop_succ_cons, List.drop_zero, List.take_succ_cons, List.take_zero, List.length_cons, List.length_nil, Nat.reduceAdd, Nat.reduceLeDiff, if_true, if_false, Bool.false_eq_true, ne_eq, String.reduceEq, not_false_eq_true, decide_eq_true_eq, z6f, z6g, z9f, z6h Tryz.underlying3, z70, zb9, z7v, zba Tryz.underlying9]
 (repeat' split) <;> simp_all
@[go_sem] theorem eqU58 (a0 b0 : Int) (a1 b1 : ByteArray) : eqD Tryz.prog 8 58 (.agg [.int .i64 a0, .str a1]) (.agg [.int .i64 b0, .str b1]) = some (decide (a0 = b0) && decide (a1 = b1)) := eqT58 6 a0 b0 a1 b1
attribute [go_sem] ztu
theorem ztv : Tryz.prog.eqGuardType Tryz.prog.depth 59 = false := by kernel_rfl
theorem eqT59 (d : Nat) (a0 b0 : Int) (a1 b1 : ByteArray) : eqD Tryz.prog (d + 2) 59 (.agg [.int .i64 a0, .str a1]) (.agg [.int .i64 b0, .str b1]) = some (decide (a0 = b0) && decide (a1 = b1)) := by
 rw [z2g Tryz.underlying59 (by kernel_rfl)]
 simp only [z1c, z4l, List.getElem?_cons_zero, List.getElem?_cons_succ, List.drop_succ_cons, List.drop_zero, List.take_succ_cons, List.take_zero, List.length_cons, List.length_nil, Nat.reduceAdd, Nat.reduceLeDiff, if_true, if_false, Bool.false_eq_true, ne_eq, String.reduceEq, not_false_eq_true, decide_eq_true_eq, z6f, z6g, z9f, z6h Tryz.underlying3, z70, zb9, z7v, zba Tryz.underlying9]
 (repeat' split) <;> simp_all
@[go_sem] theorem eqU59 (a0 b0 : Int) (a1 b1 : ByteArray) : eqD Tryz.prog 8 59 (.agg [.int .i64 a0, .str a1]) (.agg [.int .i64 b0, .str b1]) = some (decide (a0 = b0) && decide (a1 = b1)) := eqT59 6 a0 b0 a1 b1
attribute [go_sem] ztv
theorem ztw : Tryz.prog.eqGuardType Tryz.prog.depth 72 = false := by kernel_rfl
theorem eqT72 (d : Nat) (a0 b0 : Int) (a1 b1 : Int) (a2 b2 : Int) (a3 b3 : Int) : eqD Tryz.prog (d + 3) 72 (.agg [.int .i64 a0, .int .i64 a1, .int .i64 a2, .int .i64 a3]) (.agg [.int .i64 b0, .int .i64 b1, .int .i64 b2, .int .i64 b3]) = some ((decide (a0 = b0) && decide (a1 = b1) && decide (a2 = b2)) && decide (a3 = b3)) := by
 rw [z2g Tryz.underlying72 (by kernel_rfl)]
 simp only [z1c, z4l, List.getElem?_cons_zero, List.getElem?_cons_succ, List.drop_succ_cons, List.drop_zero, List.take_succ_cons, List.take_zero, List.length_cons, List.length_nil, Nat.reduceAdd, Nat.reduceLeDiff, if_true, if_false, Bool.false_eq_true, ne_eq, String.reduceEq, not_false_eq_true, decide_eq_true_eq, z6f, z6g, z9f, z6h Tryz.underlying3, z63, zlm, z9p, zxk]
 (repeat' split) <;> simp_all
@[go_sem] theorem eqU72 (a0 b0 : Int) (a1 b1 : Int) (a2 b2 : Int) (a3 b3 : Int) : eqD Tryz.prog 8 72 (.agg [.int .i64 a0, .int .i64 a1, .int .i64 a2, .int .i64 a3]) (.agg [.int .i64 b0, .int .i64 b1, .int .i64 b2, .int .i64 b3]) = some ((decide (a0 = b0) && decide (a1 = b1) && decide (a2 = b2)) && decide (a3 = b3)) := eqT72 5 a0 b0 a1 b1 a2 b2 a3 b3
attribute [go_sem] ztw
theorem ztx : Tryz.prog.eqGuardType Tryz.prog.depth 73 = false := by kernel_rfl
theorem eqT73 (d : Nat) (a0 b0 : Int) (a1 b1 : Int) (a2 b2 : Int) (a3 b3 : Int) : eqD Tryz.prog (d + 3) 73 (.agg [.int .i64 a0, .int .i64 a1, .int .i64 a2, .int .i64 a3]) (.agg [.int .i64 b0, .int .i64 b1, .int .i64 b2, .int .i64 b3]) = some ((decide (a0 = b0) && decide (a1 = b1) && decide (a2 = b2)) && decide (a3 = b3)) := by
 rw [z2g Tryz.underlying73 (by kernel_rfl)]
 simp only [z1c, z4l, List.getElem?_cons_zero, List.getElem?_cons_succ, List.drop_succ_cons, List.drop_zero, List.take_succ_cons, List.take_zero, List.length_cons, List.length_nil, Nat.reduceAdd, Nat.reduceLeDiff, if_true, if_false, Bool.false_eq_true, ne_eq, String.reduceEq, not_false_eq_true, decide_eq_true_eq, z6f, z6g, z9f, z6h Tryz.underlying3, z63, zlm, z9p, zxk]
 (repeat' split) <;> simp_all
@[go_sem] theorem eqU73 (a0 b0 : Int) (a1 b1 : Int) (a2 b2 : Int) (a3 b3 : Int) : eqD Tryz.prog 8 73 (.agg [.int .i64 a0, .int .i64 a1, .int .i64 a2, .int .i64 a3]) (.agg [.int .i64 b0, .int .i64 b1, .int .i64 b2, .int .i64 b3]) = some ((decide (a0 = b0) && decide (a1 = b1) && decide (a2 = b2)) && decide (a3 = b3)) := eqT73 5 a0 b0 a1 b1 a2 b2 a3 b3
attribute [go_sem] ztx
theorem zp2 : Tryz.prog.eqGuardType Tryz.prog.depth 110 = false := by kernel_rfl
theorem eqT110 (d : Nat) (a0 b0 : Int) (a1 b1 : Int) (a2 b2 : Int) : eqD Tryz.prog (d + 2) 110 (.agg [.int .i64 a0, .int .i64 a1, .int .i64 a2]) (.agg [.int .i64 b0, .int .i64 b1, .int .i64 b2]) = some (decide (a0 = b0) && decide (a1 = b1) && decide (a2 = b2)) := by
 rw [z2g Tryz.underlying110 (by kernel_rfl)]
 simp only [z1c, z4l, List.getElem?_cons_zero, List.getElem?_cons_succ, List.drop_succ_cons, List.drop_zero, List.take_succ_cons, List.take_zero, List.length_cons, List.length_nil, Nat.reduceAdd, Nat.reduceLeDiff, if_true, if_false, Bool.false_eq_true, ne_eq, String.reduceEq, not_false_eq_true, decide_eq_true_eq, z6f, z6g, z9f, z6h Tryz.underlying3]
 (repeat' split) <;> simp_all
@[go_sem] theorem eqU110 (a0 b0 : Int) (a1 b1 : Int) (a2 b2 : Int) : eqD Tryz.prog 8 110 (.agg [.int .i64 a0, .int .i64 a1, .int .i64 a2]) (.agg [.int .i64 b0, .int .i64 b1, .int .i64 b2]) = some (decide (a0 = b0) && decide (a1 = b1) && decide (a2 = b2)) := eqT110 6 a0 b0 a1 b1 a2 b2
attribute [go_sem] zp2
theorem zp3 : Tryz.prog.eqGuardType Tryz.prog.depth 111 = false := by kernel_rfl
theorem zp4 (d : Nat) (a0 b0 : Int) (a1 b1 : Int) (a2 b2 : Int) : eqD Tryz.prog (d + 2) 111 (.agg [.int .i64 a0, .int .i64 a1, .int .i64 a2]) (.agg [.int .i64 b0, .int .i64 b1, .int .i64 b2]) = some (decide (a0 = b0) && decide (a1 = b1) && decide (a2 = b2)) := by
 rw [z2g Tryz.underlying111 (by kernel_rfl)]
 simp only [z1c, z4l, List.getElem?_cons_zero, List.getElem?_cons_succ, List.drop_succ_cons, List.drop_zero, List.take_succ_cons, List.take_zero, List.length_cons, List.length_nil, Nat.reduceAdd, Nat.reduceLeDiff, if_true, if_false, Bool.false_eq_true, ne_eq, String.reduceEq, not_false_eq_true, decide_eq_true_eq, z6f, z6g, z9f, z6h Tryz.underlying3]
 (repeat' split) <;> simp_all
@[go_sem] theorem eqU111 (a0 b0 : Int) (a1 b1 : Int) (a2 b2 : Int) : eqD Tryz.prog 8 111 (.agg [.int .i64 a0, .int .i64 a1, .int .i64 a2]) (.agg [.int .i64 b0, .int .i64 b1, .int .i64 b2]) = some (decide (a0 = b0) && decide (a1 = b1) && decide (a2 = b2)) := zp4 6 a0 b0 a1 b1 a2 b2
attribute [go_sem] zp3
theorem zp5 : Tryz.prog.eqGuardType Tryz.prog.depth 112 = false := by kernel_rfl
theorem eqT112 (d : Nat) (a0 b0 : ByteArray) (a1 b1 : Int) (a2 b2 : Int) (a3 b3 : Int) : eqD Tryz.prog (d + 3) 112 (.agg [.str a0, .int .i64 a1, .int .i64 a2, .int .i64 a3]) (.agg [.str b0, .int .i64 b1, .int .i64 b2, .int .i64 b3]) = some (decide (a0 = b0) && (decide (a1 = b1) && decide (a2 = b2) && decide (a3 = b3))) := by
 rw [z2g Tryz.underlying112 (by kernel_rfl)]
 simp only [z1c, z4l, List.getElem?_cons_zero, List.getElem?_cons_succ, List.drop_succ_cons, List.drop_zero, List.take_succ_cons, List.take_zero, List.length_cons, List.length_nil, Nat.reduceAdd, Nat.reduceLeDiff, if_true, if_false, Bool.false_eq_true, ne_eq, String.reduceEq, not_false_eq_true, decide_eq_true_eq, z70, zb9, z7v, zba Tryz.underlying9, zhj, zhk, zln, zp4]
 (repeat' split) <;> simp_all
@[go_sem] theorem eqU112 (a0 b0 : ByteArray) (a1 b1 : Int) (a2 b2 : Int) (a3 b3 : Int) : eqD Tryz.prog 8 112 (.agg [.str a0, .int .i64 a1, .int .i64 a2, .int .i64 a3]) (.agg [.str b0, .int .i64 b1, .int .i64 b2, .int .i64 b3]) = some (decide (a0 = b0) && (decide (a1 = b1) && decide (a2 = b2) && decide (a3 = b3))) := eqT112 5 a0 b0 a1 b1 a2 b2 a3 b3
attribute [go_sem] zp5
theorem zp6 : Tryz.prog.eqGuardType Tryz.prog.depth 113 = false := by kernel_rfl
theorem eqT113 (d : Nat) (a0 b0 : ByteArray) (a1 b1 : Int) (a2 b2 : Int) (a3 b3 : Int) : eqD Tryz.prog (d + 3) 113 (.agg [.str a0, .int .i64 a1, .int .i64 a2, .int .i64 a3]) (.agg [.str b0, .int .i64 b1, .int .i64 b2, .int .i64 b3]) = some (decide (a0 = b0) && (decide (a1 = b1) && decide (a2 = b2) && decide (a3 = b3))) := by
 rw [z2g Tryz.underlying113 (by kernel_rfl)]
 simp only [z1c, z4l, List.getElem?_cons_zero, List.getElem?_cons_succ, List.drop_succ_cons, List.drop_zero, List.take_succ_cons, List.take_zero, List.length_cons, List.length_nil, Nat.reduceAdd, Nat.reduceLeDiff, if_true, if_false, Bool.false_eq_true, ne_eq, String.reduceEq, not_false_eq_true, decide_eq_true_eq, z70, zb9, z7v, zba Tryz.underlying9, zhj, zhk, zln, zp4]
 (repeat' split) <;> simp_all
@[go_sem] theorem eqU113 (a0 b0 : ByteArray) (a1 b1 : Int) (a2 b2 : Int) (a3 b3 : Int) : eqD Tryz.prog 8 113 (.agg [.str a0, .int .i64 a1, .int .i64 a2, .int .i64 a3]) (.agg [.str b0, .int .i64 b1, .int .i64 b2, .int .i64 b3]) = some (decide (a0 = b0) && (decide (a1 = b1) && decide (a2 = b2) && decide (a3 = b3))) := eqT113 5 a0 b0 a1 b1 a2 b2 a3 b3
attribute [go_sem] zp6
theorem z0k : Tryz.prog.follows .mixedOrders = true := by kernel_rfl

end Go.Proofs.YtppebcifiejplaaGreat.Facts
namespace Go.Proofs.YtppebcifiejplaaGreat.Abs
open Go.RowKit Go.ChangeShapes

def elD (ag : Bool) (p : List D) : D := if ag = true then .agg p else (p[0]?).getD .any
def elV (ag : Bool) (p : List Value) : Value := if ag = true then .agg p.toArray else (p[0]?).getD undef
def zha (T : TypeId -> List D -> Prop) : List Field -> List D -> Prop
 | [], ds => ds = []
 | f :: fs, ds => ∃ d1 d2, ds = d1 ++ d2 /\ T f.type d1 /\ zha T fs d2
def z3w (P : Program) : Nat -> TypeId -> List D -> Prop
 | 0, _, _ => False
 | n + 1, t, ds => match P.underlying t with
  | some .bool => ∃ b, ds = [.bool b]
  | some (.int k) => ∃ i, ds = [.int k i] /\ (Lit.int k i).wf = true
  | some .string => ∃ s : ByteArray, ds = [.str s] /\ s.size <= maxLen
  | some (.slice e) => ∃ parts : List (List D), parts.length <= maxLen /\ (∀ p ∈ parts, z3w P n e p) /\ ds = [.rsl false (z06 P e) (parts.map (elD (z0f P e)))]
  | some (.struct fs) => zha (z3w P n) fs.toList ds
  | _ => False
def zjt (P : Program) (n : Nat) : List Field -> Nat -> Bool
 | [], off => off == n
 | f :: fs, off => f.offset == off && zjt P n fs (off + P.cellsOf f.type)
def zl8 (P : Program) (S : List TypeId) : Bool :=
 S.all fun t => match P.underlying t with
  | some .bool | some (.int _) | some .string => true
  | some (.slice e) => S.any fun u => u == e
  | some (.struct fs) => zjt P (P.cellsOf t) fs.toList 0 && fs.toList.all fun f => S.any fun u => u == f.type
  | _ => false

section
variable {H : Type} {enc : TypeId × Value -> H} {P : Program} {W : World} {base : Nat} {spare : Nat -> Bool} {held : Bool}
theorem zt1 {S : List TypeId} {e : TypeId} (h : (S.any fun u => u == e) = true) : e ∈ S := by
 obtain ⟨x, hx, he⟩ := List.any_eq_true.1 h
 rw [<- beq_iff_eq.1 he]; exact hx
theorem zb3 {d : D} {v : Value} (h : rel (zbp W) d v) (h1 : v.oneCell' = true) : relAll (zbp W) [d] [v] /\ z6i [v] :=
 ⟨z0j h z0t, fun u hu => by simp at hu; subst hu; exact h1⟩
theorem zoq {S : List TypeId} (hS : zl8 P S = true) : ∀ (n : Nat) (t : TypeId) (cs : List Value) (x : DataW H × List MemPlace), t ∈ S -> DataW.trod enc P W base spare held n t cs = some x ->
  ∃ ds, relAll (zbp W) ds cs /\ z6i cs /\ z3w P n t ds /\ (z0f P t = false -> ∃ c d, cs = [c] /\ ds = [d]) := by
 intro n
 induction n with
 | zero => intro t cs x _ h; simp [DataW.trod] at h
 | succ n ih =>
  intro t cs x ht h
  have hc := List.all_eq_true.1 hS t ht
  cases hu : P.underlying t with
  | none => rw [hu] at hc; cases hc
  | some td =>
   rw [hu] at hc
   cases td <;> first | (cases hc; done) | skip
   case bool =>
    obtain ⟨b, rfl, _⟩ := DataW.trod_bool hu h
    obtain ⟨h1, h2⟩ := zb3 (W := W) (d := .bool b) (v := .bool b) (by simp [rel]) rfl
    exact ⟨_, h1, h2, by simp only [z3w, hu]; exact ⟨b, rfl⟩, fun _ => ⟨_, _, rfl, rfl⟩⟩
   case int k =>
    obtain ⟨i, rfl, _, hw⟩ := DataW.trod_int hu h
    obtain ⟨h1, h2⟩ := zb3 (W := W) (d := .int k i) (v := .int k i) (by simp [rel]) rfl
    exact ⟨_, h1, h2, by simp only [z3w, hu]; exact ⟨i, rfl, hw⟩, fun _ => ⟨_, _, rfl, rfl⟩⟩
   case string =>
    obtain ⟨s, rfl, _, hw⟩ := DataW.trod_string hu h
    obtain ⟨h1, h2⟩ := zb3 (W := W) (d := .str s) (v := .string s) (by simp [rel]) rfl
    exact ⟨_, h1, h2, by simp only [z3w, hu]; exact ⟨s, rfl, hw⟩, fun _ => ⟨_, _, rfl, rfl⟩⟩
   case slice e =>
    have he := zt1 hc
    rcases DataW.trod_slice hu h with ⟨rfl, _⟩ | ⟨a, len, cap, elems, rest, m, hm, rfl, _, _, hl, hcm, hlen, hel, _⟩
    ·obtain ⟨h1, h2⟩ := zb3 (W := W) (d := .rsl false (z06 P e) []) (v := .slice none 0 0) (by simp only [rel]; exact .inl ⟨trivial, trivial, trivial⟩) rfl
     exact ⟨_, h1, h2, by simp only [z3w, hu]; exact ⟨[], by simp, by simp, rfl⟩, fun _ => ⟨_, _, rfl, rfl⟩⟩
    ·cases hm
     have each : ∀ i : _root_.Fin len, ∃ p : List Value × List D, W.cells? base (a.add (i * P.cellsOf e)) (P.cellsOf e) = some p.1 /\ relAll (zbp W) p.2 p.1 /\ z6i p.1 /\ z3w P n e p.2 /\ (z0f P e = false -> ∃ c d, p.1 = [c] /\ p.2 = [d]) := by
      intro i
      have hi := hel i i.2
      rw [List.getElem?_eq_getElem (by omega), Option.bind_eq_some_iff] at hi
      obtain ⟨cs', h1, h2⟩ := hi
      obtain ⟨ds, k1, k2, k3, k4⟩ := ih e cs' _ he h2
      exact ⟨(cs', ds), h1, k1, k2, k3, k4⟩
     obtain ⟨f, hf⟩ := Classical.axiomOfChoice each
     have hag : ∀ i, rel (zbp W) (elD (z0f P e) (f i).2) (elV (z0f P e) (f i).1) /\ (elV (z0f P e) (f i).1).cells.toList = (f i).1 := by
      intro i
      obtain ⟨h1, h2, h3, h4, h5⟩ := hf i
      cases hag : z0f P e with
      | true =>
       simp only [elD, elV, if_true, Value.cells]
       exact ⟨by simp only [rel]; exact ⟨_, rfl, h2, h3⟩, trivial⟩
      | false =>
       obtain ⟨c, d, hc1, hd1⟩ := h5 hag
       rw [hc1, hd1] at h2
       rw [hc1] at h3
       simp only [elD, elV, hc1, hd1, Bool.false_eq_true, if_false, List.getElem?_cons_zero, Option.getD_some]
       simp only [relAll] at h2
       obtain ⟨v, r, hv, hrel, hr⟩ := h2
       simp only [List.cons.injEq] at hv
       obtain ⟨rfl, rfl⟩ := hv
       refine ⟨hrel, ?_⟩
       rw [z2i (h3 c (by simp))]
     have hsz : z06 P e = P.cellsOf e := rfl
     obtain ⟨h1, h2⟩ := zb3 (W := W) (d := .rsl false (z06 P e) ((List.ofFn fun i => (f i).2).map (elD (z0f P e)))) (v := .slice (some a) len cap) (by
      simp only [rel]
      refine .inr ⟨a, cap, List.ofFn fun i => elV (z0f P e) (f i).1, by simp, by simpa using hl, hcm, z4w (by simp) (fun i d v hd hv => ?_), fun i v hv => ?_⟩
      ·simp only [List.getElem?_map, List.getElem?_ofFn] at hd hv
       split at hv
       ·rename_i hi
        rw [dif_pos hi] at hd
        simp only [Option.map_some, Option.some.injEq] at hd hv
        subst hd; subst hv
        exact (hag ⟨i, hi⟩).1
       ·cases hv
      ·simp only [List.getElem?_ofFn] at hv
       split at hv
       ·rename_i hi
        simp only [Option.some.injEq] at hv
        subst hv
        obtain ⟨g1, _⟩ := hf ⟨i, hi⟩
        obtain ⟨_, g2, g3⟩ := World.cells?_some g1
        have g4 := (hag ⟨i, hi⟩).2
        refine ⟨by rw [<- Array.length_toList, g4, g2, hsz], fun j c hj => ?_⟩
        rw [g4] at hj
        have hjl : j < P.cellsOf e := by rw [<- g2]; exact (List.getElem?_eq_some_iff.1 hj).1
        have := g3 j hjl
        rw [hj] at this
        exact this
       ·cases hv) rfl
     refine ⟨_, h1, h2, ?_, fun _ => ⟨_, _, rfl, rfl⟩⟩
     simp only [z3w, hu]
     refine ⟨List.ofFn fun i => (f i).2, by simp; omega, fun p hp => ?_, rfl⟩
     obtain ⟨i, rfl⟩ := List.mem_ofFn.1 hp
     exact (hf i).2.2.2.1
   case struct fs =>
    obtain ⟨xs, m, hm, _, hcl, hxl, hxf⟩ := DataW.trod_struct hu h
    cases hm
    simp only [Bool.and_eq_true] at hc
    obtain ⟨htile, hfs⟩ := hc
    have key : ∀ (l : List Field) (off k : Nat), (∀ i, l[i]? = fs[k + i]?) -> zjt P (P.cellsOf t) l off = true -> ∃ ds, relAll (zbp W) ds (cs.drop off) /\ z6i (cs.drop off) /\ zha (z3w P n) l ds := by
     intro l
     induction l with
     | nil =>
      intro off k _ ht'
      simp only [zjt, beq_iff_eq] at ht'
      subst ht'
      rw [<- hcl, List.drop_length]
      exact ⟨[], z0t, fun v hv => by simp at hv, rfl⟩
     | cons g l ihl =>
      intro off k hl ht'
      simp only [zjt, Bool.and_eq_true, beq_iff_eq] at ht'
      obtain ⟨rfl, ht'⟩ := ht'
      have hg : fs[k]? = some g := by have := hl 0; simpa using this.symm
      have hlt : k < fs.size := (Array.getElem?_eq_some_iff.1 hg).1
      have hx := hxf k g hg
      rw [List.getElem?_eq_getElem (by omega)] at hx
      have hmem : g ∈ fs.toList := by
       obtain ⟨h1, h2⟩ := Array.getElem?_eq_some_iff.1 hg
       rw [<- h2]; exact Array.mem_toList_iff.2 (Array.getElem_mem h1)
      obtain ⟨d1, r1, r2, r3, _⟩ := ih g.type _ _ (zt1 (List.all_eq_true.1 hfs g hmem)) hx
      obtain ⟨d2, q1, q2, q3⟩ := ihl (g.offset + P.cellsOf g.type) (k + 1) (fun i => by have := hl (i + 1); simpa [Nat.add_assoc, Nat.add_comm 1 i] using this) ht'
      have hsp : cs.drop g.offset = (cs.drop g.offset).take (P.cellsOf g.type) ++ cs.drop (g.offset + P.cellsOf g.type) := by
       rw [<- List.drop_drop, List.take_append_drop]
      rw [hsp]
      exact ⟨d1 ++ d2, z22 r1 q1, fun v hv => by
       rcases List.mem_append.1 hv with hv | hv
       ·exact r2 v hv
       ·exact q2 v hv, d1, d2, rfl, r3, q3⟩
    obtain ⟨ds, h1, h2, h3⟩ := key fs.toList 0 0 (fun i => by simp) htile
    rw [List.drop_zero] at h1 h2
    refine ⟨ds, h1, h2, by simp only [z3w, hu]; exact h3, fun hag => ?_⟩
    simp only [z0f, hu] at hag
    cases hag
theorem zt2 {S : List TypeId} (hS : zl8 P S = true) {t : TypeId} {cs : Array Value} {d : DataW H} {p : List MemPlace} (ht : t ∈ S) (h : DataW.Trod enc P W base spare held t (.agg cs) d p) :
  ∃ n ds, z3w P n t ds /\ rel (zbp W) (.agg ds) (.agg cs) := by
 obtain ⟨n, h⟩ := h
 obtain ⟨ds, h1, h2, h3, _⟩ := zoq hS n t _ _ ht h
 refine ⟨n, ds, h3, ?_⟩
 simp only [rel]
 exact ⟨cs.toList, by simp, by simpa [Value.cells] using h1, by simpa [Value.cells] using h2⟩
end
section
variable {P : Program} {n : Nat} {t e : TypeId} {d : D} {ds : List D}
theorem wf_i64 {i : Int} (h : (Lit.int .i64 i).wf = true) : -9223372036854775808 <= i /\ i <= 9223372036854775807 := by
 simp only [Lit.wf, Bool.and_eq_true, decide_eq_true_eq] at h
 exact h
theorem z1o (hu : P.underlying t = some (.int .i64)) (h : z3w P n t ds) : ∃ i : Int, ds = [.int .i64 i] /\ -9223372036854775808 <= i /\ i <= 9223372036854775807 := by
 cases n with
 | zero => exact h.elim
 | succ n =>
  simp only [z3w, hu] at h
  obtain ⟨i, h1, h2⟩ := h
  exact ⟨i, h1, wf_i64 h2⟩
theorem z53 (hu : P.underlying t = some .string) (h : z3w P n t ds) : ∃ s : ByteArray, ds = [.str s] /\ s.size <= maxLen := by
 cases n with
 | zero => exact h.elim
 | succ n => simpa only [z3w, hu] using h
theorem z61 (hu : P.underlying t = some (.slice e)) (h : z3w P n t ds) : ∃ (m : Nat) (parts : List (List D)), n = m + 1 /\ parts.length <= maxLen /\ (∀ p ∈ parts, z3w P m e p) /\ ds = [.rsl false (z06 P e) (parts.map (elD (z0f P e)))] := by
 cases n with
 | zero => exact h.elim
 | succ n =>
  simp only [z3w, hu] at h
  obtain ⟨parts, h1, h2, h3⟩ := h
  exact ⟨n, parts, rfl, h1, h2, h3⟩
theorem z2r {fs : Array Field} (hu : P.underlying t = some (.struct fs)) (h : z3w P n t ds) : ∃ m, n = m + 1 /\ zha (z3w P m) fs.toList ds := by
 cases n with
 | zero => exact h.elim
 | succ n => exact ⟨n, rfl, by simpa only [z3w, hu] using h⟩
theorem z3j {α : Type} {good : List D -> Prop} {f : α -> List D} {q : α -> Prop} (h : ∀ p, good p -> ∃ x, p = f x /\ q x) : ∀ (parts : List (List D)), (∀ p ∈ parts, good p) -> ∃ l : List α, parts = l.map f /\ (∀ x ∈ l, q x)
 | [], _ => ⟨[], rfl, by simp⟩
 | p :: parts, hp => by
  obtain ⟨x, hx, hq⟩ := h p (hp p (by simp))
  obtain ⟨l, hl, hq'⟩ := z3j h parts (fun p' hp' => hp p' (by simp [hp']))
  exact ⟨x :: l, by simp [hx, hl], by simp; exact ⟨hq, hq'⟩⟩
theorem zg9 (hu : P.underlying t = some (.slice e)) (he : P.underlying e = some .string) (hs : z06 P e = 1) (h : z3w P n t ds) : ∃ l : List ByteArray, ds = [z39 l] /\ l.length <= maxLen /\ ∀ s ∈ l, s.size <= maxLen := by
 obtain ⟨m, parts, rfl, hl, hp, rfl⟩ := z61 hu h
 obtain ⟨l, rfl, hq⟩ := z3j (f := fun s => [D.str s]) (q := fun s : ByteArray => s.size <= maxLen) (fun p hp => z53 he hp) parts hp
 have hag : z0f P e = false := by simp [z0f, he]
 refine ⟨l, ?_, by simpa using hl, hq⟩
 simp only [z39, hag, hs, List.map_map]
 rfl
end
end Go.Proofs.YtppebcifiejplaaGreat.Abs
namespace Go.Proofs.YtppebcifiejplaaGreat
section
open Abs
namespace Tr
structure Idv where
 act : Int
 item : Int
 n : Int
instance : DecidableEq Idv := fun a b => decidable_of_iff (a.act = b.act /\ a.item = b.item /\ a.n = b.n) ⟨fun ⟨h1, h2, h3⟩ => by cases a; cases b; simp_all, fun h => by subst h; exact ⟨rfl, rfl, rfl⟩⟩
def Idv.zero : Idv := ⟨0, 0, 0⟩
structure Wd where
 text : ByteArray
 by_ : Idv
instance : DecidableEq Wd := fun a b => decidable_of_iff (a.text = b.text /\ a.by_ = b.by_) ⟨fun ⟨h1, h2⟩ => by cases a; cases b; simp_all, fun h => by subst h; exact ⟨rfl, rfl⟩⟩
inductive T where
 | mk (id : Idv) (kind : Int) (label : ByteArray) (head words : List Wd) (kids : List T)
def T.id : T -> Idv | .mk i _ _ _ _ _ => i
def T.kind : T -> Int | .mk _ k _ _ _ _ => k
def T.label : T -> ByteArray | .mk _ _ l _ _ _ => l
def T.head : T -> List Wd | .mk _ _ _ h _ _ => h
def T.words : T -> List Wd | .mk _ _ _ _ w _ => w
def T.kids : T -> List T | .mk _ _ _ _ _ k => k
theorem T.eta (t : T) : T.mk t.id t.kind t.label t.head t.words t.kids = t := by cases t; rfl
mutual
theorem z3y {p : T -> Prop} (h : ∀ t, (∀ k ∈ t.kids, p k) -> p t) : ∀ t, p t
 | .mk i k l a b ks => h (.mk i k l a b ks) (ind2 h ks)
theorem ind2 {p : T -> Prop} (h : ∀ t, (∀ k ∈ t.kids, p k) -> p t) : ∀ (ks : List T), ∀ k ∈ ks, p k
 | [], k, hk => by cases hk
 | t :: ts, k, hk => by
  rcases List.mem_cons.1 hk with e | hk
  ·rw [e]; exact z3y h t
  ·exact ind2 h ts k hk
end
mutual
def zc1 {β : Type} (f : T -> List β -> β) : T -> β
 | .mk i k l a b ks => f (.mk i k l a b ks) (recL f ks)
def recL {β : Type} (f : T -> List β -> β) : List T -> List β
 | [] => []
 | t :: ts => zc1 f t :: recL f ts
end
theorem zp7 {β : Type} (f : T -> List β -> β) : ∀ ks, recL f ks = ks.map (zc1 f)
 | [] => rfl
 | t :: ts => by simp [recL, zp7 f ts]
theorem z2l {β : Type} (f : T -> List β -> β) (t : T) : zc1 f t = f t (t.kids.map (zc1 f)) := by
 cases t with
 | mk i k l a b ks => rw [zc1, zp7]; rfl
end Tr
namespace Abs
open Tr
def z07 (i : Idv) : List D := [.int .i64 i.act, .int .i64 i.item, .int .i64 i.n]
def z41 (i : Idv) : D := .agg (z07 i)
def z2f (l : List Idv) : D := .rsl false 3 (l.map z41)
def z5n (w : Wd) : List D := [.str w.text, .int .i64 w.by_.act, .int .i64 w.by_.item, .int .i64 w.by_.n]
def zmx (w : Wd) : D := .agg (z5n w)
def z0n (l : List Wd) : D := .rsl false 4 (l.map zmx)
def zp8 (t : T) (ks : List (List D)) : List D := [.int .i64 t.id.act, .int .i64 t.id.item, .int .i64 t.id.n, .int .i64 t.kind, .str t.label, z0n t.head, z0n t.words, .rsl false 8 (ks.map .agg)]
def z05 (t : T) : List D := zc1 zp8 t
def z1a (t : T) : D := .agg (z05 t)
def z0e (l : List T) : D := .rsl false 8 (l.map z1a)
theorem z0y (t : T) : z05 t = [.int .i64 t.id.act, .int .i64 t.id.item, .int .i64 t.id.n, .int .i64 t.kind, .str t.label, z0n t.head, z0n t.words, z0e t.kids] := by
 unfold z05
 rw [z2l, zp8, List.map_map]; rfl
@[go_sem] theorem z0l (t : T) : (z05 t).length = 8 := by rw [z0y]; rfl
@[go_sem] theorem zxl (t : T) : (z05 t)[3]? = some (.int .i64 t.kind) := by rw [z0y]; rfl
@[go_sem] theorem zwc (t : T) : (z05 t)[4]? = some (.str t.label) := by rw [z0y]; rfl
@[go_sem] theorem zxm (t : T) : (z05 t)[5]? = some (z0n t.head) := by rw [z0y]; rfl
@[go_sem] theorem zwd (t : T) : (z05 t)[6]? = some (z0n t.words) := by rw [z0y]; rfl
@[go_sem] theorem zxn (t : T) : (z05 t)[7]? = some (z0e t.kids) := by rw [z0y]; rfl
@[go_sem] theorem cellsU_id (t : T) : List.take 3 (z05 t) = [.int .i64 t.id.act, .int .i64 t.id.item, .int .i64 t.id.n] := by rw [z0y]; rfl
@[go_sem] theorem zxo (t : T) : List.take 8 (z05 t) = z05 t := List.take_of_length_le (by rw [z0l]; exact Nat.le_refl _)
@[go_sem] theorem zty (a b c d e f g h : D) (t : T) : z13 [a, b, c, d, e, f, g, h] 0 (z05 t) = z05 t := by
 rw [z0y]; rfl
@[go_sem] theorem encU_agg (t : T) : z1a t = .agg (z05 t) := rfl
@[go_sem] theorem encWd_agg (w : Wd) : zmx w = .agg [.str w.text, .int .i64 w.by_.act, .int .i64 w.by_.item, .int .i64 w.by_.n] := rfl
@[go_sem] theorem encId_agg (i : Idv) : z41 i = .agg [.int .i64 i.act, .int .i64 i.item, .int .i64 i.n] := rfl
theorem z0w (l : List Wd) : pureD (z0n l) = true := by simp only [z0n, pureD]; exact z1m (fun _ => rfl) l
theorem z4k (l : List Idv) : pureD (z2f l) = true := by simp only [z2f, pureD]; exact z1m (fun _ => rfl) l
theorem zlo {f : T -> D} : ∀ {l : List T}, (∀ t ∈ l, pureD (f t) = true) -> pureD.pureL (l.map f) = true
 | [], _ => rfl
 | t :: l, h => by
  simp only [List.map_cons, pureD.pureL, Bool.and_eq_true]
  exact ⟨h t (by simp), zlo fun k hk => h k (List.mem_cons_of_mem _ hk)⟩
theorem z04 : ∀ t, pureD (z1a t) = true := by
 refine z3y fun t ih => ?_
 rw [z1a, z0y]
 have hk : pureD (z0e t.kids) = true := by simp only [z0e, pureD]; exact zlo ih
 simp only [pureD, pureD.pureL, Bool.true_and, Bool.and_true, z0w, hk]
theorem z0d (t : T) : pureD.pureL (z05 t) = true := by have := z04 t; simpa only [z1a, pureD] using this
theorem z1b (l : List T) : pureD (z0e l) = true := by simp only [z0e, pureD]; exact z1m z04 l
@[go_sem] theorem zmy (l : List T) : pureD.pureL (l.map z1a) = true := z1m z04 l
@[go_sem] theorem zxp (l : List Wd) : pureD.pureL (l.map zmx) = true := z1m (fun _ => rfl) l
@[go_sem] theorem zxq (l : List Idv) : pureD.pureL (l.map z41) = true := z1m (fun _ => rfl) l
attribute [go_sem] z0d
@[go_sem] theorem idEq (i j : Idv) : (decide (i.act = j.act) && (decide (i.item = j.item) && decide (i.n = j.n))) = decide (i = j) := by
 obtain ⟨a, b, c⟩ := i; obtain ⟨a', b', c'⟩ := j
 rw [Bool.eq_iff_iff]; simp [Idv.mk.injEq]
@[go_sem] theorem idEq' (i j : Idv) : (decide (i.act = j.act) && decide (i.item = j.item) && decide (i.n = j.n)) = decide (i = j) := by rw [Bool.and_assoc, idEq]
@[go_sem] theorem idZ (i : Idv) : (decide (i.act = 0) && (decide (i.item = 0) && decide (i.n = 0))) = decide (i = Idv.zero) := idEq i Idv.zero
@[go_sem] theorem idZ' (i : Idv) : (decide (i.act = 0) && decide (i.item = 0) && decide (i.n = 0)) = decide (i = Idv.zero) := idEq' i Idv.zero
@[go_sem] theorem wdEq (u v : Wd) : (decide (u.text = v.text) && decide (u.by_ = v.by_)) = decide (u = v) := by
 obtain ⟨a, b⟩ := u; obtain ⟨a', b'⟩ := v
 rw [Bool.eq_iff_iff]; simp [Wd.mk.injEq]
end Abs
end
section
open Abs Facts Tr
attribute [local irreducible] awp
namespace Tr
def z7y (l : List Wd) : Bool := l.all (fun w => decide (w.text.size <= 100)) && decide (l.length <= 300)
def zdg (t : T) : Bool := zc1 (fun t l => decide (t.label.size <= 30) && (z7y t.head && (z7y t.words && l.all id))) t
theorem zhw (t : T) : zdg t = (decide (t.label.size <= 30) && (z7y t.head && (z7y t.words && t.kids.all zdg))) := by
 unfold zdg
 rw [z2l, List.all_map]; rfl
theorem z3m {α : Type} {f : α -> Bool} {l : List α} {k : Nat} (hk : k < l.length) (h : f l[k] = false) : l.all f = false := List.all_eq_false.2 ⟨_, List.getElem_mem hk, by simp [h]⟩
theorem z2d {α : Type} {f : α -> Bool} {l : List α} {k : Nat} (hk : k < l.length) (h : (l.take k).all f = true) (h2 : f l[k] = true) : (l.take (k + 1)).all f = true := by
 rw [List.take_succ_eq_append_getElem hk, List.all_append, h, List.all_cons, h2]; rfl
theorem z2h {α : Type} {f : α -> Bool} {l : List α} {k : Nat} (hk : ¬ k < l.length) (h : (l.take k).all f = true) : l.all f = true := by rwa [List.take_of_length_le (by omega)] at h
end Tr
theorem zlz (l : List Wd) (hl : l.length <= maxLen) : PC Tryz.prog 73 [z0n l] (.bool (z7y l)) := by
 unfold maxLen at hl
 refine z1v 1 (by simp only [pureD.pureL, z0w, Bool.and_self]) rfl (z1t [] Tryz.func73 rfl (by decide +kernel) z0k (by decide +kernel) (by simp [Tryz.ntmps73]) ?_)
 show awp _ _ (Code.seq _ _) _ _
 repeat' (first | refine zqj ?_ | ((refine zqh fun K J => ?_); (simp (disch := omega) only [go_sem, z0n])) | refine zqa ?_ | (refine J _ ?_; clear J K))
 (refine z35 (fun U st => ∃ (k : _), U = l.length - k /\ st.t 0 = z0n l /\ st.t 3 = .int .i64 k /\ (k <= l.length) /\ ((l.take k).all (fun w => decide (w.text.size <= 100)) = true)) ?_ ?_); rotate_left; (rintro U st ⟨k, rfl, s0, s3, sp0, sp1⟩); rotate_left
 ·(refine ⟨_, 0, rfl, ?_⟩); (simp (disch := omega) only [go_sem, Nat.reduceBEq, true_and, Int.natCast_zero, z0n])
  try simp
 repeat' (first | refine zqj ?_ | ((first | refine zqh fun K J => ?_ | refine zqr fun K J => ?_); (simp (disch := omega) only [go_sem, Nat.reduceBEq, ↓reduceIte, reduceCtorEq, Nat.reduceAdd, s0, s3, z0n])) | ((first | refine zqd _ rfl (fun hc => ?_) (fun hc => ?_) | refine zqm _ rfl (fun hc => ?_) (fun hc => ?_)) <;> (((try simp only [z03] at hc); (try (exfalso; omega))))) | refine zqa ?_ | refine zqb ?_ | refine zqc ?_ | refine zqk ?_ | refine zqn ?_ | refine zqv ?_ | refine zqx ?_ | refine zqy ?_ | refine zqz ?_ | refine z4f ?_ | refine zqp ?_ | refine zqo ?_ | refine zqu (by (simp (disch := omega) only [go_sem]); rfl) rfl ?_ | (refine J _ ?_; clear J K))
 ·have hk : k < l.length := by omega
  refine z00 ?_
  have : l.all (fun w => decide (w.text.size <= 100)) = false := z3m hk (decide_eq_false (by omega))
  simp only [z7y, this]; rfl
 ·have hk : k < l.length := by omega
  (refine Exists.intro _ (And.intro ?_ ⟨k + 1, rfl, ?_⟩)); rotate_left; (simp (disch := omega) only [go_sem, Nat.reduceBEq, s0, s3, true_and, Int.natCast_add, Int.natCast_one]); rotate_left
  ·omega
  ·exact ⟨by omega, z2d hk sp1 (decide_eq_true (by omega))⟩
 ·have := z2h (by omega) sp1
  refine z00 ?_
  simp only [z7y, this, Bool.true_and]
  congr 1; simp only [eq_iff_iff]; omega
namespace Tr
def fitB (t : T) : Bool := zc1 (fun t l => decide (t.head.length <= maxLen) && (decide (t.words.length <= maxLen) && (decide (t.kids.length <= maxLen) && l.all id))) t
theorem zbe (t : T) : fitB t = true ↔ t.head.length <= maxLen /\ t.words.length <= maxLen /\ t.kids.length <= maxLen /\ ∀ k ∈ t.kids, fitB k = true := by
 unfold fitB
 rw [z2l]
 simp only [List.all_map, Bool.and_eq_true, decide_eq_true_iff, List.all_eq_true]
 rfl
def z34 (deep most : Int) : List (Int -> Int -> Int) -> Int -> Int
 | [], n => n
 | f :: fs, n => if n <= most then z34 deep most fs (n + f (deep + 1) (most - n)) else n
def z3f (t : T) : Int -> Int -> Int := zc1 (fun _ l deep most => if 20 < deep then most + 1 else z34 deep most l 1) t
theorem zgm (t : T) (deep most : Int) : z3f t deep most = if 20 < deep then most + 1 else z34 deep most (t.kids.map z3f) 1 := by
 unfold z3f; rw [z2l]
theorem zfh (deep most : Int) (f : Int -> Int -> Int) : ∀ (l : List (Int -> Int -> Int)) (n : Int), z34 deep most l n <= most -> z34 deep most (l ++ [f]) n = z34 deep most l n + f (deep + 1) (most - z34 deep most l n)
 | [], n, h => by simp only [z34] at h; simp only [List.nil_append, z34]; rw [if_pos h]
 | g :: l, n, h => by
  simp only [List.cons_append, z34] at h ⊢
  split at h
  ·rename_i hn
   simp only [hn, if_true]
   exact zfh deep most f l _ h
  ·omega
theorem zfi (deep most : Int) : ∀ (l r : List (Int -> Int -> Int)) (n : Int), most < z34 deep most l n -> z34 deep most (l ++ r) n = z34 deep most l n
 | [], r, n, h => by
  simp only [z34] at h
  simp only [List.nil_append]
  cases r with
  | nil => rfl
  | cons f r => simp only [z34]; rw [if_neg (by omega)]
 | g :: l, r, n, h => by
  simp only [List.cons_append, z34] at h ⊢
  split
  ·rename_i hn
   simp only [hn, if_true] at h
   exact zfi deep most l r _ h
  ·rfl
theorem z7z {deep most : Int} : ∀ (l : List T), (∀ k ∈ l, ∀ (deep most : Int), 0 <= most -> 1 <= z3f k deep most /\ z3f k deep most <= most + 1) -> ∀ n : Int, 1 <= n -> n <= most + 1 -> 1 <= z34 deep most (l.map z3f) n /\ z34 deep most (l.map z3f) n <= most + 1
 | [], _, n, h1, h2 => ⟨h1, h2⟩
 | k :: l, hk, n, h1, h2 => by
  simp only [List.map_cons, z34]
  split
  ·have := hk k (by simp) (deep + 1) (most - n) (by omega)
   exact z7z l (fun q hq => hk q (List.mem_cons_of_mem _ hq)) _ (by omega) (by omega)
  ·exact ⟨h1, h2⟩
theorem z65 : ∀ (t : T) (deep most : Int), 0 <= most -> 1 <= z3f t deep most /\ z3f t deep most <= most + 1 := by
 refine z3y fun t ih deep most hm => ?_
 rw [zgm]
 split
 ·omega
 ·exact z7z t.kids ih 1 (by omega) (by omega)
end Tr
theorem zul : ∀ t : T, fitB t = true -> PC Tryz.prog 46 [z1a t] (.bool (zdg t)) := by
 refine z3y fun t ih hfit => ?_
 obtain ⟨h1, h2, h3, h4⟩ := (zbe t).1 hfit
 have ih := fun k hk => ih k hk (h4 k hk)
 have hsh := zlz t.head h1
 have hsw := zlz t.words h2
 unfold maxLen at h1 h2 h3
 rw [zhw]
 refine z1v 1 (by simp only [pureD.pureL, z04, Bool.and_self]) rfl (z1t [] Tryz.func46 rfl (by decide +kernel) z0k (by decide +kernel) (by simp [Tryz.ntmps46]) ?_)
 show awp _ _ (Code.seq _ _) _ _
 repeat' (first | refine zqj ?_ | ((first | refine zqh fun K J => ?_ | refine zqs (hsh) ?_ | refine zqs (hsw) ?_); (simp (disch := omega) only [go_sem, Nat.reduceBEq, ↓reduceIte, reduceCtorEq, Nat.reduceAdd])) | ((refine zqd _ rfl (fun hc => ?_) (fun hc => ?_)) <;> (first | (cases hc; done) | ((try simp only [z03] at hc); (try (exfalso; omega))))) | refine zqa ?_ | refine zqb ?_ | refine zqg ?_ | refine zqu (by (simp (disch := omega) only [go_sem]); rfl) rfl ?_ | (refine J _ ?_; clear J K) | (refine zqf (fun hb => ?_) (fun hb => ?_) <;> (have hb2 := hb; try simp only [z03] at hb2) <;> ((first | have F : (_ : Bool) = _ := hb2 | have F := eq_false hb2 | have F := eq_true hb2); (simp (disch := omega) only [go_sem, Nat.reduceBEq, ↓reduceIte, reduceCtorEq, Nat.reduceAdd, F]); clear hb F; (try (exfalso; omega)))))
 rotate_right
 all_goals first | exact z00 (by simp_all; try omega) | skip
 have hlab : decide (t.label.size <= 30) = true := decide_eq_true (by omega)
 rw [hlab, ‹z7y t.head = true›, ‹z7y t.words = true›, Bool.true_and, Bool.true_and, Bool.true_and]
 (refine z35 (fun U st => ∃ (i : _), U = t.kids.length - i /\ st.t 1 = .ptr 0 0 /\ st.t 3 = .int .i64 i /\ st.H 0 = some (.box 27 (z05 t)) /\ (i <= t.kids.length) /\ ((t.kids.take i).all zdg = true) /\ (1 <= st.nx)) ?_ ?_); rotate_left; (rintro U st ⟨i, rfl, s1, s3, sH0, sp0, sp1, sp2⟩); rotate_left
 ·(refine ⟨_, 0, rfl, ?_⟩); (simp (disch := omega) only [go_sem, Nat.reduceBEq, Nat.reduceLeDiff, true_and, and_true, Int.natCast_zero])
  try simp
 have hin := fun (h : i < t.kids.length) => ih t.kids[i] (List.getElem_mem h)
 repeat' (first | refine zqj ?_ | ((first | refine zqh fun K J => ?_ | refine zqr fun K J => ?_ | refine zqs (hin (by omega)) ?_); (simp (disch := omega) only [go_sem, Nat.reduceBEq, ↓reduceIte, reduceCtorEq, Nat.reduceAdd, s1, s3, sH0, z0e])) | ((first | refine zqd _ rfl (fun hc => ?_) (fun hc => ?_) | refine zqm _ rfl (fun hc => ?_) (fun hc => ?_)) <;> (((try simp only [z03] at hc); (try (exfalso; omega))))) | refine zqa ?_ | refine zqb ?_ | refine zqc ?_ | refine zqk ?_ | refine zqn ?_ | refine zqv ?_ | refine zqx ?_ | refine zqy ?_ | refine zqz ?_ | refine z4f ?_ | refine zqp ?_ | refine zqo ?_ | refine zqu (by (simp (disch := omega) only [go_sem]); rfl) rfl ?_ | (refine J _ ?_; clear J K))
 ·exact z00 (z3m (k := i) (by omega) (by assumption)).symm
 ·(refine Exists.intro _ (And.intro ?_ ⟨i + 1, rfl, ?_⟩)); rotate_left; (simp (disch := omega) only [go_sem, Nat.reduceBEq, s1, s3, sH0, true_and, Int.natCast_add, Int.natCast_one]); rotate_left
  ·omega
  ·exact ⟨by omega, z2d (by omega) sp1 (by assumption), by omega⟩
 ·exact z00 (z2h (by omega) sp1).symm
theorem zxw : ∀ t : T, fitB t = true -> ∀ deep most : Int, 0 <= deep -> deep <= 21 -> 0 <= most -> most <= 1000 -> PC Tryz.prog 45 [z1a t, .int .i64 deep, .int .i64 most] (.int .i64 (z3f t deep most)) := by
 refine z3y fun t ih hfit deep most hd0 hd1 hm0 hm1 => ?_
 obtain ⟨h1, h2, h3, h4⟩ := (zbe t).1 hfit
 unfold maxLen at h1 h2 h3
 have hb := z65 t deep most hm0
 rw [zgm] at hb ⊢
 refine z1v 1 (by simp only [pureD.pureL, z04, pureD, Bool.and_self]) rfl (z1t [] Tryz.func45 rfl (by decide +kernel) z0k (by decide +kernel) (by simp [Tryz.ntmps45]) ?_)
 show awp _ _ (Code.seq _ _) _ _
 repeat' (first | refine zqj ?_ | ((refine zqh fun K J => ?_); (simp (disch := omega) only [go_sem, Nat.reduceBEq, ↓reduceIte])) | ((refine zqd _ rfl (fun hc => ?_) (fun hc => ?_)) <;> (((try simp only [z03] at hc); (try (exfalso; omega))))) | refine zqa ?_ | refine zqb ?_ | refine zqg ?_ | refine zqu (by (simp (disch := omega) only [go_sem]); rfl) rfl ?_ | (refine J _ ?_; clear J K))
 ·refine z2w ?_
  rw [if_pos (by assumption)]
 ·rw [if_neg (by assumption)] at hb ⊢
  (refine z35 (fun U st => ∃ (i : _), U = t.kids.length - i /\ st.t 1 = .int .i64 deep /\ st.t 2 = .int .i64 most /\ st.t 3 = .ptr 0 0 /\ st.t 7 = .int .i64 (z34 deep most ((t.kids.take i).map z3f) 1) /\ st.t 8 = .int .i64 i /\ st.H 0 = some (.box 27 (z05 t)) /\ (i <= t.kids.length) /\ (1 <= st.nx)) ?_ ?_); rotate_left; (rintro U st ⟨i, rfl, s1, s2, s3, s7, s8, sH0, sp0, sp1⟩); rotate_left
  ·(refine ⟨_, 0, rfl, ?_⟩); (simp (disch := omega) only [go_sem, Nat.reduceBEq, Nat.reduceLeDiff, true_and, and_true, and_self, Int.natCast_zero, List.map_nil])
   try simp [z34]
  have hin := fun (h : i < t.kids.length) => ih t.kids[i] (List.getElem_mem h) (h4 _ (List.getElem_mem h)) (deep + 1) (most - z34 deep most ((t.kids.take i).map z3f) 1)
  have hpb := z7z (deep := deep) (most := most) (t.kids.take i) (fun k _ => z65 k) 1 (by omega) (by omega)
  have hnext : ∀ h : i < t.kids.length, z34 deep most ((t.kids.take i).map z3f) 1 <= most -> z34 deep most ((t.kids.take (i + 1)).map z3f) 1 = z34 deep most ((t.kids.take i).map z3f) 1 + z3f t.kids[i] (deep + 1) (most - z34 deep most ((t.kids.take i).map z3f) 1) := fun h hle => by
   rw [List.take_succ_eq_append_getElem h, List.map_append, List.map_cons, List.map_nil, zfh _ _ _ _ _ hle]
  have hkb := fun (h : i < t.kids.length) => z65 t.kids[i] (deep + 1) (most - z34 deep most ((t.kids.take i).map z3f) 1)
  have hstop : most < z34 deep most ((t.kids.take i).map z3f) 1 -> z34 deep most (t.kids.map z3f) 1 = z34 deep most ((t.kids.take i).map z3f) 1 := fun h => by
   have := zfi deep most ((t.kids.take i).map z3f) ((t.kids.drop i).map z3f) 1 h
   rwa [<- List.map_append, List.take_append_drop] at this
  repeat' (first | refine zqj ?_ | ((first | refine zqh fun K J => ?_ | refine zqr fun K J => ?_ | refine zqs (hin (by omega) (by omega) (by omega) (by omega) (by omega)) ?_); (simp (disch := omega) only [go_sem, Nat.reduceBEq, ↓reduceIte, reduceCtorEq, Nat.reduceAdd, s1, s2, s3, s7, s8, sH0, z0e])) | ((refine zqd _ rfl (fun hc => ?_) (fun hc => ?_)) <;> (first | (cases hc; done) | ((try simp only [z03] at hc); (try (exfalso; omega))))) | refine zqa ?_ | refine zqb ?_ | refine zqc ?_ | refine zqn ?_ | refine zqv ?_ | refine zqy ?_ | refine zqz ?_ | refine zqp ?_ | refine zqu (by (simp (disch := omega) only [go_sem]); rfl) rfl ?_ | (refine J _ ?_; clear J K) | (refine zqf (fun hb => ?_) (fun hb => ?_) <;> (have hb2 := hb; try simp only [z03] at hb2) <;> ((first | have F := eq_false hb2 | have F := eq_true hb2); (simp (disch := omega) only [go_sem, Nat.reduceBEq, ↓reduceIte, F, s2, s7]); clear hb F; (try (exfalso; omega)))))
  ·have hk := hkb (by omega) (by omega)
   have hn := hnext (by omega) (by assumption)
   (refine Exists.intro _ (And.intro ?_ ⟨i + 1, rfl, ?_⟩)); rotate_left; (simp (disch := omega) only [go_sem, Nat.reduceBEq, s1, s2, s3, s7, s8, sH0, true_and, Int.natCast_add, Int.natCast_one]); rotate_left
   ·omega
   ·rw [hn]
    exact ⟨rfl, by omega, by omega⟩
  ·exact z2w (hstop (by omega)).symm
  ·have : t.kids.take i = t.kids := List.take_of_length_le (by omega)
   rw [this]
   exact z2w rfl
namespace Tr
def zum (t : T) (most : Int) : Bool := decide (z3f t 0 most <= most) && zdg t
end Tr
theorem zwi (t : T) (hfit : fitB t = true) (most : Int) (hm0 : 0 <= most) (hm1 : most <= 1000) : PC Tryz.prog 17 [z1a t, .int .i64 most] (.bool (zum t most)) := by
 refine z1v 1 (by simp only [pureD.pureL, z04, pureD, Bool.and_self]) rfl (z1t [] Tryz.func17 rfl (by decide +kernel) z0k (by decide +kernel) (by simp [Tryz.ntmps17]) ?_)
 show awp _ _ (Code.seq _ _) _ _
 have hs := zxw t hfit 0 most (by omega) (by omega) hm0 hm1
 have hw := zul t hfit
 repeat' (first | ((first | refine zqh fun K J => ?_ | refine zqs (hs) ?_ | refine zqs (hw) ?_); (simp (disch := omega) only [go_sem, Nat.reduceBEq, ↓reduceIte, Nat.reduceAdd, Nat.reduceLeDiff])) | refine zqn ?_ | refine zqu (by (simp (disch := omega) only [go_sem]); rfl) rfl ?_ | (refine J _ ?_; clear J K) | (refine zqf (fun hb => ?_) (fun hb => ?_) <;> (have hb2 := hb; try simp only [z03] at hb2) <;> ((first | have F := eq_false hb2 | have F := eq_true hb2); (simp (disch := omega) only [go_sem, Nat.reduceBEq, ↓reduceIte, Nat.reduceAdd, Nat.reduceLeDiff, F]); clear hb F; (try (exfalso; omega)))))
 ·exact z00 (by unfold zum; rw [decide_eq_true (by assumption), Bool.true_and])
 ·exact z00 (by unfold zum; rw [decide_eq_false (by assumption), Bool.false_and])
namespace Tr
def bl (s : ByteArray) : List UInt8 := s.data.toList
theorem z19 (s : ByteArray) : (bl s).length = s.size := rfl
def dig (b : UInt8) : Bool := decide (48 <= b.toNat /\ b.toNat <= 57)
def cap (b : UInt8) : Bool := decide (65 <= b.toNat /\ b.toNat <= 90)
def ink (b : UInt8) : Bool := decide (33 <= b.toNat /\ b.toNat <= 126)
def z8k (s : ByteArray) : Nat := ((bl s).takeWhile dig).length
def z3o (s : ByteArray) : Bool := decide (1 <= z8k s /\ z8k s <= 4 /\ ((bl s).headD 0).toNat ≠ 48 /\ s.size - z8k s <= 3) && ((bl s).drop (z8k s)).all cap
def z8l (s : ByteArray) : Bool := decide (1 <= s.size /\ s.size <= 24) && (bl s).all ink
def zf1 (l : List ByteArray) : Bool := decide (l.length <= 256) && l.all z8l
def zmj (l : List Wd) : Bool := decide (l.length <= 256) && l.all fun w => z8l w.text
theorem zvn (l : List Wd) : zmj l = (decide (l.length <= 256) && zf1 (l.map (·.text))) := by
 unfold zmj zf1
 rw [List.length_map, List.all_map]
 cases decide (l.length <= 256) <;> simp [Function.comp_def]
theorem z5h {α : Type} {p : α -> Bool} : ∀ {l : List α} {k : Nat} (_ : k <= l.length), (∀ j, (hj : j < k) -> p (l[j]'(by omega)) = true) -> (∀ h : k < l.length, p l[k] = false) -> (l.takeWhile p).length = k
 | [], k, hk, _, _ => by simp at hk; simp [hk]
 | x :: l, 0, _, _, h2 => by
  have := h2 (by simp)
  simp only [List.getElem_cons_zero] at this
  simp [this]
 | x :: l, k + 1, hk, h1, h2 => by
  have h0 := h1 0 (by omega)
  simp only [List.getElem_cons_zero] at h0
  rw [List.takeWhile_cons, if_pos h0, List.length_cons]
  have := z5h (p := p) (l := l) (k := k) (by simpa using hk) (fun j hj => by simpa using h1 (j + 1) (by omega)) (fun h => h2 (by simpa using h))
  rw [this]
theorem zbt (s : ByteArray) : z8k s <= s.size := by
 unfold z8k
 rw [<- z19]
 exact (List.takeWhile_prefix _).length_le
end Tr
theorem zl3 {s : ByteArray} {i : Nat} (h : i < s.size) : s[i]? = some ((bl s)[i]'h) := getElem?_pos s i h
theorem zsh {s : ByteArray} (h : 0 < s.size) : (bl s)[0]'h = (bl s).headD 0 := by
 have : ∀ (l : List UInt8) (h : 0 < l.length), l[0]'h = l.headD 0 := fun l h => by cases l with
  | nil => exact absurd h (by simp)
  | cons a l => rfl
 exact this _ _
theorem zsi (s : ByteArray) (hs : s.size <= maxLen) : PC Tryz.prog 58 [.str s] (.int .i64 (z8k s)) := by
 unfold maxLen at hs
 refine z1v 1 (by simp only [pureD.pureL, pureD, Bool.and_self]) rfl (z1t [] Tryz.func58 rfl (by decide +kernel) z0k (by decide +kernel) (by simp [Tryz.ntmps58]) ?_)
 show awp _ _ (Code.seq _ _) _ _
 repeat' (first | ((refine zqh fun K J => ?_); (simp (disch := omega) only [go_sem])) | refine zqa ?_ | (refine J _ ?_; clear J K))
 have hbl := z19 s
 (refine z35 (fun U st => ∃ (k : _), U = s.size - k /\ st.t 0 = .str s /\ st.t 3 = .int .i64 k /\ (k <= s.size) /\ (∀ j, (hj : j < k) -> (h : j < (bl s).length) -> dig (bl s)[j] = true)) ?_ ?_); rotate_left; (rintro U st ⟨k, rfl, s0, s3, sp0, sp1⟩); rotate_left
 ·(refine ⟨_, 0, rfl, ?_⟩); (simp (disch := omega) only [go_sem, Nat.reduceBEq, true_and, Int.natCast_zero])
  exact fun j hj => by omega
 repeat' (first | refine zqj ?_ | ((first | refine zqh fun K J => ?_ | refine zqr fun K J => ?_); (simp (disch := omega) only [go_sem, Nat.reduceBEq, ↓reduceIte, s0, s3])) | ((refine zqd _ rfl (fun hc => ?_) (fun hc => ?_)) <;> (first | (cases hc; done) | ((try simp only [z03] at hc); (try (exfalso; omega))))) | refine zqi ?_ | refine zqb ?_ | refine zqc ?_ | refine zqn ?_ | refine zqv ?_ | refine zqy ?_ | refine zqz ?_ | refine zqp ?_ | refine zqu (by (simp (disch := omega) only [go_sem]); rfl) rfl ?_ | (refine J _ ?_; clear J K) | (refine zqf (fun hb => ?_) (fun hb => ?_) <;> (have hb2 := hb; try simp only [z03] at hb2) <;> ((first | have F := eq_false hb2 | have F := eq_true hb2); (simp (disch := omega) only [go_sem, Nat.reduceBEq, ↓reduceIte, F, s0, s3, zl3]); clear hb F; (try (exfalso; omega)))))
 ·(refine Exists.intro _ (And.intro ?_ ⟨k + 1, rfl, ?_⟩)); rotate_left; (simp (disch := omega) only [go_sem, Nat.reduceBEq, s0, s3, true_and, Int.natCast_add, Int.natCast_one]); rotate_left
  ·omega
  ·refine ⟨by omega, fun j hj h => ?_⟩
   by_cases e : j = k
   ·subst e; unfold dig; exact decide_eq_true (by omega)
   ·exact sp1 j (by omega) h
 all_goals
  refine z2w ?_
  have := z5h (p := dig) (l := bl s) (k := k) (by omega) (fun j hj => sp1 j hj (by omega)) (fun h => by
   unfold dig; exact decide_eq_false (by omega))
  unfold z8k; rw [this]
theorem zyv (s : ByteArray) (hs : s.size <= maxLen) : PC Tryz.prog 80 [.str s] (.bool (z8l s)) := by
 unfold maxLen at hs
 refine z1v 1 (by simp only [pureD.pureL, pureD, Bool.and_self]) rfl (z1t [] Tryz.func80 rfl (by decide +kernel) z0k (by decide +kernel) (by simp [Tryz.ntmps80]) ?_)
 show awp _ _ (Code.seq _ _) _ _
 repeat' (first | refine zqj ?_ | ((refine zqh fun K J => ?_); (simp (disch := omega) only [go_sem, Nat.reduceBEq, ↓reduceIte])) | ((refine zqd _ rfl (fun hc => ?_) (fun hc => ?_)) <;> (first | (cases hc; done) | ((try simp only [z03] at hc); (try (exfalso; omega))))) | refine zqa ?_ | refine zqb ?_ | refine zqg ?_ | refine zqu (by (simp (disch := omega) only [go_sem]); rfl) rfl ?_ | (refine J _ ?_; clear J K) | (refine zqf (fun hb => ?_) (fun hb => ?_) <;> (have hb2 := hb; try simp only [z03] at hb2) <;> ((first | have F := eq_false hb2 | have F := eq_true hb2); (simp (disch := omega) only [go_sem, Nat.reduceBEq, ↓reduceIte, F]); clear hb F; (try (exfalso; omega)))))
 ·exact z00 (by unfold z8l; rw [decide_eq_false (by omega)]; rfl)
 ·rw [show z8l s = (bl s).all ink from by unfold z8l; rw [decide_eq_true (by omega)]; rfl]
  (refine z35 (fun U st => ∃ (k : _), U = s.size - k /\ st.t 0 = .str s /\ st.t 3 = .int .i64 k /\ (k <= s.size) /\ (((bl s).take k).all ink = true)) ?_ ?_); rotate_left; (rintro U st ⟨k, rfl, s0, s3, sp0, sp1⟩); rotate_left
  ·(refine ⟨_, 0, rfl, ?_⟩); (simp (disch := omega) only [go_sem, Nat.reduceBEq, true_and, Int.natCast_zero])
   simp
  have hbl := z19 s
  repeat' (first | refine zqj ?_ | ((first | refine zqh fun K J => ?_ | refine zqr fun K J => ?_); (simp (disch := omega) only [go_sem, Nat.reduceBEq, ↓reduceIte, s0, s3, zl3])) | ((first | refine zqd _ rfl (fun hc => ?_) (fun hc => ?_) | refine zqm _ rfl (fun hc => ?_) (fun hc => ?_)) <;> (first | (cases hc; done) | ((try simp only [z03] at hc); (try (exfalso; omega))))) | refine zqa ?_ | refine zqb ?_ | refine zqc ?_ | refine zqk ?_ | refine zqn ?_ | refine zqv ?_ | refine zqx ?_ | refine zqy ?_ | refine zqz ?_ | refine z4f ?_ | refine zqp ?_ | refine zqo ?_ | refine zqu (by (simp (disch := omega) only [go_sem]); rfl) rfl ?_ | (refine J _ ?_; clear J K) | (refine zqf (fun hb => ?_) (fun hb => ?_) <;> (have hb2 := hb; try simp only [z03] at hb2) <;> ((first | have F := eq_false hb2 | have F := eq_true hb2); (simp (disch := omega) only [go_sem, Nat.reduceBEq, ↓reduceIte, F, s0, s3, zl3]); clear hb F; (try (exfalso; omega)))))
  ·exact z00 (z3m (k := k) (by omega) (by unfold ink; exact decide_eq_false (by omega))).symm
  ·(refine Exists.intro _ (And.intro ?_ ⟨k + 1, rfl, ?_⟩)); rotate_left; (simp (disch := omega) only [go_sem, Nat.reduceBEq, s0, s3, true_and, Int.natCast_add, Int.natCast_one]); rotate_left
   ·omega
   ·exact ⟨by omega, z2d (by omega) sp1 (by unfold ink; exact decide_eq_true (by omega))⟩
  ·exact z00 (z3m (k := k) (by omega) (by unfold ink; exact decide_eq_false (by omega))).symm
  ·exact z00 (z2h (by omega) sp1).symm
 ·exact z00 (by unfold z8l; rw [decide_eq_false (by omega)]; rfl)
theorem zwo (l : List ByteArray) (hl : l.length <= maxLen) (hs : ∀ s ∈ l, s.size <= maxLen) : PC Tryz.prog 57 [z39 l] (.bool (zf1 l)) := by
 unfold maxLen at hl
 refine z1v 1 (by simp only [pureD.pureL, z2o, Bool.and_self]) rfl (z1t [] Tryz.func57 rfl (by decide +kernel) z0k (by decide +kernel) (by simp [Tryz.ntmps57]) ?_)
 show awp _ _ (Code.seq _ _) _ _
 have hw := fun (i : Nat) (h : i < l.length) => zyv l[i] (hs _ (List.getElem_mem h))
 repeat' (first | refine zqj ?_ | ((refine zqh fun K J => ?_); (simp (disch := omega) only [go_sem, Nat.reduceBEq, ↓reduceIte, z39])) | ((refine zqd _ rfl (fun hc => ?_) (fun hc => ?_)) <;> (((try simp only [z03] at hc); (try (exfalso; omega))))) | refine zqa ?_ | refine zqb ?_ | refine zqg ?_ | refine zqu (by (simp (disch := omega) only [go_sem]); rfl) rfl ?_ | (refine J _ ?_; clear J K))
 ·exact z00 (by unfold zf1; rw [decide_eq_false (by omega)]; rfl)
 ·rw [show zf1 l = l.all z8l from by unfold zf1; rw [decide_eq_true (by omega)]; rfl]
  (refine z35 (fun U st => ∃ (k : _), U = l.length - k /\ st.t 0 = z39 l /\ st.t 3 = .int .i64 k /\ (k <= l.length) /\ ((l.take k).all z8l = true)) ?_ ?_); rotate_left; (rintro U st ⟨k, rfl, s0, s3, sp0, sp1⟩); rotate_left
  ·(refine ⟨_, 0, rfl, ?_⟩); (simp (disch := omega) only [go_sem, Nat.reduceBEq, true_and, Int.natCast_zero, z39])
   simp
  repeat' (first | refine zqj ?_ | ((first | refine zqh fun K J => ?_ | refine zqr fun K J => ?_ | refine zqs (hw k (by omega)) ?_); (simp (disch := omega) only [go_sem, Nat.reduceBEq, ↓reduceIte, reduceCtorEq, Nat.reduceAdd, s0, s3, z39])) | ((first | refine zqd _ rfl (fun hc => ?_) (fun hc => ?_) | refine zqm _ rfl (fun hc => ?_) (fun hc => ?_)) <;> (((try simp only [z03] at hc); (try (exfalso; omega))))) | refine zqa ?_ | refine zqb ?_ | refine zqc ?_ | refine zqk ?_ | refine zqn ?_ | refine zqv ?_ | refine zqx ?_ | refine zqy ?_ | refine zqz ?_ | refine z4f ?_ | refine zqp ?_ | refine zqo ?_ | refine zqu (by (simp (disch := omega) only [go_sem]); rfl) rfl ?_ | (refine J _ ?_; clear J K))
  ·exact z00 (z3m (k := k) (by omega) (by assumption)).symm
  ·(refine Exists.intro _ (And.intro ?_ ⟨k + 1, rfl, ?_⟩)); rotate_left; (simp (disch := omega) only [go_sem, Nat.reduceBEq, s0, s3, true_and, Int.natCast_add, Int.natCast_one]); rotate_left
   ·omega
   ·exact ⟨by omega, z2d (by omega) sp1 (by assumption)⟩
  ·exact z00 (z2h (by omega) sp1).symm
theorem zvo (l : List Wd) (hl : l.length <= 1000000) : PC Tryz.prog 107 [z0n l] (z39 (l.map (·.text))) := by
 refine z1v 2 (by simp only [pureD.pureL, z0w, Bool.and_self]) (z2o _) (z1t [5] Tryz.func107 rfl (by decide +kernel) z0k (by decide +kernel) (by simp [Tryz.ntmps107]) ?_)
 show awp _ _ (Code.seq _ _) _ _
 repeat' (first | refine zqj ?_ | ((refine zqh fun K J => ?_); (simp (disch := omega) only [go_sem, Nat.reduceBEq, ↓reduceIte, reduceCtorEq, z0n])) | refine zqa ?_ | (refine J _ ?_; clear J K))
 (refine z35 (fun U st => ∃ (k : _), U = l.length - k /\ st.t 0 = z0n l /\ st.t 3 = .osl 0 k /\ st.t 4 = .int .i64 k /\ st.H 0 = some (.row 9 k (((l.take k).map (·.text)).map .str)) /\ (k <= l.length)) ?_ ?_); rotate_left; (rintro U st ⟨k, rfl, s0, s3, s4, sH0, sp0⟩); rotate_left
 ·(refine ⟨_, 0, rfl, ?_⟩); (simp (disch := omega) only [go_sem, Nat.reduceBEq, and_self, Int.natCast_zero, List.map_nil, z0n])
  try simp
 have htk : ∀ h : k < l.length, l.take (k + 1) = l.take k ++ [l[k]] := fun h => List.take_succ_eq_append_getElem h
 repeat' (first | refine zqj ?_ | ((first | refine zqh fun K J => ?_ | refine zqr fun K J => ?_); (simp (disch := omega) only [go_sem, Nat.reduceBEq, ↓reduceIte, reduceCtorEq, Nat.reduceAdd, Nat.reduceLeDiff, Nat.reduceLT, s0, s3, s4, sH0, z0n])) | ((refine zqd _ rfl (fun hc => ?_) (fun hc => ?_)) <;> (((try simp only [z03] at hc); (try (exfalso; omega))))) | refine zqa ?_ | refine zqb ?_ | refine zqc ?_ | refine zqn ?_ | refine zqv ?_ | refine zqy ?_ | refine zqz ?_ | refine zqp ?_ | refine zqu (by (simp (disch := omega) only [go_sem]); rfl) rfl ?_ | (refine J _ ?_; clear J K))
 ·have htk := htk (by omega)
  (refine Exists.intro _ (And.intro ?_ ⟨k + 1, rfl, ?_⟩)); rotate_left; (simp (disch := omega) only [go_sem, Nat.reduceBEq, s0, s3, s4, sH0, true_and, Int.natCast_add, Int.natCast_one, List.map_append, List.map_cons, List.map_nil, htk]); rotate_left
  ·omega
  ·omega
 ·have hk : k = l.length := by omega
  subst hk
  rw [List.take_length] at sH0
  have h2 : l.length = ((l.map (·.text))).length := by simp
  rw [h2] at sH0 ⊢
  exact z50 (ze2 0 sH0 z70 z7v (by simp) (zgv _))
theorem zsj (l : List Wd) (hl : l.length <= 1000000) (hs : ∀ w ∈ l, w.text.size <= maxLen) : PC Tryz.prog 97 [z0n l] (.bool (zmj l)) := by
 refine z1v 1 (by simp only [pureD.pureL, z0w, Bool.and_self]) rfl (z1t [] Tryz.func97 rfl (by decide +kernel) z0k (by decide +kernel) (by simp [Tryz.ntmps97]) ?_)
 show awp _ _ (Code.seq _ _) _ _
 have h1 := zvo l hl
 have h2 := zwo (l.map (·.text)) (by unfold maxLen; simp; omega) (fun s hs' => by obtain ⟨w, hw, rfl⟩ := List.mem_map.1 hs'; exact hs w hw)
 rw [zvn]
 simp only [z39, List.map_map] at h1 h2
 repeat' (first | ((first | refine zqh fun K J => ?_ | refine zqs (h1) ?_ | refine zqs (h2) ?_); (simp (disch := omega) only [go_sem, Nat.reduceBEq, ↓reduceIte, z0n])) | refine zqn ?_ | refine zqu (by (simp (disch := omega) only [go_sem]); rfl) rfl ?_ | (refine J _ ?_; clear J K) | (refine zqf (fun hb => ?_) (fun hb => ?_) <;> (have hb2 := hb; try simp only [z03] at hb2) <;> ((first | have F := eq_false hb2 | have F := eq_true hb2); (simp (disch := omega) only [go_sem, Nat.reduceBEq, ↓reduceIte, F]); clear hb F; (try (exfalso; omega)))))
 ·exact z00 (by rw [decide_eq_true (by omega)]; rfl)
 ·exact z00 (by rw [decide_eq_false (by omega)]; rfl)
theorem zd4 (s : ByteArray) (hs : s.size <= maxLen) : PC Tryz.prog 28 [.str s] (.bool (z3o s)) := by
 unfold maxLen at hs
 refine z1v 1 (by simp only [pureD.pureL, pureD, Bool.and_self]) rfl (z1t [] Tryz.func28 rfl (by decide +kernel) z0k (by decide +kernel) (by simp [Tryz.ntmps28]) ?_)
 show awp _ _ (Code.seq _ _) _ _
 have h1 := zsi s hs
 have hn := zbt s
 have hbl := z19 s
 have hz : Int.toNat 0 = 0 := rfl
 have hne : ∀ h : 0 < s.size, (bl s)[0].toNat = ((bl s).headD 0).toNat := fun h => congrArg UInt8.toNat (zsh h)
 repeat' (first | refine zqj ?_ | ((first | refine zqh fun K J => ?_ | refine zqs (h1) ?_); (simp (disch := omega) only [go_sem, Nat.reduceBEq, ↓reduceIte])) | ((refine zqd _ rfl (fun hc => ?_) (fun hc => ?_)) <;> (first | (cases hc; done) | ((try simp only [z03] at hc); (try (exfalso; omega))))) | refine zqa ?_ | refine zqb ?_ | refine zqg ?_ | refine zqu (by (simp (disch := omega) only [go_sem]); rfl) rfl ?_ | (refine J _ ?_; clear J K) | (refine zqf (fun hb => ?_) (fun hb => ?_) <;> (have hb2 := hb; try simp only [z03] at hb2) <;> ((first | have F := eq_false hb2 | have F := eq_true hb2); (simp (disch := omega) only [go_sem, Nat.reduceBEq, ↓reduceIte, Int.reduceLE, F, zl3, hz]); clear hb F; (try (exfalso; omega)))))
 ·exact z00 (by unfold z3o; rw [decide_eq_false (by omega)]; rfl)
 ·have hf := hne (by omega)
  rw [show z3o s = ((bl s).drop (z8k s)).all cap from by unfold z3o; rw [decide_eq_true (by omega)]; rfl]
  (refine z35 (fun U st => ∃ (k : _), U = s.size - k /\ st.t 0 = .str s /\ st.t 4 = .int .i64 k /\ (z8k s <= k) /\ (k <= s.size) /\ ((((bl s).drop (z8k s)).take (k - z8k s)).all cap = true)) ?_ ?_); rotate_left; (rintro U st ⟨k, rfl, s0, s4, sp0, sp1, sp2⟩); rotate_left
  ·(refine ⟨_, z8k s, rfl, ?_⟩); (simp (disch := omega) only [go_sem, Nat.reduceBEq, true_and])
   exact ⟨Nat.le_refl _, by omega, by rw [Nat.sub_self]; rfl⟩
  have hk : ∀ h : k < s.size, ((bl s).drop (z8k s))[k - z8k s]'(by rw [List.length_drop, z19]; omega) = (bl s)[k]'h := fun h => by
   rw [List.getElem_drop]; congr 1; omega
  have hl : ((bl s).drop (z8k s)).length = s.size - z8k s := by rw [List.length_drop, z19]
  repeat' (first | refine zqj ?_ | ((first | refine zqh fun K J => ?_ | refine zqr fun K J => ?_); (simp (disch := omega) only [go_sem, Nat.reduceBEq, ↓reduceIte, s0, s4, zl3])) | ((first | refine zqd _ rfl (fun hc => ?_) (fun hc => ?_) | refine zqm _ rfl (fun hc => ?_) (fun hc => ?_)) <;> (first | (cases hc; done) | ((try simp only [z03] at hc); (try (exfalso; omega))))) | refine zqa ?_ | refine zqb ?_ | refine zqc ?_ | refine zqk ?_ | refine zqn ?_ | refine zqv ?_ | refine zqx ?_ | refine zqy ?_ | refine zqz ?_ | refine z4f ?_ | refine zqp ?_ | refine zqo ?_ | refine zqu (by (simp (disch := omega) only [go_sem]); rfl) rfl ?_ | (refine J _ ?_; clear J K) | (refine zqf (fun hb => ?_) (fun hb => ?_) <;> (have hb2 := hb; try simp only [z03] at hb2) <;> ((first | have F := eq_false hb2 | have F := eq_true hb2); (simp (disch := omega) only [go_sem, Nat.reduceBEq, ↓reduceIte, F, s0, s4, zl3]); clear hb F; (try (exfalso; omega)))))
  ·exact z00 (z3m (k := k - z8k s) (by omega) (by rw [hk (by omega)]; unfold cap; exact decide_eq_false (by omega))).symm
  ·(refine Exists.intro _ (And.intro ?_ ⟨k + 1, rfl, ?_⟩)); rotate_left; (simp (disch := omega) only [go_sem, Nat.reduceBEq, s0, s4, true_and, Int.natCast_add, Int.natCast_one]); rotate_left
   ·omega
   ·refine ⟨by omega, by omega, ?_⟩
    rw [show k + 1 - z8k s = k - z8k s + 1 from by omega]
    exact z2d (by omega) sp2 (by rw [hk (by omega)]; unfold cap; exact decide_eq_true (by omega))
  ·exact z00 (z3m (k := k - z8k s) (by omega) (by rw [hk (by omega)]; unfold cap; exact decide_eq_false (by omega))).symm
  ·exact z00 (z2h (k := k - z8k s) (by omega) sp2).symm
 ·have hf := hne (by omega)
  exact z00 (by unfold z3o; rw [decide_eq_false (by omega)]; rfl)
 ·exact z00 (by unfold z3o; rw [decide_eq_false (by omega)]; rfl)
 ·exact z00 (by unfold z3o; rw [decide_eq_false (by omega)]; rfl)
end
section
open Abs Facts Tr
attribute [local irreducible] awp
namespace Tr
def z08 (t : T) : List T := zc1 (fun t l => t :: l.flatten) t
theorem z1x (t : T) : z08 t = t :: t.kids.flatMap z08 := by
 unfold z08; rw [z2l, List.flatMap]
theorem z2a (t : T) : t ∈ z08 t := by rw [z1x]; exact List.mem_cons_self
theorem z3d {t k x : T} (hk : k ∈ t.kids) (hx : x ∈ z08 k) : x ∈ z08 t := by
 rw [z1x]; exact List.mem_cons_of_mem _ (List.mem_flatMap.2 ⟨k, hk, hx⟩)
variable {σ : Type}
end Tr
namespace Tr
def cntT (t : T) : Nat := (z08 t).length
def z0c (t : T) : List Idv := (z08 t).map T.id
end Tr
theorem zn7 (n : Nat) (u : T) : lowD.lowL n (z05 u) = true := z48 n _ (z0d u)
end
section
open Abs Facts Tr
attribute [local irreducible] awp
namespace Tr
def z7s (p : Int -> Bool) (s : ByteArray) : Nat := ((bl s).takeWhile fun b => !p b.toNat).length
theorem zjl {p : Int -> Bool} {s : ByteArray} {k : Nat} (hk : k <= s.size) (h1 : ∀ j, (hj : j < k) -> p ((bl s)[j]'(by rw [z19]; omega)).toNat = false) (h2 : ∀ h : k < s.size, p ((bl s)[k]'h).toNat = true) : z7s p s = k := by
 unfold z7s
 refine z5h (by rw [z19]; exact hk) (fun j hj => by rw [h1 j hj]; rfl) (fun h => by rw [h2 h]; rfl)
end Tr
theorem zsp {s : ByteArray} {i : Nat} (h : i < s.size) (hb : ((bl s)[i]'h).toNat < 128) : Utf8.decode s i = (((bl s)[i]'h).toNat, 1) := decode_ascii s i h hb
theorem zsq {s : ByteArray} {i : Nat} (h : i < s.size) (hb : 128 <= ((bl s)[i]'h).toNat) : 128 <= (Utf8.decode s i).1 := (decode_high s i h hb).1
theorem zjm (s : ByteArray) (hs : s.size <= maxLen) {g : FuncId} {cap : List D} (p : Int -> Bool) (hc : pureD.pureL cap = true)
  (hp : ∀ r : Nat, r <= 2147483647 -> PC Tryz.prog g (.int .i32 r :: cap) (.bool (p r))) (hbig : ∀ r : Nat, 128 <= r -> p r = true) :
  PC Tryz.prog 120 [.str s, .fn g cap, .bool true] (.int .i64 (if z7s p s < s.size then (z7s p s : Int) else -1)) := by
 unfold maxLen at hs
 refine z1v 1 (by simp only [pureD.pureL, pureD, hc, Bool.and_self]) rfl (z1t [] Tryz.func120 rfl (by decide +kernel) z0k (by decide +kernel) (by simp [Tryz.ntmps120]) ?_)
 show awp _ _ (Code.seq _ _) _ _
 repeat' (first | refine zqj ?_ | ((refine zqh fun K J => ?_); (simp (disch := omega) only [go_sem, Nat.reduceBEq, ↓reduceIte])) | refine zqa ?_ | (refine J _ ?_; clear J K))
 have hdp : ∀ i (h : i < s.size), p (Utf8.decode s i).1 = p ((bl s)[i]'h).toNat /\ (p ((bl s)[i]'h).toNat = false -> (Utf8.decode s i).2 = 1) := fun i h => by
  rcases Nat.lt_or_ge ((bl s)[i]'h).toNat 128 with hb | hb
  ·rw [zsp h hb]; exact ⟨rfl, fun _ => rfl⟩
  ·rw [hbig _ (zsq h hb), hbig _ hb]; exact ⟨rfl, fun h => by cases h⟩
 (refine z35 (fun U st => ∃ (i : _), U = s.size - i /\ st.t 1 = .fn g cap /\ st.t 2 = .bool true /\ st.t 10 = .it 0 /\ st.H 0 = some (.raw (.stringIter s i)) /\ (i <= s.size) /\ (∀ j, (hj : j < i) -> (h : j < (bl s).length) -> p (bl s)[j].toNat = false) /\ (1 <= st.nx)) ?_ ?_); rotate_left; (rintro U st ⟨i, rfl, q1, q2, q10, qH0, qp0, qp1, qp2⟩); rotate_left
 ·(refine ⟨_, 0, rfl, ?_⟩); (simp (disch := omega) only [go_sem, Nat.reduceBEq, Nat.reduceLeDiff, true_and, and_true])
  intro j hj; omega
 by_cases hi : i < s.size
 ·have hp := hp (Utf8.decode s i).1 (decode_le s i)
  obtain ⟨hd1, hd2⟩ := hdp i hi
  repeat' (first | ((first | refine zqh fun K J => ?_ | refine zqs (hp) ?_); (simp (disch := omega) only [go_sem, Nat.reduceBEq, ↓reduceIte, q1, q2, q10, qH0, hi])) | ((first | refine zqd _ rfl (fun hc => ?_) (fun hc => ?_) | refine zqm _ rfl (fun hc => ?_) (fun hc => ?_)) <;> (first | (cases hc; done) | ((try simp only [] at hc); (try (exfalso; omega))))) | refine zqi ?_ | refine zqb ?_ | refine zqk ?_ | refine zqn ?_ | refine zqx ?_ | refine zqy ?_ | refine z4f ?_ | refine zqo ?_ | refine zqu (by (simp (disch := omega) only [go_sem]); rfl) rfl ?_ | (refine J _ ?_; clear J K))
  ·refine z2w ?_
   rw [zjl (k := i) (by omega) (fun j hj => qp1 j hj (by rw [z19]; omega)) (fun h => by rw [<- hd1]; assumption), if_pos hi]
  ·have hd1 := hd1.symm.trans (by assumption)
   have hd2 := hd2 hd1
   (refine Exists.intro _ (And.intro ?_ ⟨i + 1, rfl, ?_⟩)); rotate_left; (simp (disch := omega) only [go_sem, Nat.reduceBEq, q1, q2, q10, qH0, true_and, hd2]); rotate_left
   ·omega
   ·refine ⟨by omega, fun j hj h => ?_, by omega⟩
    by_cases e : j = i
    ·subst e; exact hd1
    ·exact qp1 j (by omega) h
 ·repeat' (first | ((refine zqh fun K J => ?_); (simp (disch := omega) only [go_sem, ↓reduceIte, q10, qH0, hi])) | ((refine zqd _ rfl (fun hc => ?_) (fun hc => ?_)) <;> (first | (cases hc; done) | ((try simp only [] at hc); (try (exfalso; omega))))) | refine zqc ?_ | refine zqn ?_ | refine zqv ?_ | refine zqz ?_ | refine zqp ?_ | refine zqu (by (simp (disch := omega) only [go_sem]); rfl) rfl ?_ | (refine J _ ?_; clear J K))
  refine z2w ?_
  have hi2 : i = s.size := by omega
  subst hi2
  rw [zjl (k := s.size) (by omega) (fun j hj => qp1 j hj (by rw [z19]; omega)) (fun h => by omega), if_neg (by omega)]
theorem zch (s : ByteArray) (hs : s.size <= maxLen) {g : FuncId} {cap : List D} (p : Int -> Bool) (hc : pureD.pureL cap = true)
  (hp : ∀ r : Nat, r <= 2147483647 -> PC Tryz.prog g (.int .i32 r :: cap) (.bool (p r))) (hbig : ∀ r : Nat, 128 <= r -> p r = true) :
  PC Tryz.prog 118 [.str s, .fn g cap] (.int .i64 (if z7s p s < s.size then (z7s p s : Int) else -1)) := by
 have h := zjm s hs p hc hp hbig
 refine z1v 1 (by simp only [pureD.pureL, pureD, hc, Bool.and_self]) rfl (z1t [] Tryz.func118 rfl (by decide +kernel) z0k (by decide +kernel) (by simp [Tryz.ntmps118]) ?_)
 show awp _ _ (Code.seq _ _) _ _
 repeat' (first | ((first | refine zqh fun K J => ?_ | refine zqs (h) ?_); (simp (disch := omega) only [go_sem, Nat.reduceBEq])) | refine zqn ?_ | refine zqu (by (simp (disch := omega) only [go_sem]); rfl) rfl ?_ | (refine J _ ?_; clear J K))
 exact z2w rfl
theorem zcr (s : ByteArray) (hs : s.size <= maxLen) {g : FuncId} {cap : List D} (p : Int -> Bool) (hc : pureD.pureL cap = true)
  (hp : ∀ r : Nat, r <= 2147483647 -> PC Tryz.prog g (.int .i32 r :: cap) (.bool (p r))) (hbig : ∀ r : Nat, 128 <= r -> p r = true) :
  PC Tryz.prog 117 [.str s, .fn g cap] (.bool (decide (z7s p s < s.size))) := by
 have h := zch s hs p hc hp hbig
 refine z1v 1 (by simp only [pureD.pureL, pureD, hc, Bool.and_self]) rfl (z1t [] Tryz.func117 rfl (by decide +kernel) z0k (by decide +kernel) (by simp [Tryz.ntmps117]) ?_)
 show awp _ _ (Code.seq _ _) _ _
 repeat' (first | ((first | refine zqh fun K J => ?_ | refine zqs (h) ?_); (simp (disch := omega) only [go_sem, Nat.reduceBEq, ↓reduceIte])) | refine zqn ?_ | refine zqu (by (simp (disch := omega) only [go_sem]); rfl) rfl ?_ | (refine J _ ?_; clear J K))
 refine z00 ?_
 by_cases h : z7s p s < s.size
 ·rw [if_pos h]; simp [h]
 ·rw [if_neg h]; simp [h]
def zci (r : Int) : Bool := decide (r < 48) || decide (57 < r)
def zb1 (r : Int) : Bool := decide (r < 65) || decide (90 < r)
theorem zoi (r : Nat) : PC Tryz.prog 119 [.int .i32 r] (.bool (zci r)) := by
 refine z1v 1 (by simp only [pureD.pureL, pureD, Bool.and_self]) rfl (z1t [] Tryz.func119 rfl (by decide +kernel) z0k (by decide +kernel) (by simp [Tryz.ntmps119]) ?_)
 show awp _ _ (Code.seq _ _) _ _
 repeat' (first | ((refine zqh fun K J => ?_); (simp (disch := omega) only [go_sem, Nat.reduceBEq, ↓reduceIte])) | refine zqn ?_ | refine zqu (by (simp (disch := omega) only [go_sem]); rfl) rfl ?_ | (refine J _ ?_; clear J K) | (refine zqf (fun hb => ?_) (fun hb => ?_) <;> (have hb2 := hb; try simp only [z03] at hb2) <;> ((first | have F := eq_false hb2 | have F := eq_true hb2); (simp (disch := omega) only [go_sem, Nat.reduceBEq, ↓reduceIte, F]); clear hb F; (try (exfalso; omega)))))
 ·exact z00 (by unfold zci; rw [decide_eq_false (show ¬ (r : Int) < 48 by assumption)]; rfl)
 ·exact z00 (by unfold zci; rw [decide_eq_true (show (r : Int) < 48 by assumption)]; rfl)
theorem zsr (r : Nat) : PC Tryz.prog 116 [.int .i32 r] (.bool (zb1 r)) := by
 refine z1v 1 (by simp only [pureD.pureL, pureD, Bool.and_self]) rfl (z1t [] Tryz.func116 rfl (by decide +kernel) z0k (by decide +kernel) (by simp [Tryz.ntmps116]) ?_)
 show awp _ _ (Code.seq _ _) _ _
 repeat' (first | ((refine zqh fun K J => ?_); (simp (disch := omega) only [go_sem, Nat.reduceBEq, ↓reduceIte])) | refine zqn ?_ | refine zqu (by (simp (disch := omega) only [go_sem]); rfl) rfl ?_ | (refine J _ ?_; clear J K) | (refine zqf (fun hb => ?_) (fun hb => ?_) <;> (have hb2 := hb; try simp only [z03] at hb2) <;> ((first | have F := eq_false hb2 | have F := eq_true hb2); (simp (disch := omega) only [go_sem, Nat.reduceBEq, ↓reduceIte, F]); clear hb F; (try (exfalso; omega)))))
 ·exact z00 (by unfold zb1; rw [decide_eq_false (show ¬ (r : Int) < 65 by assumption)]; rfl)
 ·exact z00 (by unfold zb1; rw [decide_eq_true (show (r : Int) < 65 by assumption)]; rfl)
def zjn (s : ByteArray) : ByteArray := if z8k s < s.size then s.extract 0 (z8k s) else s
def zoj (s : ByteArray) : ByteArray := if z8k s < s.size then s.extract (z8k s) s.size else ByteArray.empty
theorem zg6 (s : ByteArray) (a b : Nat) : bl (s.extract a b) = ((bl s).take b).drop a := by
 unfold bl
 rw [ByteArray.data_extract, Array.toList_extract, List.extract]
 rw [List.drop_take]
theorem zmn (s : ByteArray) : bl (zjn s) = (bl s).take (z8k s) := by
 unfold zjn
 have := zbt s
 split
 ·rw [zg6, List.drop_zero]
 ·rw [List.take_of_length_le (by rw [z19]; omega)]
theorem zmo (s : ByteArray) : bl (zoj s) = (bl s).drop (z8k s) := by
 unfold zoj
 have := zbt s
 split
 ·rw [zg6, List.take_of_length_le (by rw [z19]; omega)]
 ·rw [List.drop_eq_nil_of_le (by rw [z19]; omega)]; rfl
theorem zok (s : ByteArray) : (zjn s).size = z8k s := by
 have := zbt s
 rw [<- z19, zmn, List.length_take, z19]; omega
theorem zol (s : ByteArray) : (zoj s).size = s.size - z8k s := by rw [<- z19, zmo, List.length_drop, z19]
theorem zom : (fun b : UInt8 => !zci b.toNat) = dig := by
 funext b
 unfold zci dig
 rcases Nat.lt_or_ge b.toNat 48 with h | h
 ·rw [decide_eq_true (show (b.toNat : Int) < 48 by omega), decide_eq_false (show ¬ (48 <= b.toNat /\ b.toNat <= 57) by omega)]; rfl
 ·rw [decide_eq_false (show ¬ (b.toNat : Int) < 48 by omega)]
  rcases Nat.lt_or_ge 57 b.toNat with h2 | h2
  ·rw [decide_eq_true (show (57 : Int) < b.toNat by omega), decide_eq_false (show ¬ (48 <= b.toNat /\ b.toNat <= 57) by omega)]; rfl
  ·rw [decide_eq_false (show ¬ (57 : Int) < b.toNat by omega), decide_eq_true (show 48 <= b.toNat /\ b.toNat <= 57 by omega)]; rfl
theorem zg7 : (fun b : UInt8 => !zb1 b.toNat) = cap := by
 funext b
 unfold zb1 cap
 rcases Nat.lt_or_ge b.toNat 65 with h | h
 ·rw [decide_eq_true (show (b.toNat : Int) < 65 by omega), decide_eq_false (show ¬ (65 <= b.toNat /\ b.toNat <= 90) by omega)]; rfl
 ·rw [decide_eq_false (show ¬ (b.toNat : Int) < 65 by omega)]
  rcases Nat.lt_or_ge 90 b.toNat with h2 | h2
  ·rw [decide_eq_true (show (90 : Int) < b.toNat by omega), decide_eq_false (show ¬ (65 <= b.toNat /\ b.toNat <= 90) by omega)]; rfl
  ·rw [decide_eq_false (show ¬ (90 : Int) < b.toNat by omega), decide_eq_true (show 65 <= b.toNat /\ b.toNat <= 90 by omega)]; rfl
theorem z7m {α : Type} (q : α -> Bool) : ∀ (l : List α), ((l.takeWhile q).length < l.length) ↔ l.all q = false
 | [] => by simp
 | x :: l => by
  rw [List.takeWhile_cons, List.all_cons]
  cases q x
  ·simp
  ·simp [z7m q l]
theorem zh6 (s : ByteArray) : decide (z7s zb1 s < s.size) = !(bl s).all cap := by
 have h := z7m (fun b : UInt8 => !zb1 b.toNat) (bl s)
 rw [zg7] at h
 unfold z7s
 rw [zg7, <- z19]
 cases ha : (bl s).all cap
 ·exact decide_eq_true (h.2 ha)
 ·exact decide_eq_false (fun h2 => by rw [h.1 h2] at ha; cases ha)
theorem zss (s : ByteArray) (hs : s.size <= maxLen) : PC Tryz.prog 115 [.str s] (.tup [.str (zjn s), .str (zoj s)]) := by
 have h := zch s hs (cap := []) zci rfl (fun r _ => zoi r) (fun r hr => by unfold zci; rw [decide_eq_true (show (57 : Int) < r by omega), Bool.or_true])
 rw [show z7s zci s = z8k s from by unfold z7s z8k; rw [zom]] at h
 have hle := zbt s
 unfold maxLen at hs
 refine z1v 2 (by simp only [pureD.pureL, pureD, Bool.and_self]) rfl (z1t [] Tryz.func115 rfl (by decide +kernel) z0k (by decide +kernel) (by simp [Tryz.ntmps115]) ?_)
 show awp _ _ (Code.seq _ _) _ _
 unfold zjn zoj
 by_cases hd : z8k s < s.size
 ·rw [if_pos hd] at h
  rw [if_pos hd, if_pos hd]
  repeat' (first | refine zqj ?_ | ((first | refine zqh fun K J => ?_ | refine zqe (by decide +kernel) fun K J => ?_ | refine zqs (h) ?_); (simp (disch := omega) only [go_sem, Nat.reduceBEq, ↓reduceIte])) | ((refine zqd _ rfl (fun hc => ?_) (fun hc => ?_)) <;> (first | (cases hc; done) | ((try simp only [decide_eq_false_iff_not] at hc); (try (exfalso; omega))))) | refine zqb ?_ | refine zqn ?_ | refine zqu (by (simp (disch := omega) only [go_sem]); rfl) rfl ?_ | (refine J _ ?_; clear J K))
  exact z02 rfl (Le.refl _)
 ·rw [if_neg hd] at h
  rw [if_neg hd, if_neg hd]
  repeat' (first | refine zqj ?_ | ((first | refine zqh fun K J => ?_ | refine zqs (h) ?_); (simp (disch := omega) only [go_sem, Nat.reduceBEq, ↓reduceIte, Int.reduceLT])) | ((refine zqd _ rfl (fun hc => ?_) (fun hc => ?_)) <;> (first | (cases hc; done) | ((try simp only [] at hc); (try (exfalso; omega))))) | refine zqg ?_ | refine zqu (by (simp (disch := omega) only [go_sem]); rfl) rfl ?_ | (refine J _ ?_; clear J K))
  exact z02 rfl (Le.refl _)
theorem zh7 (s : ByteArray) (hs : s.size <= maxLen) : PC Tryz.prog 112 [.str s] (.bool (z3o s)) := by
 have h := zss s hs
 have hA := zok s
 have hB := zol s
 have hle := zbt s
 have hc := zcr (zoj s) (by omega) (cap := []) zb1 rfl (fun r _ => zsr r) (fun r hr => by unfold zb1; rw [decide_eq_true (show (90 : Int) < r by omega), Bool.or_true])
 rw [zh6, zmo] at hc
 have hbl := z19 (zjn s)
 unfold maxLen at hs
 have hz : Int.toNat 0 = 0 := rfl
 have hne : ∀ h : 0 < (zjn s).size, (bl (zjn s))[0].toNat = ((bl s).headD 0).toNat := fun h => by
  refine (congrArg UInt8.toNat (zsh h)).trans ?_
  rw [zmn]
  congr 1
  obtain ⟨n, hn⟩ : ∃ n, z8k s = n + 1 := ⟨z8k s - 1, by omega⟩
  rw [hn]
  cases bl s <;> rfl
 refine z1v 1 (by simp only [pureD.pureL, pureD, Bool.and_self]) rfl (z1t [] Tryz.func112 rfl (by decide +kernel) z0k (by decide +kernel) (by simp [Tryz.ntmps112]) ?_)
 show awp _ _ (Code.seq _ _) _ _
 repeat' (first | ((first | refine zqh fun K J => ?_ | refine zqs (h) ?_ | refine zqs (hc) ?_); (simp (disch := omega) only [go_sem, Nat.reduceBEq, ↓reduceIte])) | refine zqn ?_ | refine zqu (by (simp (disch := omega) only [go_sem]); rfl) rfl ?_ | (refine J _ ?_; clear J K) | (refine zqf (fun hb => ?_) (fun hb => ?_) <;> (have hb2 := hb; try simp only [z03] at hb2) <;> ((first | have F := eq_false hb2 | have F := eq_true hb2); (simp (disch := omega) only [go_sem, Nat.reduceBEq, ↓reduceIte, Int.reduceLE, F, zl3, hz]); clear hb F; (try (exfalso; omega)))))
 ·have hf := hne (by omega)
  exact z00 (by unfold z3o; rw [decide_eq_true (by omega), Bool.true_and, Bool.not_not])
 ·exact z00 (by unfold z3o; rw [decide_eq_false (by omega)]; rfl)
 ·have hf := hne (by omega)
  exact z00 (by unfold z3o; rw [decide_eq_false (by omega)]; rfl)
 ·exact z00 (by unfold z3o; rw [decide_eq_false (by omega)]; rfl)
 ·exact z00 (by unfold z3o; rw [decide_eq_false (by omega)]; rfl)
namespace Tr
def z2e {α : Type} (f : α -> Bool) (l : List α) : Nat := (l.takeWhile fun x => !f x).length
theorem z3t {α : Type} {f : α -> Bool} {l : List α} {k : Nat} (hk : k <= l.length) (h1 : ∀ j, (hj : j < k) -> f (l[j]'(by omega)) = false) (h2 : ∀ h : k < l.length, f l[k] = true) : z2e f l = k := by
 unfold z2e
 exact z5h hk (fun j hj => by rw [h1 j hj]; rfl) (fun h => by rw [h2 h]; rfl)
theorem zh8 {α : Type} (f : α -> Bool) (l : List α) : decide (z2e f l < l.length) = l.any f := by
 have h := z7m (fun x => !f x) l
 have h2 : (l.all fun x => !f x) = !l.any f := by rw [<- List.not_any_eq_all_not]
 unfold z2e
 rw [h2] at h
 cases ha : l.any f
 ·exact decide_eq_false (fun h3 => by have := h.1 h3; rw [ha] at this; cases this)
 ·exact decide_eq_true (h.2 (by rw [ha]; rfl))
end Tr
theorem zh9 (nn : Bool) (l : List T) (hl : l.length <= maxLen) {g : FuncId} {cap : List D} (f : T -> Bool) (hc : pureD.pureL cap = true) (hp : ∀ x ∈ l, PC Tryz.prog g (z1a x :: cap) (.bool (f x))) :
  PC Tryz.prog 91 [.rsl nn 8 (l.map z1a), .fn g cap] (.int .i64 (if z2e f l < l.length then (z2e f l : Int) else -1)) := by
 unfold maxLen at hl
 refine z1v 1 (by simp only [pureD.pureL, pureD, hc, z1m (f := z1a) (z04) l, Bool.and_self]) rfl (z1t [] Tryz.func91 rfl (by decide +kernel) z0k (by decide +kernel) (by simp [Tryz.ntmps91]) ?_)
 show awp _ _ (Code.seq _ _) _ _
 repeat' (first | refine zqj ?_ | ((refine zqh fun K J => ?_); (simp (disch := omega) only [go_sem, Nat.reduceBEq])) | refine zqa ?_ | (refine J _ ?_; clear J K))
 (refine z35 (fun U st => ∃ (i : _), U = l.length - i /\ st.t 0 = .rsl nn 8 (l.map z1a) /\ st.t 1 = .fn g cap /\ st.t 7 = .int .i64 l.length /\ st.t 8 = .int .i64 i /\ (i <= l.length) /\ (∀ j, (hj : j < i) -> (h : j < l.length) -> f l[j] = false)) ?_ ?_); rotate_left; (rintro U st ⟨i, rfl, q0, q1, q7, q8, qp0, qp1⟩); rotate_left
 ·(refine ⟨_, 0, rfl, ?_⟩); (simp (disch := omega) only [go_sem, Nat.reduceBEq, true_and, Int.natCast_zero])
  intro j hj; omega
 have hp := fun (h : i < l.length) => hp l[i] (List.getElem_mem h)
 repeat' (first | ((first | refine zqh fun K J => ?_ | refine zqr fun K J => ?_ | refine zqs (hp (by omega)) ?_); (simp (disch := omega) only [go_sem, Nat.reduceBEq, ↓reduceIte, reduceCtorEq, Nat.reduceAdd, q0, q1, q7, q8])) | ((first | refine zqd _ rfl (fun hc => ?_) (fun hc => ?_) | refine zqm _ rfl (fun hc => ?_) (fun hc => ?_)) <;> (((try simp only [z03] at hc); (try (exfalso; omega))))) | refine zqa ?_ | refine zqb ?_ | refine zqc ?_ | refine zqk ?_ | refine zqn ?_ | refine zqv ?_ | refine zqx ?_ | refine zqy ?_ | refine zqz ?_ | refine z4f ?_ | refine zqp ?_ | refine zqo ?_ | refine zqu (by (simp (disch := omega) only [go_sem]); rfl) rfl ?_ | (refine J _ ?_; clear J K))
 ·refine z2w ?_
  rw [z3t (k := i) (by omega) (fun j hj => qp1 j hj (by omega)) (fun h => by assumption), if_pos (by omega)]
 ·(refine Exists.intro _ (And.intro ?_ ⟨i + 1, rfl, ?_⟩)); rotate_left; (simp (disch := omega) only [go_sem, Nat.reduceBEq, q0, q1, q7, q8, true_and, Int.natCast_add, Int.natCast_one]); rotate_left
  ·omega
  ·refine ⟨by omega, fun j hj h => ?_⟩
   by_cases e : j = i
   ·subst e; assumption
   ·exact qp1 j (by omega) h
 ·refine z2w ?_
  have hi : i = l.length := by omega
  subst hi
  rw [z3t (k := l.length) (by omega) (fun j hj => qp1 j hj (by omega)) (fun h => by omega), if_neg (by omega)]
def nameL : List ByteArray := [⟨#[98, 111, 111, 107]⟩, ⟨#[112, 97, 114, 116]⟩, ⟨#[115, 101, 99, 116, 105, 111, 110]⟩, ⟨#[112, 97, 114, 97, 103, 114, 97, 112, 104]⟩, ⟨#[116, 97, 98, 108, 101]⟩, ⟨#[114, 111, 119]⟩, ⟨#[99, 101, 108, 108]⟩, ⟨#[110, 111, 116, 101]⟩]
def zmz (k : Int) : ByteArray := if 0 <= k /\ k < 8 then nameL.getD k.toNat ByteArray.empty else ByteArray.empty
theorem zpa {k : Int} (h : 0 <= k /\ k < 8) : k = 0 \/ k = 1 \/ k = 2 \/ k = 3 \/ k = 4 \/ k = 5 \/ k = 6 \/ k = 7 := by omega
def belowL : List (List Int) := [[1, 2], [2], [3, 4, 7], [3, 4, 7], [5], [6], [], []]
def z1w (p k : Int) : Bool := if 0 <= p /\ p < 8 then (belowL.getD p.toNat []).any (fun x => decide (k = x)) else false
namespace Tr
def z9e (l : List Nat) : Nat := l.foldl (fun d x => max d (1 + x)) 0
def depT (t : T) : Nat := zc1 (fun _ l => z9e l) t
theorem z3v (t : T) : depT t = z9e (t.kids.map depT) := by unfold depT; rw [z2l]
theorem zjk (l : List Nat) (x : Nat) : z9e (l ++ [x]) = max (z9e l) (1 + x) := by unfold z9e; rw [List.foldl_append]; rfl
theorem zz0 {l : List Nat} : ∀ (a : Nat), (a <= l.foldl (fun d x => max d (1 + x)) a) /\ ∀ x ∈ l, 1 + x <= l.foldl (fun d x => max d (1 + x)) a := by
 induction l with
 | nil => intro a; simp
 | cons y l ih =>
  intro a
  simp only [List.foldl_cons]
  obtain ⟨h1, h2⟩ := ih (max a (1 + y))
  refine ⟨by omega, fun x hx => ?_⟩
  rcases List.mem_cons.1 hx with rfl | hx
  ·omega
  ·exact h2 x hx
theorem z3r {t k : T} (h : k ∈ t.kids) : 1 + depT k <= depT t := by
 rw [z3v t]
 exact (zz0 0).2 _ (List.mem_map.2 ⟨k, h, rfl⟩)
end Tr
namespace Tr
def z1i (id : Idv) (t : T) : List T := zc1 (fun t l => if t.id = id then [t] else match l.find? (fun w => !w.isEmpty) with
 | some w => t :: w
 | none => []) t
theorem z8n (id : Idv) (t : T) : z1i id t = if t.id = id then [t] else match (t.kids.map (z1i id)).find? (fun w => !w.isEmpty) with
  | some w => t :: w
  | none => [] := by
 unfold z1i; rw [z2l]
theorem zeo {α β : Type} (f : α -> List β) : ∀ {l : List α} {i : Nat}, (∀ j, (hj : j < i) -> (h : j < l.length) -> f l[j] = []) -> l.length <= i -> (l.map f).find? (fun w => !w.isEmpty) = none
 | [], _, _, _ => rfl
 | x :: l, i, h, hi => by
  rw [List.map_cons, List.find?_cons]
  have h0 := h 0 (by simp at hi; omega) (by simp)
  simp only [List.getElem_cons_zero] at h0
  rw [h0]
  exact zeo f (l := l) (i := i - 1) (fun j hj hl => h (j + 1) (by omega) (by simpa using hl)) (by simp at hi; omega)
theorem zep {α β : Type} (f : α -> List β) : ∀ {l : List α} {i : Nat} (hi : i < l.length), (∀ j, (hj : j < i) -> (h : j < l.length) -> f l[j] = []) -> f l[i] ≠ [] -> (l.map f).find? (fun w => !w.isEmpty) = some (f l[i])
 | x :: l, 0, _, _, hn => by
  simp only [List.getElem_cons_zero] at hn ⊢
  rw [List.map_cons, List.find?_cons]
  cases hf : f x with
  | nil => exact (hn hf).elim
  | cons a b => rfl
 | x :: l, i + 1, hi, h, hn => by
  rw [List.map_cons, List.find?_cons]
  have h0 := h 0 (by omega) (by simp)
  simp only [List.getElem_cons_zero] at h0
  rw [h0]
  simp only [List.getElem_cons_succ] at hn ⊢
  exact zep f (l := l) (i := i) (by simpa using hi) (fun j hj hl => h (j + 1) (by omega) (by simpa using hl)) hn
end Tr
theorem z4c : ∀ w : List T, z1k 8 (w.map z1a) = some (w.flatMap z05)
 | [] => rfl
 | t :: w => by
  rw [List.map_cons, List.flatMap_cons]
  unfold z1k
  rw [z4c w]
  simp only [z1a, z44, z0l, if_true]
theorem z6c (id : Idv) : ∀ t : T, (z1i id t).length <= 1 + depT t := by
 refine z3y fun t ih => ?_
 rw [z8n]
 split
 ·simp
 ·split
  ·rename_i w hw
   have hm := List.mem_of_find?_eq_some hw
   obtain ⟨k, hk, rfl⟩ := List.mem_map.1 hm
   have h1 := ih k hk
   have h2 := z3r hk
   simp only [List.length_cons]; omega
  ·simp
def zaz (w : List T) : D := if w = [] then .nil else .rsl true 8 (w.map z1a)
theorem zl5 (w : List T) : pureD (zaz w) = true := by
 unfold zaz
 split
 ·rfl
 ·simp only [pureD]; exact z1m z04 w
theorem le_nn {sz : Nat} {els : List D} (h : els ≠ []) : Le (.rsl false sz els) (.rsl true sz els) := fun s v hr => by
 simp only [rel] at hr ⊢
 rcases hr with ⟨_, h1, _⟩ | hr
 ·exact (h h1).elim
 ·exact .inr hr
theorem zmm (id : Idv) : ∀ t : T, fitB t = true -> depT t <= 1000000000 -> PC Tryz.prog 90 [z1a t, z41 id] (zaz (z1i id t)) := by
 refine z3y fun t ih hfit hd => ?_
 obtain ⟨h1, h2, h3, h4⟩ := (zbe t).1 hfit
 unfold maxLen at h3
 refine z1v 3 (by simp only [pureD.pureL, z04]; rfl) (zl5 _) (z1t [27] Tryz.func90 rfl (by decide +kernel) z0k (by decide +kernel) (by simp [Tryz.ntmps90]) ?_)
 show awp _ _ (Code.seq _ _) _ _
 rw [z8n]
 repeat' (first | refine zqj ?_ | ((refine zqh fun K J => ?_); (simp (disch := omega) only [go_sem, Nat.reduceBEq, ↓reduceIte, reduceCtorEq, Nat.reduceAdd, Nat.reduceMul, Nat.reduceLeDiff])) | ((refine zqd _ rfl (fun hc => ?_) (fun hc => ?_)) <;> (((try simp only [z03] at hc); (try (exfalso; omega))))) | refine zqa ?_ | refine zqb ?_ | refine zqg ?_ | refine zqu (by (simp (disch := omega) only [go_sem]); rfl) rfl ?_ | (refine J _ ?_; clear J K))
 ·rw [if_pos (by assumption), zaz, if_neg (by simp)]
  exact z02 (z1m z04 [t]) (Le.refl _)
 ·rw [if_neg (by assumption)]
  (refine z35 (fun U st => ∃ (i : _), U = t.kids.length - i /\ st.t 2 = .ptr 0 0 /\ st.t 3 = .ptr 1 0 /\ st.t 15 = z0e t.kids /\ st.t 16 = .int .i64 t.kids.length /\ st.t 17 = .int .i64 i /\ st.H 0 = some (.box 27 (z05 t)) /\ st.H 1 = some (.box 23 (z07 id)) /\ (i <= t.kids.length) /\ (2 <= st.nx) /\ (∀ j, (hj : j < i) -> (h : j < t.kids.length) -> z1i id t.kids[j] = [])) ?_ ?_); rotate_left; (rintro U st ⟨i, rfl, q2, q3, q15, q16, q17, qH0, qH1, qp0, qp1, qp2⟩); rotate_left
  ·(refine ⟨_, 0, rfl, ?_⟩); (simp (disch := omega) only [go_sem, Nat.reduceBEq, Nat.reduceLeDiff, true_and, Int.natCast_zero, z0e, z07])
   intro j hj; omega
  have hin := fun (h : i < t.kids.length) => ih t.kids[i] (List.getElem_mem h) (h4 _ (List.getElem_mem h)) (by have := z3r (List.getElem_mem h); omega)
  have hlen := fun (h : i < t.kids.length) => z6c id t.kids[i]
  have hdk := fun (h : i < t.kids.length) => z3r (t := t) (List.getElem_mem h)
  by_cases hw : ∃ h : i < t.kids.length, z1i id t.kids[i] = []
  ·obtain ⟨hi, hw⟩ := hw
   have hin := hin hi
   rw [hw, zaz, if_pos rfl] at hin
   repeat' (first | ((first | refine zqh fun K J => ?_ | refine zqr fun K J => ?_ | refine zqs (hin) ?_); (simp (disch := omega) only [go_sem, Nat.reduceBEq, ↓reduceIte, reduceCtorEq, Nat.reduceAdd, Nat.reduceLeDiff, q3, q15, q16, q17, qH1, z0e, z07])) | ((first | refine zqd _ rfl (fun hc => ?_) (fun hc => ?_) | refine zqm _ rfl (fun hc => ?_) (fun hc => ?_)) <;> (first | (cases hc; done) | ((try simp only [z03] at hc); (try (exfalso; omega))))) | refine zqa ?_ | refine zqb ?_ | refine zqk ?_ | refine zqv ?_ | refine zqy ?_ | (refine J _ ?_; clear J K))
   (refine Exists.intro _ (And.intro ?_ ⟨i + 1, rfl, ?_⟩)); rotate_left; (simp (disch := omega) only [go_sem, Nat.reduceBEq, Nat.reduceLeDiff, q2, q3, q15, q16, q17, qH0, qH1, true_and, Int.natCast_add, Int.natCast_one]); rotate_left
   ·omega
   ·refine ⟨by omega, by omega, fun j hj h => ?_⟩
    by_cases e : j = i
    ·subst e; exact hw
    ·exact qp2 j (by omega) h
  ·have hin := fun h => by
    have := hin h
    rw [zaz, if_neg (fun hh => hw ⟨h, hh⟩)] at this
    exact this
   by_cases hi : i < t.kids.length
   ·have hl := hlen hi
    have hdk := hdk hi
    have hne : z1i id t.kids[i] ≠ [] := fun hh => hw ⟨hi, hh⟩
    rw [zep (z1i id) hi qp2 hne]
    repeat' (first | ((first | refine zqh fun K J => ?_ | refine zqs (hin hi) ?_); (simp (disch := omega) only [go_sem, Nat.reduceBEq, ↓reduceIte, reduceCtorEq, Nat.reduceAdd, Nat.reduceMul, Nat.reduceLeDiff, q2, q3, q15, q16, q17, qH0, qH1, z0e, z07, z4c])) | ((first | refine zqd _ rfl (fun hc => ?_) (fun hc => ?_) | refine zqm _ rfl (fun hc => ?_) (fun hc => ?_)) <;> (first | (cases hc; done) | ((try simp only [z03] at hc); (try (exfalso; omega))))) | refine zqa ?_ | refine zqb ?_ | refine zqn ?_ | refine zqx ?_ | refine z4f ?_ | refine zqo ?_ | refine zqu (by (simp (disch := omega) only [go_sem]); rfl) rfl ?_ | (refine J _ ?_; clear J K))
    have he : zaz (t :: z1i id t.kids[i]) = .rsl true 8 ((t :: z1i id t.kids[i]).map z1a) := if_neg (List.cons_ne_nil _ _)
    simp only [he]
    (simp (disch := omega) only [go_sem, Nat.reduceBEq, Nat.add_comm 1])
    refine ⟨_, z1z (l := t :: z1i id t.kids[i]) (f := z05) 1 ?_ z5b z71 z0l z0d, le_nn (by simp)⟩
    (simp (disch := omega) only [go_sem])
    rw [List.append_nil, List.flatMap_cons]
   ·rw [zeo (z1i id) qp2 (by omega)]
    repeat' (first | ((refine zqh fun K J => ?_); (simp (disch := omega) only [go_sem, Nat.reduceBEq, ↓reduceIte, q16, q17])) | ((refine zqd _ rfl (fun hc => ?_) (fun hc => ?_)) <;> (((try simp only [z03] at hc); (try (exfalso; omega))))) | refine zqc ?_ | refine zqn ?_ | refine zqv ?_ | refine zqz ?_ | refine zqp ?_ | refine zqu (by (simp (disch := omega) only [go_sem]); rfl) rfl ?_ | (refine J _ ?_; clear J K))
    exact z02 rfl (Le.refl _)
theorem PC_nn {P : Program} {f : FuncId} {sz : Nat} {els ds : List D} {r : D} (h1 : els = [] -> PC P f (.nil :: ds) r) (h2 : PC P f (.rsl true sz els :: ds) r) : PC P f (.rsl false sz els :: ds) r := by
 refine ⟨?_, h2.2.1, h2.2.2.1, fun s w vs e1 e2 e3 e4 => ?_⟩
 ·have := h2.1
  simpa only [pureD.pureL, pureD] using this
 ·simp only [relAll, rel] at e4
  obtain ⟨v, q, rfl, hv, hq⟩ := e4
  rcases hv with ⟨_, he, rfl⟩ | hv
  ·exact (h1 he).2.2.2 s w _ e1 e2 e3 (z0j (by simp only [rel]) hq)
  ·exact h2.2.2.2 s w _ e1 e2 e3 (z0j (by simp only [rel]; exact .inr hv) hq)
theorem z9g : ∀ l : List Wd, z1k 4 (l.map zmx) = some (l.flatMap z5n)
 | [] => rfl
 | t :: w => by
  rw [List.map_cons, List.flatMap_cons]
  unfold z1k
  rw [z9g w]
  rfl
theorem zhl (l : List Wd) : pureD.pureL (l.flatMap z5n) = true := z5g (fun _ => rfl) l
theorem zgh (l : List Wd) : z1f true 4 l.length (l.flatMap z5n) = l.map zmx := z91 (f := z5n) (sz := 4) (fun _ => rfl) l
theorem zhm (l : List Wd) (hl : l.length <= 1000000000000) : PC Tryz.prog 114 [z0n l] (z0n l) := by
  refine PC_nn (fun he => ?_) ?_
  · refine z1v 2 rfl (z0w l) (z1t [1000005, 1000007] Tryz.func114 rfl (by decide +kernel) z0k (by decide +kernel) (by simp [Tryz.ntmps114]) ?_)
    show awp _ _ (Code.seq _ _) _ _
    repeat' (first | refine zqj ?_ | ((refine zqh fun K J => ?_); (simp (disch := omega) only [go_sem, Nat.reduceBEq, ↓reduceIte])) | ((refine zqd _ rfl (fun hc => ?_) (fun hc => ?_)) <;> (first | (cases hc; done) | ((try simp only [] at hc); (try (exfalso; omega))))) | refine zqg ?_ | refine zqu (by (simp (disch := omega) only [go_sem]); rfl) rfl ?_ | (refine J _ ?_; clear J K))
    exact z02 rfl (by have h2 : z0n l = .rsl false 4 [] := by unfold z0n; rw [he]
                      rw [h2]; exact Le.nil 4)
  · refine z1v 2 (by simp only [pureD.pureL, pureD, z1m (f := zmx) (fun _ => rfl) l, Bool.and_self]) (z0w l) (z1t [1000005, 1000007] Tryz.func114 rfl (by decide +kernel) z0k (by decide +kernel) (by simp [Tryz.ntmps114]) ?_)
    show awp _ _ (Code.seq _ _) _ _
    repeat' (first | refine zqj ?_ | ((refine zqh fun K J => ?_); (simp (disch := omega) only [go_sem, Nat.reduceBEq, ↓reduceIte, reduceCtorEq, Nat.reduceAdd, Nat.reduceMul, z9g, zhl, zgh])) | ((refine zqd _ rfl (fun hc => ?_) (fun hc => ?_)) <;> (first | (cases hc; done) | ((try simp only [] at hc); (try (exfalso; omega))))) | refine zqb ?_ | refine zqn ?_ | refine zqu (by (simp (disch := omega) only [go_sem]); rfl) rfl ?_ | (refine J _ ?_; clear J K))
    exact z02 (z0w l) (Le.refl _)
namespace Tr
def smB (t : T) : Bool := zc1 (fun t l => decide (t.head.length <= 1000000) && (decide (t.words.length <= 1000000) && (decide (t.kids.length <= 1000000) && l.all id))) t
theorem zhn (t : T) : smB t = true ↔ t.head.length <= 1000000 /\ t.words.length <= 1000000 /\ t.kids.length <= 1000000 /\ ∀ k ∈ t.kids, smB k = true := by
 unfold smB
 rw [z2l]
 simp only [List.all_map, Bool.and_eq_true, decide_eq_true_iff, List.all_eq_true]
 rfl
theorem zho : ∀ t : T, smB t = true -> fitB t = true := by
 refine z3y fun t ih h => ?_
 obtain ⟨h1, h2, h3, h4⟩ := (zhn t).1 h
 exact (zbe t).2 ⟨by unfold maxLen; omega, by unfold maxLen; omega, by unfold maxLen; omega, fun k hk => ih k hk (h4 k hk)⟩
end Tr
theorem zp9 : ∀ t : T, smB t = true -> PC Tryz.prog 111 [z1a t] (z1a t) := by
 refine z3y fun t ih hfit => ?_
 obtain ⟨h1, h2, h3, h4⟩ := (zhn t).1 hfit
 have hc1 := zhm t.head (by omega)
 have hc2 := zhm t.words (by omega)
 refine z1v 4 (by simp only [pureD.pureL, z04, Bool.and_self]) (z04 _) (z1t [3] Tryz.func111 rfl (by decide +kernel) z0k (by decide +kernel) (by simp [Tryz.ntmps111]) ?_)
 show awp _ _ (Code.seq _ _) _ _
 rw [show Tryz.f111.results.toList = [.cell 2 27] from rfl]
 rw [z1a, z0y]
 repeat' (first | refine zqj ?_ | ((first | refine zqh fun K J => ?_ | refine zqe (by decide +kernel) fun K J => ?_ | refine zqt (hc1) ?_ | refine zqt (hc2) ?_); (simp (disch := omega) only [go_sem, Nat.reduceBEq, ↓reduceIte, reduceCtorEq, Nat.reduceAdd])) | refine zqa ?_ | (refine J _ ?_; clear J K))
 (refine z35 (fun U st => ∃ (i : _), U = t.kids.length - i /\ st.t 1 = .ptr 0 0 /\ st.t 2 = .ptr 1 0 /\ st.t 3 = .osl 2 i /\ st.t 15 = z0e t.kids /\ st.t 16 = .int .i64 t.kids.length /\ st.t 17 = .int .i64 i /\ st.H 2 = some (.row 27 i ((t.kids.take i).flatMap z05)) /\ st.H 0 = some (.box 27 [.int .i64 t.id.act, .int .i64 t.id.item, .int .i64 t.id.n, .int .i64 t.kind, .str t.label, z0n t.head, z0n t.words, z0e t.kids]) /\ st.H 1 = some (.box 27 [.int .i64 0, .int .i64 0, .int .i64 0, .int .i64 0, .str ByteArray.empty, .nil, .nil, .nil]) /\ (i <= t.kids.length) /\ (3 <= st.nx)) ?_ ?_); rotate_left; (rintro U st ⟨i, rfl, q1, q2, q3, q15, q16, q17, qH2, qH0, qH1, qp0, qp1⟩); rotate_left
 ·(refine ⟨_, 0, rfl, ?_⟩); (simp (disch := omega) only [go_sem, Nat.reduceBEq, Nat.reduceLeDiff, true_and, and_true, and_self, Int.natCast_zero, List.flatMap_nil, z0e])
  all_goals rfl
 have hin := fun (h : i < t.kids.length) => ih t.kids[i] (List.getElem_mem h) (h4 _ (List.getElem_mem h))
 repeat' (first | ((first | refine zqh fun K J => ?_ | refine zqr fun K J => ?_ | refine zqs (hin (by omega)) ?_); (simp (disch := omega) only [go_sem, Nat.reduceBEq, ↓reduceIte, reduceCtorEq, Nat.reduceAdd, Nat.reduceMul, Nat.reduceLeDiff, Nat.reduceLT, q1, q2, q3, q15, q16, q17, qH2, qH0, qH1, z0e])) | ((refine zqd _ rfl (fun hc => ?_) (fun hc => ?_)) <;> (((try simp only [z03] at hc); (try (exfalso; omega))))) | refine zqa ?_ | refine zqb ?_ | refine zqc ?_ | refine zqn ?_ | refine zqv ?_ | refine zqy ?_ | refine zqz ?_ | refine zqp ?_ | refine zqu (by (simp (disch := omega) only [go_sem, Nat.reduceBEq, ↓reduceIte, Nat.reduceAdd, Nat.reduceLeDiff, q2, qH1]); rfl) rfl ?_ | (refine J _ ?_; clear J K))
 ·have htk := List.take_succ_eq_append_getElem (l := t.kids) (i := i) (by omega)
  (refine Exists.intro _ (And.intro ?_ ⟨i + 1, rfl, ?_⟩)); rotate_left; (simp (disch := omega) only [go_sem, Nat.reduceBEq, Nat.reduceLeDiff, q1, q2, q3, q15, q16, q17, qH2, qH0, qH1, true_and, Int.natCast_add, Int.natCast_one, List.flatMap_append, List.flatMap_cons, List.flatMap_nil, List.append_nil, htk]); rotate_left
  all_goals omega
 have hi : i = t.kids.length := by omega
 subst hi
 rw [List.take_length] at qH2
 refine z50 (ze3 (k := 3) (by simp [pureD.pureL, pureD]) ?_)
 simp only [z0e]
 refine z0q (z0p 2 rfl) (z0q (z0p 2 rfl) (z0q (z0p 2 rfl) (z0q (z0p 2 rfl) (z0q (z0p 2 rfl) (z0q (z0p 2 (z0w _)) (z0q (z0p 2 (z0w _)) (z0q ?_ z90)))))))
 refine z1z (f := z05) (l := t.kids) 1 ?_ z5b z71 z0l z0d
 (simp (disch := omega) only [go_sem, Nat.reduceBEq, qH2])
namespace Tr
def szB (t : T) : Bool := zc1 (fun t l => decide (t.label.size <= 1000000) && (decide (t.head.length <= 1000000) && ((t.head.all fun w => decide (w.text.size <= 1000000)) && (decide (t.words.length <= 1000000) && ((t.words.all fun w => decide (w.text.size <= 1000000)) && (decide (t.kids.length <= 1000000) && l.all id)))))) t
theorem z1q (t : T) : szB t = true ↔ t.label.size <= 1000000 /\ t.head.length <= 1000000 /\ (∀ w ∈ t.head, w.text.size <= 1000000) /\ t.words.length <= 1000000 /\ (∀ w ∈ t.words, w.text.size <= 1000000) /\ t.kids.length <= 1000000 /\ ∀ k ∈ t.kids, szB k = true := by
 unfold szB
 rw [z2l]
 simp only [List.all_map, Bool.and_eq_true, decide_eq_true_iff, List.all_eq_true]
 rfl
theorem zpk : ∀ t : T, szB t = true -> smB t = true := by
 refine z3y fun t ih h => ?_
 obtain ⟨_, h1, _, h2, _, h3, h4⟩ := (z1q t).1 h
 exact (zhn t).2 ⟨h1, h2, h3, fun k hk => ih k hk (h4 k hk)⟩
theorem sz_fit (t : T) (h : szB t = true) : fitB t = true := zho t (zpk t h)
def z3l : ByteArray := ⟨#[]⟩
def z4j (t : T) : Bool := decide (0 <= t.kind /\ t.kind <= 7) && (decide (t.kids.length <= 64) && (zmj t.head && (zmj t.words && (if t.kind = 0 then decide (t.label = z3l) && (decide (t.head.length = 0) && decide (t.words.length = 0)) else z3o t.label))))
def z6y (t : T) : Int × ByteArray := (t.kind, t.label)
def z36 (t : T) : Bool := zc1 (fun t l => z4j t && ((t.kids.all fun k => z1w t.kind k.kind) && (l.all id && decide ((t.kids.map z6y).Nodup)))) t
theorem z5o (t : T) : z36 t = (z4j t && ((t.kids.all fun k => z1w t.kind k.kind) && (t.kids.all z36 && decide ((t.kids.map z6y).Nodup)))) := by
 unfold z36
 rw [z2l, List.all_map]; rfl
theorem zbb {α β : Type} {f : α -> β} {l : List α} {k : Nat} (hk : k < l.length) (h : ((l.take k).map f).Nodup) (h2 : ∀ j, (hj : j < k) -> f (l[j]'(by omega)) ≠ f l[k]) : ((l.take (k + 1)).map f).Nodup := by
 rw [List.take_succ_eq_append_getElem hk, List.map_append, List.nodup_append]
 refine ⟨h, by simp, fun a ha b hb => ?_⟩
 simp only [List.map_cons, List.map_nil, List.mem_singleton] at hb
 subst hb
 obtain ⟨x, hx, rfl⟩ := List.mem_map.1 ha
 obtain ⟨j, hj, rfl⟩ := List.getElem_of_mem hx
 rw [List.length_take] at hj
 rw [List.getElem_take]
 exact h2 j (by omega)
theorem zgj {α β : Type} {f : α -> β} {l : List α} {j k : Nat} (hj : j < k) (hk : k < l.length) (h : f (l[j]'(by omega)) = f l[k]) : ¬ (l.map f).Nodup := fun hn => by
 have h2 := (List.pairwise_iff_getElem.1 hn) j k (by simp; omega) (by simpa using hk) hj
 simp only [List.getElem_map] at h2
 exact h2 h
end Tr
theorem zu6 (p k : Int) : PC Tryz.prog 75 [.int .i64 p, .int .i64 k] (.bool (z1w p k)) := by
 refine z1v 1 rfl rfl (z1t [] Tryz.func75 rfl (by decide +kernel) z0k (by decide +kernel) (by simp [Tryz.ntmps75]) ?_)
 show awp _ _ (Code.seq _ _) _ _
 by_cases hk : 0 <= p /\ p < 8
 ·rcases zpa hk with rfl | rfl | rfl | rfl | rfl | rfl | rfl | rfl
  all_goals clear hk
  all_goals (repeat' (first | refine zqj ?_ | ((refine zqh fun K J => ?_); (simp (disch := omega) only [go_sem, Nat.reduceBEq, ↓reduceIte, Int.reduceEq])) | ((first | refine zqd _ rfl (fun hc => ?_) (fun hc => ?_) | refine zqm _ rfl (fun hc => ?_) (fun hc => ?_)) <;> (first | (cases hc; done) | ((try simp only [] at hc); (try (exfalso; omega))))) | refine zqa ?_ | refine zqb ?_ | refine zqk ?_ | refine zqn ?_ | refine zqv ?_ | refine zqx ?_ | refine zqy ?_ | refine z4f ?_ | refine zqu (by (simp (disch := omega) only [go_sem]); rfl) rfl ?_ | (refine J _ ?_; clear J K) | (refine zqf (fun hb => ?_) (fun hb => ?_) <;> (have hb2 := hb; try simp only [z03] at hb2) <;> ((first | have F := eq_false hb2 | have F := eq_true hb2); (simp (disch := omega) only [go_sem, Nat.reduceBEq, ↓reduceIte, F]); clear hb F; (try (exfalso; omega))))))
  all_goals refine z00 ?_
  all_goals (simp_all [z1w, belowL]; done)
 ·rw [show z1w p k = false from if_neg hk]
  repeat' (first | refine zqj ?_ | ((refine zqh fun K J => ?_); (simp (disch := omega) only [go_sem, Nat.reduceBEq, ↓reduceIte])) | ((first | refine zqd _ rfl (fun hc => ?_) (fun hc => ?_) | refine zqm _ rfl (fun hc => ?_) (fun hc => ?_)) <;> (((try simp only [z03] at hc); (try (exfalso; omega))))) | refine zqa ?_ | refine zqk ?_ | refine zqn ?_ | refine zqv ?_ | refine zqy ?_ | refine zqu (by (simp (disch := omega) only [go_sem]); rfl) rfl ?_ | (refine J _ ?_; clear J K))
  all_goals exact z00 rfl
theorem zpl (t : T) (hs : szB t = true) : PC Tryz.prog 74 [z1a t] (.bool (z4j t)) := by
 obtain ⟨h0, h1, g1, h2, g2, h3, _⟩ := (z1q t).1 hs
 have r1 := zsj t.head h1 (fun w hw => by have := g1 w hw; unfold maxLen; omega)
 have r2 := zsj t.words h2 (fun w hw => by have := g2 w hw; unfold maxLen; omega)
 have r3 := zd4 t.label (by unfold maxLen; omega)
 refine z1v 1 (by simp only [pureD.pureL, z04, Bool.and_self]) rfl (z1t [] Tryz.func74 rfl (by decide +kernel) z0k (by decide +kernel) (by simp [Tryz.ntmps74]) ?_)
 show awp _ _ (Code.seq _ _) _ _
 repeat' (first | refine zqj ?_ | ((first | refine zqh fun K J => ?_ | refine zqs (r1) ?_ | refine zqs (r2) ?_ | refine zqs (r3) ?_); (simp (disch := omega) only [go_sem, Nat.reduceBEq, ↓reduceIte, reduceCtorEq, Nat.reduceAdd])) | ((refine zqd _ rfl (fun hc => ?_) (fun hc => ?_)) <;> (first | (cases hc; done) | ((try simp only [z03] at hc); (try (exfalso; omega))))) | refine zqb ?_ | refine zqg ?_ | refine zqn ?_ | refine zqu (by (simp (disch := omega) only [go_sem]); rfl) rfl ?_ | (refine J _ ?_; clear J K) | (refine zqf (fun hb => ?_) (fun hb => ?_) <;> (have hb2 := hb; try simp only [z03] at hb2) <;> ((first | have F : (_ : Bool) = _ := hb2 | have F := eq_false hb2 | have F := eq_true hb2); (simp (disch := omega) only [go_sem, Nat.reduceBEq, ↓reduceIte, reduceCtorEq, Nat.reduceAdd, F, z0n, z0e]); clear hb F; (try (exfalso; omega)))))
 all_goals refine z00 ?_
 all_goals unfold z4j
 all_goals first
  | (rw [decide_eq_false (by omega)]; rfl)
  | (rw [decide_eq_true (by omega), decide_eq_false (by omega)]; rfl)
  | (rw [decide_eq_true (by omega), decide_eq_true (by omega)]; simp_all [z3l]; done)
  | (rw [decide_eq_true (show 0 <= t.kind /\ t.kind <= 7 by omega), decide_eq_true (show t.kids.length <= 64 by omega)]; simp_all [z3l]; done)
  | skip
theorem zu7 : ∀ t : T, szB t = true -> PC Tryz.prog 47 [z1a t] (.bool (z36 t)) := by
 refine z3y fun t ih hs => ?_
 have ha := zpl t hs
 obtain ⟨h0, h1, g1, h2, g2, h3, h4⟩ := (z1q t).1 hs
 rw [z5o]
 refine z1v 1 (by simp only [pureD.pureL, z04, Bool.and_self]) rfl (z1t [] Tryz.func47 rfl (by decide +kernel) z0k (by decide +kernel) (by simp [Tryz.ntmps47]) ?_)
 show awp _ _ (Code.seq _ _) _ _
 repeat' (first | refine zqj ?_ | ((first | refine zqh fun K J => ?_ | refine zqs (ha) ?_); (simp (disch := omega) only [go_sem, Nat.reduceBEq, ↓reduceIte, Nat.reduceAdd, Nat.reduceLeDiff])) | ((refine zqd _ rfl (fun hc => ?_) (fun hc => ?_)) <;> (((try simp only [z03] at hc); (try (exfalso; omega))))) | refine zqa ?_ | refine zqb ?_ | refine zqg ?_ | refine zqu (by (simp (disch := omega) only [go_sem]); rfl) rfl ?_ | (refine J _ ?_; clear J K))
 ·exact z00 (by simp_all)
 rw [‹z4j t = true›, Bool.true_and]
 (refine z35 (fun U st => ∃ (i : _), U = t.kids.length - i /\ st.t 1 = .ptr 0 0 /\ st.t 3 = .int .i64 i /\ st.H 0 = some (.box 27 (z05 t)) /\ (i <= t.kids.length) /\ (1 <= st.nx) /\ ((t.kids.take i).all (fun k => z1w t.kind k.kind) = true) /\ ((t.kids.take i).all z36 = true) /\ (((t.kids.take i).map z6y).Nodup)) ?_ ?_); rotate_left; (rintro U st ⟨i, rfl, q1, q3, qH0, qp0, qp1, qp2, qp3, qp4⟩); rotate_left
 ·(refine ⟨_, 0, rfl, ?_⟩); (simp (disch := omega) only [go_sem, Nat.reduceBEq, Nat.reduceLeDiff, true_and, Int.natCast_zero, List.map_nil])
  all_goals simp
 have hin := fun (h : i < t.kids.length) => ih t.kids[i] (List.getElem_mem h) (h4 _ (List.getElem_mem h))
 have hn := fun (h : i < t.kids.length) => zu6 t.kind t.kids[i].kind
 repeat' (first | refine zqj ?_ | ((first | refine zqh fun K J => ?_ | refine zqe (by decide +kernel) fun K J => ?_ | refine zqt (hn (by omega)) ?_ | refine zqt (hin (by omega)) ?_); (simp (disch := omega) only [go_sem, Nat.reduceBEq, ↓reduceIte, reduceCtorEq, Nat.reduceAdd, q1, q3, qH0, z0e])) | ((refine zqd _ rfl (fun hc => ?_) (fun hc => ?_)) <;> (first | (cases hc; done) | ((try simp only [z03] at hc); (try (exfalso; omega))))) | refine zqa ?_ | refine zqi ?_ | refine zqb ?_ | refine zqg ?_ | refine zqc ?_ | refine zqn ?_ | refine zqv ?_ | refine zqx ?_ | refine zqz ?_ | refine z4f ?_ | refine zqp ?_ | refine zqo ?_ | refine zqu (by (simp (disch := omega) only [go_sem]); rfl) rfl ?_ | (refine J _ ?_; clear J K) | (refine zqf (fun hb => ?_) (fun hb => ?_) <;> (have hb2 := hb; try simp only [z03] at hb2) <;> ((have F : (_ : Bool) = _ := hb2); (simp (disch := omega) only [go_sem, Nat.reduceBEq, ↓reduceIte, reduceCtorEq, Nat.reduceAdd, F, q1, q3, qH0, z0e]); clear hb F; (try (exfalso; omega)))))
 ·exact z00 (by rw [z3m (f := z36) (k := i) (by omega) (by assumption), Bool.false_and, Bool.and_false])
 ·(refine z35 (fun U st => ∃ (k : _), U = i - k /\ st.t 1 = .ptr 0 0 /\ st.t 3 = .int .i64 i /\ st.t 4 = .int .i64 k /\ st.H 0 = some (.box 27 (z05 t)) /\ (k <= i) /\ (1 <= st.nx) /\ (∀ j, (hj : j < k) -> (h : j < t.kids.length) -> (h2 : i < t.kids.length) -> z6y t.kids[j] ≠ z6y t.kids[i])) ?_ ?_); rotate_left; (rintro U st ⟨k, rfl, r1, r3, r4, rH0, rp0, rp1, rp2⟩); rotate_left
  ·(refine ⟨_, 0, rfl, ?_⟩); (simp (disch := omega) only [go_sem, Nat.reduceBEq, q1, q3, qH0, true_and, Int.natCast_zero])
   exact ⟨by omega, fun j hj => by omega⟩
  repeat' (first | refine zqj ?_ | ((first | refine zqh fun K J => ?_ | refine zqe (by decide +kernel) fun K J => ?_ | refine zqr fun K J => ?_); (simp (disch := omega) only [go_sem, Nat.reduceBEq, ↓reduceIte, reduceCtorEq, Nat.reduceAdd, r1, r3, r4, rH0, z0e])) | ((first | refine zqd _ rfl (fun hc => ?_) (fun hc => ?_) | refine zqm _ rfl (fun hc => ?_) (fun hc => ?_)) <;> (first | (cases hc; done) | ((try simp only [z03] at hc); (try (exfalso; omega))))) | refine zqa ?_ | refine zqb ?_ | refine zqc ?_ | refine zqk ?_ | refine zqn ?_ | refine zqv ?_ | refine zqx ?_ | refine zqy ?_ | refine zqz ?_ | refine z4f ?_ | refine zqp ?_ | refine zqo ?_ | refine zqu (by (simp (disch := omega) only [go_sem]); rfl) rfl ?_ | (refine J _ ?_; clear J K) | (refine zqf (fun hb => ?_) (fun hb => ?_) <;> (have hb2 := hb; try simp only [z03] at hb2) <;> ((first | have F := eq_false hb2 | have F := eq_true hb2); (simp (disch := omega) only [go_sem, Nat.reduceBEq, ↓reduceIte, reduceCtorEq, Nat.reduceAdd, F, r1, r3, r4, rH0, z0e]); clear hb F; (try (exfalso; omega)))))
  ·refine z00 ?_
   have hno := zgj (f := z6y) (l := t.kids) (j := k) (k := i) (by omega) (by omega) (by unfold z6y; rw [‹t.kids[k].kind = t.kids[i].kind›, ‹t.kids[k].label = t.kids[i].label›])
   rw [decide_eq_false hno, Bool.and_false, Bool.and_false]
  ·(refine Exists.intro _ (And.intro ?_ ⟨k + 1, rfl, ?_⟩)); rotate_left; (simp (disch := omega) only [go_sem, Nat.reduceBEq, r1, r3, r4, rH0, true_and, Int.natCast_add, Int.natCast_one]); rotate_left
   ·omega
   ·refine ⟨by omega, by omega, fun j hj h h2 => ?_⟩
    by_cases e : j = k
    ·subst e; exact fun h => absurd (congrArg Prod.snd h) (by assumption)
    ·exact rp2 j (by omega) h h2
  ·(refine Exists.intro _ (And.intro ?_ ⟨k + 1, rfl, ?_⟩)); rotate_left; (simp (disch := omega) only [go_sem, Nat.reduceBEq, r1, r3, r4, rH0, true_and, Int.natCast_add, Int.natCast_one]); rotate_left
   ·omega
   ·refine ⟨by omega, by omega, fun j hj h h2 => ?_⟩
    by_cases e : j = k
    ·subst e; exact fun h => absurd (congrArg Prod.fst h) (by assumption)
    ·exact rp2 j (by omega) h h2
  ·skip
   have hi : i < t.kids.length := by omega
   (refine Exists.intro _ (And.intro ?_ ⟨i + 1, rfl, ?_⟩)); rotate_left; (simp (disch := omega) only [go_sem, Nat.reduceBEq, true_and, Int.natCast_add, Int.natCast_one, r1, r3, rH0]); rotate_left
   ·omega
   ·exact ⟨by omega, by omega, z2d (by omega) qp2 (by assumption), z2d (by omega) qp3 (by assumption), zbb hi qp4 (fun j hj => rp2 j (by omega) (by omega) hi)⟩
 ·exact z00 (by rw [z3m (f := fun k : T => z1w t.kind k.kind) (k := i) (by omega) (by assumption), Bool.false_and])
 ·refine z00 ?_
  rw [z2h (by omega) qp2, z2h (by omega) qp3]
  rw [List.take_of_length_le (by omega)] at qp4
  rw [decide_eq_true qp4]; rfl
namespace Tr
theorem z3k (t : T) : cntT t = 1 + (t.kids.flatMap z08).length := by unfold cntT; rw [z1x, List.length_cons, Nat.add_comm]
theorem z2s (l : List T) (i : Nat) : ((l.take i).flatMap z08).length <= (l.flatMap z08).length := by
 have : l.flatMap z08 = (l.take i).flatMap z08 ++ (l.drop i).flatMap z08 := by rw [<- List.flatMap_append, List.take_append_drop]
 rw [this, List.length_append]; omega
theorem z42 (l : List T) (i : Nat) (h : i < l.length) : ((l.take (i + 1)).flatMap z08).length = ((l.take i).flatMap z08).length + cntT l[i] := by
 rw [List.take_succ_eq_append_getElem h, List.flatMap_append, List.length_append]; simp [cntT]
theorem z7x {t k : T} (h : k ∈ t.kids) : 1 + cntT k <= cntT t := by
 rw [z3k t]
 obtain ⟨i, hi, rfl⟩ := List.getElem_of_mem h
 have h1 := z42 t.kids i hi
 have h2 := z2s t.kids (i + 1)
 omega
theorem zgk (t : T) : 1 <= cntT t := by rw [z3k]; omega
theorem z1r (t : T) : z0c t = t.id :: t.kids.flatMap z0c := by
 unfold z0c
 rw [z1x, List.map_cons, List.map_flatMap]
theorem z64 (t : T) : (z0c t).length = cntT t := by unfold z0c cntT; rw [List.length_map]
def zwe (t : T) : Bool := (z0c t).all (fun i => decide (i = Idv.zero)) || (decide ((t.id = Idv.zero) ↔ (t.kind = 0)) && decide ((z0c t).Nodup))
def z6o (t : T) : Bool := z36 t && (decide (depT t <= 8) && (decide (cntT t <= 1024) && zwe t))
end Tr
theorem zpm : ∀ t : T, szB t = true -> cntT t <= 1000000000 -> PC Tryz.prog 49 [z1a t] (.int .i64 (cntT t)) := by
 refine z3y fun t ih hs hc => ?_
 obtain ⟨h0, h1, g1, h2, g2, h3, h4⟩ := (z1q t).1 hs
 have hce := z3k t
 refine z1v 1 (by simp only [pureD.pureL, z04, Bool.and_self]) rfl (z1t [] Tryz.func49 rfl (by decide +kernel) z0k (by decide +kernel) (by simp [Tryz.ntmps49]) ?_)
 show awp _ _ (Code.seq _ _) _ _
 repeat' (first | refine zqj ?_ | ((refine zqh fun K J => ?_); (simp (disch := omega) only [go_sem])) | refine zqa ?_ | (refine J _ ?_; clear J K))
 (refine z35 (fun U st => ∃ (i : _), U = t.kids.length - i /\ st.t 1 = .ptr 0 0 /\ st.t 3 = .int .i64 (1 + ((t.kids.take i).flatMap z08).length : Nat) /\ st.t 4 = .int .i64 i /\ st.H 0 = some (.box 27 (z05 t)) /\ (i <= t.kids.length) /\ (1 <= st.nx)) ?_ ?_); rotate_left; (rintro U st ⟨i, rfl, q1, q3, q4, qH0, qp0, qp1⟩); rotate_left
 ·(refine ⟨_, 0, rfl, ?_⟩); (simp (disch := omega) only [go_sem, Nat.reduceBEq, Nat.reduceLeDiff, and_self, Int.natCast_one, Int.natCast_zero, List.flatMap_nil])
  try simp
 have hin := fun (h : i < t.kids.length) => ih t.kids[i] (List.getElem_mem h) (h4 _ (List.getElem_mem h)) (by have := z7x (List.getElem_mem h); omega)
 have hb := z2s t.kids (i + 1)
 have hsu := fun (h : i < t.kids.length) => z42 t.kids i h
 repeat' (first | refine zqj ?_ | ((first | refine zqh fun K J => ?_ | refine zqr fun K J => ?_ | refine zqs (hin (by omega)) ?_); (simp (disch := omega) only [go_sem, Nat.reduceBEq, ↓reduceIte, reduceCtorEq, Nat.reduceAdd, q1, q3, q4, qH0, z0e])) | ((refine zqd _ rfl (fun hc => ?_) (fun hc => ?_)) <;> (((try simp only [z03] at hc); (try (exfalso; omega))))) | refine zqa ?_ | refine zqb ?_ | refine zqc ?_ | refine zqn ?_ | refine zqv ?_ | refine zqy ?_ | refine zqz ?_ | refine zqp ?_ | refine zqu (by (simp (disch := omega) only [go_sem]); rfl) rfl ?_ | (refine J _ ?_; clear J K))
 ·have hsu := hsu (by omega)
  (refine Exists.intro _ (And.intro ?_ ⟨i + 1, rfl, ?_⟩)); rotate_left; (simp (disch := omega) only [go_sem, Nat.reduceBEq, q1, q3, q4, qH0, true_and, Int.natCast_add, Int.natCast_one, hsu]); rotate_left
  ·omega
  ·exact ⟨by omega, by omega, by omega⟩
 ·have hi : i = t.kids.length := by omega
  subst hi
  refine z2w ?_
  rw [List.take_length, hce]
theorem zpn : ∀ t : T, szB t = true -> depT t <= 1000000000 -> PC Tryz.prog 48 [z1a t] (.int .i64 (depT t)) := by
 refine z3y fun t ih hs hd => ?_
 obtain ⟨h0, h1, g1, h2, g2, h3, h4⟩ := (z1q t).1 hs
 refine z1v 1 (by simp only [pureD.pureL, z04, Bool.and_self]) rfl (z1t [] Tryz.func48 rfl (by decide +kernel) z0k (by decide +kernel) (by simp [Tryz.ntmps48]) ?_)
 show awp _ _ (Code.seq _ _) _ _
 repeat' (first | refine zqj ?_ | ((refine zqh fun K J => ?_); (simp (disch := omega) only [go_sem])) | refine zqa ?_ | (refine J _ ?_; clear J K))
 (refine z35 (fun U st => ∃ (i : _), U = t.kids.length - i /\ st.t 1 = .ptr 0 0 /\ st.t 3 = .int .i64 (z9e ((t.kids.take i).map depT) : Nat) /\ st.t 4 = .int .i64 i /\ st.H 0 = some (.box 27 (z05 t)) /\ (i <= t.kids.length) /\ (1 <= st.nx)) ?_ ?_); rotate_left; (rintro U st ⟨i, rfl, q1, q3, q4, qH0, qp0, qp1⟩); rotate_left
 ·(refine ⟨_, 0, rfl, ?_⟩); (simp (disch := omega) only [go_sem, Nat.reduceBEq, Nat.reduceLeDiff, true_and, and_true, and_self, Int.natCast_zero, List.map_nil])
  rfl
 have hin := fun (h : i < t.kids.length) => ih t.kids[i] (List.getElem_mem h) (h4 _ (List.getElem_mem h)) (by have := z3r (List.getElem_mem h); omega)
 have hk := fun (h : i < t.kids.length) => z3r (t := t) (List.getElem_mem h)
 have hsn : ∀ h : i < t.kids.length, z9e ((t.kids.take (i + 1)).map depT) = max (z9e ((t.kids.take i).map depT)) (1 + depT t.kids[i]) := fun h => by
  rw [List.take_succ_eq_append_getElem h, List.map_append, List.map_cons, List.map_nil, zjk]
 repeat' (first | refine zqj ?_ | ((first | refine zqh fun K J => ?_ | refine zqr fun K J => ?_ | refine zqs (hin (by omega)) ?_); (simp (disch := omega) only [go_sem, Nat.reduceBEq, ↓reduceIte, reduceCtorEq, Nat.reduceAdd, q1, q3, q4, qH0, z0e])) | ((refine zqd _ rfl (fun hc => ?_) (fun hc => ?_)) <;> (((try simp only [z03] at hc); (try (exfalso; omega))))) | refine zqa ?_ | refine zqb ?_ | refine zqc ?_ | refine zqn ?_ | refine zqv ?_ | refine zqy ?_ | refine zqz ?_ | refine zqp ?_ | refine zqu (by (simp (disch := omega) only [go_sem]); rfl) rfl ?_ | (refine J _ ?_; clear J K))
 ·have hs := hsn (by omega)
  (refine Exists.intro _ (And.intro ?_ ⟨i + 1, rfl, ?_⟩)); rotate_left; (simp (disch := omega) only [go_sem, Nat.reduceBEq, q1, q3, q4, qH0, true_and, Int.natCast_add, Int.natCast_one, hs]); rotate_left
  ·omega
  ·have := hk (by omega); refine ⟨?_, by omega⟩
   rw [zf6 (by omega)]; omega
 ·refine z2w ?_
  have hi : i = t.kids.length := by omega
  subst hi
  rw [List.take_length, <- z3v]
theorem z9h : ∀ l : List Idv, z1k 3 (l.map z41) = some (l.flatMap z07)
 | [] => rfl
 | t :: w => by
  rw [List.map_cons, List.flatMap_cons]
  unfold z1k
  rw [z9h w]
  rfl
theorem pc_All : ∀ t : T, szB t = true -> cntT t <= 1000000000 -> PC Tryz.prog 76 [z1a t] (z2f (z0c t)) := by
 refine z3y fun t ih hs hc => ?_
 obtain ⟨h0, h1, g1, h2, g2, h3, h4⟩ := (z1q t).1 hs
 have hce := z3k t
 have hle0 := z64 t
 refine z1v 2 (by simp only [pureD.pureL, z04, Bool.and_self]) (z4k _) (z1t [7] Tryz.func76 rfl (by decide +kernel) z0k (by decide +kernel) (by simp [Tryz.ntmps76]) ?_)
 show awp _ _ (Code.seq _ _) _ _
 repeat' (first | refine zqj ?_ | ((refine zqh fun K J => ?_); (simp (disch := omega) only [go_sem, Nat.reduceBEq, ↓reduceIte, reduceCtorEq, Nat.reduceAdd, Nat.reduceMul, Nat.reduceLeDiff])) | refine zqa ?_ | (refine J _ ?_; clear J K))
 (refine z35 (fun U st => ∃ (i : _), U = t.kids.length - i /\ st.t 1 = .ptr 0 0 /\ st.t 3 = .osl 1 (1 + ((t.kids.take i).flatMap z08).length) /\ st.t 4 = .int .i64 i /\ st.H 0 = some (.box 27 (z05 t)) /\ st.H 1 = some (.row 23 (1 + ((t.kids.take i).flatMap z08).length) (([t.id] ++ (t.kids.take i).flatMap z0c).flatMap z07)) /\ (i <= t.kids.length) /\ (2 <= st.nx)) ?_ ?_); rotate_left; (rintro U st ⟨i, rfl, q1, q3, q4, qH0, qH1, qp0, qp1⟩); rotate_left
 ·(refine ⟨_, 0, rfl, ?_⟩); (simp (disch := omega) only [go_sem, Nat.reduceBEq, Nat.reduceLeDiff, true_and, and_true, and_self, Int.natCast_zero, List.flatMap_nil, List.append_nil])
  try simp [z07]
 have hin := fun (h : i < t.kids.length) => ih t.kids[i] (List.getElem_mem h) (h4 _ (List.getElem_mem h)) (by have := z7x (List.getElem_mem h); omega)
 have hb := z2s t.kids (i + 1)
 by_cases hi : i < t.kids.length
 ·have hsu := z42 t.kids i hi
  have hil := z64 t.kids[i]
  have htk : (t.kids.take (i + 1)).flatMap z0c = (t.kids.take i).flatMap z0c ++ z0c t.kids[i] := by
   rw [List.take_succ_eq_append_getElem hi, List.flatMap_append]; simp
  repeat' (first | refine zqj ?_ | ((first | refine zqh fun K J => ?_ | refine zqr fun K J => ?_ | refine zqs (hin hi) ?_); (simp (disch := omega) only [go_sem, Nat.reduceBEq, ↓reduceIte, reduceCtorEq, Nat.reduceAdd, q1, q3, q4, qH0, qH1, z0e, z2f, z9h])) | ((refine zqd _ rfl (fun hc => ?_) (fun hc => ?_)) <;> (((try simp only [z03] at hc); (try (exfalso; omega))))) | refine zqa ?_ | refine zqb ?_ | refine zqv ?_ | refine zqy ?_ | (refine J _ ?_; clear J K))
  (refine Exists.intro _ (And.intro ?_ ⟨i + 1, rfl, ?_⟩)); rotate_left; (simp (disch := omega) only [go_sem, Nat.reduceBEq, q1, q3, q4, qH0, qH1, true_and, Int.natCast_add, Int.natCast_one, List.flatMap_append, List.flatMap_cons, List.cons_append, List.nil_append, hsu, htk, hil, Nat.add_assoc, List.append_assoc]); rotate_left
  ·omega
  ·omega
 ·repeat' (first | refine zqj ?_ | ((refine zqh fun K J => ?_); (simp (disch := omega) only [go_sem, Nat.reduceBEq, ↓reduceIte, reduceCtorEq, Nat.reduceAdd, q1, q3, q4, qH0, z0e])) | ((refine zqd _ rfl (fun hc => ?_) (fun hc => ?_)) <;> (((try simp only [z03] at hc); (try (exfalso; omega))))) | refine zqc ?_ | refine zqn ?_ | refine zqv ?_ | refine zqz ?_ | refine zqp ?_ | refine zqu (by (simp (disch := omega) only [go_sem]); rfl) rfl ?_ | (refine J _ ?_; clear J K))
  have hi2 : i = t.kids.length := by omega
  subst hi2
  rw [List.take_length] at qH1
  have hle : 1 + (t.kids.flatMap z08).length = (z0c t).length := by rw [hle0, hce]
  rw [hle, List.singleton_append, <- z1r] at qH1
  rw [List.take_length, hle]
  refine z50 (z1z 0 ?_ z63 z9p (fun _ => rfl) (fun _ => rfl))
  simp (disch := omega) only [go_sem, qH1]
namespace Tr
theorem za4 {α : Type} (f : α -> Bool) {l : List α} {k : Nat} (h : k < l.length) : (l.take (k + 1)).all f = ((l.take k).all f && f l[k]) := by
 rw [List.take_succ_eq_append_getElem h, List.all_append, List.all_cons, List.all_nil, Bool.and_true]
theorem zka {α : Type} {l : List α} {k : Nat} (hk : k < l.length) (h : (l.take k).Nodup) (h2 : ∀ j, (hj : j < k) -> l[j]'(by omega) ≠ l[k]) : (l.take (k + 1)).Nodup := by
 have := zbb (f := id) hk (by simpa using h) h2
 simpa using this
theorem zpt {α : Type} {l : List α} {j k : Nat} (hj : j < k) (hk : k < l.length) (h : l[j]'(by omega) = l[k]) : ¬ l.Nodup := fun hn => by
 have := zgj (f := id) hj hk h
 simp at this; exact this hn
end Tr
theorem zxu (t : T) (hs : szB t = true) (hc : cntT t <= 1000000000) : PC Tryz.prog 50 [z1a t] (.bool (zwe t)) := by
 have ha := pc_All t hs hc
 have hl := z64 t
 have hp := zgk t
 have hid0 : ∀ h, (z0c t)[Int.toNat 0]'h = t.id := fun h => by simp [z1r]
 refine z1v 1 (by simp only [pureD.pureL, z04, Bool.and_self]) rfl (z1t [] Tryz.func50 rfl (by decide +kernel) z0k (by decide +kernel) (by simp [Tryz.ntmps50]) ?_)
 show awp _ _ (Code.seq _ _) _ _
 repeat' (first | refine zqj ?_ | ((first | refine zqh fun K J => ?_ | refine zqs (ha) ?_); (simp (disch := omega) only [go_sem, Nat.reduceBEq, ↓reduceIte, Nat.reduceAdd, Nat.reduceLeDiff])) | refine zqa ?_ | (refine J _ ?_; clear J K))
 (refine z35 (fun U st => ∃ (i : _), U = (z0c t).length - i /\ st.t 1 = .ptr 0 0 /\ st.t 3 = z2f (z0c t) /\ st.t 4 = .bool (((z0c t).take i).all fun i => decide (i = Idv.zero)) /\ st.t 5 = .int .i64 i /\ st.H 0 = some (.box 27 (z05 t)) /\ (i <= (z0c t).length) /\ (1 <= st.nx)) ?_ ?_); rotate_left; (rintro U st ⟨i, rfl, q1, q3, q4, q5, qH0, qp0, qp1⟩); rotate_left
 ·(refine ⟨_, 0, rfl, ?_⟩); (simp (disch := omega) only [go_sem, Nat.reduceBEq, Nat.reduceLeDiff, true_and, and_true, and_self, Int.natCast_zero, z2f])
  try simp
 repeat' (first | refine zqj ?_ | ((first | refine zqh fun K J => ?_ | refine zqe (by decide +kernel) fun K J => ?_ | refine zqr fun K J => ?_); (simp (disch := omega) only [go_sem, Nat.reduceBEq, ↓reduceIte, reduceCtorEq, Nat.reduceAdd, q1, q3, q4, q5, qH0, z2f, hid0])) | ((refine zqd _ rfl (fun hc => ?_) (fun hc => ?_)) <;> (((try simp only [z03] at hc); (try (exfalso; omega))))) | refine zqa ?_ | refine zqb ?_ | refine zqg ?_ | refine zqc ?_ | refine zqv ?_ | refine zqy ?_ | refine zqz ?_ | refine zqp ?_ | refine zqu (by (simp (disch := omega) only [go_sem]); rfl) rfl ?_ | (refine J _ ?_; clear J K) | (refine zqf (fun hb => ?_) (fun hb => ?_) <;> (have hb2 := hb; try simp only [z03] at hb2) <;> ((have F : (_ : Bool) = _ := hb2); (simp (disch := omega) only [go_sem, Nat.reduceBEq, ↓reduceIte, reduceCtorEq, Nat.reduceAdd, hb, q3, q5, z2f]); clear hb F; (try (exfalso; omega)))))
 ·(refine Exists.intro _ (And.intro ?_ ⟨i + 1, rfl, ?_⟩)); rotate_left; (simp (disch := omega) only [go_sem, Nat.reduceBEq, q1, q3, q4, q5, qH0, true_and, Int.natCast_add, Int.natCast_one]); rotate_left
  ·omega
  ·rw [za4 _ (by omega), ‹((z0c t).take i).all _ = true›]
   exact ⟨rfl, by omega, by omega⟩
 ·(refine Exists.intro _ (And.intro ?_ ⟨i + 1, rfl, ?_⟩)); rotate_left; (simp (disch := omega) only [go_sem, Nat.reduceBEq, q1, q3, q4, q5, qH0, true_and, Int.natCast_add, Int.natCast_one]); rotate_left
  ·omega
  ·rw [za4 _ (by omega), ‹((z0c t).take i).all _ = false›]
   exact ⟨rfl, by omega, by omega⟩
 ·refine z00 ?_
  have hz : ((z0c t).all fun i => decide (i = Idv.zero)) = true := by rw [<- List.take_of_length_le (l := z0c t) (i := i) (by omega)]; assumption
  unfold zwe; rw [hz]; rfl
 ·refine z00 ?_
  have hz : ((z0c t).all fun i => decide (i = Idv.zero)) = false := by rw [<- List.take_of_length_le (l := z0c t) (i := i) (by omega)]; assumption
  have hk : ¬ (t.id = Idv.zero ↔ t.kind = 0) := fun h => by
   have : decide (t.id = Idv.zero) = decide (t.kind = 0) := decide_eq_decide.2 h
   contradiction
  unfold zwe
  rw [hz, decide_eq_false hk]; rfl
 ·have hz : ((z0c t).all fun i => decide (i = Idv.zero)) = false := by rw [<- List.take_of_length_le (l := z0c t) (i := i) (by omega)]; assumption
  have hbne : ∀ {a b : Bool}, (a != b) = false -> a = b := fun {a b} h => by cases a <;> cases b <;> first | rfl | cases h
  have hk : (t.id = Idv.zero ↔ t.kind = 0) := by
   have h := hbne ‹(decide (t.id = Idv.zero) != decide (t.kind = 0)) = false›
   exact decide_eq_decide.1 h
  rw [show zwe t = decide ((z0c t).Nodup) from by unfold zwe; rw [hz, decide_eq_true hk]; rfl]
  (refine z35 (fun U st => ∃ (j : Nat), U = (z0c t).length - j /\ st.t 1 = .ptr 0 0 /\ st.t 3 = z2f (z0c t) /\ st.t 6 = .int .i64 j /\ st.H 0 = some (.box 27 (z05 t)) /\ (j <= (z0c t).length) /\ (((z0c t).take j).Nodup) /\ (1 <= st.nx)) ?_ ?_); rotate_left; (rintro U st ⟨j, rfl, r1, r3, r6, rH0, rp0, rp1, rp2⟩); rotate_left
  ·(refine ⟨_, 0, rfl, ?_⟩); (simp (disch := omega) only [go_sem, Nat.reduceBEq, true_and, Int.natCast_zero, z2f, q1, q3, qH0])
   (repeat' (first | omega | refine And.intro ?_ ?_))
   all_goals simp
  repeat' (first | refine zqj ?_ | ((refine zqh fun K J => ?_); (simp (disch := omega) only [go_sem, Nat.reduceBEq, ↓reduceIte, r3, r6, z2f])) | ((refine zqd _ rfl (fun hc => ?_) (fun hc => ?_)) <;> (((try simp only [z03] at hc); (try (exfalso; omega))))) | refine zqa ?_ | refine zqi ?_ | refine zqb ?_ | refine zqc ?_ | refine zqn ?_ | refine zqv ?_ | refine zqz ?_ | refine zqp ?_ | refine zqu (by (simp (disch := omega) only [go_sem]); rfl) rfl ?_ | (refine J _ ?_; clear J K))
  ·(refine z35 (fun U st => ∃ (k : Nat), U = j - k /\ st.t 1 = .ptr 0 0 /\ st.t 3 = z2f (z0c t) /\ st.t 6 = .int .i64 j /\ st.t 7 = .int .i64 k /\ st.H 0 = some (.box 27 (z05 t)) /\ (k <= j) /\ (1 <= st.nx) /\ (∀ m, (hm : m < k) -> (h : m < (z0c t).length) -> (h2 : j < (z0c t).length) -> (z0c t)[m] ≠ (z0c t)[j])) ?_ ?_); rotate_left; (rintro U st ⟨k, rfl, w1, w3, w6, w7, wH0, wp0, wp1, wp2⟩); rotate_left
   ·(refine ⟨_, 0, rfl, ?_⟩); (simp (disch := omega) only [go_sem, Nat.reduceBEq, r1, r3, r6, rH0, true_and, Int.natCast_zero, z2f])
    (repeat' (first | omega | refine And.intro ?_ ?_))
    all_goals exact fun m hm => by omega
   repeat' (first | refine zqj ?_ | ((first | refine zqh fun K J => ?_ | refine zqe (by decide +kernel) fun K J => ?_ | refine zqr fun K J => ?_); (simp (disch := omega) only [go_sem, Nat.reduceBEq, ↓reduceIte, reduceCtorEq, Nat.reduceAdd, w3, w6, w7, z2f])) | ((first | refine zqd _ rfl (fun hc => ?_) (fun hc => ?_) | refine zqm _ rfl (fun hc => ?_) (fun hc => ?_)) <;> (((try simp only [z03] at hc); (try (exfalso; omega))))) | refine zqa ?_ | refine zqb ?_ | refine zqc ?_ | refine zqk ?_ | refine zqn ?_ | refine zqv ?_ | refine zqx ?_ | refine zqy ?_ | refine zqz ?_ | refine z4f ?_ | refine zqp ?_ | refine zqo ?_ | refine zqu (by (simp (disch := omega) only [go_sem]); rfl) rfl ?_ | (refine J _ ?_; clear J K))
   ·exact z00 (decide_eq_false (zpt (j := k) (k := j) (by omega) (by omega) (by assumption))).symm
   ·(refine Exists.intro _ (And.intro ?_ ⟨k + 1, rfl, ?_⟩)); rotate_left; (simp (disch := omega) only [go_sem, Nat.reduceBEq, w1, w3, w6, w7, wH0, true_and, Int.natCast_add, Int.natCast_one, z2f]); rotate_left
    ·omega
    ·refine ⟨by omega, by omega, fun m hm h h2 => ?_⟩
     by_cases e : m = k
     ·subst e; assumption
     ·exact wp2 m (by omega) h h2
   ·skip
    have hj : j < (z0c t).length := by omega
    (refine Exists.intro _ (And.intro ?_ ⟨j + 1, rfl, ?_⟩)); rotate_left; (simp (disch := omega) only [go_sem, Nat.reduceBEq, true_and, Int.natCast_add, Int.natCast_one, w1, w3, wH0]); rotate_left
    ·omega
    ·exact ⟨by omega, zka hj rp1 (fun m hm => wp2 m (by omega) (by omega) hj), by omega⟩
  ·refine z00 ?_
   rw [List.take_of_length_le (by omega)] at rp1
   exact (decide_eq_true rp1).symm
theorem zwg (t : T) (hs : szB t = true) (hc : cntT t <= 1000000000) (hd : depT t <= 1000000000) : PC Tryz.prog 18 [z1a t] (.bool (z6o t)) := by
 have h1 := zu7 t hs
 have h2 := zpn t hs hd
 have h3 := zpm t hs hc
 have h4 := zxu t hs hc
 refine z1v 1 (by simp only [pureD.pureL, z04, Bool.and_self]) rfl (z1t [] Tryz.func18 rfl (by decide +kernel) z0k (by decide +kernel) (by simp [Tryz.ntmps18]) ?_)
 show awp _ _ (Code.seq _ _) _ _
 repeat' (first | ((first | refine zqh fun K J => ?_ | refine zqs (h1) ?_ | refine zqs (h2) ?_ | refine zqs (h3) ?_ | refine zqs (h4) ?_); (simp (disch := omega) only [go_sem, Nat.reduceBEq, ↓reduceIte, Nat.reduceAdd, Nat.reduceLeDiff])) | refine zqn ?_ | refine zqu (by (simp (disch := omega) only [go_sem]); rfl) rfl ?_ | (refine J _ ?_; clear J K) | (refine zqf (fun hb => ?_) (fun hb => ?_) <;> (have hb2 := hb; try simp only [z03] at hb2) <;> ((first | have F : (_ : Bool) = _ := hb2 | have F := eq_false hb2 | have F := eq_true hb2); (simp (disch := omega) only [go_sem, Nat.reduceBEq, ↓reduceIte, Nat.reduceAdd, Nat.reduceLeDiff, hb, F]); clear hb F; (try (exfalso; omega)))))
 all_goals refine z00 ?_
 all_goals unfold z6o
 all_goals (simp (disch := omega) only [decide_eq_true, decide_eq_false, Bool.true_and, Bool.false_and, Bool.and_false, *])
theorem zhf {P : Program} {H : HM} {id e : Nat} {cs : List D} (k : Nat) (hH : H id = some (.box e cs)) (ha : z0f P e = true) (hp : pureD.pureL cs = true) : z30 P H (k + 2) (.ptr id 0) = some (.rptr (.agg cs)) := by
 unfold z30
 simp only [pureD, Bool.false_eq_true, if_false, hH, ha, true_or, and_self, if_true, zal k cs hp, Option.map_some]
namespace Tr
theorem zll : ∀ t : T, smB t = true -> ∀ x ∈ z08 t, smB x = true := by
 refine z3y fun t ih h x hx => ?_
 rw [z1x] at hx
 rcases List.mem_cons.1 hx with rfl | hx
 ·exact h
 ·obtain ⟨k, hk, hx⟩ := List.mem_flatMap.1 hx
  exact ih k hk ((zhn t).1 h |>.2.2.2 k hk) x hx
theorem z9o (id : Idv) : ∀ t : T, ∀ x ∈ z1i id t, x ∈ z08 t := by
 refine z3y fun t ih x hx => ?_
 rw [z8n] at hx
 split at hx
 ·rw [List.mem_singleton.1 hx]; exact z2a t
 ·split at hx
  ·rename_i w hw
   obtain ⟨k, hk, rfl⟩ := List.mem_map.1 (List.mem_of_find?_eq_some hw)
   rcases List.mem_cons.1 hx with rfl | hx
   ·exact z2a _
   ·exact z3d hk (ih k hk x hx)
  ·cases hx
def T.zero : T := .mk Idv.zero 0 ByteArray.empty [] [] []
def z0b (id : Idv) (t : T) : T × Bool := match (z1i id t).getLast? with
 | some x => (x, true)
 | none => (T.zero, false)
def z31 (id : Idv) (t : T) : Idv × Int × Bool :=
 let w := z1i id t
 if h : w.length < 2 then (Idv.zero, -1, false) else
  let p := w[w.length - 2]
  let n := z2e (fun k => !(z1i id k).isEmpty) p.kids
  (p.id, if n < p.kids.length then (n : Int) else -1, true)
def z54 (id : Idv) (t : T) : List Idv := ((z1i id t).dropLast.map T.id).reverse
end Tr
theorem z8v {w : List T} (h : w = []) : zaz w = .nil := if_pos h
theorem z5m {w : List T} (h : w ≠ []) : zaz w = .rsl true 8 (w.map z1a) := if_neg h
theorem zcv {α : Type} : ∀ (l : List α) (h : l ≠ []), l.getLast? = some (l[l.length - 1]'(by have := List.length_pos_iff.2 h; omega))
 | l, h => by rw [List.getLast?_eq_getElem?, List.getElem?_eq_getElem (by have := List.length_pos_iff.2 h; omega)]
theorem zgf : Le (.agg [.int .i64 0, .int .i64 0, .int .i64 0, .int .i64 0, .str ByteArray.empty, .nil, .nil, .nil]) (z1a T.zero) := by
 rw [z1a, z0y]
 exact Le.agg ⟨Le.refl _, Le.refl _, Le.refl _, Le.refl _, Le.refl _, Le.nil 4, Le.nil 4, Le.nil 8, trivial⟩
theorem zx3 (t : T) (hs : smB t = true) (hd : depT t <= 1000000000) (id : Idv) : PC Tryz.prog 100 [z1a t, z41 id] (.tup [z1a (z0b id t).1, .bool (z0b id t).2]) := by
 have hw := zmm id t (zho t hs) hd
 have hl := z6c id t
 refine z1v 3 (by simp only [pureD.pureL, z04]; rfl) (by simp only [pureD, pureD.pureL, z04, Bool.and_self]) (z1t [] Tryz.func100 rfl (by decide +kernel) z0k (by decide +kernel) (by simp [Tryz.ntmps100]) ?_)
 show awp _ _ (Code.seq _ _) _ _
 rw [show Tryz.f100.results.toList = [.cell 4 27, .tmp 5] from rfl]
 by_cases h0 : z1i id t = []
 ·rw [z8v h0] at hw
  have hf : z0b id t = (T.zero, false) := by unfold z0b; rw [h0]; rfl
  rw [hf]
  repeat' (first | refine zqj ?_ | ((first | refine zqh fun K J => ?_ | refine zqs (hw) ?_); (simp (disch := omega) only [go_sem, Nat.reduceBEq, ↓reduceIte, Nat.reduceAdd, Nat.reduceLeDiff])) | ((refine zqd _ rfl (fun hc => ?_) (fun hc => ?_)) <;> (first | (cases hc; done) | ((try simp only [] at hc); (try (exfalso; omega))))) | refine zqg ?_ | refine zqu (by (simp (disch := omega) only [go_sem, Nat.reduceBEq, ↓reduceIte, Nat.reduceAdd, Nat.reduceLeDiff]); rfl) rfl ?_ | (refine J _ ?_; clear J K))
  exact z02 (by simp only [pureD, pureD.pureL, Bool.and_self]) (Le.tup ⟨zgf, Le.refl _, trivial⟩)
 ·rw [z5m h0] at hw
  have hpos := List.length_pos_iff.2 h0
  have hi : (((z1i id t).length : Int) - 1).toNat = (z1i id t).length - 1 := by omega
  have hcp := zp9 ((z1i id t)[(z1i id t).length - 1]'(by omega)) (zll t hs _ (z9o id t _ (List.getElem_mem _)))
  have hf : z0b id t = ((z1i id t)[(z1i id t).length - 1]'(by omega), true) := by unfold z0b; rw [zcv _ h0]
  rw [hf]
  repeat' (first | refine zqj ?_ | ((first | refine zqh fun K J => ?_ | refine zqs (hw) ?_ | refine zqs (hcp) ?_); (simp (disch := omega) only [go_sem, Nat.reduceBEq, ↓reduceIte, reduceCtorEq, Nat.reduceAdd, Nat.reduceLeDiff, hi])) | ((refine zqd _ rfl (fun hc => ?_) (fun hc => ?_)) <;> (((try simp only [z03] at hc); (try (exfalso; omega))))) | refine zqb ?_ | refine zqn ?_ | refine zqu (by (simp (disch := omega) only [go_sem, Nat.reduceBEq, ↓reduceIte, Nat.reduceLeDiff]); rfl) rfl ?_ | (refine J _ ?_; clear J K))
  exact z02 (by simp only [pureD, pureD.pureL, z0d, Bool.and_self]) (Le.refl _)
theorem zmw (t : T) (hs : smB t = true) (hd : depT t <= 1000000000) (id : Idv) : PC Tryz.prog 92 [z1a t, .rptr (z41 id)] (.bool (!(z1i id t).isEmpty)) := by
 have hw := zmm id t (zho t hs) hd
 refine z1v 1 (by simp only [pureD.pureL, z04, pureD]; rfl) rfl (z1t [] Tryz.func92 rfl (by decide +kernel) z0k (by decide +kernel) (by simp [Tryz.ntmps92]) ?_)
 show awp _ _ (Code.seq _ _) _ _
 by_cases h0 : z1i id t = []
 ·rw [z8v h0] at hw
  rw [h0]
  repeat' (first | ((first | refine zqh fun K J => ?_ | refine zqs (hw) ?_); (simp (disch := omega) only [go_sem, Nat.reduceBEq, ↓reduceIte, Nat.reduceAdd, Nat.reduceLeDiff])) | refine zqn ?_ | refine zqu (by (simp (disch := omega) only [go_sem]); rfl) rfl ?_ | (refine J _ ?_; clear J K))
  exact z00 rfl
 ·rw [z5m h0] at hw
  rw [show (z1i id t).isEmpty = false from by simpa using h0]
  repeat' (first | ((first | refine zqh fun K J => ?_ | refine zqs (hw) ?_); (simp (disch := omega) only [go_sem, Nat.reduceBEq, ↓reduceIte, Nat.reduceAdd, Nat.reduceLeDiff])) | refine zqn ?_ | refine zqu (by (simp (disch := omega) only [go_sem]); rfl) rfl ?_ | (refine J _ ?_; clear J K))
  exact z00 rfl
theorem zhg : ∀ t : T, ∀ x ∈ z08 t, depT x <= depT t := by
 refine z3y fun t ih x hx => ?_
 rw [z1x] at hx
 rcases List.mem_cons.1 hx with rfl | hx
 ·exact Nat.le_refl _
 ·obtain ⟨k, hk, hx⟩ := List.mem_flatMap.1 hx
  have := ih k hk x hx
  have := z3r hk
  omega
theorem zhh (t : T) (hs : smB t = true) (hd : depT t <= 1000000000) (id : Idv) : PC Tryz.prog 61 [z1a t, z41 id] (.tup [z41 (z31 id t).1, .int .i64 (z31 id t).2.1, .bool (z31 id t).2.2]) := by
 have hw := zmm id t (zho t hs) hd
 have hl := z6c id t
 refine z1v 3 (by simp only [pureD.pureL, z04]; rfl) rfl (z1t [] Tryz.func61 rfl (by decide +kernel) z0k (by decide +kernel) (by simp [Tryz.ntmps61]) ?_)
 show awp _ _ (Code.seq _ _) _ _
 rw [show Tryz.f61.results.toList = [.cell 4 23, .tmp 5, .tmp 6] from rfl]
 by_cases h2 : (z1i id t).length < 2
 ·have hp : z31 id t = (Idv.zero, -1, false) := by unfold z31; exact dif_pos h2
  rw [hp]
  by_cases h0 : z1i id t = []
  ·rw [z8v h0] at hw
   repeat' (first | refine zqj ?_ | ((first | refine zqh fun K J => ?_ | refine zqs (hw) ?_); (simp (disch := omega) only [go_sem, Nat.reduceBEq, ↓reduceIte, Nat.reduceAdd, Nat.reduceLeDiff, Int.reduceLT])) | ((refine zqd _ rfl (fun hc => ?_) (fun hc => ?_)) <;> (first | (cases hc; done) | ((try simp only [] at hc); (try (exfalso; omega))))) | refine zqg ?_ | refine zqu (by (simp (disch := omega) only [go_sem, Nat.reduceBEq, ↓reduceIte, Nat.reduceAdd, Nat.reduceLeDiff]); rfl) rfl ?_ | (refine J _ ?_; clear J K))
   exact z02 rfl (Le.refl _)
  ·rw [z5m h0] at hw
   repeat' (first | refine zqj ?_ | ((first | refine zqh fun K J => ?_ | refine zqs (hw) ?_); (simp (disch := omega) only [go_sem, Nat.reduceBEq, ↓reduceIte, Nat.reduceAdd, Nat.reduceLeDiff])) | ((refine zqd _ rfl (fun hc => ?_) (fun hc => ?_)) <;> (((try simp only [z03] at hc); (try (exfalso; omega))))) | refine zqg ?_ | refine zqu (by (simp (disch := omega) only [go_sem, Nat.reduceBEq, ↓reduceIte, Nat.reduceAdd, Nat.reduceLeDiff]); rfl) rfl ?_ | (refine J _ ?_; clear J K))
   exact z02 rfl (Le.refl _)
 ·have h0 : z1i id t ≠ [] := fun h => by rw [h] at h2; simp at h2
  rw [z5m h0] at hw
  have hi : (((z1i id t).length : Int) - 2).toNat = (z1i id t).length - 2 := by omega
  obtain ⟨p, hpe⟩ : ∃ p, p = ((z1i id t)[(z1i id t).length - 2]'(by omega)) := ⟨_, rfl⟩
  have hpm : p ∈ z08 t := by rw [hpe]; exact z9o id t _ (List.getElem_mem _)
  have hsp := zll t hs p hpm
  have hdp := zhg t p hpm
  obtain ⟨_, _, h3, h4⟩ := (zhn p).1 hsp
  have hpar : z31 id t = (p.id, (if z2e (fun k => !(z1i id k).isEmpty) p.kids < p.kids.length then (z2e (fun k => !(z1i id k).isEmpty) p.kids : Int) else -1), true) := by unfold z31; rw [dif_neg h2, <- hpe]
  rw [hpar]
  have hix := zh9 false p.kids (by unfold maxLen; omega) (g := 92) (cap := [.rptr (z41 id)]) (fun k => !(z1i id k).isEmpty) rfl (fun k hk => zmw k (h4 k hk) (by have := z3r hk; omega) id)
  repeat' (first | refine zqj ?_ | ((first | refine zqh fun K J => ?_ | refine zqs (hw) ?_); (simp (disch := omega) only [go_sem, Nat.reduceBEq, ↓reduceIte, reduceCtorEq, Nat.reduceAdd, Nat.reduceLeDiff, hi, <- hpe])) | ((refine zqd _ rfl (fun hc => ?_) (fun hc => ?_)) <;> (((try simp only [z03] at hc); (try (exfalso; omega))))) | refine zqb ?_ | (refine J _ ?_; clear J K))
  refine zv4 (PC.borrow hix rfl 4 (z0q (z0p 3 (z1b _)) (z0q (zvb 3 rfl (z0q (zhf (e := 23) (cs := z07 id) 1 ?_ z63 rfl) z90)) z90))) ?_
  ·(simp (disch := omega) only [go_sem, Nat.reduceBEq, z07])
  (try (simp (disch := omega) only [go_sem, Nat.reduceBEq])); repeat' (first | ((refine zqh fun K J => ?_); (simp (disch := omega) only [go_sem, Nat.reduceBEq, ↓reduceIte, reduceCtorEq, Nat.reduceAdd, Nat.reduceLeDiff])) | refine zqn ?_ | refine zqu (by (simp (disch := omega) only [go_sem, Nat.reduceBEq, ↓reduceIte, Nat.reduceAdd, Nat.reduceLeDiff]); rfl) rfl ?_ | (refine J _ ?_; clear J K))
  exact z02 rfl (Le.refl _)
theorem zhi (t : T) (hs : smB t = true) (hd : depT t <= 1000000000) (id : Idv) : PC Tryz.prog 63 [z1a t, z41 id] (z2f (z54 id t)) := by
 have hw := zmm id t (zho t hs) hd
 have hl := z6c id t
 refine z1v 3 (by simp only [pureD.pureL, z04]; rfl) (z4k _) (z1t [5] Tryz.func63 rfl (by decide +kernel) z0k (by decide +kernel) (by simp [Tryz.ntmps63]) ?_)
 show awp _ _ (Code.seq _ _) _ _
 by_cases h0 : z1i id t = []
 ·rw [z8v h0] at hw
  have ha : z54 id t = [] := by unfold z54; rw [h0]; rfl
  rw [ha]
  repeat' (first | refine zqj ?_ | ((first | refine zqh fun K J => ?_ | refine zqs (hw) ?_); (simp (disch := omega) only [go_sem, Nat.reduceBEq, ↓reduceIte, Nat.reduceAdd, Nat.reduceLeDiff])) | refine zqa ?_ | (refine J _ ?_; clear J K))
  (refine z35 (fun U st => ∃ (i : Nat), U = i - i /\ st.t 5 = .osl 2 0 /\ st.t 7 = .int .i64 (-2) /\ st.H 2 = some (.row 23 0 []) /\ (i = 0)) ?_ ?_); rotate_left; (rintro U st ⟨i, rfl, q5, q7, qH2, qp0⟩); rotate_left
  ·(refine ⟨_, 0, rfl, ?_⟩); (simp (disch := omega) only [go_sem, Nat.reduceBEq, true_and, and_true, and_self])
   rfl
  repeat' (first | refine zqj ?_ | ((refine zqh fun K J => ?_); (simp (disch := omega) only [go_sem, Nat.reduceBEq, ↓reduceIte, Int.reduceLE, q5, q7])) | ((refine zqd _ rfl (fun hc => ?_) (fun hc => ?_)) <;> (first | (cases hc; done) | ((try simp only [] at hc); (try (exfalso; omega))))) | refine zqc ?_ | refine zqn ?_ | refine zqv ?_ | refine zqz ?_ | refine zqp ?_ | refine zqu (by (simp (disch := omega) only [go_sem]); rfl) rfl ?_ | (refine J _ ?_; clear J K))
  refine z50 (z1z (l := []) (f := fun i : Idv => z07 i) 1 ?_ z63 z9p (fun _ => rfl) (fun _ => rfl))
  (simp (disch := omega) only [go_sem, qH2])
  rfl
 ·rw [z5m h0] at hw
  have hpos := List.length_pos_iff.2 h0
  have hal : (z54 id t).length = (z1i id t).length - 1 := by unfold z54; simp
  have hag : ∀ k (h : k < (z54 id t).length), (z54 id t)[k] = ((z1i id t)[(z1i id t).length - 2 - k]'(by omega)).id := fun k h => by
   have h1 : k < (z1i id t).length - 1 := by omega
   have h2 := List.getElem_reverse (l := (z1i id t).dropLast.map T.id) (i := k) (by simp; omega)
   refine h2.trans ?_
   simp only [List.getElem_map, List.getElem_dropLast, List.length_map, List.length_dropLast]
   congr 1
  repeat' (first | refine zqj ?_ | ((first | refine zqh fun K J => ?_ | refine zqs (hw) ?_); (simp (disch := omega) only [go_sem, Nat.reduceBEq, ↓reduceIte, Nat.reduceAdd, Nat.reduceLeDiff])) | refine zqa ?_ | (refine J _ ?_; clear J K))
  (refine z35 (fun U st => ∃ (k : _), U = (z1i id t).length - k /\ st.t 5 = .osl 2 k /\ st.t 6 = .rsl true 8 ((z1i id t).map z1a) /\ st.t 7 = .int .i64 ((z1i id t).length - 2 - k) /\ st.H 2 = some (.row 23 k (((z54 id t).take k).flatMap z07)) /\ (k <= (z54 id t).length) /\ (2 <= st.nx)) ?_ ?_); rotate_left; (rintro U st ⟨k, rfl, q5, q6, q7, qH2, qp0, qp1⟩); rotate_left
  ·(refine ⟨_, 0, rfl, ?_⟩); (simp (disch := omega) only [go_sem, Nat.reduceBEq, Nat.reduceLeDiff, true_and, and_true, and_self, Int.natCast_zero, List.flatMap_nil])
   omega
  by_cases hk : k < (z54 id t).length
  ·have hidx : (((z1i id t).length : Int) - 2 - k).toNat = (z1i id t).length - 2 - k := by omega
   have hag := hag k hk
   have htk := List.take_succ_eq_append_getElem hk
   rw [hag] at htk
   repeat' (first | refine zqj ?_ | ((first | refine zqh fun K J => ?_ | refine zqr fun K J => ?_); (simp (disch := omega) only [go_sem, Nat.reduceBEq, ↓reduceIte, reduceCtorEq, Nat.reduceAdd, Nat.reduceMul, Nat.reduceLeDiff, q5, q6, q7, qH2, hidx])) | ((refine zqd _ rfl (fun hc => ?_) (fun hc => ?_)) <;> (((try simp only [z03] at hc); (try (exfalso; omega))))) | refine zqa ?_ | refine zqb ?_ | refine zqv ?_ | refine zqy ?_ | (refine J _ ?_; clear J K))
   (refine Exists.intro _ (And.intro ?_ ⟨k + 1, rfl, ?_⟩)); rotate_left; (simp (disch := omega) only [go_sem, Nat.reduceBEq, q5, q6, q7, qH2, true_and, Int.natCast_add, Int.natCast_one, List.flatMap_append, List.flatMap_cons, List.flatMap_nil, List.append_nil, htk, z07]); rotate_left
   ·omega
   ·refine ⟨by omega, by omega, by omega⟩
  ·repeat' (first | refine zqj ?_ | ((refine zqh fun K J => ?_); (simp (disch := omega) only [go_sem, Nat.reduceBEq, ↓reduceIte, q5, q7])) | ((refine zqd _ rfl (fun hc => ?_) (fun hc => ?_)) <;> (((try simp only [z03] at hc); (try (exfalso; omega))))) | refine zqc ?_ | refine zqn ?_ | refine zqv ?_ | refine zqz ?_ | refine zqp ?_ | refine zqu (by (simp (disch := omega) only [go_sem]); rfl) rfl ?_ | (refine J _ ?_; clear J K))
   have hk2 : k = (z54 id t).length := by omega
   subst hk2
   rw [List.take_length] at qH2
   exact z50 (z1z 1 (by (simp (disch := omega) only [go_sem, qH2])) z63 z9p (fun _ => rfl) (fun _ => rfl))
end
section
open Abs Facts Tr
theorem z7f {α : Type} [DecidableEq α] (enc : α -> D) (v : α -> D) (k : α) (x : D) : ∀ l : List α, l.Nodup -> k ∈ l -> z83 (l.map fun a => (enc a, v a)) (l.idxOf k) x = l.map fun a => (enc a, if a = k then x else v a)
 | [], _, h => by cases h
 | a :: l, hn, h => by
  simp only [List.map_cons, List.idxOf_cons]
  by_cases e : a = k
  ·subst e
   simp only [beq_self_eq_true, cond_true, z83, if_true, List.cons.injEq, true_and]
   refine List.map_congr_left fun b hb => ?_
   have : b ≠ a := fun e => by subst e; exact (List.nodup_cons.1 hn).1 hb
   rw [if_neg this]
  ·rw [show (a == k) = false from by simpa using e]
   simp only [cond_false, z83, if_neg e, List.cons.injEq, true_and]
   refine z7f enc v k x l (List.nodup_cons.1 hn).2 ?_
   rcases List.mem_cons.1 h with h | h
   ·exact (e h.symm).elim
   ·exact h
namespace Tr
end Tr
end
section
open Abs Facts Tr
attribute [local irreducible] awp
namespace Tr
theorem z72 : ∀ t : T, szB t = true -> ∀ x ∈ z08 t, szB x = true := by
 refine z3y fun t ih h x hx => ?_
 rw [z1x] at hx
 rcases List.mem_cons.1 hx with rfl | hx
 ·exact h
 ·obtain ⟨k, hk, hx⟩ := List.mem_flatMap.1 hx
  obtain ⟨_, _, _, _, _, _, h4⟩ := (z1q t).1 h
  exact ih k hk (h4 k hk) x hx
end Tr
namespace Tr
instance : DecidableEq ByteArray := inferInstance
def zjp : List (T -> Bool) -> List T -> Bool
 | [], [] => true
 | f :: fs, t :: ts => f t && zjp fs ts
 | _, _ => false
def zon (a : T) : T -> Bool := zc1 (fun a l b => decide (a.id = b.id) && (decide (a.kind = b.kind) && (decide (a.label = b.label) && (decide (a.head = b.head) && (decide (a.words = b.words) && (decide (a.kids.length = b.kids.length) && zjp l b.kids)))))) a
theorem zvs (a b : T) : zon a b = (decide (a.id = b.id) && (decide (a.kind = b.kind) && (decide (a.label = b.label) && (decide (a.head = b.head) && (decide (a.words = b.words) && (decide (a.kids.length = b.kids.length) && zjp (a.kids.map zon) b.kids)))))) := by
 unfold zon; rw [z2l]
theorem zjq : ∀ (l m : List T), (∀ k ∈ l, ∀ b, zon k b = true ↔ k = b) -> (zjp (l.map zon) m = true ↔ l = m)
 | [], [], _ => by simp [zjp]
 | [], _ :: _, _ => by simp [zjp]
 | _ :: _, [], _ => by simp [zjp]
 | a :: l, b :: m, h => by
  simp only [List.map_cons, zjp, Bool.and_eq_true, List.cons.injEq]
  rw [h a (by simp) b, zjq l m (fun k hk => h k (List.mem_cons_of_mem _ hk))]
theorem zst : ∀ a b : T, zon a b = true ↔ a = b := by
 refine z3y fun a ih b => ?_
 rw [zvs]
 simp only [Bool.and_eq_true, decide_eq_true_eq]
 rw [zjq a.kids b.kids ih]
 constructor
 ·rintro ⟨h1, h2, h3, h4, h5, _, h6⟩
  rw [<- T.eta a, <- T.eta b, h1, h2, h3, h4, h5, h6]
 ·rintro rfl; exact ⟨rfl, rfl, rfl, rfl, rfl, rfl, rfl⟩
instance : DecidableEq T := fun a b => decidable_of_iff _ (zst a b)
theorem zb2 {α : Type} {a b : List α} {k : Nat} (hk : k < a.length) (hl : a.length = b.length) (h : a.take k = b.take k) (h2 : a[k] = b[k]'(by omega)) : a.take (k + 1) = b.take (k + 1) := by
 rw [List.take_succ_eq_append_getElem hk, List.take_succ_eq_append_getElem (show k < b.length by omega), h, h2]
theorem zvt {α : Type} {a b : List α} {k : Nat} (hk : k < a.length) (hl : a.length = b.length) (h2 : ¬ a[k] = b[k]'(by omega)) : ¬ a = b := fun h => by subst h; exact h2 rfl
theorem zer {α : Type} {a b : List α} {k : Nat} (hk : a.length <= k) (hl : a.length = b.length) (h : a.take k = b.take k) : a = b := by
 rwa [List.take_of_length_le hk, List.take_of_length_le (by omega)] at h
end Tr
theorem zmp (a b : List Wd) (ha : a.length <= maxLen) (hb : b.length <= maxLen) : PC Tryz.prog 44 [z0n a, z0n b] (.bool (decide (a = b))) := by
 unfold maxLen at ha hb
 refine z1v 1 (by simp only [pureD.pureL, z0w, Bool.and_self]) rfl (z1t [] Tryz.func44 rfl (by decide +kernel) z0k (by decide +kernel) (by simp [Tryz.ntmps44]) ?_)
 show awp _ _ (Code.seq _ _) _ _
 repeat' (first | refine zqj ?_ | ((refine zqh fun K J => ?_); (simp (disch := omega) only [go_sem, Nat.reduceBEq, ↓reduceIte, z0n])) | ((refine zqd _ rfl (fun hc => ?_) (fun hc => ?_)) <;> (((try simp only [z03] at hc); (try (exfalso; omega))))) | refine zqa ?_ | refine zqb ?_ | refine zqg ?_ | refine zqu (by (simp (disch := omega) only [go_sem]); rfl) rfl ?_ | (refine J _ ?_; clear J K))
 ·exact z00 (decide_eq_false (fun h => by subst h; contradiction)).symm
 ·have hl : a.length = b.length := by omega
  (refine z35 (fun U st => ∃ (k : _), U = a.length - k /\ st.t 0 = z0n a /\ st.t 1 = z0n b /\ st.t 5 = .int .i64 k /\ (k <= a.length) /\ (a.take k = b.take k)) ?_ ?_); rotate_left; (rintro U st ⟨k, rfl, q0, q1, q5, qp0, qp1⟩); rotate_left
  ·(refine ⟨_, 0, rfl, ?_⟩); (simp (disch := omega) only [go_sem, Nat.reduceBEq, and_self, Int.natCast_zero, z0n])
   try simp
  repeat' (first | refine zqj ?_ | ((first | refine zqh fun K J => ?_ | refine zqe (by decide +kernel) fun K J => ?_ | refine zqr fun K J => ?_); (simp (disch := omega) only [go_sem, Nat.reduceBEq, ↓reduceIte, reduceCtorEq, Nat.reduceAdd, q0, q1, q5, z0n])) | ((first | refine zqd _ rfl (fun hc => ?_) (fun hc => ?_) | refine zqm _ rfl (fun hc => ?_) (fun hc => ?_)) <;> (((try simp only [z03] at hc); (try (exfalso; omega))))) | refine zqa ?_ | refine zqb ?_ | refine zqc ?_ | refine zqk ?_ | refine zqn ?_ | refine zqv ?_ | refine zqx ?_ | refine zqy ?_ | refine zqz ?_ | refine z4f ?_ | refine zqp ?_ | refine zqo ?_ | refine zqu (by (simp (disch := omega) only [go_sem]); rfl) rfl ?_ | (refine J _ ?_; clear J K))
  ·exact z00 (decide_eq_false (zvt (k := k) (by omega) hl (by assumption))).symm
  ·(refine Exists.intro _ (And.intro ?_ ⟨k + 1, rfl, ?_⟩)); rotate_left; (simp (disch := omega) only [go_sem, Nat.reduceBEq, q0, q1, q5, true_and, Int.natCast_add, Int.natCast_one, z0n]); rotate_left
   ·omega
   ·exact ⟨by omega, zb2 (by omega) hl qp1 (by assumption)⟩
  ·exact z00 (decide_eq_true (zer (by omega) hl qp1)).symm
theorem zsu : ∀ a : T, szB a = true -> ∀ b : T, szB b = true -> PC Tryz.prog 16 [z1a a, z1a b] (.bool (decide (a = b))) := by
 refine z3y fun a ih hs b hb => ?_
 obtain ⟨a0, a1, _, a2, _, a3, a4⟩ := (z1q a).1 hs
 obtain ⟨b0, b1, _, b2, _, b3, b4⟩ := (z1q b).1 hb
 have r1 := zmp a.head b.head (by unfold maxLen; omega) (by unfold maxLen; omega)
 have r2 := zmp a.words b.words (by unfold maxLen; omega) (by unfold maxLen; omega)
 refine z1v 1 (by simp only [pureD.pureL, z04, Bool.and_self]) rfl (z1t [] Tryz.func16 rfl (by decide +kernel) z0k (by decide +kernel) (by simp [Tryz.ntmps16]) ?_)
 show awp _ _ (Code.seq _ _) _ _
 repeat' (first | refine zqj ?_ | ((first | refine zqh fun K J => ?_ | refine zqs (r1) ?_ | refine zqs (r2) ?_); (simp (disch := omega) only [go_sem, Nat.reduceBEq, ↓reduceIte, reduceCtorEq, Nat.reduceAdd, Nat.reduceLeDiff])) | ((refine zqd _ rfl (fun hc => ?_) (fun hc => ?_)) <;> (first | (cases hc; done) | ((try simp only [z03] at hc); (try (exfalso; omega))))) | refine zqa ?_ | refine zqb ?_ | refine zqg ?_ | refine zqu (by (simp (disch := omega) only [go_sem]); rfl) rfl ?_ | (refine J _ ?_; clear J K) | (refine zqf (fun hb => ?_) (fun hb => ?_) <;> (have hb2 := hb; try simp only [z03] at hb2) <;> ((first | have F := eq_false hb2 | have F := eq_true hb2); (simp (disch := omega) only [go_sem, Nat.reduceBEq, ↓reduceIte, reduceCtorEq, Nat.reduceAdd, F, z0e]); clear hb F; (try (exfalso; omega)))))
 rotate_left
 rotate_left
 all_goals first | exact z00 (decide_eq_false (fun h => by subst h; contradiction)).symm | skip
 have hl : a.kids.length = b.kids.length := by omega
 (refine z35 (fun U st => ∃ (k : _), U = a.kids.length - k /\ st.t 2 = .ptr 0 0 /\ st.t 3 = .ptr 1 0 /\ st.t 5 = .int .i64 k /\ st.H 0 = some (.box 27 (z05 a)) /\ st.H 1 = some (.box 27 (z05 b)) /\ (k <= a.kids.length) /\ (2 <= st.nx) /\ (a.kids.take k = b.kids.take k)) ?_ ?_); rotate_left; (rintro U st ⟨k, rfl, q2, q3, q5, qH0, qH1, qp0, qp1, qp2⟩); rotate_left
 ·(refine ⟨_, 0, rfl, ?_⟩); (simp (disch := omega) only [go_sem, Nat.reduceBEq, Nat.reduceLeDiff, and_self, Int.natCast_zero])
  try simp
 by_cases hk : k < a.kids.length
 ·have hin := ih a.kids[k] (List.getElem_mem hk) (a4 _ (List.getElem_mem hk)) b.kids[k] (b4 _ (List.getElem_mem (by omega)))
  repeat' (first | refine zqj ?_ | ((first | refine zqh fun K J => ?_ | refine zqe (by decide +kernel) fun K J => ?_ | refine zqr fun K J => ?_ | refine zqt (hin) ?_); (simp (disch := omega) only [go_sem, Nat.reduceBEq, ↓reduceIte, reduceCtorEq, Nat.reduceAdd, q2, q3, q5, qH0, qH1, z0e])) | ((first | refine zqd _ rfl (fun hc => ?_) (fun hc => ?_) | refine zqm _ rfl (fun hc => ?_) (fun hc => ?_)) <;> (((try simp only [z03] at hc); (try (exfalso; omega))))) | refine zqa ?_ | refine zqb ?_ | refine zqk ?_ | refine zqn ?_ | refine zqv ?_ | refine zqx ?_ | refine zqy ?_ | refine z4f ?_ | refine zqo ?_ | refine zqu (by (simp (disch := omega) only [go_sem]); rfl) rfl ?_ | (refine J _ ?_; clear J K))
  ·exact z00 (decide_eq_false (fun h => zvt hk hl (by assumption) (congrArg T.kids h))).symm
  ·(refine Exists.intro _ (And.intro ?_ ⟨k + 1, rfl, ?_⟩)); rotate_left; (simp (disch := omega) only [go_sem, Nat.reduceBEq, q2, q3, q5, qH0, qH1, true_and, Int.natCast_add, Int.natCast_one]); rotate_left
   ·omega
   ·exact ⟨by omega, by omega, zb2 hk hl qp2 (by assumption)⟩
 ·repeat' (first | refine zqj ?_ | ((refine zqh fun K J => ?_); (simp (disch := omega) only [go_sem, Nat.reduceBEq, ↓reduceIte, reduceCtorEq, Nat.reduceAdd, q2, q5, qH0, z0e])) | ((refine zqd _ rfl (fun hc => ?_) (fun hc => ?_)) <;> (((try simp only [z03] at hc); (try (exfalso; omega))))) | refine zqc ?_ | refine zqn ?_ | refine zqv ?_ | refine zqz ?_ | refine zqp ?_ | refine zqu (by (simp (disch := omega) only [go_sem]); rfl) rfl ?_ | (refine J _ ?_; clear J K))
  refine z00 (decide_eq_true ?_).symm
  have hkk := zer (by omega) hl qp2
  rw [<- T.eta a, <- T.eta b, ‹a.id = b.id›, ‹a.kind = b.kind›, ‹a.label = b.label›, ‹a.head = b.head›, ‹a.words = b.words›, hkk]
theorem zmq (l : List Wd) (hl : l.length <= 1000000) : PC Tryz.prog 79 [z0n l] (z0n (l.map fun w => ⟨w.text, Idv.zero⟩)) := by
 refine z1v 2 (by simp only [pureD.pureL, z0w, Bool.and_self]) (z0w _) (z1t [5] Tryz.func79 rfl (by decide +kernel) z0k (by decide +kernel) (by simp [Tryz.ntmps79]) ?_)
 show awp _ _ (Code.seq _ _) _ _
 repeat' (first | refine zqj ?_ | ((refine zqh fun K J => ?_); (simp (disch := omega) only [go_sem, Nat.reduceBEq, ↓reduceIte, reduceCtorEq, Nat.reduceMul, z0n])) | refine zqa ?_ | (refine J _ ?_; clear J K))
 (refine z35 (fun U st => ∃ (k : _), U = l.length - k /\ st.t 0 = z0n l /\ st.t 3 = .osl 0 k /\ st.t 4 = .int .i64 k /\ st.H 0 = some (.row 113 k (((l.take k).map fun w => (⟨w.text, Idv.zero⟩ : Wd)).flatMap z5n)) /\ (k <= l.length)) ?_ ?_); rotate_left; (rintro U st ⟨k, rfl, q0, q3, q4, qH0, qp0⟩); rotate_left
 ·(refine ⟨_, 0, rfl, ?_⟩); (simp (disch := omega) only [go_sem, Nat.reduceBEq, and_self, Int.natCast_zero, List.flatMap_nil, List.map_nil, z0n])
 by_cases hk : k < l.length
 ·have htk := List.take_succ_eq_append_getElem hk
  repeat' (first | refine zqj ?_ | ((first | refine zqh fun K J => ?_ | refine zqr fun K J => ?_); (simp (disch := omega) only [go_sem, Nat.reduceBEq, ↓reduceIte, reduceCtorEq, Nat.reduceAdd, Nat.reduceMul, Nat.reduceLeDiff, q0, q3, q4, qH0, z0n])) | ((refine zqd _ rfl (fun hc => ?_) (fun hc => ?_)) <;> (((try simp only [z03] at hc); (try (exfalso; omega))))) | refine zqa ?_ | refine zqb ?_ | refine zqv ?_ | refine zqy ?_ | (refine J _ ?_; clear J K))
  (refine Exists.intro _ (And.intro ?_ ⟨k + 1, rfl, ?_⟩)); rotate_left; (simp (disch := omega) only [go_sem, Nat.reduceBEq, q0, q3, q4, qH0, true_and, Int.natCast_add, Int.natCast_one, List.flatMap_append, List.flatMap_cons, List.flatMap_nil, List.map_append, List.map_cons, List.map_nil, List.append_nil, htk, z5n, Idv.zero]); rotate_left
  ·omega
  ·omega
 ·repeat' (first | refine zqj ?_ | ((refine zqh fun K J => ?_); (simp (disch := omega) only [go_sem, Nat.reduceBEq, ↓reduceIte, q0, q3, q4, z0n])) | ((refine zqd _ rfl (fun hc => ?_) (fun hc => ?_)) <;> (((try simp only [z03] at hc); (try (exfalso; omega))))) | refine zqc ?_ | refine zqn ?_ | refine zqv ?_ | refine zqz ?_ | refine zqp ?_ | refine zqu (by (simp (disch := omega) only [go_sem]); rfl) rfl ?_ | (refine J _ ?_; clear J K))
  have hk2 : k = l.length := by omega
  subst hk2
  rw [List.take_length] at qH0
  have hlen : l.length = (l.map fun w => (⟨w.text, Idv.zero⟩ : Wd)).length := by simp
  rw [hlen] at qH0 ⊢
  refine z50 (z1z 0 ?_ zd7 zgg (fun _ => rfl) (fun _ => rfl))
  (simp (disch := omega) only [go_sem, qH0])
namespace Tr
theorem z52 {id : Idv} {t : T} (h : t.id = id) : z1i id t = [t] := by rw [z8n, if_pos h]
theorem z3s {id : Idv} {t : T} {i : Nat} (h0 : ¬ t.id = id) (hi : i < t.kids.length) (h1 : ∀ j, (hj : j < i) -> (h : j < t.kids.length) -> z1i id t.kids[j] = []) (h2 : z1i id t.kids[i] ≠ []) : z1i id t = t :: z1i id t.kids[i] := by
 rw [z8n, if_neg h0, zep (z1i id) hi h1 h2]
theorem zes {id : Idv} {t : T} {i : Nat} (h0 : ¬ t.id = id) (hi : t.kids.length <= i) (h1 : ∀ j, (hj : j < i) -> (h : j < t.kids.length) -> z1i id t.kids[j] = []) : z1i id t = [] := by
 rw [z8n, if_neg h0, zeo (z1i id) h1 hi]
theorem zvu {id : Idv} {t : T} (h : z1i id t ≠ []) : (z0b id t).2 = true := by unfold z0b; rw [zcv _ h]
theorem zd6 {id : Idv} {t : T} (h : z1i id t = []) : z0b id t = (T.zero, false) := by unfold z0b; rw [h]; rfl
theorem zsv {id : Idv} {t : T} : (z0b id t).2 = false ↔ z1i id t = [] := by
 constructor
 ·intro h
  by_cases h2 : z1i id t = []
  ·exact h2
  ·rw [zvu h2] at h; cases h
 ·intro h; rw [zd6 h]
theorem zbw {id : Idv} {t : T} : (z0b id t).2 = true ↔ z1i id t ≠ [] := by
 rw [<- Bool.not_eq_false, zsv]
theorem z29 {id : Idv} {t : T} (h : t.id = id) : z0b id t = (t, true) := by unfold z0b; rw [z52 h]; rfl
theorem z3i {id : Idv} {t k : T} (h : z1i id t = t :: z1i id k) (h2 : z1i id k ≠ []) : z0b id t = z0b id k := by
 unfold z0b
 rw [h, List.getLast?_cons_of_ne_nil h2]
end Tr
namespace Tr
theorem zjr {id : Idv} {t : T} {i : Nat} (h0 : ¬ t.id = id) (hi : i < t.kids.length) (h1 : ∀ j, (hj : j < i) -> (h : j < t.kids.length) -> z1i id t.kids[j] = []) (h2 : t.kids[i].id = id) : z31 id t = (t.id, (i : Int), true) := by
 have hw := z52 h2
 have hw2 := z3s h0 hi h1 (by rw [hw]; simp)
 rw [hw] at hw2
 have hn : z2e (fun k => !(z1i id k).isEmpty) t.kids = i := z3t (by omega) (fun j hj => by rw [h1 j hj (by omega)]; rfl) (fun h => by rw [hw]; rfl)
 unfold z31
 simp only [hw2, List.length_cons, List.length_nil]
 rw [dif_neg (by omega)]
 simp only [show 0 + 1 + 1 - 2 = 0 from rfl, List.getElem_cons_zero, hn, hi, if_true]
theorem zsw {id : Idv} {t : T} {i : Nat} (h0 : ¬ t.id = id) (hi : i < t.kids.length) (h1 : ∀ j, (hj : j < i) -> (h : j < t.kids.length) -> z1i id t.kids[j] = []) (h2 : ¬ t.kids[i].id = id) (h3 : z1i id t.kids[i] ≠ []) : z31 id t = z31 id t.kids[i] := by
 have hw2 := z3s h0 hi h1 h3
 have hl : 2 <= (z1i id t.kids[i]).length := by
  rw [z8n, if_neg h2] at h3 ⊢
  split
  ·rename_i w hw
   have := List.find?_some hw
   cases w with
   | nil => simp at this
   | cons a w => simp
  ·rename_i hw; rw [hw] at h3; exact (h3 rfl).elim
 unfold z31
 simp only [hw2, List.length_cons]
 rw [dif_neg (by omega), dif_neg (by omega)]
 have e : (z1i id t.kids[i]).length + 1 - 2 = (z1i id t.kids[i]).length - 2 + 1 := by omega
 simp only [e, List.getElem_cons_succ]
theorem zet {id : Idv} {t : T} (h : t.id = id) : z54 id t = [] := by unfold z54; rw [z52 h]; rfl
theorem zmr {id : Idv} {t : T} {i : Nat} (h0 : ¬ t.id = id) (hi : i < t.kids.length) (h1 : ∀ j, (hj : j < i) -> (h : j < t.kids.length) -> z1i id t.kids[j] = []) (h3 : z1i id t.kids[i] ≠ []) : z54 id t = z54 id t.kids[i] ++ [t.id] := by
 unfold z54
 rw [z3s h0 hi h1 h3, List.dropLast_cons_of_ne_nil h3, List.map_cons, List.reverse_cons]
end Tr
end
section
open Abs Facts Tr Go.RowKit
namespace Abs
theorem zej : ∀ (vs a b : List D) (off : Nat), z13 (a ++ b) (a.length + off) vs = a ++ z13 b off vs
 | [], a, b, off => rfl
 | v :: vs, a, b, off => by
  unfold z13
  rw [List.set_append_right _ _ (by omega), show a.length + off - a.length = off from by omega, Nat.add_assoc, zej vs a (b.set off v) (off + 1)]
section
variable {α : Type} {f : α -> List D} {sz : Nat}
theorem zmf (h : ∀ x, (f x).length = sz) : ∀ l : List α, (l.flatMap f).length = l.length * sz
 | [] => by simp
 | x :: l => by rw [List.flatMap_cons, List.length_append, h, zmf h l, List.length_cons, Nat.add_mul]; omega
theorem z1h : ∀ (vs cs : List D), vs.length = cs.length -> z13 cs 0 vs = vs := by
 intro vs cs h
 rw [z87 vs cs 0 (by omega)]
 simp [<- h]
end
variable {P : Program}
theorem z4a {α : Type} {P : Program} {H : HM} {id e sz n : Nat} {f : α -> List D} {l : List α} (k : Nat) (hn : l.length = n) (hH : H id = some (.row e n (l.flatMap f))) (ha : z0f P e = true) (hs : z06 P e = sz) (h : ∀ x, (f x).length = sz) (hp : ∀ x, pureD.pureL (f x) = true) :
  z30 P H (k + 2) (.osl id n) = some (.rsl false sz (l.map fun x => .agg (f x))) := by
 subst hn
 exact z1z k hH ha hs h hp
theorem zof {st : St} {b off : Nat} {e : TypeId} {cs : List D} (e' : TypeId) (hb : st.H b = some (.box e cs)) (hoff : cs[off]? = some .nil) :
  SealTo P st { st with H := z1u (z1u st.H st.nx (some (.row e' 0 []))) b (some (.box e (cs.set off (.osl st.nx 0)))), nx := st.nx + 1 } := by
 intro N s a w hf
 have hHb : s.H b = some (.box e cs) := by rw [hf.H]; exact hb
 have hne : b ≠ s.nx := by have := (hf.heap.obj b _ hHb).1; omega
 obtain ⟨g1, g2⟩ := z6k hf.heap (Grew.refl w) (.row e' 0 []) (.slice none 0 0) (fun b hb => by cases hb) ⟨[], ⟨by simp, .inl ⟨rfl, rfl⟩⟩, z0t, by intro v hv; cases hv⟩
 have hb2 : (s.add (.slice none 0 0) (.row e' 0 [])).H b = some (.box e cs) := by simp [RS.add, z1u, hne, hHb]
 obtain ⟨_, q2⟩ := g2.obj b _ hb2
 obtain ⟨g3, g4⟩ := z9v (w' := w) g2 b _ (.box e (cs.set off (.osl s.nx 0))) ((s.add (.slice none 0 0) (.row e' 0 [])).κ b) hb2 rfl rfl rfl (Nat.le_refl _) (fun _ _ _ => rfl) (.inr ⟨_, rfl, rfl⟩) (fun b hb => .inl hb) (fun hl => by
  obtain ⟨b', vs, u1, u2, u3, u4⟩ := q2
  refine ⟨b', vs, u1, u2, ?_, u4⟩
  have hlen := z09 u3
  refine z4w (by rw [List.length_set]; exact hlen) fun i d v hd hv => ?_
  rw [List.getElem?_set] at hd
  split at hd
  ·rename_i hio
   subst hio
   split at hd
   ·cases hd
    obtain ⟨v', hv', hr⟩ := z27 u3 _ _ hoff
    rw [hv'] at hv
    cases hv
    simp only [rel] at hr ⊢
    subst hr
    refine ⟨by simp [RS.set, RS.add], ⟨_, _, rfl⟩, fun e2 k cs hH => ⟨Nat.zero_le _, fun _ => ?_⟩⟩
    simp only [RS.set, RS.add]
    rw [if_neg (fun h => hne h.symm)]
    simp
   ·cases hd
  ·obtain ⟨v', hv', hr⟩ := z27 u3 _ _ hd
   rw [hv'] at hv
   cases hv
   exact rel.later hl _ _ hr)
 refine ⟨_, ⟨?_, ?_, hf.size, hf.defers, fun i => rel.later (g1.trans g3).later _ _ (hf.tmps i), g4⟩, g1.trans g3⟩
 ·simp only [RS.set, RS.add, hf.H, hf.nx]
 ·simp only [RS.set, RS.add, hf.nx]
theorem z01 {N id : Nat} {l : List Oper} {b : Code} {own : List Nat} {Q : Exit -> St -> Prop} {st : St} (_hid : (id == N) = false) (h : ∀ K : St -> Prop, (∀ st, awp P own b Q st -> K st) -> z2m P own (l.map (·.dst)) l K st) : awp P own (.seq (.region id l.toArray false) b) Q st := zqh h
theorem z18 {N id : Nat} {l : List Oper} {b : Code} {own : List Nat} {Q : Exit -> St -> Prop} {st : St} (_hid : (id == N) = false) (h0 : zft own l.toArray = true) (h : ∀ K : St -> Prop, (∀ st, awp P own b Q st -> K st) -> z37 P own (l.map (·.dst)) l K st) : awp P own (.seq (.region id l.toArray true) b) Q st := zqe h0 h
end Abs
end
section
open Abs Facts Tr
attribute [local irreducible] awp
namespace Tr
def zfb (w : Wd) : Wd := ⟨w.text, Idv.zero⟩
def z6d (t : T) : T := zc1 (fun t l => .mk Idv.zero t.kind t.label (t.head.map zfb) (t.words.map zfb) l) t
theorem zk2 (t : T) : z6d t = .mk Idv.zero t.kind t.label (t.head.map zfb) (t.words.map zfb) (t.kids.map z6d) := by unfold z6d; rw [z2l]
theorem zwa : ∀ t : T, szB t = true -> szB (z6d t) = true := by
 refine z3y fun t ih h => ?_
 obtain ⟨h0, h1, h2, h3, h4, h5, h6⟩ := (z1q t).1 h
 rw [zk2, z1q]
 refine ⟨h0, (show (t.head.map zfb).length <= _ by simpa using h1), fun w hw => ?_, (show (t.words.map zfb).length <= _ by simpa using h3), fun w hw => ?_, (show (t.kids.map z6d).length <= _ by simpa using h5), fun k hk => ?_⟩
 ·obtain ⟨x, hx, rfl⟩ := List.mem_map.1 hw; exact h2 x hx
 ·obtain ⟨x, hx, rfl⟩ := List.mem_map.1 hw; exact h4 x hx
 ·obtain ⟨x, hx, rfl⟩ := List.mem_map.1 hk; exact ih x hx (h6 x hx)
end Tr
theorem zth : ∀ t : T, szB t = true -> PC Tryz.prog 56 [z1a t] (z1a (z6d t)) := by
 refine z3y fun t ih hs => ?_
 obtain ⟨h0, h1, g1, h2, g2, h3, h4⟩ := (z1q t).1 hs
 have b1 : PC Tryz.prog 79 [z0n t.head] (z0n (t.head.map zfb)) := zmq t.head h1
 have b2 : PC Tryz.prog 79 [z0n t.words] (z0n (t.words.map zfb)) := zmq t.words h2
 rw [zk2]
 refine z1v 4 (by simp only [pureD.pureL, z04, Bool.and_self]) (z04 _) (z1t [3000006, 3000008, 3000010, 5000011, 3000013, 5000014] Tryz.func56 rfl (by decide +kernel) z0k (by decide +kernel) (by simp [Tryz.ntmps56]) ?_)
 show awp _ _ (Code.seq _ _) _ _
 rw [show Tryz.f56.results.toList = [.cell 2 27] from rfl]
 repeat' (first | refine zqj ?_ | ((first | refine z01 (N := 2) rfl fun K J => ?_ | refine z18 (N := 2) rfl (by decide +kernel) fun K J => ?_ | refine zqt (b1) ?_ | refine zqt (b2) ?_); (simp (disch := omega) only [go_sem, Nat.reduceBEq, Nat.reduceEqDiff, ↓reduceIte, reduceCtorEq, Nat.reduceAdd, Nat.reduceLeDiff, z0n])) | (refine J _ ?_; clear J K))
 refine z51 fun K J => ?_
 (simp (disch := omega) only [go_sem])
 refine J _ _ (zof (b := 2) (off := 7) (e := 27) 27 (by (simp (disch := omega) only [go_sem, Nat.reduceBEq]); rfl) rfl) ?_
 clear J K
 repeat' (refine zqa ?_)
 (refine z35 (fun U st => ∃ (i : _), U = t.kids.length - i /\ st.t 1 = .ptr 0 0 /\ st.t 2 = .ptr 1 0 /\ st.t 3 = .ptr 2 0 /\ st.t 4 = .int .i64 i /\ st.H 0 = some (.box 27 (z05 t)) /\ st.H 1 = some (.box 27 [.int .i64 0, .int .i64 0, .int .i64 0, .int .i64 0, .str ByteArray.empty, .nil, .nil, .nil]) /\ st.H 2 = some (.box 27 [.int .i64 0, .int .i64 0, .int .i64 0, .int .i64 t.kind, .str t.label, z0n (t.head.map zfb), z0n (t.words.map zfb), .osl 3 i]) /\ st.H 3 = some (.row 27 i (((t.kids.take i).map z6d).flatMap z05)) /\ (i <= t.kids.length) /\ (4 <= st.nx)) ?_ ?_); rotate_left; (rintro U st ⟨i, rfl, q1, q2, q3, q4, qH0, qH1, qH2, qH3, qp0, qp1⟩); rotate_left
 ·(refine ⟨_, 0, rfl, ?_⟩); (simp (disch := omega) only [go_sem, Nat.reduceBEq, Nat.reduceAdd, Nat.reduceLeDiff, and_self, Int.natCast_zero, List.flatMap_nil, List.map_nil, z0n, List.set_cons_succ, List.set_cons_zero])
 by_cases hi : i < t.kids.length
 ·have hin := ih t.kids[i] (List.getElem_mem hi) (h4 _ (List.getElem_mem hi))
  have htk := List.take_succ_eq_append_getElem hi
  repeat' (first | refine zqj ?_ | ((first | refine zqh fun K J => ?_ | refine zqr fun K J => ?_ | refine zqq (by decide +kernel) fun K J => ?_ | refine zqt (hin) ?_); (simp (disch := omega) only [go_sem, Nat.reduceBEq, Nat.reduceEqDiff, ↓reduceIte, reduceCtorEq, Nat.reduceAdd, Nat.reduceMul, Nat.reduceLeDiff, Nat.reduceLT, q1, q3, q4, qH0, qH2, qH3, z0e])) | ((refine zqd _ rfl (fun hc => ?_) (fun hc => ?_)) <;> (((try simp only [z03] at hc); (try (exfalso; omega))))) | refine zqa ?_ | refine zqb ?_ | refine zqv ?_ | refine zqy ?_ | (refine J _ ?_; clear J K))
  (refine Exists.intro _ (And.intro ?_ ⟨i + 1, rfl, ?_⟩)); rotate_left; (simp (disch := omega) only [go_sem, Nat.reduceBEq, q1, q2, q3, q4, qH0, qH1, qH2, qH3, true_and, Int.natCast_add, Int.natCast_one, List.flatMap_append, List.flatMap_cons, List.flatMap_nil, List.map_append, List.map_cons, List.map_nil, List.append_nil, htk]); rotate_left
  ·omega
  ·omega
 ·repeat' (first | refine zqj ?_ | ((refine zqh fun K J => ?_); (simp (disch := omega) only [go_sem, Nat.reduceBEq, ↓reduceIte, reduceCtorEq, Nat.reduceAdd, Nat.reduceLeDiff, q1, q2, q3, q4, qH0, qH1, qH2, z0e])) | ((refine zqd _ rfl (fun hc => ?_) (fun hc => ?_)) <;> (((try simp only [z03] at hc); (try (exfalso; omega))))) | refine zqc ?_ | refine zqn ?_ | refine zqv ?_ | refine zqz ?_ | refine zqp ?_ | refine zqu (by (simp (disch := omega) only [go_sem, Nat.reduceBEq, ↓reduceIte, Nat.reduceAdd, Nat.reduceLeDiff, q2, qH1]); rfl) rfl ?_ | (refine J _ ?_; clear J K))
  have hi2 : i = t.kids.length := by omega
  subst hi2
  rw [List.take_length] at qH3
  rw [z1a, z0y]
  have hlen : t.kids.length = (t.kids.map z6d).length := by simp
  refine z50 (ze3 (k := 3) (by simp [pureD.pureL, pureD]) ?_)
  refine z0q (z0p 2 rfl) (z0q (z0p 2 rfl) (z0q (z0p 2 rfl) (z0q (z0p 2 rfl) (z0q (z0p 2 rfl) (z0q (z0p 2 (z0w _)) (z0q (z0p 2 (z0w _)) (z0q ?_ z90)))))))
  rw [hlen]
  refine z1z (f := z05) (l := t.kids.map z6d) 1 ?_ z5b z71 z0l z0d
  (simp (disch := omega) only [go_sem, Nat.reduceBEq, qH3])
theorem zzf (t : T) (hs : szB t = true) (hc : cntT t <= 1000000000) (hd : depT t <= 1000000000) : PC Tryz.prog 26 [z1a t] (.bool (z6o t && decide (t = z6d t))) := by
 have h1 := zwg t hs hc hd
 have h2 := zth t hs
 have h3 := zsu t hs (z6d t) (zwa t hs)
 refine z1v 1 (by simp only [pureD.pureL, z04, Bool.and_self]) rfl (z1t [] Tryz.func26 rfl (by decide +kernel) z0k (by decide +kernel) (by simp [Tryz.ntmps26]) ?_)
 show awp _ _ (Code.seq _ _) _ _
 repeat' (first | ((first | refine zqh fun K J => ?_ | refine zqe (by decide +kernel) fun K J => ?_ | refine zqt (h1) ?_ | refine zqt (h2) ?_ | refine zqt (h3) ?_); (simp (disch := omega) only [go_sem, Nat.reduceBEq, ↓reduceIte, Nat.reduceAdd, Nat.reduceLeDiff])) | refine zqn ?_ | refine zqu (by (simp (disch := omega) only [go_sem]); rfl) rfl ?_ | (refine J _ ?_; clear J K) | (refine zqf (fun hb => ?_) (fun hb => ?_) <;> (have hb2 := hb; try simp only [z03] at hb2) <;> ((have F : (_ : Bool) = _ := hb2); (simp (disch := omega) only [go_sem, Nat.reduceBEq, ↓reduceIte, Nat.reduceAdd, Nat.reduceLeDiff, hb]); clear hb F; (try (exfalso; omega)))))
 all_goals refine z00 ?_
 all_goals (simp (disch := omega) only [Bool.true_and, Bool.false_and, *])
namespace Tr
end Tr
end
end Go.Proofs.YtppebcifiejplaaGreat
