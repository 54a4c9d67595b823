import Derived.Test.YtppebcifiejplaaGreatWC
import Derived.WalkKit
import Derived.Lib.Walk
import Derived.Lib.SliceRun
import Derived.Lib.AppendZerosOnto
import Derived.Lib.Overlaps
import Derived.Laws.Externs
import Derived.Laws.NewBlocks
import Derived.Shelf.Spec.SlicesInsert
/-
 Lemmas of the claim. No condition but those that each names.
-/
set_option linter.unusedSimpArgs false
set_option linter.unusedVariables false
set_option maxHeartbeats 8000000
set_option linter.unusedSectionVars false
namespace Go.Proofs.YtppebcifiejplaaGreat
section
open Abs Facts Tr
namespace Tr
structure Stp where
 kind : Int
 label : ByteArray
instance : DecidableEq Stp := fun a b => decidable_of_iff (a.kind = b.kind /\ a.label = b.label) ⟨fun ⟨h1, h2⟩ => by cases a; cases b; simp_all, fun h => by subst h; exact ⟨rfl, rfl⟩⟩
inductive It where
 | mk (kind : Int) (at_ to : List Stp) (wh nth : Int) (unit : T) (old new : List ByteArray) (label for_ : ByteArray) (sk sd : Int) (se : ByteArray) (act item day : Int) (event : ByteArray) (by_ : List It)
namespace It
def kind : It -> Int | .mk k _ _ _ _ _ _ _ _ _ _ _ _ _ _ _ _ _ => k
def at_ : It -> List Stp | .mk _ a _ _ _ _ _ _ _ _ _ _ _ _ _ _ _ _ => a
def to : It -> List Stp | .mk _ _ a _ _ _ _ _ _ _ _ _ _ _ _ _ _ _ => a
def wh : It -> Int | .mk _ _ _ a _ _ _ _ _ _ _ _ _ _ _ _ _ _ => a
def nth : It -> Int | .mk _ _ _ _ a _ _ _ _ _ _ _ _ _ _ _ _ _ => a
def unit : It -> T | .mk _ _ _ _ _ a _ _ _ _ _ _ _ _ _ _ _ _ => a
def old : It -> List ByteArray | .mk _ _ _ _ _ _ a _ _ _ _ _ _ _ _ _ _ _ => a
def new : It -> List ByteArray | .mk _ _ _ _ _ _ _ a _ _ _ _ _ _ _ _ _ _ => a
def label : It -> ByteArray | .mk _ _ _ _ _ _ _ _ a _ _ _ _ _ _ _ _ _ => a
def for_ : It -> ByteArray | .mk _ _ _ _ _ _ _ _ _ a _ _ _ _ _ _ _ _ => a
def sk : It -> Int | .mk _ _ _ _ _ _ _ _ _ _ a _ _ _ _ _ _ _ => a
def sd : It -> Int | .mk _ _ _ _ _ _ _ _ _ _ _ a _ _ _ _ _ _ => a
def se : It -> ByteArray | .mk _ _ _ _ _ _ _ _ _ _ _ _ a _ _ _ _ _ => a
def act : It -> Int | .mk _ _ _ _ _ _ _ _ _ _ _ _ _ a _ _ _ _ => a
def item : It -> Int | .mk _ _ _ _ _ _ _ _ _ _ _ _ _ _ a _ _ _ => a
def day : It -> Int | .mk _ _ _ _ _ _ _ _ _ _ _ _ _ _ _ a _ _ => a
def event : It -> ByteArray | .mk _ _ _ _ _ _ _ _ _ _ _ _ _ _ _ _ a _ => a
def by_ : It -> List It | .mk _ _ _ _ _ _ _ _ _ _ _ _ _ _ _ _ _ a => a
end It
mutual
theorem zl9 {p : It -> Prop} (h : ∀ t, (∀ k ∈ t.by_, p k) -> p t) : ∀ t, p t
 | .mk a0 a1 a2 a3 a4 a5 a6 a7 a8 a9 a10 a11 a12 a13 a14 a15 a16 ks => h (.mk a0 a1 a2 a3 a4 a5 a6 a7 a8 a9 a10 a11 a12 a13 a14 a15 a16 ks) (ind2I h ks)
theorem ind2I {p : It -> Prop} (h : ∀ t, (∀ k ∈ t.by_, p k) -> p t) : ∀ (ks : List It), ∀ k ∈ ks, p k
 | [], k, hk => by cases hk
 | t :: ts, k, hk => by
  rcases List.mem_cons.1 hk with e | hk
  ·rw [e]; exact zl9 h t
  ·exact ind2I h ts k hk
end
mutual
def zt3 {β : Type} (f : It -> List β -> β) : It -> β
 | .mk a0 a1 a2 a3 a4 a5 a6 a7 a8 a9 a10 a11 a12 a13 a14 a15 a16 ks => f (.mk a0 a1 a2 a3 a4 a5 a6 a7 a8 a9 a10 a11 a12 a13 a14 a15 a16 ks) (zvy f ks)
def zvy {β : Type} (f : It -> List β -> β) : List It -> List β
 | [] => []
 | t :: ts => zt3 f t :: zvy f ts
end
theorem zms {β : Type} (f : It -> List β -> β) : ∀ ks, zvy f ks = ks.map (zt3 f)
 | [] => rfl
 | t :: ts => by simp [zvy, zms f ts]
theorem zbx {β : Type} (f : It -> List β -> β) (t : It) : zt3 f t = f t (t.by_.map (zt3 f)) := by
 cases t
 rw [zt3, zms]; rfl
end Tr
namespace Abs
open Tr
def z62 (s : Stp) : List D := [.int .i64 s.kind, .str s.label]
def z7n (s : Stp) : D := .agg (z62 s)
def z0a (l : List Stp) : D := .rsl false 2 (l.map z7n)
@[go_sem] theorem encSt_agg (s : Stp) : z7n s = .agg [.int .i64 s.kind, .str s.label] := rfl
theorem z0z (l : List Stp) : pureD (z0a l) = true := by simp only [z0a, pureD]; exact z1m (fun _ => rfl) l
@[go_sem] theorem zz3 (l : List Stp) : pureD.pureL (l.map z7n) = true := z1m (fun _ => rfl) l
def zmt (x : It) (ks : List (List D)) : List D := .int .i64 x.kind :: z0a x.at_ :: z0a x.to :: .int .i64 x.wh :: .int .i64 x.nth :: (z05 x.unit ++ [z39 x.old, z39 x.new, .str x.label, .str x.for_, .int .i64 x.sk, .int .i64 x.sd, .str x.se, .int .i64 x.act, .int .i64 x.item, .int .i64 x.day, .str x.event, .rsl false 25 (ks.map .agg)])
def z0h (x : It) : List D := zt3 zmt x
def zcs (x : It) : D := .agg (z0h x)
def z3c (l : List It) : D := .rsl false 25 (l.map zcs)
theorem zeu (x : It) : z0h x = .int .i64 x.kind :: z0a x.at_ :: z0a x.to :: .int .i64 x.wh :: .int .i64 x.nth :: (z05 x.unit ++ [z39 x.old, z39 x.new, .str x.label, .str x.for_, .int .i64 x.sk, .int .i64 x.sd, .str x.se, .int .i64 x.act, .int .i64 x.item, .int .i64 x.day, .str x.event, z3c x.by_]) := by
 unfold z0h
 rw [zbx, zmt, List.map_map]; rfl
theorem z0g (x : It) : z0h x = [.int .i64 x.kind, z0a x.at_, z0a x.to, .int .i64 x.wh, .int .i64 x.nth, .int .i64 x.unit.id.act, .int .i64 x.unit.id.item, .int .i64 x.unit.id.n, .int .i64 x.unit.kind, .str x.unit.label, z0n x.unit.head, z0n x.unit.words, z0e x.unit.kids,
  z39 x.old, z39 x.new, .str x.label, .str x.for_, .int .i64 x.sk, .int .i64 x.sd, .str x.se, .int .i64 x.act, .int .i64 x.item, .int .i64 x.day, .str x.event, z3c x.by_] := by
 rw [zeu, z0y]; rfl
@[go_sem] theorem encIt_agg (x : It) : zcs x = .agg (z0h x) := rfl
@[go_sem] theorem z9n (x : It) : (z0h x).length = 25 := by rw [z0g]; rfl
@[go_sem] theorem zju (x : It) : (z0h x)[0]? = some (.int .i64 x.kind) := by rw [z0g]; rfl
@[go_sem] theorem zor (x : It) : (z0h x)[1]? = some (z0a x.at_) := by rw [z0g]; rfl
@[go_sem] theorem zos (x : It) : (z0h x)[2]? = some (z0a x.to) := by rw [z0g]; rfl
@[go_sem] theorem zot (x : It) : (z0h x)[3]? = some (.int .i64 x.wh) := by rw [z0g]; rfl
@[go_sem] theorem zla (x : It) : (z0h x)[4]? = some (.int .i64 x.nth) := by rw [z0g]; rfl
@[go_sem] theorem zlb (x : It) : (z0h x)[13]? = some (z39 x.old) := by rw [z0g]; rfl
@[go_sem] theorem zlc (x : It) : (z0h x)[14]? = some (z39 x.new) := by rw [z0g]; rfl
@[go_sem] theorem zhb (x : It) : (z0h x)[15]? = some (.str x.label) := by rw [z0g]; rfl
@[go_sem] theorem zld (x : It) : (z0h x)[16]? = some (.str x.for_) := by rw [z0g]; rfl
@[go_sem] theorem zou (x : It) : (z0h x)[17]? = some (.int .i64 x.sk) := by rw [z0g]; rfl
@[go_sem] theorem zov (x : It) : (z0h x)[18]? = some (.int .i64 x.sd) := by rw [z0g]; rfl
@[go_sem] theorem zow (x : It) : (z0h x)[19]? = some (.str x.se) := by rw [z0g]; rfl
@[go_sem] theorem zle (x : It) : (z0h x)[20]? = some (.int .i64 x.act) := by rw [z0g]; rfl
@[go_sem] theorem zjv (x : It) : (z0h x)[21]? = some (.int .i64 x.item) := by rw [z0g]; rfl
@[go_sem] theorem zlf (x : It) : (z0h x)[22]? = some (.int .i64 x.day) := by rw [z0g]; rfl
@[go_sem] theorem zhc (x : It) : (z0h x)[23]? = some (.str x.event) := by rw [z0g]; rfl
@[go_sem] theorem zox (x : It) : (z0h x)[24]? = some (z3c x.by_) := by rw [z0g]; rfl
@[go_sem] theorem zjw (x : It) : List.take 8 (List.drop 5 (z0h x)) = z05 x.unit := by rw [z0g, z0y]; rfl
@[go_sem] theorem zvz (x : It) : List.take 3 (List.drop 17 (z0h x)) = [.int .i64 x.sk, .int .i64 x.sd, .str x.se] := by rw [z0g]; rfl
@[go_sem] theorem zjx (x : It) : List.take 25 (z0h x) = z0h x := List.take_of_length_le (by rw [z9n]; decide)
theorem z8q : ∀ x, pureD.pureL (z0h x) = true := by
 refine zl9 fun x ih => ?_
 rw [z0g]
 have hk : pureD (z3c x.by_) = true := by
  simp only [z3c, pureD]
  generalize x.by_ = l at ih ⊢
  induction l with
  | nil => rfl
  | cons t l ih2 =>
   simp only [List.map_cons, pureD.pureL, Bool.and_eq_true]
   exact ⟨by simpa only [zcs, pureD] using ih t (by simp), ih2 fun k hk => ih k (List.mem_cons_of_mem _ hk)⟩
 simp only [pureD.pureL, pureD, z0z, z0w, z1b, z2o, hk, Bool.and_self]
theorem z4r (x : It) : pureD (zcs x) = true := z8q x
theorem zlg (l : List It) : pureD (z3c l) = true := by simp only [z3c, pureD]; exact z1m z4r l
attribute [go_sem] z8q
end Abs
namespace Tr
structure EIt where
 act : Int
 item : Int
 day : Int
 it : It
end Tr
namespace Abs
def z0i (d : EIt) : List D := .int .i64 d.act :: .int .i64 d.item :: .int .i64 d.day :: z0h d.it
def zlh (d : EIt) : D := .agg (z0i d)
@[go_sem] theorem encEi_agg (d : EIt) : zlh d = .agg (z0i d) := rfl
@[go_sem] theorem zfa (d : EIt) : (z0i d).length = 28 := by unfold z0i; simp only [List.length_cons, z9n]
@[go_sem] theorem zz4 (d : EIt) : (z0i d)[0]? = some (.int .i64 d.act) := rfl
@[go_sem] theorem zwr (d : EIt) : (z0i d)[1]? = some (.int .i64 d.item) := rfl
@[go_sem] theorem cellsEi_it (d : EIt) : List.take 25 (List.drop 3 (z0i d)) = z0h d.it := by
 show List.take 25 (z0h d.it) = _
 rw [zjx]
@[go_sem] theorem zws (d : EIt) : List.take 28 (z0i d) = z0i d := List.take_of_length_le (by rw [zfa]; decide)
theorem zcj (d : EIt) : pureD.pureL (z0i d) = true := by unfold z0i; simp only [pureD.pureL, pureD, z8q, Bool.and_self]
theorem zb4 (d : EIt) : pureD (zlh d) = true := zcj d
attribute [go_sem] zcj
@[go_sem] theorem zw0 (d : EIt) : (z0i d)[3]? = some (.int .i64 d.it.kind) := by unfold z0i; simp only [List.getElem?_cons_succ, zju]
@[go_sem] theorem zz5 (d : EIt) : (z0i d)[4]? = some (z0a d.it.at_) := by unfold z0i; simp only [List.getElem?_cons_succ, zor]
@[go_sem] theorem zz6 (d : EIt) : (z0i d)[5]? = some (z0a d.it.to) := by unfold z0i; simp only [List.getElem?_cons_succ, zos]
@[go_sem] theorem zz7 (d : EIt) : (z0i d)[6]? = some (.int .i64 d.it.wh) := by unfold z0i; simp only [List.getElem?_cons_succ, zot]
@[go_sem] theorem zwt (d : EIt) : (z0i d)[7]? = some (.int .i64 d.it.nth) := by unfold z0i; simp only [List.getElem?_cons_succ, zla]
@[go_sem] theorem zwu (d : EIt) : (z0i d)[16]? = some (z39 d.it.old) := by unfold z0i; simp only [List.getElem?_cons_succ, zlb]
@[go_sem] theorem zwv (d : EIt) : (z0i d)[17]? = some (z39 d.it.new) := by unfold z0i; simp only [List.getElem?_cons_succ, zlc]
@[go_sem] theorem ztm (d : EIt) : (z0i d)[18]? = some (.str d.it.label) := by unfold z0i; simp only [List.getElem?_cons_succ, zhb]
@[go_sem] theorem zww (d : EIt) : (z0i d)[19]? = some (.str d.it.for_) := by unfold z0i; simp only [List.getElem?_cons_succ, zld]
@[go_sem] theorem zz8 (d : EIt) : (z0i d)[20]? = some (.int .i64 d.it.sk) := by unfold z0i; simp only [List.getElem?_cons_succ, zou]
@[go_sem] theorem zz9 (d : EIt) : (z0i d)[21]? = some (.int .i64 d.it.sd) := by unfold z0i; simp only [List.getElem?_cons_succ, zov]
@[go_sem] theorem zza (d : EIt) : (z0i d)[22]? = some (.str d.it.se) := by unfold z0i; simp only [List.getElem?_cons_succ, zow]
@[go_sem] theorem zwx (d : EIt) : (z0i d)[23]? = some (.int .i64 d.it.act) := by unfold z0i; simp only [List.getElem?_cons_succ, zle]
@[go_sem] theorem zw1 (d : EIt) : (z0i d)[24]? = some (.int .i64 d.it.item) := by unfold z0i; simp only [List.getElem?_cons_succ, zjv]
@[go_sem] theorem zwy (d : EIt) : (z0i d)[25]? = some (.int .i64 d.it.day) := by unfold z0i; simp only [List.getElem?_cons_succ, zlf]
@[go_sem] theorem ztn (d : EIt) : (z0i d)[26]? = some (.str d.it.event) := by unfold z0i; simp only [List.getElem?_cons_succ, zhc]
@[go_sem] theorem zzb (d : EIt) : (z0i d)[27]? = some (z3c d.it.by_) := by unfold z0i; simp only [List.getElem?_cons_succ, zox]
@[go_sem] theorem zwz (d : EIt) : List.take 8 (List.drop 8 (z0i d)) = z05 d.it.unit := by
 show List.take 8 (List.drop 5 (z0h d.it)) = _
 rw [zjw]
end Abs
end
section
open Abs Facts Tr
attribute [local irreducible] awp
namespace Tr
end Tr
namespace Abs
end Abs
namespace Tr
theorem zfd (deep most : Int) : ∀ (l : List T), (∀ k ∈ l, ∀ (d m : Int), 0 <= m -> 1 <= z3f k d m) -> ∀ n : Int, n <= z34 deep most (l.map z3f) n
 | [], _, n => by simp [z34]
 | k :: l, h, n => by
  simp only [List.map_cons, z34]
  split
  ·have h1 := h k (by simp) (deep + 1) (most - n) (by omega)
   have h2 := zfd deep most l (fun q hq => h q (List.mem_cons_of_mem _ hq)) (n + z3f k (deep + 1) (most - n))
   omega
  ·omega
theorem zda (deep most : Int) : ∀ (l : List T), (∀ k ∈ l, ∀ (m : Int), 0 <= m -> z3f k (deep + 1) m <= m -> (cntT k : Int) = z3f k (deep + 1) m /\ deep + 1 + depT k <= 20) -> ∀ n : Int, z34 deep most (l.map z3f) n <= most ->
  ((l.flatMap z08).length : Int) + n = z34 deep most (l.map z3f) n /\ ∀ k ∈ l, deep + 1 + depT k <= 20
 | [], _, n, _ => by simp [z34]
 | k :: l, h, n, hn => by
  simp only [List.map_cons, z34] at hn ⊢
  split at hn
  ·rename_i hle
   rw [if_pos hle]
   have hm := zfd deep most l (fun q _ d m hm => (z65 q d m hm).1) (n + z3f k (deep + 1) (most - n))
   obtain ⟨h1, h2⟩ := h k (by simp) (most - n) (by omega) (by omega)
   obtain ⟨h3, h4⟩ := zda deep most l (fun q hq => h q (List.mem_cons_of_mem _ hq)) _ hn
   refine ⟨?_, fun q hq => ?_⟩
   ·rw [List.flatMap_cons, List.length_append]
    have : (z08 k).length = cntT k := rfl
    omega
   ·rcases List.mem_cons.1 hq with rfl | hq
    ·exact h2
    ·exact h4 q hq
  ·omega
theorem zn2 (l : List T) (d : Int) (b : Int) (hb : d <= b) (h : ∀ k ∈ l, d + 1 + depT k <= b) : ∀ a : Nat, d + a <= b -> d + ((l.map depT).foldl (fun d x => max d (1 + x)) a : Nat) <= b := by
 induction l with
 | nil => intro a ha; simpa using ha
 | cons k l ih =>
  intro a ha
  rw [List.map_cons, List.foldl_cons]
  have := h k (by simp)
  exact ih (fun q hq => h q (List.mem_cons_of_mem _ hq)) _ (by omega)
theorem zk6 : ∀ t : T, ∀ (deep most : Int), 0 <= most -> z3f t deep most <= most -> (cntT t : Int) = z3f t deep most /\ deep + depT t <= 20 := by
 refine z3y fun t ih deep most hm h => ?_
 rw [zgm] at h ⊢
 split at h
 ·omega
 ·rename_i hd
  rw [if_neg hd]
  obtain ⟨h1, h2⟩ := zda deep most t.kids (fun k hk m hm h => ih k hk (deep + 1) m hm h) 1 h
  refine ⟨?_, ?_⟩
  ·rw [z3k]; omega
  ·rw [z3v]
   exact zn2 t.kids deep 20 (by omega) h2 0 (by omega)
theorem zu3 (t : T) : t.kids.length <= cntT t := by
 rw [z3k]
 have : ∀ l : List T, l.length <= (l.flatMap z08).length := by
  intro l
  induction l with
  | nil => simp
  | cons k l ih =>
   rw [List.flatMap_cons, List.length_append, List.length_cons]
   have := zgk k
   unfold cntT at this
   omega
 have := this t.kids
 omega
theorem zph (l : List Wd) : z7y l = true ↔ (∀ w ∈ l, w.text.size <= 100) /\ l.length <= 300 := by
 unfold z7y
 simp only [Bool.and_eq_true, List.all_eq_true, decide_eq_true_eq]
theorem zu4 : ∀ t : T, zdg t = true -> cntT t <= 1000000 -> szB t = true := by
 refine z3y fun t ih h hc => ?_
 rw [zhw] at h
 simp only [Bool.and_eq_true, decide_eq_true_eq, List.all_eq_true, zph] at h
 obtain ⟨h1, ⟨h2, h3⟩, ⟨h4, h5⟩, h6⟩ := h
 rw [z1q]
 have hk := zu3 t
 refine ⟨by omega, by omega, fun w hw => ?_, by omega, fun w hw => ?_, by omega, fun k hk => ih k hk (h6 k hk) ?_⟩
 ·have := h2 w hw; omega
 ·have := h4 w hw; omega
 ·have := z7x hk; omega
theorem zpi {t : T} {most : Int} (h0 : 0 <= most) (h1 : most <= 1000) (h : zum t most = true) : szB t = true /\ (cntT t : Int) <= most /\ depT t <= 20 := by
 unfold zum at h
 simp only [Bool.and_eq_true, decide_eq_true_eq] at h
 obtain ⟨g1, g2⟩ := zk6 t 0 most h0 h.1
 exact ⟨zu4 t h.2 (by omega), by omega, by omega⟩
end Tr
namespace Tr
theorem zxv : szB T.zero = true := by decide +kernel
theorem zbd (id : Idv) (t : T) (hs : szB t = true) : szB (z0b id t).1 = true := by
 by_cases h : z1i id t = []
 ·rw [zd6 h]; exact zxv
 ·unfold z0b
  rw [zcv _ h]
  exact z72 t hs _ (z9o id t _ (List.getElem_mem _))
theorem zud (id : Idv) (t : T) : (z54 id t).length <= depT t := by
 have h1 := z6c id t
 have h3 : (z54 id t).length = (z1i id t).length - 1 := by unfold z54; simp
 omega
end Tr
end
section
open Abs Facts Tr
namespace Tr
theorem z4q (id : Idv) : ∀ t : T, z1i id t = [] ↔ id ∉ z0c t := by
 refine z3y fun t ih => ?_
 rw [z1r, List.mem_cons, List.mem_flatMap]
 by_cases h0 : t.id = id
 ·rw [z52 h0]; simp [h0]
 ·rw [z8n, if_neg h0]
  constructor
  ·intro h hm
   rcases hm with hm | ⟨k, hk, hm⟩
   ·exact h0 hm.symm
   ·have hne : z1i id k ≠ [] := fun e => (ih k hk).1 e hm
    split at h
    ·cases h
    ·rename_i hf
     have := List.find?_eq_none.1 hf (z1i id k) (List.mem_map.2 ⟨k, hk, rfl⟩)
     simp at this
     exact hne this
  ·intro hm
   have : (t.kids.map (z1i id)).find? (fun w => !w.isEmpty) = none := by
    rw [List.find?_eq_none]
    intro w hw
    obtain ⟨k, hk, rfl⟩ := List.mem_map.1 hw
    have := (ih k hk).2 fun h => hm (.inr ⟨k, hk, h⟩)
    rw [this]; simp
   rw [this]
theorem z3p {id : Idv} {t : T} : z1i id t ≠ [] ↔ id ∈ z0c t := by
 rw [ne_eq, z4q, Classical.not_not]
theorem z8p {id : Idv} {t : T} (h0 : ¬ t.id = id) (h : z1i id t ≠ []) : ∃ i, ∃ hi : i < t.kids.length, (∀ j, (hj : j < i) -> (h : j < t.kids.length) -> z1i id t.kids[j] = []) /\ z1i id t.kids[i] ≠ [] /\ z1i id t = t :: z1i id t.kids[i] := by
 have hex : ∃ i, ∃ hi : i < t.kids.length, z1i id t.kids[i] ≠ [] := by
  rcases Classical.em (∃ i, ∃ hi : i < t.kids.length, z1i id t.kids[i] ≠ []) with h1 | h1
  ·exact h1
  ·exfalso
   refine h (zes h0 (Nat.le_refl _) fun j _ hj => ?_)
   rcases Classical.em (z1i id t.kids[j] = []) with h2 | h2
   ·exact h2
   ·exact (h1 ⟨j, hj, h2⟩).elim
 let p : Nat -> Prop := fun i => ∃ hi : i < t.kids.length, z1i id t.kids[i] ≠ []
 obtain ⟨i, hi, hmin⟩ : ∃ i, p i /\ ∀ j, j < i -> ¬ p j := by
  obtain ⟨i, hi⟩ := hex
  induction i using Nat.strongRecOn with
  | ind i ih =>
   rcases Classical.em (∃ j, j < i /\ p j) with ⟨j, hj, hp⟩ | h2
   ·exact ih j hj hp
   ·exact ⟨i, hi, fun j hj hp => h2 ⟨j, hj, hp⟩⟩
 obtain ⟨hl, hw⟩ := hi
 have h1 : ∀ j, (hj : j < i) -> (h : j < t.kids.length) -> z1i id t.kids[j] = [] := fun j hj h => by
  rcases Classical.em (z1i id t.kids[j] = []) with h2 | h2
  ·exact h2
  ·exact (hmin j hj ⟨h, h2⟩).elim
 exact ⟨i, hl, h1, hw, z3s h0 hl h1 hw⟩
theorem z99 {t : T} (h : (z0c t).Nodup) : (∀ k ∈ t.kids, t.id ∉ z0c k) /\ (∀ k ∈ t.kids, (z0c k).Nodup) /\ ∀ i j, (hi : i < t.kids.length) -> (hj : j < t.kids.length) -> i ≠ j -> ∀ x ∈ z0c t.kids[i], x ∉ z0c t.kids[j] := by
 rw [z1r, List.nodup_cons] at h
 obtain ⟨h1, h2⟩ := h
 refine ⟨fun k hk hm => h1 (List.mem_flatMap.2 ⟨k, hk, hm⟩), fun k hk => ?_, fun i j hi hj hij x hx hx2 => ?_⟩
 ·exact (List.pairwise_flatMap.1 h2).1 k hk
 ·have hp := (List.pairwise_flatMap.1 h2).2
  rw [List.pairwise_iff_getElem] at hp
  rcases Nat.lt_or_gt_of_ne hij with h3 | h3
  ·exact hp i j hi hj h3 x hx x hx2 rfl
  ·exact hp j i hj hi h3 x hx2 x hx rfl
end Tr
end
section
open Abs Facts Tr
namespace Tr
def T.setKids (t : T) (l : List T) : T := .mk t.id t.kind t.label t.head t.words l
theorem z6a (t : T) : t.setKids t.kids = t := T.eta t
inductive Ctx where
 | hole
 | node (t : T) (l : List T) (c : Ctx) (r : List T)
def z2b : Ctx -> T -> T
 | .hole, x => x
 | .node t l c r, x => t.setKids (l ++ z2b c x :: r)
def z6s : Ctx -> List Idv
 | .hole => []
 | .node t l c _ => t.id :: (l.flatMap z0c ++ z6s c)
def z4b : Ctx -> List Idv
 | .hole => []
 | .node _ _ c r => z4b c ++ r.flatMap z0c
def zog : Ctx -> Nat
 | .hole => 0
 | .node _ _ c _ => zog c + 1
def depC : Ctx -> Nat
 | .hole => 0
 | .node _ l c r => max (z9e ((l ++ r).map depT)) (1 + depC c)
def zg5 : Ctx -> List Idv
 | .hole => []
 | .node t _ c _ => zg5 c ++ [t.id]
theorem zjg : ∀ C, (zg5 C).length = zog C
 | .hole => rfl
 | .node t l c r => by simp [zg5, zog, zjg c]
theorem z2n (x : T) : ∀ C, z0c (z2b C x) = z6s C ++ (z0c x ++ z4b C)
 | .hole => by simp [z2b, z6s, z4b]
 | .node t l c r => by
  rw [z2b, z1r]
  show t.id :: (l ++ z2b c x :: r).flatMap z0c = _
  rw [List.flatMap_append, List.flatMap_cons, z2n x c, z6s, z4b]
  simp only [List.cons_append, List.append_assoc]
theorem z6b (C : Ctx) (x : T) : cntT (z2b C x) = (z6s C).length + cntT x + (z4b C).length := by
 rw [<- z64, z2n, List.length_append, List.length_append, z64]; omega
theorem zjh (l : List Nat) : ∀ a : Nat, l.foldl (fun d x => max d (1 + x)) a = max a (z9e l) := by
 unfold z9e
 induction l with
 | nil => intro a; simp
 | cons y l ih =>
  intro a
  rw [List.foldl_cons, List.foldl_cons, ih, ih (max 0 (1 + y))]; omega
theorem z4p (l r : List Nat) : z9e (l ++ r) = max (z9e l) (z9e r) := by
 conv => lhs; unfold z9e
 rw [List.foldl_append, zjh r]; rfl
theorem z6t (a : Nat) (l : List Nat) : z9e (a :: l) = max (1 + a) (z9e l) := by
 conv => lhs; unfold z9e
 rw [List.foldl_cons, zjh l]; omega
theorem zd3 (x : T) : ∀ C, depT (z2b C x) = max (depC C) (zog C + depT x)
 | .hole => by simp [z2b, depC, zog]
 | .node t l c r => by
  rw [z2b, z3v]
  show z9e ((l ++ z2b c x :: r).map depT) = _
  rw [List.map_append, List.map_cons, z4p, z6t, zd3 x c, depC, zog, List.map_append, z4p]
  omega
def keyC : Ctx -> Int × ByteArray -> Int × ByteArray
 | .hole, k => k
 | .node t _ _ _, _ => z6y t
theorem zvm (C : Ctx) (x : T) : z6y (z2b C x) = keyC C (z6y x) := by cases C <;> rfl
def ctxR : Ctx -> Int × ByteArray -> Prop
 | .hole, _ => True
 | .node t l c r, k => (z4j (t.setKids (l ++ t :: r)) = true /\ (∀ y ∈ l ++ r, z1w t.kind y.kind = true /\ z36 y = true) /\ z1w t.kind (keyC c k).1 = true /\ ((l ++ r).map z6y).Nodup /\ keyC c k ∉ (l ++ r).map z6y) /\ ctxR c k
theorem zoh (t : T) {l m : List T} (h : l.length = m.length) : z4j (t.setKids l) = z4j (t.setKids m) := by
 unfold z4j
 show (_ && (decide (l.length <= 64) && _)) = (_ && (decide (m.length <= 64) && _))
 rw [h]; rfl
theorem zse {α : Type} (l r : List α) (a : α) : (l ++ a :: r).Nodup ↔ (l ++ r).Nodup /\ a ∉ l ++ r := by
 rw [List.perm_middle.nodup_iff, List.nodup_cons]; exact And.comm
theorem zek (t p : T) (l r : List T) : z36 (t.setKids (l ++ p :: r)) = true ↔
  (z4j (t.setKids (l ++ t :: r)) = true /\ (∀ y ∈ l ++ r, z1w t.kind y.kind = true /\ z36 y = true) /\ z1w t.kind p.kind = true /\ ((l ++ r).map z6y).Nodup /\ z6y p ∉ (l ++ r).map z6y) /\ z36 p = true := by
 have hk : ((l ++ p :: r).map z6y).Nodup ↔ ((l ++ r).map z6y).Nodup /\ z6y p ∉ (l ++ r).map z6y := by
  rw [List.map_append, List.map_cons, zse, List.map_append]
 rw [z5o]
 show (z4j (t.setKids (l ++ p :: r)) && (((l ++ p :: r).all fun k => z1w t.kind k.kind) && ((l ++ p :: r).all z36 && decide (((l ++ p :: r).map z6y).Nodup)))) = true ↔ _
 rw [zoh t (l := l ++ p :: r) (m := l ++ t :: r) (by simp)]
 simp only [Bool.and_eq_true, decide_eq_true_eq, List.all_eq_true, hk]
 constructor
 ·rintro ⟨h1, h2, h3, h4, h5⟩
  refine ⟨⟨h1, fun y hy => ?_, h2 p (by simp), h4, h5⟩, h3 p (by simp)⟩
  have : y ∈ l ++ p :: r := by
   rcases List.mem_append.1 hy with h | h
   ·exact List.mem_append_left _ h
   ·exact List.mem_append_right _ (List.mem_cons_of_mem _ h)
  exact ⟨h2 y this, h3 y this⟩
 ·rintro ⟨⟨h1, h2, h3, h4, h5⟩, h6⟩
  have hm : ∀ y ∈ l ++ p :: r, y = p \/ y ∈ l ++ r := fun y hy => by
   rcases List.mem_append.1 hy with h | h
   ·exact .inr (List.mem_append_left _ h)
   ·rcases List.mem_cons.1 h with h | h
    ·exact .inl h
    ·exact .inr (List.mem_append_right _ h)
  refine ⟨h1, fun y hy => ?_, fun y hy => ?_, h4, h5⟩
  ·rcases hm y hy with rfl | h
   ·exact h3
   ·exact (h2 y h).1
  ·rcases hm y hy with rfl | h
   ·exact h6
   ·exact (h2 y h).2
theorem z6u (x : T) : ∀ C, z36 (z2b C x) = true ↔ ctxR C (z6y x) /\ z36 x = true
 | .hole => by simp [z2b, ctxR]
 | .node t l c r => by
  rw [z2b, zek, z6u x c, ctxR, <- zvm]
  exact (and_assoc).symm
theorem zel {id : Idv} {l r : List T} {p : T} : id ∈ (l ++ p :: r).flatMap z0c ↔ id ∈ l.flatMap z0c \/ id ∈ z0c p \/ id ∈ r.flatMap z0c := by
 rw [List.flatMap_append, List.flatMap_cons, List.mem_append, List.mem_append]
theorem zji (l r : List T) (p : T) : ∃ h : l.length < (l ++ p :: r).length, (l ++ p :: r)[l.length] = p := ⟨by simp, by simp⟩
theorem z98 {id : Idv} {l : List T} (h : id ∉ l.flatMap z0c) (p : T) (r : List T) : ∀ j, (hj : j < l.length) -> (hl : j < (l ++ p :: r).length) -> z1i id (l ++ p :: r)[j] = [] := fun j hj hl => by
 rw [List.getElem_append_left hj, z4q]
 exact fun hm => h (List.mem_flatMap.2 ⟨_, List.getElem_mem hj, hm⟩)
section
variable {id : Idv} {t p : T} {l r : List T}
theorem zyt (h0 : ¬ t.id = id) (hl : id ∉ l.flatMap z0c) (hp : id ∈ z0c p) : z1i id (t.setKids (l ++ p :: r)) = t.setKids (l ++ p :: r) :: z1i id p := by
 obtain ⟨h1, h2⟩ := zji l r p
 have := z3s (id := id) (t := t.setKids (l ++ p :: r)) (i := l.length) h0 h1 (z98 hl p r) (by
  show z1i id (l ++ p :: r)[l.length] ≠ []
  rw [h2]; exact z3p.2 hp)
 refine this.trans ?_
 show _ :: z1i id (l ++ p :: r)[l.length] = _
 rw [h2]
theorem zh4 (h0 : ¬ t.id = id) (hl : id ∉ l.flatMap z0c) (hp : id ∈ z0c p) : z0b id (t.setKids (l ++ p :: r)) = z0b id p :=
 z3i (zyt h0 hl hp) (z3p.2 hp)
theorem zsf (h0 : ¬ t.id = id) (hl : id ∉ l.flatMap z0c) (hp : id ∈ z0c p) : z54 id (t.setKids (l ++ p :: r)) = z54 id p ++ [t.id] := by
 obtain ⟨h1, h2⟩ := zji l r p
 have := zmr (id := id) (t := t.setKids (l ++ p :: r)) (i := l.length) h0 h1 (z98 hl p r) (by
  show z1i id (l ++ p :: r)[l.length] ≠ []
  rw [h2]; exact z3p.2 hp)
 refine this.trans ?_
 show z54 id (l ++ p :: r)[l.length] ++ _ = _
 rw [h2]; rfl
theorem zmg (h0 : ¬ t.id = id) (hl : id ∉ l.flatMap z0c) (hp : p.id = id) : z31 id (t.setKids (l ++ p :: r)) = (t.id, (l.length : Int), true) := by
 obtain ⟨h1, h2⟩ := zji l r p
 exact zjr (id := id) (t := t.setKids (l ++ p :: r)) (i := l.length) h0 h1 (z98 hl p r) (by
  show (l ++ p :: r)[l.length].id = id
  rw [h2]; exact hp)
theorem zyu (h0 : ¬ t.id = id) (hl : id ∉ l.flatMap z0c) (hp : ¬ p.id = id) (hm : id ∈ z0c p) : z31 id (t.setKids (l ++ p :: r)) = z31 id p := by
 obtain ⟨h1, h2⟩ := zji l r p
 have := zsw (id := id) (t := t.setKids (l ++ p :: r)) (i := l.length) h0 h1 (z98 hl p r) (by
  show ¬ (l ++ p :: r)[l.length].id = id
  rw [h2]; exact hp) (by
  show z1i id (l ++ p :: r)[l.length] ≠ []
  rw [h2]; exact z3p.2 hm)
 refine this.trans ?_
 show z31 id (l ++ p :: r)[l.length] = _
 rw [h2]
end
theorem z1d (x : T) : x.id ∈ z0c x := by rw [z1r]; exact List.mem_cons_self
theorem z3h {id : Idv} {t : T} {l r : List T} {c : Ctx} (h : id ∉ z6s (.node t l c r)) : ¬ t.id = id /\ id ∉ l.flatMap z0c /\ id ∉ z6s c := by
 rw [z6s, List.mem_cons, List.mem_append] at h
 exact ⟨fun e => h (.inl e.symm), fun e => h (.inr (.inl e)), fun e => h (.inr (.inr e))⟩
theorem zem {id : Idv} {t : T} {l r : List T} {c : Ctx} (h : id ∉ z4b (.node t l c r)) : id ∉ z4b c /\ id ∉ r.flatMap z0c := by
 rw [z4b, List.mem_append] at h
 exact ⟨fun e => h (.inl e), fun e => h (.inr e)⟩
theorem z7k {id : Idv} (C : Ctx) {x : T} (h : id ∈ z0c x) : id ∈ z0c (z2b C x) := by
 rw [z2n]; exact List.mem_append_right _ (List.mem_append_left _ h)
theorem z5z {id : Idv} {x : T} (hx : id ∈ z0c x) : ∀ C, id ∉ z6s C -> z0b id (z2b C x) = z0b id x
 | .hole, _ => rfl
 | .node t l c r, h => by
  obtain ⟨h1, h2, h3⟩ := z3h h
  rw [z2b, zh4 h1 h2 (z7k c hx), z5z hx c h3]
theorem zmh {id : Idv} {x : T} (hx : id ∈ z0c x) : ∀ C, id ∉ z6s C -> z54 id (z2b C x) = z54 id x ++ zg5 C
 | .hole, _ => by simp [z2b, zg5]
 | .node t l c r, h => by
  obtain ⟨h1, h2, h3⟩ := z3h h
  rw [z2b, zsf h1 h2 (z7k c hx), zmh hx c h3, zg5, List.append_assoc]
theorem zh5 {id : Idv} {x : T} (hx : id ∈ z0c x) (hn : ¬ x.id = id) : ∀ C, id ∉ z6s C -> z31 id (z2b C x) = z31 id x
 | .hole, _ => rfl
 | .node t l c r, h => by
  obtain ⟨h1, h2, h3⟩ := z3h h
  have h4 : ¬ (z2b c x).id = id := by
   cases c with
   | hole => exact hn
   | node t' l' c' r' => exact (z3h h3).1
  rw [z2b, zyu h1 h2 h4 (z7k c hx), zh5 hx hn c h3]
theorem focus (id : Idv) : ∀ u : T, id ∈ z0c u -> ∃ C, u = z2b C (z0b id u).1 /\ (z0b id u).1.id = id /\ id ∉ z6s C /\ (z0b id u).2 = true := by
 refine z3y fun u ih hm => ?_
 by_cases h0 : u.id = id
 ·rw [z29 h0]
  exact ⟨.hole, rfl, h0, by simp [z6s], rfl⟩
 ·obtain ⟨i, hi, h1, h2, h3⟩ := z8p h0 (z3p.2 hm)
  rw [z3i h3 h2]
  obtain ⟨C, g1, g2, g3, g4⟩ := ih _ (List.getElem_mem hi) (z3p.1 h2)
  refine ⟨.node u (u.kids.take i) C (u.kids.drop (i + 1)), ?_, g2, ?_, g4⟩
  ·rw [z2b, <- g1, <- List.drop_eq_getElem_cons hi, List.take_append_drop, z6a]
  ·rw [z6s, List.mem_cons, List.mem_append]
   rintro (h | h | h)
   ·exact h0 h.symm
   ·obtain ⟨k, hk, hki⟩ := List.mem_flatMap.1 h
    obtain ⟨j, hj, rfl⟩ := List.getElem_of_mem hk
    rw [List.getElem_take] at hki
    rw [List.length_take] at hj
    have := h1 j (by omega) (by omega)
    rw [z4q] at this
    exact this hki
   ·exact g3 h
theorem zsg {id : Idv} {u : T} (h : id ∉ z0c u) : z0b id u = (T.zero, false) := zd6 ((z4q id u).2 h)
theorem z2y {id : Idv} {u : T} : (z0b id u).2 = decide (id ∈ z0c u) := by
 by_cases h : id ∈ z0c u
 ·obtain ⟨_, _, _, _, h4⟩ := focus id u h
  rw [h4, decide_eq_true h]
 ·rw [zsg h, decide_eq_false h]
theorem zmi {id : Idv} {u : T} (h0 : ¬ u.id = id) (hm : id ∈ z0c u) : ∃ (C : Ctx) (q : T) (l : List T) (x : T) (r : List T), u = z2b C (q.setKids (l ++ x :: r)) /\ x.id = id /\ ¬ q.id = id /\ id ∉ z6s C /\ id ∉ l.flatMap z0c /\ z0b id u = (x, true) /\ z31 id u = (q.id, (l.length : Int), true) := by
 obtain ⟨C, h1, h2, h3, h4⟩ := focus id u hm
 -- the last frame of C
 have last : ∀ C : Ctx, ∀ x : T, ¬ (z2b C x).id = id -> x.id = id -> id ∉ z6s C -> ∃ (C' : Ctx) (q : T) (l r : List T), z2b C x = z2b C' (q.setKids (l ++ x :: r)) /\ ¬ q.id = id /\ id ∉ z6s C' /\ id ∉ l.flatMap z0c := by
  intro C x
  induction C with
  | hole => intro h hx _; exact (h hx).elim
  | node t l c r ih =>
   intro h hx hn
   obtain ⟨n1, n2, n3⟩ := z3h hn
   by_cases hc : (z2b c x).id = id
   ·cases c with
    | hole => exact ⟨.hole, t, l, r, rfl, n1, by simp [z6s], n2⟩
    | node t' l' c' r' => exact ((z3h n3).1 hc).elim
   ·obtain ⟨C', q, l', r', e, g1, g2, g3⟩ := ih hc hx n3
    refine ⟨.node t l C' r, q, l', r', ?_, g1, ?_, g3⟩
    ·rw [z2b, e, z2b]
    ·rw [z6s, List.mem_cons, List.mem_append]
     rintro (h | h | h)
     ·exact n1 h.symm
     ·exact n2 h
     ·exact g2 h
 generalize hx : (z0b id u).1 = x at h1 h2
 obtain ⟨C', q, l, r, e, g1, g2, g3⟩ := last C x (by rw [<- h1]; exact h0) h2 h3
 refine ⟨C', q, l, x, r, h1.trans e, h2, g1, g2, g3, ?_, ?_⟩
 ·rw [<- hx, <- h4]
 ·rw [h1, e, zh5 (x := q.setKids (l ++ x :: r)) (by rw [z1r, List.mem_cons]; exact .inr (zel.2 (.inr (.inl (h2 ▸ z1d x))))) g1 C' g2, zmg g1 g3 h2]
end Tr
end
section
open Abs Facts Tr
namespace Tr
def z25 (id : Idv) (f : T -> T) (t : T) : T := zc1 (fun t l => if t.id = id then f t else t.setKids l) t
theorem z7l (id : Idv) (f : T -> T) (t : T) : z25 id f t = if t.id = id then f t else t.setKids (t.kids.map (z25 id f)) := by
 unfold z25; rw [z2l]
def atR (id : Idv) (f : T -> T) (t : T) : T × Bool := zc1 (fun t l => if t.id = id then (f t, true) else
 match l[z2e (fun q : T × Bool => q.2) l]? with
 | some q => (t.setKids (t.kids.set (z2e (fun q : T × Bool => q.2) l) q.1), true)
 | none => (t, false)) t
theorem zsk (id : Idv) (f : T -> T) (t : T) : atR id f t = if t.id = id then (f t, true) else
  match (t.kids.map (atR id f))[z2e (fun q : T × Bool => q.2) (t.kids.map (atR id f))]? with
  | some q => (t.setKids (t.kids.set (z2e (fun q : T × Bool => q.2) (t.kids.map (atR id f))) q.1), true)
  | none => (t, false) := by
 unfold atR; rw [z2l]
theorem zvp {id : Idv} {f : T -> T} {t : T} (h : t.id = id) : atR id f t = (f t, true) := by rw [zsk, if_pos h]
theorem zyw {id : Idv} {f : T -> T} {t : T} {i : Nat} (h0 : ¬ t.id = id) (hi : i < t.kids.length) (h1 : ∀ j, (hj : j < i) -> (h : j < t.kids.length) -> (atR id f t.kids[j]).2 = false) (h2 : (atR id f t.kids[i]).2 = true) :
  atR id f t = (t.setKids (t.kids.set i (atR id f t.kids[i]).1), true) := by
 have hf : z2e (fun q : T × Bool => q.2) (t.kids.map (atR id f)) = i := z3t (by rw [List.length_map]; omega) (fun j hj => by rw [List.getElem_map]; exact h1 j hj (by omega)) (fun h => by rw [List.getElem_map]; exact h2)
 rw [zsk, if_neg h0, hf, List.getElem?_eq_getElem (by rw [List.length_map]; exact hi), List.getElem_map]
theorem zvq {id : Idv} {f : T -> T} {t : T} (h0 : ¬ t.id = id) (h1 : ∀ j, (h : j < t.kids.length) -> (atR id f t.kids[j]).2 = false) : atR id f t = (t, false) := by
 have hf : z2e (fun q : T × Bool => q.2) (t.kids.map (atR id f)) = t.kids.length := z3t (by rw [List.length_map]; omega) (fun j hj => by rw [List.getElem_map]; exact h1 j hj) (fun h => by rw [List.length_map] at h; omega)
 rw [zsk, if_neg h0, hf, List.getElem?_eq_none (by rw [List.length_map]; omega)]
theorem at_no {id : Idv} (f : T -> T) : ∀ t : T, id ∉ z0c t -> atR id f t = (t, false) := by
 refine z3y fun t ih h => ?_
 rw [z1r, List.mem_cons] at h
 refine zvq (fun e => h (.inl e.symm)) fun j hj => ?_
 rw [ih _ (List.getElem_mem hj) fun hm => h (.inr (List.mem_flatMap.2 ⟨_, List.getElem_mem hj, hm⟩))]
theorem zl4 {id : Idv} (f : T -> T) {q : T} (hq : q.id = id) : ∀ C, id ∉ z6s C -> atR id f (z2b C q) = (z2b C (f q), true)
 | .hole, _ => zvp hq
 | .node t l c r, h => by
  obtain ⟨h1, h2, h3⟩ := z3h h
  obtain ⟨k1, k2⟩ := zji l r (z2b c q)
  have ih := zl4 f hq c h3
  have hk : (t.setKids (l ++ z2b c q :: r)).kids[l.length]'k1 = z2b c q := k2
  rw [z2b, zyw (t := t.setKids (l ++ z2b c q :: r)) (i := l.length) h1 k1 (fun j hj hl' => by
   have hl : j < (l ++ z2b c q :: r).length := hl'
   show (atR id f ((l ++ z2b c q :: r)[j]'hl)).2 = false
   rw [List.getElem_append_left hj, at_no f _ fun hm => h2 (List.mem_flatMap.2 ⟨_, List.getElem_mem hj, hm⟩)]) (by rw [hk, ih]), hk, ih, z2b]
  show (t.setKids ((l ++ z2b c q :: r).set l.length (z2b c (f q))), true) = _
  rw [List.set_append_right _ _ (Nat.le_refl _), Nat.sub_self, List.set_cons_zero]
theorem zyx {id : Idv} (f : T -> T) : ∀ t : T, id ∉ z0c t -> z25 id f t = t := by
 refine z3y fun t ih h => ?_
 rw [z1r, List.mem_cons] at h
 rw [z7l, if_neg fun e => h (.inl e.symm)]
 have : t.kids.map (z25 id f) = t.kids := by
  conv => rhs; rw [<- List.map_id t.kids]
  exact List.map_congr_left fun k hk => ih k hk fun hm => h (.inr (List.mem_flatMap.2 ⟨_, hk, hm⟩))
 rw [this, z6a]
theorem zmk {id : Idv} (f : T -> T) {l : List T} (h : id ∉ l.flatMap z0c) : l.map (z25 id f) = l := by
 conv => rhs; rw [<- List.map_id l]
 exact List.map_congr_left fun k hk => zyx f k fun hm => h (List.mem_flatMap.2 ⟨_, hk, hm⟩)
theorem z60 {id : Idv} (f : T -> T) {q : T} (hq : q.id = id) : ∀ C, id ∉ z6s C -> id ∉ z4b C -> z25 id f (z2b C q) = z2b C (f q)
 | .hole, _, _ => by rw [z2b, z2b, z7l, if_pos hq]
 | .node t l c r, h, h' => by
  obtain ⟨h1, h2, h3⟩ := z3h h
  obtain ⟨h4, h5⟩ := zem h'
  rw [z2b, z7l, if_neg (show ¬ (t.setKids _).id = id from h1), z2b]
  show t.setKids ((l ++ z2b c q :: r).map (z25 id f)) = _
  rw [List.map_append, List.map_cons, z60 f hq c h3 h4, zmk f h2, zmk f h5]
def z6v (id : Idv) (k : T) : Bool := decide (k.id ≠ id)
theorem z8m {id : Idv} {k : T} (h : ¬ k.id = id) : z6v id k = true := decide_eq_true h
theorem zyy {id : Idv} {k : T} (h : k.id = id) : z6v id k = false := decide_eq_false fun g => g h
def z0o (id : Idv) (t : T) : T := zc1 (fun t l => t.setKids (((t.kids.zip l).filter fun p => z6v id p.1).map (·.2))) t
theorem zbu (p : T -> Bool) (g : T -> T) : ∀ l : List T, ((l.zip (l.map g)).filter fun q => p q.1).map (·.2) = (l.filter p).map g
 | [] => rfl
 | x :: l => by
  rw [List.map_cons, List.zip_cons_cons, List.filter_cons, List.filter_cons]
  show (if p x = true then _ else _ : List (T × T)).map (·.2) = _
  split
  ·rw [List.map_cons, List.map_cons, zbu p g l]
  ·rw [zbu p g l]
theorem z3q (id : Idv) (t : T) : z0o id t = t.setKids ((t.kids.filter (z6v id)).map (z0o id)) := by
 conv => lhs; unfold z0o; rw [z2l]
 show t.setKids (((t.kids.zip (t.kids.map (z0o id))).filter fun p => z6v id p.1).map (·.2)) = _
 rw [zbu (z6v id) (z0o id)]
theorem zsl {id : Idv} : ∀ t : T, (∀ k ∈ t.kids, id ∉ z0c k) -> z0o id t = t := by
 refine z3y fun t ih h => ?_
 rw [z3q]
 have h1 : t.kids.filter (z6v id) = t.kids := List.filter_eq_self.2 fun k hk => z8m fun e => h k hk (e ▸ z1d k)
 have h2 : t.kids.map (z0o id) = t.kids := by
  conv => rhs; rw [<- List.map_id t.kids]
  exact List.map_congr_left fun k hk => ih k hk fun k' hk' hm => h k hk (by rw [z1r]; exact List.mem_cons_of_mem _ (List.mem_flatMap.2 ⟨_, hk', hm⟩))
 rw [h1, h2, z6a]
theorem zd5 {id : Idv} {l : List T} (h : id ∉ l.flatMap z0c) : (l.filter (z6v id)).map (z0o id) = l := by
 have h1 : l.filter (z6v id) = l := List.filter_eq_self.2 fun k hk => z8m fun e => h (List.mem_flatMap.2 ⟨_, hk, e ▸ z1d k⟩)
 rw [h1]
 conv => rhs; rw [<- List.map_id l]
 refine List.map_congr_left fun k hk => zsl k fun k' hk' hm => h (List.mem_flatMap.2 ⟨k, hk, ?_⟩)
 rw [z1r]; exact List.mem_cons_of_mem _ (List.mem_flatMap.2 ⟨_, hk', hm⟩)
theorem zjj {id : Idv} {q x : T} {l r : List T} (hx : x.id = id) (hl : id ∉ l.flatMap z0c) (hr : id ∉ r.flatMap z0c) : z0o id (q.setKids (l ++ x :: r)) = q.setKids (l ++ r) := by
 rw [z3q]
 show q.setKids (((l ++ x :: r).filter (z6v id)).map (z0o id)) = _
 rw [List.filter_append, List.filter_cons, if_neg (by rw [zyy hx]; simp), List.map_append, zd5 hl, zd5 hr]
theorem zay {id : Idv} {q x : T} {l r : List T} (hq : ¬ q.id = id) (hx : x.id = id) (hl : id ∉ l.flatMap z0c) (hr : id ∉ r.flatMap z0c) : ∀ C, id ∉ z6s C -> id ∉ z4b C -> z0o id (z2b C (q.setKids (l ++ x :: r))) = z2b C (q.setKids (l ++ r))
 | .hole, _, _ => zjj hx hl hr
 | .node t a c b, h, h' => by
  obtain ⟨h1, h2, h3⟩ := z3h h
  obtain ⟨h4, h5⟩ := zem h'
  have hc : ¬ (z2b c (q.setKids (l ++ x :: r))).id = id := by
   cases c with
   | hole => exact hq
   | node t' l' c' r' => exact (z3h h3).1
  rw [z2b, z3q]
  show t.setKids (((a ++ z2b c (q.setKids (l ++ x :: r)) :: b).filter (z6v id)).map (z0o id)) = _
  rw [List.filter_append, List.filter_cons, if_pos (z8m hc), List.map_append, List.map_cons, zd5 h2, zd5 h5, zay hq hx hl hr c h3 h4, z2b]
def z5a (i : Nat) (x : T) (p : T) : T := p.setKids (p.kids.take i ++ x :: p.kids.drop i)
def zsm (i : Nat) (p : T) : T := p.setKids (p.kids.eraseIdx i)
theorem zml (q x : T) (l r : List T) : z5a l.length x (q.setKids (l ++ r)) = q.setKids (l ++ x :: r) := by
 unfold z5a
 show q.setKids ((l ++ r).take l.length ++ x :: (l ++ r).drop l.length) = _
 rw [List.take_left, List.drop_left]
theorem zvr (q x : T) (l r : List T) : zsm l.length (q.setKids (l ++ x :: r)) = q.setKids (l ++ r) := by
 unfold zsm
 show q.setKids ((l ++ x :: r).eraseIdx l.length) = _
 rw [List.eraseIdx_append_of_length_le (Nat.le_refl _), Nat.sub_self, List.eraseIdx_cons_zero]
theorem z2p {C : Ctx} {x : T} (h : (z0c (z2b C x)).Nodup) {id : Idv} (hid : id ∈ z0c x) : id ∉ z6s C /\ id ∉ z4b C := by
 rw [z2n, List.nodup_append] at h
 obtain ⟨_, h2, h3⟩ := h
 rw [List.nodup_append] at h2
 exact ⟨fun hm => h3 id hm id (List.mem_append_left _ hid) rfl, fun hm => h2.2.2 id hid id hm rfl⟩
theorem zbv {C : Ctx} {x : T} (h : (z0c (z2b C x)).Nodup) : (z0c x).Nodup := by
 rw [z2n, List.nodup_append] at h
 exact (List.nodup_append.1 h.2.1).1
theorem z2c (t : T) (l : List T) : z0c (t.setKids l) = t.id :: l.flatMap z0c := z1r _
theorem zen {q x : T} {l r : List T} (h : (z0c (q.setKids (l ++ x :: r))).Nodup) : (∀ i ∈ z0c x, i ≠ q.id /\ i ∉ l.flatMap z0c /\ i ∉ r.flatMap z0c) /\ (z0c x).Nodup /\ (z0c (q.setKids (l ++ r))).Nodup := by
 rw [z2c, List.flatMap_append, List.flatMap_cons] at h
 rw [z2c, List.flatMap_append]
 rw [List.nodup_cons, List.nodup_append, List.nodup_append] at h
 obtain ⟨h0, h1, ⟨h2, h3, h4⟩, h5⟩ := h
 refine ⟨fun i hi => ⟨fun e => h0 ?_, fun hm => h5 i hm i (List.mem_append_left _ hi) rfl, fun hm => h4 i hi i hm rfl⟩, h2, ?_⟩
 ·rw [<- e]; exact List.mem_append_right _ (List.mem_append_left _ hi)
 ·rw [List.nodup_cons, List.nodup_append]
  refine ⟨fun hm => h0 ?_, h1, h3, fun a ha b hb => h5 a ha b (List.mem_append_right _ hb)⟩
  rcases List.mem_append.1 hm with h | h
  ·exact List.mem_append_left _ h
  ·exact List.mem_append_right _ (List.mem_append_right _ h)
theorem zsn {id : Idv} (f : T -> T) {u : T} (hn : (z0c u).Nodup) (hm : id ∈ z0c u) : atR id f u = (z25 id f u, true) := by
 obtain ⟨C, h1, h2, h3, _⟩ := focus id u hm
 generalize (z0b id u).1 = x at h1 h2
 subst h1
 rw [zl4 f h2 C h3, z60 f h2 C h3 (z2p hn (h2 ▸ z1d x)).2]
theorem zyz {id : Idv} {u : T} (hn : (z0c u).Nodup) (h0 : ¬ u.id = id) (hm : id ∈ z0c u) : ∃ i : Nat, (z31 id u).2.1 = i /\ (z31 id u).2.2 = true /\ atR (z31 id u).1 (zsm i) u = (z0o id u, true) /\ (∃ q, z0b (z31 id u).1 u = (q, true) /\ i < q.kids.length /\ q ∈ z08 u) := by
 obtain ⟨C, q, l, x, r, e, hx, hq, n1, n2, hf, hp⟩ := zmi h0 hm
 rw [hp]
 refine ⟨l.length, rfl, rfl, ?_⟩
 subst e
 obtain ⟨m1, m2⟩ := z2p hn (id := q.id) (by rw [z2c]; exact List.mem_cons_self)
 have hxm : id ∈ z0c (q.setKids (l ++ x :: r)) := by rw [z2c]; exact List.mem_cons_of_mem _ (zel.2 (.inr (.inl (hx ▸ z1d x))))
 obtain ⟨k1, k2⟩ := z2p hn hxm
 have ns := (zen (zbv hn)).1 id (hx ▸ z1d x)
 refine ⟨?_, q.setKids (l ++ x :: r), ?_, by show _ < (l ++ x :: r).length; simp, ?_⟩
 ·show atR q.id (zsm l.length) _ = _
  rw [zl4 (id := q.id) (zsm l.length) (q := q.setKids (l ++ x :: r)) rfl C m1, zvr, zay hq hx n2 ns.2.2 C k1 k2]
 ·rw [z5z (by rw [z2c]; exact List.mem_cons_self) C m1]; exact z29 rfl
 ·clear hf hp hn hm h0 n1 m1 m2 hxm k1 k2 ns
  induction C with
  | hole => exact z2a _
  | node t a c b ih => exact z3d (t := z2b (.node t a c b) _) (k := z2b c _) (by show _ ∈ a ++ _ :: b; simp) ih
end Tr
end
section
open Abs Facts Tr
attribute [local irreducible] awp
namespace Tr
def z3z (l : List T) (kind : Int) (name : ByteArray) : Bool := l.any fun k => decide (k.kind = kind) && decide (k.label = name)
def z10 (u : T) : Bool := z6o u && !((if u.kind = 0 then (z0c u).drop 1 else z0c u).any fun x => decide (x = Idv.zero))
end Tr
end
section
open Abs Facts Tr
namespace Tr
theorem nest0 (p : Int) : z1w p 0 = false := by
 by_cases h : 0 <= p /\ p < 8
 ·rcases zpa h with rfl | rfl | rfl | rfl | rfl | rfl | rfl | rfl <;> decide
 ·exact if_neg h
def zj9 (t : T) : Bool := zc1 (fun t l => (decide (t.kind = 0) || decide (t.id ≠ Idv.zero)) && l.all id) t
theorem zsa (t : T) : zj9 t = ((decide (t.kind = 0) || decide (t.id ≠ Idv.zero)) && t.kids.all zj9) := by
 unfold zj9; rw [z2l, List.all_map]; rfl
theorem zax {t : T} (h : z36 t = true) : ∀ k ∈ t.kids, z1w t.kind k.kind = true /\ z36 k = true := fun k hk => by
 rw [z5o] at h
 simp only [Bool.and_eq_true, List.all_eq_true] at h
 exact ⟨h.2.1 k hk, h.2.2.1 k hk⟩
theorem zyq {t : T} (h : z36 t = true) : ∀ k ∈ t.kids, k.kind ≠ 0 := fun k hk e => by
 have := (zax h k hk).1
 rw [e, nest0] at this; cases this
theorem za1 : ∀ t : T, z36 t = true -> (zj9 t = true ↔ (t.kind = 0 \/ t.id ≠ Idv.zero) /\ Idv.zero ∉ t.kids.flatMap z0c) := by
 refine z3y fun t ih h => ?_
 rw [zsa]
 simp only [Bool.and_eq_true, Bool.or_eq_true, decide_eq_true_eq, List.all_eq_true]
 refine and_congr_right fun _ => ?_
 constructor
 ·intro hk hm
  obtain ⟨k, hkm, hz⟩ := List.mem_flatMap.1 hm
  obtain ⟨g1, g2⟩ := (ih k hkm (zax h k hkm).2).1 (hk k hkm)
  rw [z1r, List.mem_cons] at hz
  rcases hz with hz | hz
  ·rcases g1 with g1 | g1
   ·exact zyq h k hkm g1
   ·exact g1 hz.symm
  ·exact g2 hz
 ·intro hz k hkm
  refine (ih k hkm (zax h k hkm).2).2 ⟨.inr fun e => hz (List.mem_flatMap.2 ⟨k, hkm, e ▸ z1d k⟩), fun hm => hz (List.mem_flatMap.2 ⟨k, hkm, ?_⟩)⟩
  rw [z1r]; exact List.mem_cons_of_mem _ hm
theorem zvk (l : List Idv) : (l.any fun x => decide (x = Idv.zero)) = decide (Idv.zero ∈ l) := by
 rw [Bool.eq_iff_iff, List.any_eq_true, decide_eq_true_eq]
 constructor
 ·rintro ⟨x, hx, h⟩; rw [decide_eq_true_eq] at h; exact h ▸ hx
 ·exact fun h => ⟨_, h, decide_eq_true rfl⟩
theorem zme (t : T) : (z0c t).drop 1 = t.kids.flatMap z0c := by rw [z1r]; rfl
theorem zja (t : T) : z10 t = (z6o t && zj9 t) := by
 unfold z10
 by_cases hv : z6o t = true
 ·have hr : z36 t = true := by unfold z6o at hv; simp only [Bool.and_eq_true] at hv; exact hv.1
  rw [hv, Bool.true_and, Bool.true_and, zvk, Bool.eq_iff_iff, za1 t hr]
  simp only [Bool.not_eq_true', decide_eq_false_iff_not]
  by_cases h0 : t.kind = 0
  ·rw [if_pos h0, zme]
   exact ⟨fun h => ⟨.inl h0, h⟩, fun h => h.2⟩
  ·rw [if_neg h0, z1r, List.mem_cons]
   exact ⟨fun h => ⟨.inr fun e => h (.inl e.symm), fun hm => h (.inr hm)⟩, fun ⟨h1, h2⟩ hm => by
    rcases hm with hm | hm
    ·rcases h1 with h1 | h1
     ·exact h0 h1
     ·exact h1 hm.symm
    ·exact h2 hm⟩
 ·rw [Bool.not_eq_true] at hv; rw [hv]; rfl
theorem z20 (t : T) : z10 t = true ↔ z36 t = true /\ depT t <= 8 /\ cntT t <= 1024 /\ (z0c t).Nodup /\ (t.id = Idv.zero ↔ t.kind = 0) /\ Idv.zero ∉ t.kids.flatMap z0c := by
 rw [zja, Bool.and_eq_true]
 unfold z6o zwe
 simp only [Bool.and_eq_true, decide_eq_true_eq, Bool.or_eq_true]
 constructor
 ·rintro ⟨⟨h1, h2, h3, h4⟩, h5⟩
  rw [za1 t h1] at h5
  refine ⟨h1, h2, h3, ?_⟩
  rcases h4 with h4 | ⟨h4, h4'⟩
  ·have ha : ∀ i ∈ z0c t, i = Idv.zero := fun i hi => by simpa using List.all_eq_true.1 h4 i hi
   have h0 : t.id = Idv.zero := ha _ (z1d t)
   have hk : t.kind = 0 := by
    rcases h5.1 with h | h
    ·exact h
    ·exact (h h0).elim
   have hn : t.kids.flatMap z0c = [] := by
    cases hl : t.kids.flatMap z0c with
    | nil => rfl
    | cons i l =>
     exfalso
     refine h5.2 ?_
     have : i = Idv.zero := ha i (by rw [z1r, hl]; simp)
     rw [hl, this]; exact List.mem_cons_self
   rw [z1r, hn]
   exact ⟨by simp, ⟨fun _ => hk, fun _ => h0⟩, by simp⟩
  ·exact ⟨h4', h4, h5.2⟩
 ·rintro ⟨h1, h2, h3, h4, h5, h6⟩
  refine ⟨⟨h1, h2, h3, .inr ⟨h5, h4⟩⟩, (za1 t h1).2 ⟨?_, h6⟩⟩
  by_cases h0 : t.kind = 0
  ·exact .inl h0
  ·exact .inr fun e => h0 (h5.1 e)
theorem zjb {t : T} (h : z4j t = true) {m : List T} (hm : m.length <= 64) : z4j (t.setKids m) = true := by
 unfold z4j at h ⊢
 simp only [Bool.and_eq_true, decide_eq_true_eq] at h ⊢
 exact ⟨h.1, hm, h.2.2⟩
theorem zjc {t : T} (h : z36 t = true) : z4j t = true /\ t.kids.length <= 64 := by
 rw [z5o] at h
 simp only [Bool.and_eq_true] at h
 refine ⟨h.1, ?_⟩
 have := h.1
 unfold z4j at this
 simp only [Bool.and_eq_true, decide_eq_true_eq] at this
 exact this.2.1
theorem zd1 {l : List T} {x : T} : z3z l x.kind x.label = false ↔ z6y x ∉ l.map z6y := by
 unfold z3z
 rw [List.any_eq_false]
 simp only [Bool.and_eq_true, decide_eq_true_eq, List.mem_map, not_exists, not_and]
 constructor
 ·intro h k hk e
  exact h k hk (congrArg Prod.fst e) (congrArg Prod.snd e)
 ·intro h k hk e1 e2
  exact h k hk (by unfold z6y; rw [e1, e2])
theorem zsb (q x : T) (l r : List T) : depT (q.setKids (l ++ x :: r)) = max (depT (q.setKids (l ++ r))) (1 + depT x) := by
 rw [z3v, z3v (q.setKids (l ++ r))]
 show z9e ((l ++ x :: r).map depT) = max (z9e ((l ++ r).map depT)) _
 rw [List.map_append, List.map_cons, z4p, z6t, List.map_append, z4p]; omega
theorem zh2 (q x : T) (l r : List T) : cntT (q.setKids (l ++ x :: r)) = cntT (q.setKids (l ++ r)) + cntT x := by
 rw [<- z64, <- z64, <- z64, z2c, z2c, List.flatMap_append, List.flatMap_cons, List.flatMap_append]
 simp only [List.length_cons, List.length_append]; omega
theorem zjd (C : Ctx) {x y : T} (h1 : x.id = y.id) (h2 : x.kind = y.kind) : (z2b C x).id = (z2b C y).id /\ (z2b C x).kind = (z2b C y).kind := by
 cases C with
 | hole => exact ⟨h1, h2⟩
 | node t l c r => exact ⟨rfl, rfl⟩
theorem zd2 (C : Ctx) (x : T) : (z2b C x).kids.flatMap z0c = (z6s C ++ (z0c x ++ z4b C)).drop 1 := by rw [<- zme, z2n]
theorem zod {C : Ctx} {q x : T} {l r : List T} (hu : z10 (z2b C (q.setKids (l ++ r))) = true) (hx : z10 x = true) (hk : x.kind ≠ 0) (hn : z1w q.kind x.kind = true) (ht : z3z (l ++ r) x.kind x.label = false)
  (h64 : (l ++ r).length < 64) (hd : zog C + 1 + depT x <= 8) (hc : cntT (z2b C (q.setKids (l ++ r))) + cntT x <= 1024) (hs : ∀ i ∈ z0c x, i ∉ z0c (z2b C (q.setKids (l ++ r)))) : z10 (z2b C (q.setKids (l ++ x :: r))) = true := by
 rw [z20] at hu hx ⊢
 obtain ⟨u1, u2, u3, u4, u5, u6⟩ := hu
 obtain ⟨x1, x2, x3, x4, x5, x6⟩ := hx
 rw [z6u] at u1
 obtain ⟨hr, hp⟩ := zjd C (x := q.setKids (l ++ x :: r)) (y := q.setKids (l ++ r)) rfl rfl
 have hids : z0c (q.setKids (l ++ x :: r)) = q.id :: (l.flatMap z0c ++ (z0c x ++ r.flatMap z0c)) := by rw [z2c, List.flatMap_append, List.flatMap_cons]
 have hids0 : z0c (q.setKids (l ++ r)) = q.id :: (l.flatMap z0c ++ r.flatMap z0c) := by rw [z2c, List.flatMap_append]
 refine ⟨?_, ?_, ?_, ?_, ?_, ?_⟩
 ·rw [z6u]
  refine ⟨u1.1, ?_⟩
  obtain ⟨a1, _⟩ := zjc u1.2
  have hkd := zax u1.2
  have hnd : ((l ++ r).map z6y).Nodup := by
   have := u1.2
   rw [z5o] at this
   simp only [Bool.and_eq_true, decide_eq_true_eq] at this
   exact this.2.2.2
  rw [zek]
  refine ⟨⟨?_, hkd, hn, hnd, zd1.1 ht⟩, x1⟩
  exact zjb (t := q.setKids (l ++ r)) a1 (m := l ++ q :: r) (by simp at h64 ⊢; omega)
 ·rw [zd3] at u2 ⊢
  rw [zsb]; omega
 ·rw [z6b] at u3 hc ⊢
  rw [zh2]; omega
 ·rw [z2n, hids]
  rw [z2n, hids0] at u4 hs
  have hp : (z6s C ++ (q.id :: (l.flatMap z0c ++ (z0c x ++ r.flatMap z0c)) ++ z4b C)).Perm (z0c x ++ (z6s C ++ (q.id :: (l.flatMap z0c ++ r.flatMap z0c) ++ z4b C))) := by
   simp only [List.cons_append, List.append_assoc]
   have e1 : (z6s C ++ q.id :: (l.flatMap z0c ++ (z0c x ++ (r.flatMap z0c ++ z4b C)))) = (z6s C ++ q.id :: l.flatMap z0c) ++ (z0c x ++ (r.flatMap z0c ++ z4b C)) := by simp
   have e2 : (z6s C ++ q.id :: (l.flatMap z0c ++ (r.flatMap z0c ++ z4b C))) = (z6s C ++ q.id :: l.flatMap z0c) ++ (r.flatMap z0c ++ z4b C) := by simp
   rw [e1, e2]
   exact List.perm_append_comm_assoc _ _ _
  rw [hp.nodup_iff, List.nodup_append]
  exact ⟨x4, u4, fun a ha b hb e => hs a ha (e ▸ hb)⟩
 ·rw [hr, hp]; exact u5
 ·intro hm
  have hz : Idv.zero ∉ z0c x := by
   rw [z1r, List.mem_cons]
   rintro (h | h)
   ·exact hk (x5.1 h.symm)
   ·exact x6 h
  rw [zd2, hids] at hm
  rw [zd2, hids0] at u6
  cases hC : z6s C with
  | nil =>
   rw [hC] at hm u6
   simp only [List.nil_append, List.cons_append, List.drop_succ_cons, List.drop_zero, List.mem_append, List.append_assoc] at hm u6
   rcases hm with h | h | h | h
   ·exact u6 (.inl h)
   ·exact hz h
   ·exact u6 (.inr (.inl h))
   ·exact u6 (.inr (.inr h))
  | cons i p =>
   rw [hC] at hm u6
   simp only [List.cons_append, List.drop_succ_cons, List.drop_zero, List.mem_append, List.mem_cons, List.append_assoc] at hm u6
   rcases hm with h | h | h | h | h | h
   ·exact u6 (.inl h)
   ·exact u6 (.inr (.inl h))
   ·exact u6 (.inr (.inr (.inl h)))
   ·exact hz h
   ·exact u6 (.inr (.inr (.inr (.inl h))))
   ·exact u6 (.inr (.inr (.inr (.inr h))))
theorem zoe {C : Ctx} {q x : T} {l r : List T} (hu : z10 (z2b C (q.setKids (l ++ x :: r))) = true) : z10 (z2b C (q.setKids (l ++ r))) = true /\ z10 x = true /\ x.kind ≠ 0 /\ z1w q.kind x.kind = true /\ z3z (l ++ r) x.kind x.label = false /\
  (l ++ r).length < 64 /\ zog C + 1 + depT x <= 8 /\ cntT (z2b C (q.setKids (l ++ r))) + cntT x <= 1024 /\ (∀ i ∈ z0c x, i ∉ z0c (z2b C (q.setKids (l ++ r)))) := by
 rw [z20] at hu
 obtain ⟨u1, u2, u3, u4, u5, u6⟩ := hu
 rw [z6u, zek] at u1
 obtain ⟨uC, ⟨a1, a2, a3, a4, a5⟩, uX⟩ := u1
 obtain ⟨hr, hp⟩ := zjd C (x := q.setKids (l ++ x :: r)) (y := q.setKids (l ++ r)) rfl rfl
 have hids : z0c (q.setKids (l ++ x :: r)) = q.id :: (l.flatMap z0c ++ (z0c x ++ r.flatMap z0c)) := by rw [z2c, List.flatMap_append, List.flatMap_cons]
 have hids0 : z0c (q.setKids (l ++ r)) = q.id :: (l.flatMap z0c ++ r.flatMap z0c) := by rw [z2c, List.flatMap_append]
 rw [zd3, zsb] at u2
 rw [z6b, zh2] at u3
 have h65 : (l ++ q :: r).length <= 64 := by
  have := a1
  unfold z4j at this
  simp only [Bool.and_eq_true, decide_eq_true_eq] at this
  exact this.2.1
 have hp2 : (z6s C ++ (q.id :: (l.flatMap z0c ++ (z0c x ++ r.flatMap z0c)) ++ z4b C)).Perm (z0c x ++ (z6s C ++ (q.id :: (l.flatMap z0c ++ r.flatMap z0c) ++ z4b C))) := by
  simp only [List.cons_append, List.append_assoc]
  have e1 : (z6s C ++ q.id :: (l.flatMap z0c ++ (z0c x ++ (r.flatMap z0c ++ z4b C)))) = (z6s C ++ q.id :: l.flatMap z0c) ++ (z0c x ++ (r.flatMap z0c ++ z4b C)) := by simp
  have e2 : (z6s C ++ q.id :: (l.flatMap z0c ++ (r.flatMap z0c ++ z4b C))) = (z6s C ++ q.id :: l.flatMap z0c) ++ (r.flatMap z0c ++ z4b C) := by simp
  rw [e1, e2]
  exact List.perm_append_comm_assoc _ _ _
 rw [z2n, hids, hp2.nodup_iff, List.nodup_append] at u4
 obtain ⟨n1, n2, n3⟩ := u4
 have hz6 : Idv.zero ∉ z0c x /\ Idv.zero ∉ (z6s C ++ (q.id :: (l.flatMap z0c ++ r.flatMap z0c) ++ z4b C)).drop 1 := by
  rw [zd2, hids] at u6
  cases hC : z6s C with
  | nil =>
   rw [hC] at u6
   simp only [List.nil_append, List.cons_append, List.drop_succ_cons, List.drop_zero, List.mem_append, List.append_assoc] at u6 ⊢
   exact ⟨fun h => u6 (.inr (.inl h)), fun h => by
    rcases h with h | h | h
    ·exact u6 (.inl h)
    ·exact u6 (.inr (.inr (.inl h)))
    ·exact u6 (.inr (.inr (.inr h)))⟩
  | cons i p =>
   rw [hC] at u6
   simp only [List.cons_append, List.drop_succ_cons, List.drop_zero, List.mem_append, List.mem_cons, List.append_assoc] at u6 ⊢
   exact ⟨fun h => u6 (.inr (.inr (.inr (.inl h)))), fun h => by
    rcases h with h | h | h | h | h
    ·exact u6 (.inl h)
    ·exact u6 (.inr (.inl h))
    ·exact u6 (.inr (.inr (.inl h)))
    ·exact u6 (.inr (.inr (.inr (.inr (.inl h)))))
    ·exact u6 (.inr (.inr (.inr (.inr (.inr h)))))⟩
 have hk0 : x.kind ≠ 0 := fun e => by rw [e, nest0] at a3; cases a3
 refine ⟨?_, ?_, hk0, a3, zd1.2 a5, by simp at h65 ⊢; omega, by omega, by rw [z6b]; omega, fun i hi hm => ?_⟩
 ·rw [z20]
  refine ⟨?_, by rw [zd3]; omega, by rw [z6b]; omega, ?_, by rw [<- hr, <- hp]; exact u5, ?_⟩
  ·rw [z6u]
   refine ⟨uC, ?_⟩
   rw [z5o]
   show (z4j (q.setKids (l ++ r)) && (((l ++ r).all fun k => z1w q.kind k.kind) && ((l ++ r).all z36 && decide (((l ++ r).map z6y).Nodup)))) = true
   simp only [Bool.and_eq_true, List.all_eq_true, decide_eq_true_eq]
   exact ⟨zjb (t := q.setKids (l ++ q :: r)) a1 (m := l ++ r) (by simp at h65 ⊢; omega), fun y hy => (a2 y hy).1, fun y hy => (a2 y hy).2, a4⟩
  ·rw [z2n, hids0]; exact n2
  ·rw [zd2, hids0]; exact hz6.2
 ·rw [z20]
  refine ⟨uX, by omega, by omega, n1, ⟨fun h => (hz6.1 (h ▸ z1d x)).elim, fun h => (hk0 h).elim⟩, fun h => hz6.1 ?_⟩
  rw [z1r]; exact List.mem_cons_of_mem _ h
 ·rw [z2n, hids0] at hm
  exact n3 i hi i hm rfl
theorem zsc {t : T} (h : szB t = true) {l : List T} (hl : l.length <= 1000000) (hk : ∀ k ∈ l, szB k = true) : szB (t.setKids l) = true := by
 obtain ⟨h0, h1, h2, h3, h4, _, _⟩ := (z1q t).1 h
 exact (z1q _).2 ⟨h0, h1, h2, h3, h4, hl, hk⟩
theorem z5y {t : T} (h : szB t = true) : t.kids.length <= 1000000 /\ ∀ k ∈ t.kids, szB k = true := by
 obtain ⟨_, _, _, _, _, h5, h6⟩ := (z1q t).1 h
 exact ⟨h5, h6⟩
theorem zyr {q x : T} {i : Nat} (hq : szB q = true) (hx : szB x = true) (hl : q.kids.length < 1000000) : szB (z5a i x q) = true := by
 obtain ⟨h1, h2⟩ := z5y hq
 refine zsc hq (by simp; omega) fun k hk => ?_
 rcases List.mem_append.1 hk with hk | hk
 ·exact h2 k (List.mem_of_mem_take hk)
 ·rcases List.mem_cons.1 hk with rfl | hk
  ·exact hx
  ·exact h2 k (List.mem_of_mem_drop hk)
theorem zys {id : Idv} {f : T -> T} (hf : ∀ q, szB q = true -> q.id = id -> szB (f q) = true) : ∀ u : T, szB u = true -> szB (z25 id f u) = true := by
 refine z3y fun u ih h => ?_
 rw [z7l]
 split
 ·exact hf u h ‹_›
 ·obtain ⟨h1, h2⟩ := z5y h
  refine zsc h (by rw [List.length_map]; exact h1) fun k hk => ?_
  obtain ⟨k', hk', rfl⟩ := List.mem_map.1 hk
  exact ih k' hk' (h2 k' hk')
theorem zl2 {id : Idv} : ∀ u : T, szB u = true -> szB (z0o id u) = true := by
 refine z3y fun u ih h => ?_
 rw [z3q]
 obtain ⟨h1, h2⟩ := z5y h
 refine zsc h (by rw [List.length_map]; have := List.length_filter_le (z6v id) u.kids; omega) fun k hk => ?_
 obtain ⟨k', hk', rfl⟩ := List.mem_map.1 hk
 exact ih k' (List.mem_filter.1 hk').1 (h2 k' (List.mem_filter.1 hk').1)
end Tr
end
section
open Abs Facts Tr
attribute [local irreducible] awp
namespace Tr
theorem zyi {α : Type} {f : α -> Bool} {l : List α} {i : Nat} (h : i < l.length) (hf : f l[i] = true) : l.any f = true := List.any_eq_true.2 ⟨_, List.getElem_mem h, hf⟩
theorem z7a {α : Type} {f : α -> Bool} {l : List α} {i : Nat} (hi : i < l.length) (h : (l.take i).any f = false) (hf : f l[i] = false) : (l.take (i + 1)).any f = false := by
 rw [List.take_succ_eq_append_getElem hi, List.any_append, h]; simp [hf]
theorem zv9 {α : Type} {f : α -> Bool} {l : List α} {i : Nat} (hi : ¬ i < l.length) (h : (l.take i).any f = false) : l.any f = false := by
 rw [List.take_of_length_le (by omega)] at h; exact h
end Tr
end
section
open Abs Facts Go.Lib
variable {P : Program}
end
section
open Abs Facts Go.Lib Go.Shelf Go.RowKit
end
section
open Abs Facts Go.Lib Go.RowKit
end
section
open Abs Facts Tr
attribute [local irreducible] awp
namespace Abs
theorem z1e {P : Program} {own : List Nat} {c : Code} {Q : Exit -> St -> Prop} {st : St} (I : St -> Prop) (h0 : I st) (h : ∀ st, I st -> awp P own c Q st) : awp P own c Q st := h st h0
end Abs
theorem zgc {P : Program} {H : HM} (k : Nat) {t : T} {d : D} (hd : z30 P H (k + 1) d = some (z0e t.kids)) (hp : pureD d = false) :
  z30 P H (k + 2) (.agg [.int .i64 t.id.act, .int .i64 t.id.item, .int .i64 t.id.n, .int .i64 t.kind, .str t.label, z0n t.head, z0n t.words, d]) = some (z1a t) := by
 rw [z1a, z0y]
 refine ze3 (k + 1) ?_ (z0q (z0p k rfl) (z0q (z0p k rfl) (z0q (z0p k rfl) (z0q (z0p k rfl) (z0q (z0p k rfl) (z0q (z0p k (z0w _)) (z0q (z0p k (z0w _)) (z0q hd z90))))))))
 simp only [pureD.pureL, hp, Bool.and_false, Bool.false_and]
def zjf (t : T) : List D := [.int .i64 t.id.act, .int .i64 t.id.item, .int .i64 t.id.n, .int .i64 t.kind, .str t.label, z0n t.head, z0n t.words, z0e t.kids]

namespace Tr
def zc0 (u : T) (parent : Idv) (i : Int) (x : T) : Int :=
 if z10 u = false \/ z10 x = false \/ x.kind = 0 then 1 else
 if (z0b parent u).2 = false then 4 else
 if z1w (z0b parent u).1.kind x.kind = false then 9 else
 if i < 0 \/ ((z0b parent u).1.kids.length : Int) < i then 3 else
 if z3z (z0b parent u).1.kids x.kind x.label = true then 10 else
 if 64 <= (z0b parent u).1.kids.length \/ 8 < (z54 parent u).length + 1 + depT x \/ 1024 < cntT u + cntT x then 6 else
 if ((z0c x).any fun i => (z0b i u).2) = true then 5 else 0
theorem z6m {id : Idv} {u : T} (h : (z0b id u).2 = true) : (z0b id u).1 ∈ z08 u := by
 have hm := zbw.1 h
 unfold z0b
 rw [zcv _ hm]
 exact z9o id u _ (List.getElem_mem _)
theorem za2 {id : Idv} {u q : T} (hn : (z0c u).Nodup) (hq : q ∈ z08 u) (hid : q.id = id) : z0b id u = (q, true) := by
 have key : ∀ u : T, (z0c u).Nodup -> q ∈ z08 u -> z0b id u = (q, true) := by
  refine z3y fun u ih hn hq => ?_
  rw [z1x, List.mem_cons] at hq
  rcases hq with rfl | hq
  ·exact z29 hid
  ·obtain ⟨k, hk, hqk⟩ := List.mem_flatMap.1 hq
   obtain ⟨i, hi, rfl⟩ := List.getElem_of_mem hk
   obtain ⟨g1, g2, g3⟩ := z99 hn
   have hin : id ∈ z0c u.kids[i] := List.mem_map.2 ⟨q, hqk, hid⟩
   have h2 := ih _ hk (g2 _ hk) hqk
   have hw : z1i id u.kids[i] ≠ [] := z3p.2 hin
   rw [z3i (z3s (fun e => g1 _ hk (e ▸ hin)) hi (fun j hj h => (z4q id _).2 (g3 i j hi h (by omega) id hin)) hw) hw, h2]
 exact key u hn hq
def takeE (u : T) (id : Idv) : Int := if z10 u = false then 1 else if (z0b id u).2 = false then 4 else if u.id = id then 9 else 0
theorem zlk {u x : T} {parent : Idv} {i : Int} (h : zc0 u parent i x = 0) : (z10 u = true /\ z10 x = true /\ x.kind ≠ 0 /\ (z0b parent u).2 = true /\ z1w (z0b parent u).1.kind x.kind = true /\ z3z (z0b parent u).1.kids x.kind x.label = false /\ (z0b parent u).1.kids.length < 64 /\ (z54 parent u).length + 1 + depT x <= 8 /\ cntT u + cntT x <= 1024 /\ ((z0c x).any fun i => (z0b i u).2) = false) /\
  parent ∈ z0c u /\ ∃ n : Nat, i = n /\ ∀ q ∈ z08 u, q.id = parent -> n <= q.kids.length := by
 unfold zc0 at h
 split at h
 ·cases h
 rename_i h1
 split at h
 ·cases h
 rename_i h2
 split at h
 ·cases h
 rename_i h3
 split at h
 ·cases h
 rename_i h4
 split at h
 ·cases h
 rename_i h5
 split at h
 ·cases h
 rename_i h6
 split at h
 ·cases h
 rename_i h7
 simp only [not_or, Bool.not_eq_false, Bool.not_eq_true] at h1 h2 h3 h5 h7
 refine ⟨⟨h1.1, h1.2.1, h1.2.2, h2, h3, h5, by omega, by omega, by omega, h7⟩, ?_, i.toNat, by omega, fun q hq hid => ?_⟩
 ·rw [z2y, decide_eq_true_eq] at h2; exact h2
 ·rw [za2 ((z20 u).1 h1.1).2.2.2.1 hq hid] at h4
  simp only at h4
  omega
end Tr
namespace Abs
end Abs
end
section
open Abs Facts Tr
namespace Tr
theorem zbm {u x : T} {parent : Idv} {n : Nat} (h1 : z10 u = true) (h2 : z10 x = true) (h3 : x.kind ≠ 0) (h4 : parent ∈ z0c u) (h5 : z1w (z0b parent u).1.kind x.kind = true) (h6 : n <= (z0b parent u).1.kids.length)
  (h7 : z3z (z0b parent u).1.kids x.kind x.label = false) (h8 : (z0b parent u).1.kids.length < 64) (h9 : (z54 parent u).length + 1 + depT x <= 8) (h10 : cntT u + cntT x <= 1024) (h11 : ∀ i ∈ z0c x, i ∉ z0c u) : zc0 u parent n x = 0 := by
 unfold zc0
 rw [if_neg (by rw [h1, h2]; simp [h3]), if_neg (by rw [z2y, decide_eq_true h4]; simp), if_neg (by rw [h5]; simp), if_neg (by omega), if_neg (by rw [h7]; simp), if_neg (by omega), if_neg]
 rw [List.any_eq_true]
 rintro ⟨i, hi, hf⟩
 rw [z2y, decide_eq_true_eq] at hf
 exact h11 i hi hf
theorem ze0 {C : Ctx} {q : T} {id : Idv} (hq : q.id = id) (h : id ∉ z6s C) : (z54 id (z2b C q)).length = zog C := by
 rw [zmh (hq ▸ z1d q) C h, zet hq, List.nil_append, zjg]
theorem z5f {t : T} (h : z10 t = true) : (z0c t).Nodup := ((z20 t).1 h).2.2.2.1
theorem zin {u x : T} {parent : Idv} {n : Nat} (h : zc0 u parent n x = 0) : ∃ (C : Ctx) (q : T) (l r : List T), u = z2b C (q.setKids (l ++ r)) /\ l.length = n /\ q.id = parent /\ z25 parent (z5a n x) u = z2b C (q.setKids (l ++ x :: r)) /\
  z10 (z25 parent (z5a n x) u) = true /\ z0o x.id (z25 parent (z5a n x) u) = u /\ z0b x.id (z25 parent (z5a n x) u) = (x, true) /\ z31 x.id (z25 parent (z5a n x) u) = (parent, (n : Int), true) /\ ¬ (z25 parent (z5a n x) u).id = x.id /\
  (atR parent (z5a n x) u).1 = z25 parent (z5a n x) u /\ (∀ i ∈ z0c x, i ∉ z0c u) /\ cntT (z25 parent (z5a n x) u) = cntT u + cntT x := by
 obtain ⟨⟨h1, h2, h3, h4, h5, h7, h8, h9, h10, h11⟩, hm, n', hn, hle⟩ := zlk h
 obtain rfl : n = n' := by omega
 have hdis : ∀ i ∈ z0c x, i ∉ z0c u := fun i hi hm => by
  have := List.any_eq_false.1 h11 i hi
  rw [z2y, decide_eq_true hm] at this
  exact this rfl
 have hnd := z5f h1
 obtain ⟨C, e, hq, hpre, _⟩ := focus parent u hm
 have hqn := z6m h4
 have hk := hle _ hqn hq
 generalize hq0 : (z0b parent u).1 = q at *
 have e2 : q = q.setKids (q.kids.take n ++ q.kids.drop n) := by rw [List.take_append_drop, z6a]
 generalize hl : q.kids.take n = l at *
 generalize hr : q.kids.drop n = r at *
 have hln : l.length = n := by rw [<- hl, List.length_take]; omega
 have hkr : q.kids = l ++ r := by rw [<- hl, <- hr, List.take_append_drop]
 have hue : u = z2b C (q.setKids (l ++ r)) := e.trans (congrArg (z2b C) e2)
 have hxu := hdis x.id (z1d x)
 have hmx : x.id ∈ z0c (q.setKids (l ++ x :: r)) := by rw [z2c]; exact List.mem_cons_of_mem _ (zel.2 (.inr (.inl (z1d x))))
 rw [hue, z2n, z2c, List.flatMap_append] at hxu
 simp only [List.mem_append, List.mem_cons, not_or] at hxu
 obtain ⟨k1, ⟨k2, k3, k4⟩, k5⟩ := hxu
 have hpost : parent ∉ z4b C := (z2p (x := q) (by rw [<- e]; exact hnd) (hq ▸ z1d q)).2
 have hed : z25 parent (z5a n x) u = z2b C (q.setKids (l ++ x :: r)) := by
  rw [e, z60 (z5a n x) hq C hpre hpost]
  rw [e2, <- hln, zml]
  rfl
 have hst : z10 (z2b C (q.setKids (l ++ x :: r))) = true := by
  refine zod (by rw [<- hue]; exact h1) h2 h3 h5 (by rw [<- hkr]; exact h7) (by rw [<- hkr]; exact h8) ?_ (by rw [<- hue]; exact h10) (by rw [<- hue]; exact hdis)
  have := ze0 hq hpre
  rw [<- e] at this
  omega
 rw [hed]
 refine ⟨C, q, l, r, hue, hln, hq, rfl, hst, ?_, ?_, ?_, ?_, ?_, hdis, ?_⟩
 ·rw [zay (fun e => k2 e.symm) rfl k3 k4 C k1 k5, hue]
 ·rw [z5z hmx C k1, zh4 (fun e => k2 e.symm) k3 (z1d x), z29 rfl]
 ·rw [zh5 hmx (fun e => k2 e.symm) C k1, zmg (fun e => k2 e.symm) k3 rfl, hq, hln]
 ·intro hid
  cases C with
  | hole => exact k2 hid.symm
  | node t a c b => exact (z3h k1).1 hid
 ·rw [zsn (z5a n x) hnd hm, hed]
 ·rw [hue, z6b, z6b, zh2]; omega
theorem z6r {u : T} {id : Idv} (hs : z10 u = true) (h0 : ¬ u.id = id) (hm : id ∈ z0c u) : ∃ (under : Idv) (n : Nat) (x : T), z31 id u = (under, (n : Int), true) /\ z0b id u = (x, true) /\ x.id = id /\ z10 (z0o id u) = true /\ z10 x = true /\ x.kind ≠ 0 /\
  zc0 (z0o id u) under n x = 0 /\ z25 under (z5a n x) (z0o id u) = u /\ (∀ i ∈ z0c x, i ∉ z0c (z0o id u)) /\ under ∈ z0c (z0o id u) /\ cntT (z0o id u) + cntT x = cntT u /\ (∀ i ∈ z0c u, i ∈ z0c x \/ i ∈ z0c (z0o id u)) := by
 obtain ⟨C, q, l, x, r, e, hx, hq, n1, n2, hf, hp⟩ := zmi h0 hm
 have hnd := z5f hs
 subst e
 have hxm : id ∈ z0c (q.setKids (l ++ x :: r)) := by rw [z2c]; exact List.mem_cons_of_mem _ (zel.2 (.inr (.inl (hx ▸ z1d x))))
 obtain ⟨k1, k2⟩ := z2p hnd hxm
 have ns := (zen (zbv hnd)).1 id (hx ▸ z1d x)
 have hw := zay hq hx n2 ns.2.2 C k1 k2
 obtain ⟨d1, d2, d3, d4, d5, d6, d7, d8, d9⟩ := zoe hs
 rw [hw]
 have hnd2 := z5f d1
 have hqs : q.id ∈ z0c (q.setKids (l ++ r)) := by rw [z2c]; exact List.mem_cons_self
 obtain ⟨m1, m2⟩ := z2p hnd2 hqs
 have hfq : z0b q.id (z2b C (q.setKids (l ++ r))) = (q.setKids (l ++ r), true) := by rw [z5z hqs C m1]; exact z29 rfl
 refine ⟨q.id, l.length, x, hp, hf, hx, d1, d2, d3, ?_, ?_, d9, z7k C hqs, ?_, fun i hi => ?_⟩
 ·refine zbm d1 d2 d3 (z7k C hqs) (by rw [hfq]; exact d4) ?_ (by rw [hfq]; exact d5) (by rw [hfq]; exact d6) ?_ d8 d9
  ·rw [hfq]; show l.length <= (l ++ r).length; simp
  ·rw [ze0 (id := q.id) (q := q.setKids (l ++ r)) rfl m1]; exact d7
 ·rw [z60 (id := q.id) (z5a l.length x) (q := q.setKids (l ++ r)) rfl C m1 m2, zml]
 ·rw [z6b, z6b, zh2]; omega
 ·rw [z2n, z2c, List.flatMap_append, List.flatMap_cons] at hi
  rw [z2n, z2c, List.flatMap_append]
  simp only [List.mem_append, List.mem_cons] at hi ⊢
  rcases hi with h | (h | h | h | h) | h
  ·exact .inr (.inl h)
  ·exact .inr (.inr (.inl (.inl h)))
  ·exact .inr (.inr (.inl (.inr (.inl h))))
  ·exact .inl h
  ·exact .inr (.inr (.inl (.inr (.inr h))))
  ·exact .inr (.inr (.inr h))
theorem zgt {id : Idv} {t : T} (h : id ∉ z0c t) : z0o id t = t := zsl t fun k hk hm => h (by rw [z1r]; exact List.mem_cons_of_mem _ (List.mem_flatMap.2 ⟨k, hk, hm⟩))
theorem z5x (id : Idv) (t : T) : (z0o id t).id = t.id /\ (z0o id t).kind = t.kind /\ (z0o id t).label = t.label /\ (z0o id t).head = t.head /\ (z0o id t).words = t.words := by
 rw [z3q]; exact ⟨rfl, rfl, rfl, rfl, rfl⟩
theorem zgu (id : Idv) : ∀ t : T, ∀ i ∈ z0c (z0o id t), i ∈ z0c t := by
 refine z3y fun t ih i hi => ?_
 rw [z3q, z2c, List.mem_cons, List.mem_flatMap] at hi
 rw [z1r, List.mem_cons, List.mem_flatMap]
 rcases hi with h | ⟨k, hk, h⟩
 ·exact .inl h
 ·obtain ⟨k', hk', rfl⟩ := List.mem_map.1 hk
  exact .inr ⟨k', (List.mem_filter.1 hk').1, ih k' (List.mem_filter.1 hk').1 i h⟩
theorem zv6 {k : Idv} {u : T} : ∀ i ∈ z0c (z0b k u).1, (z0b k u).2 = true -> i ∈ z0c u := fun i hi hf => by
 have hm : k ∈ z0c u := by rw [z2y, decide_eq_true_eq] at hf; exact hf
 obtain ⟨C, e, _, _, _⟩ := focus k u hm
 rw [e]
 exact z7k C hi
theorem zv7 {id : Idv} : ∀ u : T, depT (z0o id u) <= depT u := by
 have key : ∀ (l : List T) (g : T -> T) (p : T -> Bool), (∀ k ∈ l, depT (g k) <= depT k) -> z9e (((l.filter p).map g).map depT) <= z9e (l.map depT) := by
  intro l g p h
  induction l with
  | nil => simp
  | cons k l ih =>
   have h1 := h k (by simp)
   have h2 := ih fun k hk => h k (List.mem_cons_of_mem _ hk)
   rw [List.filter_cons, List.map_cons, z6t]
   split
   ·rw [List.map_cons, List.map_cons, z6t]; omega
   ·omega
 refine z3y fun u ih => ?_
 rw [z3q, z3v, z3v u]
 exact key u.kids (z0o id) (z6v id) ih
theorem ze1 {id k : Idv} : ∀ u : T, (z0c u).Nodup -> ¬ u.id = id -> k ∈ z0c u -> (∀ y, z0b id u = (y, true) -> k ∉ z0c y) -> z0b k (z0o id u) = (z0o id (z0b k u).1, true) := by
 refine z3y fun u ih hn h0 hk hy => ?_
 by_cases hid : id ∉ z0c u
 ·rw [zgt hid]
  have hf : (z0b k u).2 = true := by rw [z2y, decide_eq_true hk]
  have := zgt (id := id) (t := (z0b k u).1) fun hm => hid (zv6 id hm hf)
  rw [this, <- hf]
 rw [Classical.not_not] at hid
 by_cases hku : u.id = k
 ·rw [z29 hku]
  exact z29 (by rw [(z5x id u).1]; exact hku)
 ·obtain ⟨i, hi, h1, h2, h3⟩ := z8p hku (z3p.2 hk)
  have hkm := z3p.1 h2
  rw [z3i h3 h2]
  obtain ⟨g1, g2, g3⟩ := z99 hn
  have hki := List.getElem_mem hi
  have hkeep : ¬ u.kids[i].id = id := fun e => by
   refine hy u.kids[i] ?_ hkm
   have hw : z1i id u.kids[i] = [u.kids[i]] := z52 e
   have hne : z1i id u.kids[i] ≠ [] := by rw [hw]; simp
   rw [z3i (z3s h0 hi (fun j hj h => (z4q id _).2 (g3 i j hi h (by omega) id (e ▸ z1d _))) hne) hne]
   exact z29 e
  have hin := ih _ hki (g2 _ hki) hkeep hkm (fun y hf => hy y (by
   have hne : z1i id u.kids[i] ≠ [] := zbw.1 (by rw [hf])
   rw [z3i (z3s h0 hi (fun j hj h => (z4q id _).2 (g3 i j hi h (by omega) id (z3p.1 hne))) hne) hne]
   exact hf))
  have hsp : u.kids = u.kids.take i ++ u.kids[i] :: u.kids.drop (i + 1) := by rw [<- List.drop_eq_getElem_cons hi, List.take_append_drop]
  have hwk : k ∈ z0c (z0o id u.kids[i]) := by
   have : (z0b k (z0o id u.kids[i])).2 = true := by rw [hin]
   rw [z2y, decide_eq_true_eq] at this; exact this
  rw [z3q]
  have e : (u.kids.filter (z6v id)).map (z0o id) = ((u.kids.take i).filter (z6v id)).map (z0o id) ++ z0o id u.kids[i] :: ((u.kids.drop (i + 1)).filter (z6v id)).map (z0o id) := by
   conv => lhs; rw [hsp]
   rw [List.filter_append, List.filter_cons, if_pos (z8m hkeep), List.map_append, List.map_cons]
  rw [e, zh4 hku ?_ hwk, hin]
  intro hm
  obtain ⟨y, hym, hyk⟩ := List.mem_flatMap.1 hm
  obtain ⟨y', hy', rfl⟩ := List.mem_map.1 hym
  have hmem := (List.mem_filter.1 hy').1
  obtain ⟨j, hj, rfl⟩ := List.getElem_of_mem hmem
  rw [List.length_take] at hj
  have := zgu id _ k hyk
  rw [List.getElem_take] at this
  exact g3 i j hi (by omega) (by omega) k hkm this
end Tr
end
section
open Abs Facts Tr
attribute [local irreducible] awp
namespace Tr
end Tr
namespace Tr
end Tr
namespace Tr
end Tr
namespace Tr
end Tr
namespace Tr
end Tr
namespace Tr
def zz1 (rest p : T) (parent : Idv) (x : T) : Bool := decide (64 <= p.kids.length \/ 8 < (z54 parent rest).length + 1 + depT x)
def zjo (u : T) (id parent : Idv) (i : Int) : Int :=
 if z10 u = false then 1 else
 if (z0b id u).2 = false \/ (z0b parent u).2 = false then 4 else
 if u.id = id \/ (z0b parent (z0b id u).1).2 = true then 9 else
 if z1w (z0b parent (z0o id u)).1.kind (z0b id u).1.kind = false then 9 else
 if i < 0 \/ ((z0b parent (z0o id u)).1.kids.length : Int) < i then 3 else
 if z3z (z0b parent (z0o id u)).1.kids (z0b id u).1.kind (z0b id u).1.label = true then 10 else
 if zz1 (z0o id u) (z0b parent (z0o id u)).1 parent (z0b id u).1 = true then 6 else 0
theorem zl6 {u : T} {id parent : Idv} {i : Int} (h : zjo u id parent i = 0) : z10 u = true /\ id ∈ z0c u /\ parent ∈ z0c u /\ ¬ u.id = id /\ parent ∉ z0c (z0b id u).1 /\ zc0 (z0o id u) parent i (z0b id u).1 = 0 := by
 unfold zjo at h
 split at h
 ·cases h
 rename_i h1
 split at h
 ·cases h
 rename_i h2
 split at h
 ·cases h
 rename_i h3
 split at h
 ·cases h
 rename_i h4
 split at h
 ·cases h
 rename_i h5
 split at h
 ·cases h
 rename_i h6
 split at h
 ·cases h
 rename_i h7
 simp only [not_or, Bool.not_eq_false, Bool.not_eq_true] at h1 h2 h3 h4 h6 h7
 obtain ⟨h2a, h2b⟩ := h2
 obtain ⟨h3a, h3b⟩ := h3
 rw [z2y, decide_eq_true_eq] at h2a h2b
 rw [z2y, decide_eq_false_iff_not] at h3b
 obtain ⟨under, n, x, d1, d2, d3, d4, d5, d6, d7, d8, d9, d10, d11, d12⟩ := z6r h1 h3a h2a
 rw [d2] at h3b h4 h6 h7 ⊢
 simp only at h3b h4 h6 h7 ⊢
 have hpr : parent ∈ z0c (z0o id u) := (d12 parent h2b).resolve_left h3b
 have hc : cntT u <= 1024 := ((z20 u).1 h1).2.2.1
 unfold zz1 at h7
 rw [decide_eq_false_iff_not] at h7
 refine ⟨h1, h2a, h2b, h3a, h3b, ?_⟩
 obtain ⟨m, rfl⟩ := Int.eq_ofNat_of_zero_le (show 0 <= i by omega)
 exact zbm d4 d5 d6 hpr h4 (by omega) h6 (by omega) (by omega) (by omega) d9
theorem zeq {u x : T} {id parent : Idv} {i : Int} (h1 : z10 u = true) (h2 : z0b id u = (x, true)) (h3 : parent ∈ z0c u) (h4 : ¬ u.id = id) (h5 : parent ∉ z0c x) (h6 : zc0 (z0o id u) parent i x = 0) : zjo u id parent i = 0 := by
 obtain ⟨⟨w1, w2, w3, w4, w5, w6, w7, w8, w9, w10⟩, w11, n, rfl, w12⟩ := zlk h6
 have hk := w12 _ (z6m w4)
 have hq : (z0b parent (z0o id u)).1.id = parent := by
  obtain ⟨_, _, e, _, _⟩ := focus parent _ w11
  exact e
 have hk := hk hq
 unfold zjo
 rw [if_neg (by rw [h1]; simp), h2]
 simp only
 rw [ if_neg (by rw [z2y, decide_eq_true h3]; simp), if_neg (by rw [z2y, decide_eq_false h5]; simp [h4]), if_neg (by rw [w5]; simp), if_neg (by omega), if_neg (by rw [w6]; simp), if_neg]
 unfold zz1
 rw [decide_eq_true_eq]; omega
end Tr
namespace Tr
theorem take_zero {u x : T} {id : Idv} (h1 : z10 u = true) (h2 : z0b id u = (x, true)) (h3 : ¬ u.id = id) : takeE u id = 0 := by
 unfold takeE; rw [if_neg (by rw [h1]; simp), if_neg (by rw [h2]; simp), if_neg h3]
theorem zgd {u : T} {id parent : Idv} {m : Nat} (h : zjo u id parent m = 0) : ∃ (under : Idv) (n : Nat), z31 id u = (under, (n : Int), true) /\
  z31 id (z25 parent (z5a m (z0b id u).1) (z0o id u)) = (parent, (m : Int), true) /\ zjo (z25 parent (z5a m (z0b id u).1) (z0o id u)) id under n = 0 /\
  z25 under (z5a n (z0b id (z25 parent (z5a m (z0b id u).1) (z0o id u))).1) (z0o id (z25 parent (z5a m (z0b id u).1) (z0o id u))) = u /\
  z10 (z25 parent (z5a m (z0b id u).1) (z0o id u)) = true /\ cntT (z25 parent (z5a m (z0b id u).1) (z0o id u)) = cntT u := by
 obtain ⟨h1, h2, h3, h4, h5, hw⟩ := zl6 h
 obtain ⟨under, n, x, d1, d2, d3, d4, d5, d6, d7, d8, d9, d10, d11, d12⟩ := z6r h1 h4 h2
 rw [d2] at hw h5 ⊢
 simp only at hw h5 ⊢
 obtain ⟨C, q, l, r, _, _, _, _, f1, f2, f3, f4, f5, _, f7, f8⟩ := zin hw
 rw [d3] at f2 f3 f4 f5
 refine ⟨under, n, d1, f4, ?_, by rw [f3, f2]; exact d8, f1, by omega⟩
 refine zeq f1 f3 ?_ f5 (fun hm => d9 under hm d10) (by rw [f2]; exact d7)
 -- the old parent is still there
 have hu : under ∈ z0c (z0o id u) := d10
 obtain ⟨C', q', l', r', e1, _, _, e2, _⟩ := zin hw
 rw [e2, z2n, z2c, List.flatMap_append, List.flatMap_cons]
 rw [e1, z2n, z2c, List.flatMap_append] at hu
 simp only [List.mem_append, List.mem_cons] at hu ⊢
 rcases hu with h | (h | h | h) | h
 ·exact .inl h
 ·exact .inr (.inl (.inl h))
 ·exact .inr (.inl (.inr (.inl h)))
 ·exact .inr (.inl (.inr (.inr (.inr h))))
 ·exact .inr (.inr h)
end Tr
end
section
open Abs Facts Tr
namespace Tr
theorem z8o : ∀ u x : T, x ∈ z08 u -> ∀ y ∈ z08 x, y ∈ z08 u := by
 refine fun u => z3y (p := fun u => ∀ x : T, x ∈ z08 u -> ∀ y ∈ z08 x, y ∈ z08 u) (fun u ih x hx y hy => ?_) u
 rw [z1x, List.mem_cons] at hx
 rcases hx with rfl | hx
 ·exact hy
 ·obtain ⟨k, hk, hxk⟩ := List.mem_flatMap.1 hx
  exact z3d hk (ih k hk x hxk y hy)
theorem zop : ∀ t : T, (z0c t).Nodup -> ∀ p ∈ z08 t, ∀ y ∈ p.kids, (z31 y.id t).1 = p.id := by
 refine z3y fun t ih hn p hp y hy => ?_
 obtain ⟨g1, g2, g3⟩ := z99 hn
 rw [z1x, List.mem_cons] at hp
 rcases hp with rfl | hp
 ·obtain ⟨i, hi, rfl⟩ := List.getElem_of_mem hy
  rw [zjr (id := p.kids[i].id) (t := p) (i := i) (fun e => g1 _ hy (e ▸ z1d _)) hi (fun j hj h => (z4q _ _).2 (g3 i j hi h (by omega) _ (z1d _))) rfl]
 ·obtain ⟨k, hk, hpk⟩ := List.mem_flatMap.1 hp
  obtain ⟨i, hi, rfl⟩ := List.getElem_of_mem hk
  have hyi : y.id ∈ z0c t.kids[i] := List.mem_map.2 ⟨y, z8o _ p hpk y (z3d hy (z2a y)), rfl⟩
  have hne : ¬ t.kids[i].id = y.id := by
   intro e
   have hn2 := g2 _ hk
   have key : ∀ t : T, (z0c t).Nodup -> ∀ p ∈ z08 t, ∀ y ∈ p.kids, t.id ≠ y.id := by
    intro t hn p hp y hy e
    rw [z1r, List.nodup_cons] at hn
    refine hn.1 ?_
    rw [e]
    rw [z1x, List.mem_cons] at hp
    rcases hp with rfl | hp
    ·exact List.mem_flatMap.2 ⟨y, hy, z1d y⟩
    ·obtain ⟨k, hk, hpk⟩ := List.mem_flatMap.1 hp
     refine List.mem_flatMap.2 ⟨k, hk, List.mem_map.2 ⟨y, ?_, rfl⟩⟩
     exact z8o k p hpk y (z3d hy (z2a y))
   exact key _ hn2 p hpk y hy e
  rw [zsw (id := y.id) (t := t) (i := i) (fun e => g1 _ hk (e ▸ hyi)) hi (fun j hj h => (z4q _ _).2 (g3 i j hi h (by omega) _ hyi)) hne (z3p.2 hyi)]
  exact ih _ hk (g2 _ hk) p hpk y hy
theorem zt0 (C : Ctx) {x y : T} (h : y ∈ z08 x) : y ∈ z08 (z2b C x) := by
 induction C with
 | hole => exact h
 | node t l c r ih => exact z3d (t := z2b (.node t l c r) x) (k := z2b c x) (by show _ ∈ l ++ _ :: r; simp) ih
end Tr
namespace Tr
def zew (s : Stp) : Bool := decide (s.kind = 0) && decide (s.label = z3l)
def zik (s : Stp) : Bool := decide (1 <= s.kind /\ s.kind <= 7) && z3o s.label
def okS (i : Nat) (s : Stp) : Bool := (decide (i = 0) && zew s) || zik s
def z8r (p : List Stp) : Bool := decide (p.length <= 9) && decide (∀ i, (h : i < p.length) -> okS i p[i] = true)
theorem zmv {p : List Stp} {i : Nat} (h : i < p.length) (h2 : okS i p[i] = false) : z8r p = false := by
 unfold z8r
 rw [decide_eq_false (p := ∀ i, (h : i < p.length) -> okS i p[i] = true) (fun g => by rw [g i h] at h2; cases h2), Bool.and_false]
theorem zw5 {p : List Stp} (hl : p.length <= 9) (h : ∀ i, (h : i < p.length) -> okS i p[i] = true) : z8r p = true := by
 unfold z8r
 rw [decide_eq_true hl, decide_eq_true h]; rfl
theorem zt6 {p : List Stp} (hl : ¬ p.length <= 9) : z8r p = false := by unfold z8r; rw [decide_eq_false hl]; rfl
theorem zt7 {p : List Stp} (h : z8r p = true) : p.length <= 9 /\ ∀ i, (h : i < p.length) -> okS i p[i] = true := by
 unfold z8r at h
 simp only [Bool.and_eq_true, decide_eq_true_eq] at h
 exact h
def atB (s : Stp) (u : T) : Bool := decide (u.kind = s.kind) && decide (u.label = s.label)
def z1s (now : List T) (s : Stp) : List T := now.flatMap fun x => x.kids.filter (atB s)
def z16 (u : T) (s : Stp) : List T := if zew s = true then [u] else (z08 u).filter (atB s)
def goT (u : T) : List Stp -> List T
 | [] => [u]
 | s :: r => r.foldl z1s (z16 u s)
def z2k (u : T) (p : List Stp) : List T := if z8r p = true then goT u p else []
def z4d (u : T) (p : List Stp) : List Idv := (z2k u p).map T.id
def oneL : List Idv -> Idv × Int
 | [] => (Idv.zero, 7)
 | [i] => (i, 0)
 | _ :: _ :: _ => (Idv.zero, 8)
def z2q (u : T) (p : List Stp) : Idv × Int := oneL (z4d u p)
theorem zt8 {u : T} {p : List Stp} (h : z4d u p = []) : z2q u p = (Idv.zero, 7) := by unfold z2q; rw [h]; rfl
theorem zw6 : ∀ (l : List Idv) (h : l.length = 1), oneL l = (l[0]'(by omega), 0)
 | [_], _ => rfl
theorem zw7 : ∀ (l : List Idv), 1 < l.length -> oneL l = (Idv.zero, 8)
 | _ :: _ :: _, _ => rfl
theorem zt9 {u : T} {p : List Stp} (h : (z4d u p).length = 1) : z2q u p = ((z4d u p)[0]'(by omega), 0) := zw6 _ h
theorem zta {u : T} {p : List Stp} (h : 1 < (z4d u p).length) : z2q u p = (Idv.zero, 8) := zw7 _ h
def z8s (l : List T) : Nat := (l.map cntT).sum
theorem z3x (a b : List T) : z8s (a ++ b) = z8s a + z8s b := by unfold z8s; rw [List.map_append, List.sum_append_nat]
theorem z5i (l : List T) : l.length <= z8s l := by
 induction l with
 | nil => simp [z8s]
 | cons x l ih =>
  have h1 := z3x [x] l
  have h2 := zgk x
  have h3 : z8s [x] = cntT x := by simp [z8s]
  rw [List.singleton_append] at h1
  simp only [List.length_cons]; omega
theorem zex (f : T -> Bool) (l : List T) : z8s (l.filter f) <= z8s l := by
 induction l with
 | nil => simp [z8s]
 | cons x l ih =>
  have h1 := z3x [x] l
  have h2 := z3x [x] (l.filter f)
  rw [List.singleton_append] at h1 h2
  rw [List.filter_cons]
  split <;> omega
theorem ztb (x : T) : z8s x.kids <= cntT x := by
 rw [z3k]
 have : ∀ l : List T, z8s l = (l.flatMap z08).length := fun l => by
  induction l with
  | nil => simp [z8s]
  | cons y l ih =>
   have h1 := z3x [y] l
   have h3 : z8s [y] = cntT y := by simp [z8s]
   rw [List.singleton_append] at h1
   rw [List.flatMap_cons, List.length_append, <- ih, h1, h3]; rfl
 rw [this]; omega
theorem z8t (now : List T) (s : Stp) : z8s (z1s now s) <= z8s now := by
 unfold z1s
 induction now with
 | nil => simp [z8s]
 | cons x l ih =>
  have h1 := z3x [x] l
  have h3 : z8s [x] = cntT x := by simp [z8s]
  rw [List.singleton_append] at h1
  rw [List.flatMap_cons, z3x]
  have h4 := zex (atB s) x.kids
  have h5 := ztb x
  omega
theorem zw8 : ∀ t : T, ∀ x ∈ z08 t, cntT x <= cntT t := by
 refine z3y fun t ih x hx => ?_
 rw [z1x] at hx
 rcases List.mem_cons.1 hx with rfl | hx
 ·exact Nat.le_refl _
 ·obtain ⟨k, hk, hx⟩ := List.mem_flatMap.1 hx
  have := ih k hk x hx
  have := z7x hk
  omega
theorem zzd {l : List T} {m : Nat} (h : ∀ x ∈ l, cntT x <= m) : z8s l <= l.length * m := by
 induction l with
 | nil => simp [z8s]
 | cons x l ih =>
  have h1 := z3x [x] l
  have h3 : z8s [x] = cntT x := by simp [z8s]
  rw [List.singleton_append] at h1
  have h4 := h x (by simp)
  have h5 := ih fun y hy => h y (List.mem_cons_of_mem _ hy)
  rw [List.length_cons, Nat.add_mul]; omega
theorem z6w {u : T} {s : Stp} {m : Nat} (hc : cntT u <= m) : z8s (z16 u s) <= m * m := by
 have h1 := zgk u
 unfold z16
 split
 ·have h3 : z8s [u] = cntT u := by simp [z8s]
  rw [h3]
  exact Nat.le_trans hc (Nat.le_mul_of_pos_left _ (by omega))
 ·refine Nat.le_trans (zex _ _) (Nat.le_trans (zzd (m := m) fun x hx => Nat.le_trans (zw8 u x hx) hc) ?_)
  exact Nat.mul_le_mul_right _ hc
theorem z6x {m : Nat} : ∀ (r : List Stp) (now : List T), z8s now <= m -> z8s (r.foldl z1s now) <= m
 | [], now, h => h
 | s :: r, now, h => z6x r (z1s now s) (Nat.le_trans (z8t now s) h)
theorem zjz {u : T} {p : List Stp} {m : Nat} (hc : cntT u <= m) : (z2k u p).length <= m * m + 1 := by
 unfold z2k
 split
 ·cases p with
  | nil => simp [goT]
  | cons s r =>
   have := z5i (goT u (s :: r))
   have h2 : z8s (goT u (s :: r)) <= m * m := z6x r _ (z6w hc)
   omega
 ·simp
theorem zw9 {now : List T} {s : Stp} {u : T} (h : ∀ x ∈ now, x ∈ z08 u) : ∀ x ∈ z1s now s, x ∈ z08 u := fun x hx => by
 unfold z1s at hx
 obtain ⟨y, hy, hx⟩ := List.mem_flatMap.1 hx
 have hk := (List.mem_filter.1 hx).1
 exact z8o u y (h y hy) x (z3d hk (z2a x))
theorem z8u {s : Stp} {u : T} : ∀ x ∈ z16 u s, x ∈ z08 u := fun x hx => by
 unfold z16 at hx
 split at hx
 ·rw [List.mem_singleton.1 hx]; exact z2a u
 ·exact (List.mem_filter.1 hx).1
theorem z9a {u : T} : ∀ (r : List Stp) (now : List T), (∀ x ∈ now, x ∈ z08 u) -> ∀ x ∈ r.foldl z1s now, x ∈ z08 u
 | [], _, h => h
 | _ :: r, _, h => z9a r _ (zw9 h)
end Tr
namespace Tr
def zey (t : T) : Bool :=
 if t.kind = 0 then decide (t.label = z3l) && (decide (t.head.length = 0) && decide (t.words.length = 0))
 else decide (0 < t.kind /\ t.kind <= 7) && (z3o t.label && (zmj t.head && zmj t.words))
def zx0 (t : T) (l : List (Nat -> Bool)) (d : Nat) : Bool :=
 !(decide (8 < d) || (decide (0 < d) && decide (t.kind = 0)) || !zey t || decide (64 < t.kids.length)) && ((t.kids.all fun k => z1w t.kind k.kind) && (l.all (fun f => f (d + 1)) && decide ((t.kids.map z6y).Nodup)))
def zb6 (t : T) (d : Nat) : Bool := zc1 zx0 t d
theorem ztc (t : T) (d : Nat) : zb6 t d = (!(decide (8 < d) || (decide (0 < d) && decide (t.kind = 0)) || !zey t || decide (64 < t.kids.length)) && ((t.kids.all fun k => z1w t.kind k.kind) && ((t.kids.all fun k => zb6 k (d + 1)) && decide ((t.kids.map z6y).Nodup)))) := by
 unfold zb6
 rw [z2l, zx0, List.all_map]; rfl
def b1 (n : UInt8) : ByteArray := ⟨#[n]⟩
def zx1 (s : ByteArray) : ByteArray := if (bl s).headD 0 = 124 \/ (bl s).headD 0 = 92 then b1 92 ++ s else s
def zoz (l : List Wd) : ByteArray := l.foldl (fun s w => s ++ b1 32 ++ zx1 w.text) ByteArray.empty
def zze : Nat -> ByteArray
 | 0 => ByteArray.empty
 | n + 1 => zze n ++ ⟨#[32, 32]⟩
def zct (t : T) (d : Nat) : ByteArray :=
 if zey t = false \/ 8 < d then ByteArray.empty else
 let s := zze d ++ zmz t.kind
 let s := if t.kind = 0 then s else s ++ b1 32 ++ t.label
 let s := if 0 < t.head.length then s ++ b1 58 ++ zoz t.head else s
 if 0 < t.words.length then s ++ ⟨#[32, 124]⟩ ++ zoz t.words else s
def zx2 (t : T) (l : List (Nat -> List ByteArray)) (d : Nat) : List ByteArray := zct t d :: l.flatMap fun f => f (d + 1)
def z4e (t : T) (d : Nat) : List ByteArray := zc1 zx2 t d
theorem zez (t : T) (d : Nat) : z4e t d = zct t d :: t.kids.flatMap fun k => z4e k (d + 1) := by
 unfold z4e
 rw [z2l, zx2, List.flatMap_map]
def zk0 (t : T) : Bool := zb6 t 0 && decide (cntT t <= 1024)
def zk1 (l : List ByteArray) : ByteArray := l.foldl (fun s w => s ++ w ++ b1 10) ByteArray.empty
def ztd (t : T) : ByteArray × Int := if zk0 t = false then (ByteArray.empty, 1) else if 16384 < (zk1 (z4e t 0)).size then (ByteArray.empty, 6) else (zk1 (z4e t 0), 0)
def zte (b : UInt8) : Bool := decide (97 <= b.toNat /\ b.toNat <= 122)
def zli (b : UInt8) : Bool := zte b || (dig b || decide (b.toNat = 45))
def zf0 (s : ByteArray) : Bool := decide (1 <= s.size /\ s.size <= 16) && (zte ((bl s).headD 0) && (bl s).all zli)
def ztf (k d : Int) (e : ByteArray) : Bool :=
 if k = 1 then decide (0 <= d /\ d <= 1048576) && decide (e = z3l)
 else if k = 3 then decide (d = 0) && zf0 e
 else if k = 0 \/ k = 2 then decide (d = 0) && decide (e = z3l) else false
def zlj (x : It) : It :=
 let m := decide (x.kind <= 6)
 let k := x.kind
 .mk k (if m then x.at_ else []) (if k = 6 then x.to else []) (if k = 0 \/ k = 6 then x.wh else 0) (if k = 2 \/ k = 3 then x.nth else 0) (if k = 0 then x.unit else T.zero)
  (if k = 2 \/ k = 3 then x.old else []) (if k = 2 \/ k = 3 \/ k = 4 then x.new else []) (if k = 5 then x.label else z3l) (if m then x.for_ else z3l) (if m then x.sk else 0) (if m then x.sd else 0) (if m then x.se else z3l)
  (if k = 7 \/ k = 8 \/ k = 9 \/ k = 11 then x.act else 0) (if k = 7 \/ k = 8 \/ k = 9 \/ k = 11 then x.item else 0) (if m \/ k = 11 then 0 else x.day) (if k = 10 then x.event else z3l) (if k = 11 then x.by_ else [])
noncomputable instance : DecidableEq It := fun _ _ => Classical.propDecidable _
def inB (n a b : Int) : Bool := decide (a <= n /\ n <= b)
def z4s (x : It) (l : List Bool) : Bool :=
 if x.kind = 0 then inB x.wh 0 3 && (z6o x.unit && decide (x.unit = z6d x.unit) && (!decide (x.unit.kind = 0) && decide ((ztd x.unit).2 = 0)))
 else if x.kind = 2 then zf1 x.old && decide (1 <= x.old.length) && (zf1 x.new && inB x.nth 0 256)
 else if x.kind = 3 then zf1 x.old && (zf1 x.new && decide (1 <= x.new.length) && (inB x.nth 0 256 && (decide (0 < x.old.length) || decide (x.nth = 0))))
 else if x.kind = 4 then zf1 x.new
 else if x.kind = 5 then z3o x.label
 else if x.kind = 6 then inB x.wh 0 3 && z8r x.to
 else if x.kind = 7 \/ x.kind = 8 \/ x.kind = 9 then inB x.act 1 1048576 && (inB x.item (-1) 31 && inB x.day 0 1048576)
 else if x.kind = 10 then zf0 x.event && inB x.day 0 1048576
 else if x.kind = 11 then inB x.act 1 1048576 && (inB x.item 0 31 && (decide (x.by_.length = 1) && ((x.by_.all fun y => inB y.kind 0 6) && l.all id)))
 else true
noncomputable def mayF (x : It) (l : List Bool) : Bool :=
 (inB x.kind 0 11 && decide (x = zlj x)) && ((decide (6 < x.kind) || (z8r x.at_ && ((decide (x.for_ = z3l) || zf0 x.for_) && ztf x.sk x.sd x.se))) && z4s x l)
noncomputable def zcu (x : It) : Bool := zt3 mayF x
theorem ztg (x : It) : zcu x = mayF x (x.by_.map zcu) := by unfold zcu; rw [zbx]
end Tr
namespace Tr
def z4u (l : List ByteArray) (a i : Int) (k : Nat) : List Wd := (l.zipIdx k).map fun p => ⟨p.1, ⟨a, i, (p.2 : Int)⟩⟩
theorem z7w (l : List ByteArray) (a i : Int) (k : Nat) : (z4u l a i k).length = l.length := by unfold z4u; rw [List.length_map, List.length_zipIdx]
theorem zn0 (l : List ByteArray) (w : ByteArray) (a i : Int) (k : Nat) : z4u (l ++ [w]) a i k = z4u l a i k ++ [⟨w, ⟨a, i, ((k + l.length : Nat) : Int)⟩⟩] := by
 unfold z4u
 rw [List.zipIdx_append, List.map_append]; rfl
theorem zn1 (l : List ByteArray) (a i : Int) (k : Nat) : (z4u l a i k).map (·.text) = l := by
 unfold z4u
 rw [List.map_map]
 show (l.zipIdx k).map Prod.fst = l
 exact List.zipIdx_map_fst k l
def z9q : List (Nat -> Nat -> T × Nat × Nat) -> Nat -> Nat -> List T × Nat × Nat
 | [], n, m => ([], n, m)
 | f :: fs, n, m => ((f n m).1 :: (z9q fs (f n m).2.1 (f n m).2.2).1, (z9q fs (f n m).2.1 (f n m).2.2).2)
theorem zhp (f : Nat -> Nat -> T × Nat × Nat) : ∀ (l : List (Nat -> Nat -> T × Nat × Nat)) (n m : Nat), z9q (l ++ [f]) n m = ((z9q l n m).1 ++ [(f (z9q l n m).2.1 (z9q l n m).2.2).1], (f (z9q l n m).2.1 (z9q l n m).2.2).2)
 | [], n, m => rfl
 | g :: l, n, m => by simp only [List.cons_append, z9q, zhp f l]
def zpd (a i : Int) (t : T) (l : List (Nat -> Nat -> T × Nat × Nat)) (n m : Nat) : T × Nat × Nat :=
 (.mk ⟨a, i, (n : Int)⟩ t.kind t.label (z4u (t.head.map (·.text)) a i m) (z4u (t.words.map (·.text)) a i (m + t.head.length)) (z9q l (n + 1) (m + t.head.length + t.words.length)).1, (z9q l (n + 1) (m + t.head.length + t.words.length)).2)
def z26 (a i : Int) (t : T) : Nat -> Nat -> T × Nat × Nat := zc1 (zpd a i) t
theorem z6n (a i : Int) (t : T) (n m : Nat) : z26 a i t n m = zpd a i t (t.kids.map (z26 a i)) n m := by unfold z26; rw [z2l]
def z4i (a i : Int) (t : T) : T := (z26 a i t 1 0).1
def wcF (t : T) (l : List Nat) : Nat := t.head.length + t.words.length + l.sum
def wcT (t : T) : Nat := zc1 wcF t
theorem zpe (t : T) : wcT t = t.head.length + t.words.length + (t.kids.map wcT).sum := by unfold wcT; rw [z2l]; rfl
theorem zpf (a i : Int) : ∀ t : T, ∀ n m : Nat, (z26 a i t n m).2 = (n + cntT t, m + wcT t) := by
 refine z3y fun t ih n m => ?_
 rw [z6n]
 show (z9q (t.kids.map (z26 a i)) (n + 1) (m + t.head.length + t.words.length)).2 = _
 have key : ∀ l : List T, (∀ k ∈ l, ∀ n m : Nat, (z26 a i k n m).2 = (n + cntT k, m + wcT k)) -> ∀ n m : Nat, (z9q (l.map (z26 a i)) n m).2 = (n + (l.flatMap z08).length, m + (l.map wcT).sum) := by
  intro l
  induction l with
  | nil => intro _ n m; simp [z9q]
  | cons k l ih2 =>
   intro h n m
   simp only [List.map_cons, z9q]
   rw [ih2 (fun k hk => h k (List.mem_cons_of_mem _ hk)), h k (by simp)]
   simp only [List.flatMap_cons, List.length_append, List.sum_cons]
   rw [Prod.mk.injEq]
   refine ⟨?_, ?_⟩
   ·show n + cntT k + _ = n + ((z08 k).length + _); unfold cntT; omega
   ·omega
 rw [key t.kids ih, z3k, zpe, Prod.mk.injEq]
 exact ⟨by omega, by omega⟩
theorem z8w (a i : Int) (P : T -> T -> Prop) : ∀ (l : List T), (∀ k ∈ l, ∀ n m : Nat, P k (z26 a i k n m).1) -> ∀ n m : Nat, (z9q (l.map (z26 a i)) n m).1.length = l.length /\ ∀ j (h : j < l.length) (h2 : j < (z9q (l.map (z26 a i)) n m).1.length), P l[j] ((z9q (l.map (z26 a i)) n m).1[j]) := by
 intro l
 induction l with
 | nil => intro _ n m; exact ⟨rfl, fun j h => by simp at h⟩
 | cons k l ih =>
  intro h n m
  simp only [List.map_cons, z9q]
  obtain ⟨h1, h2⟩ := ih (fun k hk => h k (List.mem_cons_of_mem _ hk)) (z26 a i k n m).2.1 (z26 a i k n m).2.2
  refine ⟨by simp only [List.length_cons, h1], fun j hj hj2 => ?_⟩
  cases j with
  | zero => exact h k (by simp) n m
  | succ j => simp only [List.getElem_cons_succ]; exact h2 j (by simpa using hj) _
theorem zk3 {l m : List T} (hl : m.length = l.length) (h : ∀ j (h : j < l.length) (h2 : j < m.length), depT m[j] = depT l[j]) : z9e (m.map depT) = z9e (l.map depT) := by
 congr 1
 refine List.ext_getElem (by simp [hl]) fun j h1 h2 => ?_
 simp only [List.length_map] at h1 h2
 simp only [List.getElem_map]
 exact h j h2 h1
theorem zhq (a i : Int) : ∀ t : T, ∀ n m : Nat, depT (z26 a i t n m).1 = depT t := by
 refine z3y fun t ih n m => ?_
 rw [z6n]
 obtain ⟨h1, h2⟩ := z8w a i (fun k k' => depT k' = depT k) t.kids ih (n + 1) (m + t.head.length + t.words.length)
 rw [z3v, z3v t]
 exact zk3 h1 h2
theorem zu0 {l m : List T} (hl : m.length = l.length) (h : ∀ j (h : j < l.length) (h2 : j < m.length), cntT m[j] = cntT l[j]) : (m.flatMap z08).length = (l.flatMap z08).length := by
 have key : ∀ l : List T, (l.flatMap z08).length = (l.map cntT).sum := fun l => by
  induction l with
  | nil => rfl
  | cons k l ih => rw [List.flatMap_cons, List.length_append, ih, List.map_cons, List.sum_cons]; rfl
 rw [key, key]
 congr 1
 refine List.ext_getElem (by simp [hl]) fun j h1 h2 => ?_
 simp only [List.length_map] at h1 h2
 simp only [List.getElem_map]
 exact h j h2 h1
theorem zpg (a i : Int) : ∀ t : T, ∀ n m : Nat, cntT (z26 a i t n m).1 = cntT t := by
 refine z3y fun t ih n m => ?_
 rw [z6n]
 obtain ⟨h1, h2⟩ := z8w a i (fun k k' => cntT k' = cntT k) t.kids ih (n + 1) (m + t.head.length + t.words.length)
 rw [z3k, z3k t]
 have := zu0 h1 h2
 show 1 + ((z9q _ _ _).1.flatMap z08).length = _
 rw [this]
theorem zlp (a i : Int) : ∀ t : T, szB t = true -> ∀ n m : Nat, szB (z26 a i t n m).1 = true := by
 refine z3y fun t ih hs n m => ?_
 obtain ⟨h0, h1, g1, h2, g2, h3, h4⟩ := (z1q t).1 hs
 rw [z6n]
 obtain ⟨q1, q2⟩ := z8w a i (fun k k' => szB k = true -> szB k' = true) t.kids (fun k hk n m hz => ih k hk hz n m) (n + 1) (m + t.head.length + t.words.length)
 have hmk : ∀ (l : List Wd) (k : Nat), (∀ w ∈ l, w.text.size <= 1000000) -> ∀ w ∈ z4u (l.map (·.text)) a i k, w.text.size <= 1000000 := fun l k hl w hw => by
  have : w.text ∈ (z4u (l.map (·.text)) a i k).map (·.text) := List.mem_map.2 ⟨w, hw, rfl⟩
  rw [zn1] at this
  obtain ⟨v, hv, e⟩ := List.mem_map.1 this
  rw [<- e]; exact hl v hv
 refine (z1q _).2 ⟨h0, ?_, hmk _ _ g1, ?_, hmk _ _ g2, ?_, fun k hk => ?_⟩
 ·show (z4u _ _ _ _).length <= _
  rw [z7w, List.length_map]; exact h1
 ·show (z4u _ _ _ _).length <= _
  rw [z7w, List.length_map]; exact h2
 ·show (z9q _ _ _).1.length <= _
  rw [q1]; exact h3
 ·obtain ⟨j, hj, rfl⟩ := List.getElem_of_mem hk
  have hj' : j < t.kids.length := by rw [<- q1]; exact hj
  exact q2 j hj' hj (h4 _ (List.getElem_mem hj'))
theorem zu1 (a i : Int) (t : T) : (z4i a i t).id = ⟨a, i, 1⟩ := by unfold z4i; rw [z6n]; rfl
end Tr
namespace Tr
def z4o (id : Idv) (t : T) : T × Int × Int := zc1 (fun t l => if z2e (fun k => decide (k.id = id)) t.kids < t.kids.length then (t, 0, (z2e (fun k => decide (k.id = id)) t.kids : Int)) else match l.find? (fun r => decide (0 <= r.2.2)) with
 | some r => (r.1, r.2.1 + 1, r.2.2)
 | none => (T.zero, 0, -1)) t
theorem z7i (id : Idv) (t : T) : z4o id t = if z2e (fun k => decide (k.id = id)) t.kids < t.kids.length then (t, 0, (z2e (fun k => decide (k.id = id)) t.kids : Int)) else match (t.kids.map (z4o id)).find? (fun r => decide (0 <= r.2.2)) with
  | some r => (r.1, r.2.1 + 1, r.2.2)
  | none => (T.zero, 0, -1) := by unfold z4o; rw [z2l]
theorem z8j {α : Type} {f : α -> Bool} {l : List α} (h : ∀ x ∈ l, f x = false) : z2e f l = l.length := z3t (Nat.le_refl _) (fun j hj => h _ (List.getElem_mem _)) (fun h => absurd h (Nat.lt_irrefl _))
theorem zje {α : Type} {f : α -> Bool} {l r : List α} {x : α} (h : ∀ y ∈ l, f y = false) (hx : f x = true) : z2e f (l ++ x :: r) = l.length :=
 z3t (by simp) (fun j hj => by rw [List.getElem_append_left hj]; exact h _ (List.getElem_mem _)) (fun hl => by simpa using hx)
theorem z7j {l : List T} {id : Idv} (h : id ∉ l.flatMap z0c) : ∀ k ∈ l, id ∉ z0c k := fun k hk hm => h (List.mem_flatMap.2 ⟨k, hk, hm⟩)
theorem zei {k : T} {id : Idv} (h : id ∉ z0c k) : ¬ k.id = id := fun e => h (e ▸ z1d k)
theorem zsd {id : Idv} : ∀ t : T, id ∉ t.kids.flatMap z0c -> z4o id t = (T.zero, 0, -1) := by
 refine z3y fun t ih h => ?_
 rw [z7i, z8j (fun k hk => decide_eq_false (zei (z7j h k hk))), if_neg (Nat.lt_irrefl _)]
 have : (t.kids.map (z4o id)).find? (fun r => decide (0 <= r.2.2)) = none := by
  rw [List.find?_eq_none]
  intro r hr
  obtain ⟨k, hk, rfl⟩ := List.mem_map.1 hr
  have hk2 := z7j h k hk
  rw [ih k hk (fun hm => hk2 (by rw [z1r]; exact List.mem_cons_of_mem _ hm))]
  decide
 rw [this]
theorem zg4 {id : Idv} {q x : T} {l r : List T} (hx : x.id = id) (hq : ¬ q.id = id) (hl : id ∉ l.flatMap z0c) : ∀ C, id ∉ z6s C -> id ∉ z4b C -> z4o id (z2b C (q.setKids (l ++ x :: r))) = (q.setKids (l ++ x :: r), (zog C : Int), (l.length : Int))
 | .hole, _, _ => by
  have hf : z2e (fun k => decide (k.id = id)) (l ++ x :: r) = l.length := zje (fun k hk => decide_eq_false (zei (z7j hl k hk))) (decide_eq_true hx)
  rw [z2b, z7i]
  show (if z2e _ (l ++ x :: r) < (l ++ x :: r).length then _ else _) = _
  rw [hf, if_pos (by simp)]
  show (_, _, ((z2e _ (l ++ x :: r) : Nat) : Int)) = _
  rw [hf]; rfl
 | .node t l' c r', h1, h2 => by
  obtain ⟨n1, n2, n3⟩ := z3h h1
  obtain ⟨m1, m2⟩ := zem h2
  have ih := zg4 (r := r) hx hq hl c n3 m1
  have hroot : ¬ (z2b c (q.setKids (l ++ x :: r))).id = id := by
   cases c with
   | hole => exact hq
   | node t2 l2 c2 r2 => exact (z3h n3).1
  rw [z2b, z7i]
  have hno : ∀ k ∈ l' ++ z2b c (q.setKids (l ++ x :: r)) :: r', decide (k.id = id) = false := fun k hk => by
   rw [List.mem_append, List.mem_cons] at hk
   rcases hk with hk | rfl | hk
   ·exact decide_eq_false (zei (z7j n2 k hk))
   ·exact decide_eq_false hroot
   ·exact decide_eq_false (zei (z7j m2 k hk))
  show (if z2e _ (l' ++ z2b c (q.setKids (l ++ x :: r)) :: r') < (l' ++ z2b c (q.setKids (l ++ x :: r)) :: r').length then _ else match ((l' ++ z2b c (q.setKids (l ++ x :: r)) :: r').map (z4o id)).find? _ with | some r => _ | none => _) = _
  rw [z8j hno, if_neg (Nat.lt_irrefl _), List.map_append, List.map_cons, List.find?_append]
  have hz : (l'.map (z4o id)).find? (fun r => decide (0 <= r.2.2)) = none := by
   rw [List.find?_eq_none]
   intro r hr
   obtain ⟨k, hk, rfl⟩ := List.mem_map.1 hr
   have hk2 := z7j n2 k hk
   rw [zsd k (fun hm => hk2 (by rw [z1r]; exact List.mem_cons_of_mem _ hm))]
   decide
  rw [hz, Option.none_or, List.find?_cons, ih]
  simp only [Int.natCast_nonneg, decide_true]
  show (_, ((zog c : Nat) : Int) + 1, _) = (_, ((zog c + 1 : Nat) : Int), _)
  rw [Int.natCast_add]; rfl
theorem zh3 {id : Idv} {u : T} (hn : (z0c u).Nodup) (h0 : ¬ u.id = id) (hm : id ∈ z0c u) : z4o id u = ((z0b (z31 id u).1 u).1, ((z54 (z31 id u).1 u).length : Int), (z31 id u).2.1) := by
 obtain ⟨C, q, l, x, r, e, hx, hq, n1, n2, hf, hp⟩ := zmi h0 hm
 rw [hp]
 have hxm : id ∈ z0c (q.setKids (l ++ x :: r)) := by rw [z2c]; exact List.mem_cons_of_mem _ (zel.2 (.inr (.inl (hx ▸ z1d x))))
 subst e
 obtain ⟨k1, k2⟩ := z2p hn hxm
 have hqs : q.id ∈ z0c (q.setKids (l ++ x :: r)) := by rw [z2c]; exact List.mem_cons_self
 obtain ⟨m1, m2⟩ := z2p hn hqs
 have e1 : z0b q.id (q.setKids (l ++ x :: r)) = (q.setKids (l ++ x :: r), true) := z29 rfl
 have e2 : (z54 q.id (z2b C (q.setKids (l ++ x :: r)))).length = zog C := ze0 rfl m1
 rw [zg4 hx hq n2 C k1 k2, z5z hqs C m1, e1]
 show _ = (_, ((z54 q.id (z2b C (q.setKids (l ++ x :: r)))).length : Int), _)
 rw [e2]
theorem zvl {id k : Idv} : ∀ u : T, (z0c u).Nodup -> ¬ u.id = id -> k ∈ z0c u -> (∀ y, z0b id u = (y, true) -> k ∉ z0c y) -> z54 k (z0o id u) = z54 k u := by
 refine z3y fun u ih hn h0 hk hy => ?_
 by_cases hid : id ∉ z0c u
 ·rw [zgt hid]
 rw [Classical.not_not] at hid
 by_cases hku : u.id = k
 ·rw [zet hku]
  exact zet (by rw [(z5x id u).1]; exact hku)
 ·obtain ⟨i, hi, h1, h2, h3⟩ := z8p hku (z3p.2 hk)
  have hkm := z3p.1 h2
  obtain ⟨g1, g2, g3⟩ := z99 hn
  have hki := List.getElem_mem hi
  have hkeep : ¬ u.kids[i].id = id := fun e => by
   refine hy u.kids[i] ?_ hkm
   have hw : z1i id u.kids[i] = [u.kids[i]] := z52 e
   have hne : z1i id u.kids[i] ≠ [] := by rw [hw]; simp
   rw [z3i (z3s h0 hi (fun j hj h => (z4q id _).2 (g3 i j hi h (by omega) id (e ▸ z1d _))) hne) hne]
   exact z29 e
  have hyk : ∀ y, z0b id u.kids[i] = (y, true) -> k ∉ z0c y := fun y hf => hy y (by
   have hne : z1i id u.kids[i] ≠ [] := zbw.1 (by rw [hf])
   rw [z3i (z3s h0 hi (fun j hj h => (z4q id _).2 (g3 i j hi h (by omega) id (z3p.1 hne))) hne) hne]
   exact hf)
  have hin := ih _ hki (g2 _ hki) hkeep hkm hyk
  have hfw := ze1 u.kids[i] (g2 _ hki) hkeep hkm hyk
  have hsp : u.kids = u.kids.take i ++ u.kids[i] :: u.kids.drop (i + 1) := by rw [<- List.drop_eq_getElem_cons hi, List.take_append_drop]
  have hwk : k ∈ z0c (z0o id u.kids[i]) := by
   have : (z0b k (z0o id u.kids[i])).2 = true := by rw [hfw]
   rw [z2y, decide_eq_true_eq] at this; exact this
  rw [zmr hku hi h1 h2, z3q]
  have e : (u.kids.filter (z6v id)).map (z0o id) = ((u.kids.take i).filter (z6v id)).map (z0o id) ++ z0o id u.kids[i] :: ((u.kids.drop (i + 1)).filter (z6v id)).map (z0o id) := by
   conv => lhs; rw [hsp]
   rw [List.filter_append, List.filter_cons, if_pos (z8m hkeep), List.map_append, List.map_cons]
  rw [e, zsf hku ?_ hwk, hin]
  intro hm
  obtain ⟨y, hym, hyk⟩ := List.mem_flatMap.1 hm
  obtain ⟨y', hy', rfl⟩ := List.mem_map.1 hym
  have hmem := (List.mem_filter.1 hy').1
  obtain ⟨j, hj, rfl⟩ := List.getElem_of_mem hmem
  rw [List.length_take] at hj
  rw [List.getElem_take] at hyk
  have := h1 j (by omega) (by omega)
  rw [z4q] at this
  exact this (zgu id _ k hyk)
end Tr
namespace Tr
def zav (wh : Int) : Bool := decide (wh = 2 \/ wh = 3)
def z38 (u : T) (to : Idv) (wh : Int) : Idv := if zav wh = true then (z31 to u).1 else to
def zcp (u : T) (id par : Idv) : List T := if (z31 id u).1 = par then (z0b par u).1.kids.eraseIdx (z31 id u).2.1.toNat else (z0b par u).1.kids
def zj6 (u : T) (id to : Idv) (wh : Int) : Nat :=
 if zav wh = true then z2e (fun k => decide (k.id = to)) (z0o id (z0b (z38 u to wh) u).1).kids + (if wh = 2 then 1 else 0)
 else if wh = 0 then 0 else (z0o id (z0b (z38 u to wh) u).1).kids.length
def z3u (u : T) (id to : Idv) (wh : Int) : Int :=
 if u.id = id \/ (zav wh = true /\ u.id = to) \/ (to ∈ z0c (z0b id u).1 /\ (¬ to = id \/ zav wh = false)) then 9 else
 if z1w (z0b (z38 u to wh) u).1.kind (z0b id u).1.kind = false then 9 else
 if z3z (zcp u id (z38 u to wh)) (z0b id u).1.kind (z0b id u).1.label = true then 10 else
 if 64 <= (zcp u id (z38 u to wh)).length \/ 8 < (z54 (z38 u to wh) u).length + 1 + depT (z0b id u).1 then 6 else 0
def z3a (u : T) (id to : Idv) (wh : Int) : T :=
 if z3u u id to wh = 0 /\ ¬ to = id then z25 (z38 u to wh) (z5a (zj6 u id to wh) (z0b id u).1) (z0o id u) else u
theorem zcq {u : T} {id : Idv} (hn : (z0c u).Nodup) (h0 : ¬ u.id = id) (hm : id ∈ z0c u) : ∃ (q : T) (l : List T) (x : T) (r : List T), z31 id u = (q.id, (l.length : Int), true) /\ z0b id u = (x, true) /\ x.id = id /\
  z0b q.id u = (q.setKids (l ++ x :: r), true) /\ q.setKids (l ++ x :: r) ∈ z08 u /\ id ∉ l.flatMap z0c /\ id ∉ r.flatMap z0c /\ q.id ∈ z0c u /\ (∀ i ∈ z0c x, i ≠ q.id /\ i ∉ l.flatMap z0c /\ i ∉ r.flatMap z0c) := by
 obtain ⟨C, q, l, x, r, e, hx, hq, n1, n2, hf, hp⟩ := zmi h0 hm
 refine ⟨q, l, x, r, hp, hf, hx, ?_⟩
 subst e
 have hqs : q.id ∈ z0c (q.setKids (l ++ x :: r)) := by rw [z2c]; exact List.mem_cons_self
 obtain ⟨m1, m2⟩ := z2p hn hqs
 have ns := (zen (zbv hn)).1
 refine ⟨by rw [z5z hqs C m1]; exact z29 rfl, zt0 C (z2a _), n2, (ns id (hx ▸ z1d x)).2.2, z7k C hqs, ns⟩
theorem way_in {k : Idv} : ∀ t : T, ∀ z ∈ z1i k t, k ∈ z0c z := by
 refine z3y fun t ih z hz => ?_
 by_cases h0 : t.id = k
 ·rw [z52 h0, List.mem_singleton] at hz
  rw [hz, <- h0]; exact z1d t
 ·have hne : z1i k t ≠ [] := List.ne_nil_of_mem hz
  obtain ⟨i, hi, h1, h2, h3⟩ := z8p h0 hne
  rw [h3, List.mem_cons] at hz
  rcases hz with rfl | hz
  ·exact z3p.1 hne
  ·exact ih _ (List.getElem_mem hi) z hz
theorem anc_in {u : T} {id k : Idv} (hn : (z0c u).Nodup) (h : id ∈ z54 k u) : k ∈ z0c (z0b id u).1 := by
 unfold z54 at h
 rw [List.mem_reverse, List.mem_map] at h
 obtain ⟨z, hz, he⟩ := h
 have hz2 := (List.dropLast_sublist _).subset hz
 rw [za2 hn (z9o k u z hz2) he]
 exact way_in u z hz2
theorem zym {u x : T} {to : Idv} (hn : (z0c u).Nodup) (h0 : ¬ u.id = to) (hm : to ∈ z0c u) (hx : x ∈ z08 u) (h : to ∉ z0c x) : (z31 to u).1 ∈ z0c u /\ (z31 to u).1 ∉ z0c x := by
 obtain ⟨q, l, y, r, hp, hf, hy, hq, hqm, n1, n2, hqi, _⟩ := zcq hn h0 hm
 rw [hp]
 refine ⟨hqi, fun hc => h ?_⟩
 obtain ⟨z, hz, hzi⟩ := List.mem_map.1 hc
 have e1 := za2 hn (z8o u x hx z hz) hzi
 have e2 := za2 hn hqm rfl
 rw [show (q.setKids (l ++ y :: r)).id = q.id from rfl] at e2
 rw [e1] at e2
 have e3 : z = q.setKids (l ++ y :: r) := (Prod.mk.inj e2).1
 have hyz : y ∈ z08 z := by rw [e3]; exact z3d (k := y) (by show y ∈ l ++ y :: r; simp) (z2a y)
 exact List.mem_map.2 ⟨y, z8o x z hz y hyz, hy⟩
theorem zs8 {id : Idv} {P : T} (h : ∀ k ∈ P.kids, ¬ k.id = id) : (z0o id P).kids = P.kids.map (z0o id) := by
 rw [z3q]
 show (P.kids.filter (z6v id)).map (z0o id) = _
 rw [List.filter_eq_self.2 fun k hk => z8m (h k hk)]
theorem zs9 {α β : Type} {f : β -> Bool} {g : α -> β} {l : List α} : z2e f (l.map g) = z2e (fun x => f (g x)) l := by
 unfold z2e
 rw [List.takeWhile_map, List.length_map]; rfl
theorem zj7 {u : T} {id par : Idv} (hn : (z0c u).Nodup) (h0 : ¬ u.id = id) (hm : id ∈ z0c u) (hp : par ∈ z0c u) :
    (z0o id (z0b par u).1).kids.map z6y = (zcp u id par).map z6y /\ (z0o id (z0b par u).1).kids.length = (zcp u id par).length /\
    (((z31 id u).1 = par /\ ∃ l x r, (z0b par u).1.kids = l ++ x :: r /\ x.id = id /\ (z31 id u).2.1 = (l.length : Int) /\ (z0o id (z0b par u).1).kids = l ++ r) \/
     (¬ (z31 id u).1 = par /\ (z0o id (z0b par u).1).kids = (z0b par u).1.kids.map (z0o id))) := by
  obtain ⟨q, l, x, r, hpr, hf, hx, hq, hqm, n1, n2, hqi, hxs⟩ := zcq hn h0 hm
  have hq0 : ¬ q.id = id := fun e => (hxs id (hx ▸ z1d x)).1 e.symm
  by_cases he : (z31 id u).1 = par
  · have hqp : q.id = par := by rw [hpr] at he; exact he
    have hfp : z0b par u = (q.setKids (l ++ x :: r), true) := hqp ▸ hq
    have hw : (z0o id (q.setKids (l ++ x :: r))).kids = l ++ r := by rw [zjj hx n1 n2]; rfl
    have hk : zcp u id par = l ++ r := by
      unfold zcp
      rw [if_pos he, hfp, hpr]
      show (l ++ x :: r).eraseIdx (Int.toNat (l.length : Int)) = _
      rw [Int.toNat_natCast, List.eraseIdx_append_of_length_le (Nat.le_refl _), Nat.sub_self]; rfl
    rw [hfp, hk, hw]
    exact ⟨rfl, rfl, .inl ⟨he, l, x, r, rfl, hx, by rw [hpr], rfl⟩⟩
  · have hk : zcp u id par = (z0b par u).1.kids := by unfold zcp; rw [if_neg he]
    have hno : ∀ k ∈ (z0b par u).1.kids, ¬ k.id = id := fun k hk e => he (by
      have h1 := zop u hn _ (z6m (id := par) (u := u) (by rw [z2y, decide_eq_true hp])) k hk
      rw [e] at h1
      rw [h1]
      obtain ⟨_, _, h2, _⟩ := focus par u hp
      exact h2)
    have hw := zs8 hno
    rw [hk, hw]
    refine ⟨?_, by rw [List.length_map], .inr ⟨he, rfl⟩⟩
    rw [List.map_map]
    refine List.map_congr_left fun k _ => ?_
    show z6y (z0o id k) = z6y k
    unfold z6y
    rw [(z5x id k).2.1, (z5x id k).2.2.1]
theorem zoc {l m : List T} (h : l.map z6y = m.map z6y) (x : T) : z3z l x.kind x.label = z3z m x.kind x.label := by
 have h1 := zd1 (l := l) (x := x)
 have h2 := zd1 (l := m) (x := x)
 rw [h] at h1
 cases ha : z3z l x.kind x.label with
 | false => exact (h2.2 (h1.1 ha)).symm
 | true => cases hb : z3z m x.kind x.label with
  | true => rfl
  | false => rw [h1.2 (h2.1 hb)] at ha; cases ha
theorem z8i {u : T} {id to : Idv} {wh : Int} (hs : z10 u = true) (hm : id ∈ z0c u) (ht : to ∈ z0c u) (h : z3u u id to wh = 0) : ¬ u.id = id /\ (zav wh = true -> ¬ u.id = to) /\
  (¬ to = id -> z38 u to wh ∈ z0c u /\ z38 u to wh ∉ z0c (z0b id u).1 /\ zjo u id (z38 u to wh) (zj6 u id to wh) = 0) := by
 unfold z3u at h
 split at h
 ·cases h
 rename_i h1
 split at h
 ·cases h
 rename_i h2
 split at h
 ·cases h
 rename_i h3
 split at h
 ·cases h
 rename_i h4
 simp only [not_or, not_and, Classical.not_not, Bool.not_eq_false, Bool.not_eq_true] at h1 h2 h3 h4
 obtain ⟨a1, a2, a3⟩ := h1
 refine ⟨a1, a2, fun hne => ?_⟩
 have hn := z5f hs
 have hxn := z6m (id := id) (u := u) (by rw [z2y, decide_eq_true hm])
 have hto : to ∉ z0c (z0b id u).1 := fun hc => hne (a3 hc).1
 have hpar : z38 u to wh ∈ z0c u /\ z38 u to wh ∉ z0c (z0b id u).1 := by
  unfold z38
  split
  ·rename_i hb
   exact zym hn (a2 hb) ht hxn hto
  ·exact ⟨ht, hto⟩
 refine ⟨hpar.1, hpar.2, ?_⟩
 obtain ⟨under, n, x, d1, d2, d3, d4, d5, d6, d7, d8, d9, d10, d11, d12⟩ := z6r hs a1 hm
 obtain ⟨k1, k2, k3⟩ := zj7 hn a1 hm hpar.1
 have hyo : ∀ y, z0b id u = (y, true) -> z38 u to wh ∉ z0c y := fun y hy => by have := hpar.2; rw [hy] at this; exact this
 have hfw := ze1 u hn a1 hpar.1 hyo
 have haw := zvl u hn a1 hpar.1 hyo
 rw [d2] at h2 h3 h4 hpar
 simp only at h2 h3 h4 hpar
 have hpw : z38 u to wh ∈ z0c (z0o id u) := (d12 _ hpar.1).resolve_left hpar.2
 refine zeq hs d2 hpar.1 a1 hpar.2 ?_
 refine zbm d4 d5 d6 hpw ?_ ?_ ?_ ?_ ?_ ?_ d9
 ·rw [hfw]; show z1w (z0o id _).kind _ = true; rw [(z5x id _).2.1]; exact h2
 ·rw [hfw]
  show zj6 u id to wh <= (z0o id (z0b (z38 u to wh) u).1).kids.length
  unfold zj6
  split
  ·rename_i hb
   -- the unit beside is there
   obtain ⟨q, l, y, r, hp, hf, hy, hq, hqm, _⟩ := zcq hn (a2 hb) ht
   have hpm : z38 u to wh = q.id := by unfold z38; rw [if_pos hb, hp]
   have hlt : z2e (fun k => decide (k.id = to)) (z0o id (z0b (z38 u to wh) u).1).kids < (z0o id (z0b (z38 u to wh) u).1).kids.length := by
    have := zh8 (fun k : T => decide (k.id = to)) (z0o id (z0b (z38 u to wh) u).1).kids
    have hany : (z0o id (z0b (z38 u to wh) u).1).kids.any (fun k => decide (k.id = to)) = true := by
     rw [z3q]
     show ((List.filter _ _).map _).any _ = true
     rw [List.any_map, List.any_eq_true]
     refine ⟨y, List.mem_filter.2 ⟨?_, z8m (by rw [hy]; exact hne)⟩, ?_⟩
     ·rw [hpm, hq]; show y ∈ l ++ y :: r; simp
     ·show decide ((z0o id y).id = to) = true
      rw [(z5x id y).1, decide_eq_true hy]
    rw [hany] at this
    exact of_decide_eq_true this
   split <;> omega
  ·split
   ·exact Nat.zero_le _
   ·exact Nat.le_refl _
 ·rw [hfw]; show z3z (z0o id _).kids _ _ = false; rw [zoc k1]; exact h3
 ·rw [hfw]; show (z0o id _).kids.length < 64; rw [k2]; omega
 ·rw [haw]; omega
 ·have := ((z20 u).1 hs).2.2.1; omega
def z4h (u : T) (to : Idv) (wh : Int) : (Idv × Int) × Int :=
 if wh = 0 then ((to, 0), 0) else if wh = 1 then ((to, ((z0b to u).1.kids.length : Int)), 0) else
 if (z31 to u).2.2 = true then (((z31 to u).1, (z31 to u).2.1 + (if wh = 2 then 1 else 0)), 0) else ((Idv.zero, 0), 9)
def zh1 (u : T) (id to : Idv) (wh : Int) : (Idv × Int) × Int :=
 if (z31 id u).2.2 = false \/ (¬ to = id /\ id ∈ z54 to u) \/ (to = id /\ zav wh = false) then ((Idv.zero, 0), 9) else
 if to = id then (((z31 id u).1, (z31 id u).2.1), 0) else
 if (z4h u to wh).2 = 0 /\ (z4h u to wh).1.1 = (z31 id u).1 /\ (z31 id u).2.1 < (z4h u to wh).1.2 then (((z4h u to wh).1.1, (z4h u to wh).1.2 - 1), (z4h u to wh).2) else z4h u to wh
theorem wh4 {wh : Int} (h : 0 <= wh /\ wh <= 3) : wh = 0 \/ wh = 1 \/ wh = 2 \/ wh = 3 := by omega
theorem zyn {u : T} {id to : Idv} {wh : Int} (hs : z10 u = true) (hm : id ∈ z0c u) (ht : to ∈ z0c u) (hw : 0 <= wh /\ wh <= 3) (h : z3u u id to wh = 0) :
  zh1 u id to wh = (if to = id then ((z31 id u).1, (z31 id u).2.1) else (z38 u to wh, (zj6 u id to wh : Int)), 0) := by
 obtain ⟨a1, a2, a3⟩ := z8i hs hm ht h
 have hn := z5f hs
 obtain ⟨q, l, x, r, hp, hf, hx, hq, hqm, n1, n2, hqi, hxs⟩ := zcq hn a1 hm
 have h9 : ¬ (u.id = id \/ (zav wh = true /\ u.id = to) \/ (to ∈ z0c (z0b id u).1 /\ (¬ to = id \/ zav wh = false))) := fun g => by
  unfold z3u at h; rw [if_pos g] at h; cases h
 simp only [not_or, not_and, Classical.not_not] at h9
 obtain ⟨_, _, h93⟩ := h9
 have hok : (z31 id u).2.2 = true := by rw [hp]
 have g1 : ¬ ((z31 id u).2.2 = false \/ (¬ to = id /\ id ∈ z54 to u) \/ (to = id /\ zav wh = false)) := by
  rintro (g | ⟨g1, g2⟩ | ⟨g1, g2⟩)
  ·rw [hok] at g; cases g
  ·exact g1 (h93 (anc_in hn g2)).1
  ·have := (h93 (by rw [g1]; exact (by rw [hf]; exact hx ▸ z1d x))).2
   exact this g2
 unfold zh1
 rw [if_neg g1]
 by_cases hne : to = id
 ·rw [if_pos hne, if_pos hne]
 rw [if_neg hne, if_neg hne]
 obtain ⟨hpu, hpo, _⟩ := a3 hne
 obtain ⟨k1, k2, k3⟩ := zj7 hn a1 hm hpu
 -- the place that leads gives, and the place among the kids that are left
 have main : ∃ z : Int, z4h u to wh = ((z38 u to wh, z), 0) /\ (zj6 u id to wh : Int) = if z38 u to wh = (z31 id u).1 /\ (z31 id u).2.1 < z then z - 1 else z := by
  by_cases hb : zav wh = true
  ·obtain ⟨q2, l2, y, r2, hp2, hf2, hy, hq2, hqm2, m1, m2, hqi2, hys⟩ := zcq hn (a2 hb) ht
   have hpm : z38 u to wh = q2.id := by unfold z38; rw [if_pos hb, hp2]
   have hb2 : wh = 2 \/ wh = 3 := of_decide_eq_true hb
   refine ⟨(l2.length : Int) + (if wh = 2 then 1 else 0), ?_, ?_⟩
   ·unfold z4h
    rw [if_neg (by omega), if_neg (by omega), hp2, if_pos rfl, hpm]
   ·unfold zj6
    rw [if_pos hb]
    have hfk : (z0b (z38 u to wh) u).1.kids = l2 ++ y :: r2 := by rw [hpm, hq2]; rfl
    rcases k3 with ⟨e1, l3, x3, r3, e2, e3, e4, e5⟩ | ⟨e1, e5⟩
    ·rw [e5]
     rw [hfk] at e2
     have hl3 : ∀ k ∈ l2, ¬ k.id = to := fun k hk => zei (z7j m1 k hk)
     have hr3 : ∀ k ∈ r2, ¬ k.id = to := fun k hk => zei (z7j m2 k hk)
     have hcase : l2.length < l3.length \/ l3.length < l2.length := by
      rcases Nat.lt_trichotomy l2.length l3.length with g | g | g
      ·exact .inl g
      ·obtain ⟨_, g2⟩ := List.append_inj e2 g
       exact (hne (by rw [<- hy, <- e3]; exact congrArg T.id (List.cons.inj g2).1)).elim
      ·exact .inr g
     have hg2 : ∀ j, (hj : j < (l2 ++ y :: r2).length) -> ((l2 ++ y :: r2)[j]).id = to -> j = l2.length := fun j hj hid => by
      rcases Nat.lt_trichotomy j l2.length with g | g | g
      ·rw [List.getElem_append_left g] at hid
       exact (hl3 _ (List.getElem_mem _) hid).elim
      ·exact g
      ·have hj2 : j - l2.length - 1 < r2.length := by simp at hj; omega
       have : (l2 ++ y :: r2)[j] = r2[j - l2.length - 1] := by
        rw [List.getElem_append_right (by omega)]
        rw [List.getElem_cons, dif_neg (by omega)]
       rw [this] at hid
       exact (hr3 _ (List.getElem_mem _) hid).elim
     have hfn : z2e (fun k => decide (k.id = to)) (l3 ++ r3) = if l3.length < l2.length then l2.length - 1 else l2.length := by
      have hlen : (l2 ++ y :: r2).length = (l3 ++ x3 :: r3).length := by rw [e2]
      simp only [List.length_append, List.length_cons] at hlen
      have at3 : ∀ j, (hj : j < (l3 ++ r3).length) -> (l3 ++ r3)[j] = (l2 ++ y :: r2)[if j < l3.length then j else j + 1]'(by simp only [List.length_append, List.length_cons] at hj ⊢; split <;> omega) := fun j hj => by
       have : ∀ i (hi : i < (l2 ++ y :: r2).length) (hi3 : i < (l3 ++ x3 :: r3).length), (l2 ++ y :: r2)[i] = (l3 ++ x3 :: r3)[i] := fun i hi hi3 => by simp only [e2]
       simp only [List.length_append] at hj
       by_cases g : j < l3.length
       ·rw [List.getElem_append_left g]
        simp only [if_pos g]
        rw [this j (by simp only [List.length_append, List.length_cons]; omega) (by simp only [List.length_append, List.length_cons]; omega), List.getElem_append_left g]
       ·rw [List.getElem_append_right (by omega)]
        simp only [if_neg g]
        rw [this (j + 1) (by simp only [List.length_append, List.length_cons]; omega) (by simp only [List.length_append, List.length_cons]; omega), List.getElem_append_right (by omega), List.getElem_cons, dif_neg (by omega)]
        congr 1; omega
      refine z3t ?_ (fun j hj => ?_) (fun hlt => ?_)
      ·simp only [List.length_append]; split <;> omega
      ·rw [at3]
       refine decide_eq_false fun hid => ?_
       have := hg2 _ (by simp only [List.length_append, List.length_cons]; split at hj <;> split <;> omega) hid
       split at hj <;> split at this <;> omega
      ·rw [at3]
       refine decide_eq_true ?_
       have hix : (if (if l3.length < l2.length then l2.length - 1 else l2.length) < l3.length then (if l3.length < l2.length then l2.length - 1 else l2.length) else (if l3.length < l2.length then l2.length - 1 else l2.length) + 1) = l2.length := by
        split <;> split <;> omega
       simp only [hix]
       rw [List.getElem_append_right (Nat.le_refl _)]
       simp only [Nat.sub_self, List.getElem_cons_zero, hy]
     rw [hfn, e4]
     have hpe : z38 u to wh = (z31 id u).1 := e1.symm
     simp only [hpe, true_and]
     rcases hb2 with rfl | rfl
     ·simp only [if_true]; split <;> split <;> omega
     ·simp only [show ¬ ((3 : Int) = 2) from by decide, if_false]; split <;> split <;> omega
    ·rw [e5, hfk, zs9]
     have hff : z2e (fun x => decide ((z0o id x).id = to)) (l2 ++ y :: r2) = l2.length := zje (fun k hk => decide_eq_false (by rw [(z5x id k).1]; exact zei (z7j m1 k hk))) (decide_eq_true (by rw [(z5x id y).1]; exact hy))
     rw [hff, if_neg (c := z38 u to wh = (z31 id u).1 /\ _) (fun g => e1 g.1.symm)]
     split <;> rfl
  ·have hpm : z38 u to wh = to := by unfold z38; rw [if_neg hb]
   have hb2 : wh = 0 \/ wh = 1 := by
    have : ¬ (wh = 2 \/ wh = 3) := fun g => hb (decide_eq_true g)
    omega
   have hpos := (z31 id u).2.1
   rcases hb2 with rfl | rfl
   ·refine ⟨0, by unfold z4h; rw [if_pos rfl, hpm], ?_⟩
    have h0 : zj6 u id to 0 = 0 := by unfold zj6; rw [if_neg hb, if_pos rfl]
    rw [h0, hp]
    rw [if_neg (by rintro ⟨_, g⟩; simp only at g; omega)]; rfl
   ·refine ⟨((z0b to u).1.kids.length : Int), by unfold z4h; rw [if_neg (by decide), if_pos rfl, hpm], ?_⟩
    have h0 : zj6 u id to 1 = (z0o id (z0b (z38 u to 1) u).1).kids.length := by unfold zj6; rw [if_neg hb, if_neg (by decide)]
    rw [h0]
    rcases k3 with ⟨e1, l3, x3, r3, e2, e3, e4, e5⟩ | ⟨e1, e5⟩
    ·rw [e5, e4]
     rw [hpm] at e2 e1
     rw [e2, hpm, if_pos ⟨e1.symm, by simp only [List.length_append, List.length_cons]; omega⟩]
     simp only [List.length_append, List.length_cons]; omega
    ·rw [e5, List.length_map, hpm, if_neg]
     rintro ⟨g, _⟩
     rw [hpm] at e1
     exact e1 g.symm
 obtain ⟨z, hz1, hz2⟩ := main
 rw [hz1]
 simp only [true_and]
 rw [hz2]
 split <;> rfl
end Tr
namespace Tr
theorem zge {u : T} {p : List Stp} {id : Idv} {e : Int} (h : z2q u p = (id, e)) (he : e = 0) : id ∈ z0c u := by
 subst he
 have hall : ∀ i ∈ z4d u p, i ∈ z0c u := fun i hi => by
  unfold z4d z2k at hi
  split at hi
  ·obtain ⟨x, hx, rfl⟩ := List.mem_map.1 hi
   refine List.mem_map.2 ⟨x, ?_, rfl⟩
   cases p with
   | nil => rw [goT, List.mem_singleton] at hx; rw [hx]; exact z2a u
   | cons s r => exact z9a r _ z8u x hx
  ·cases hi
 unfold z2q at h
 generalize z4d u p = l at h hall
 match l, h with
 | [], h => cases h
 | [i], h => rw [<- (Prod.mk.inj h).1]; exact hall i (by simp)
 | _ :: _ :: _, h => cases h
theorem z9b {u P : T} {par : Idv} {f : T -> T} (hn : (z0c u).Nodup) (hP : z0b par u = (P, true)) : z25 par (fun _ => f P) u = z25 par f u := by
 have hm : par ∈ z0c u := by have := congrArg Prod.snd hP; rw [z2y, decide_eq_true_eq] at this; exact this
 obtain ⟨C, e, hq, hpre, _⟩ := focus par u hm
 rw [hP] at e hq
 simp only at e hq
 have hpost : par ∉ z4b C := (z2p (x := P) (by rw [<- e]; exact hn) (hq ▸ z1d P)).2
 rw [e, z60 _ hq C hpre hpost, z60 _ hq C hpre hpost]
def z6e (u : T) (id : Idv) (wh : Int) (x : T) : Int :=
 if zav wh = true /\ u.id = id then 9 else
 if z1w (z0b (z38 u id wh) u).1.kind x.kind = false then 9 else
 if z3z (z0b (z38 u id wh) u).1.kids x.kind x.label = true then 10 else
 if 64 <= (z0b (z38 u id wh) u).1.kids.length \/ 8 < (z54 (z38 u id wh) u).length + 1 + depT x \/ 1024 < cntT u + cntT x then 6 else
 if ((z0c x).any fun i => (z0b i u).2) = true then 5 else 0
def zb7 (u : T) (id : Idv) (wh : Int) : Nat :=
 if zav wh = true then (z31 id u).2.1.toNat + (if wh = 2 then 1 else 0) else if wh = 0 then 0 else (z0b (z38 u id wh) u).1.kids.length
def zb8 (u : T) (id : Idv) (wh : Int) (x : T) : T := if z6e u id wh x = 0 then z25 (z38 u id wh) (z5a (zb7 u id wh) x) u else u
theorem zhe {u x : T} {id : Idv} {wh : Int} (hn : (z0c u).Nodup) (hm : id ∈ z0c u) (hw : 0 <= wh /\ wh <= 3) (h : z6e u id wh x = 0) : z4h u id wh = ((z38 u id wh, (zb7 u id wh : Int)), 0) /\ z38 u id wh ∈ z0c u /\ zb7 u id wh <= (z0b (z38 u id wh) u).1.kids.length := by
 have h0 : ¬ (zav wh = true /\ u.id = id) := fun g => by unfold z6e at h; rw [if_pos g] at h; cases h
 unfold z4h z38 zb7
 by_cases hb : zav wh = true
 ·have h1 : ¬ u.id = id := fun g => h0 ⟨hb, g⟩
  obtain ⟨q, l, x, r, hp, hf, hx, hq, hqm, n1, n2, hqi, hxs⟩ := zcq hn h1 hm
  have hb2 : wh = 2 \/ wh = 3 := of_decide_eq_true hb
  rw [if_neg (by omega), if_neg (by omega), hp, if_pos rfl, if_pos hb, if_pos hb]
  simp only [Int.toNat_natCast]
  refine ⟨?_, hqi, ?_⟩
  ·split <;> rfl
  ·rw [hq]
   show _ <= (l ++ x :: r).length
   simp only [List.length_append, List.length_cons]
   split <;> omega
 ·have hb2 : wh = 0 \/ wh = 1 := by
   have : ¬ (wh = 2 \/ wh = 3) := fun g => hb (decide_eq_true g)
   omega
  rw [if_neg hb, if_neg hb]
  rcases hb2 with rfl | rfl
  ·exact ⟨rfl, hm, Nat.zero_le _⟩
  ·refine ⟨?_, hm, ?_⟩
   ·rw [if_neg (by decide), if_pos rfl, if_neg (by decide)]; unfold z38; rw [if_neg hb]
   ·rw [if_neg (by decide)]; unfold z38; rw [if_neg hb]; exact Nat.le_refl _
theorem ins_at {u x : T} {par : Idv} {n : Nat} (hn : (z0c u).Nodup) (hm : par ∈ z0c u) (hl : n <= (z0b par u).1.kids.length) :
  z0b par (z25 par (z5a n x) u) = (z5a n x (z0b par u).1, true) /\ n < (z5a n x (z0b par u).1).kids.length /\ ∀ h : n < (z5a n x (z0b par u).1).kids.length, (z5a n x (z0b par u).1).kids[n] = x := by
 obtain ⟨C, e, hq, hpre, _⟩ := focus par u hm
 generalize (z0b par u).1 = P at *
 have hpost : par ∉ z4b C := (z2p (x := P) (by rw [<- e]; exact hn) (hq ▸ z1d P)).2
 have hk : (z5a n x P).kids = P.kids.take n ++ x :: P.kids.drop n := rfl
 have hid : (z5a n x P).id = par := hq
 refine ⟨?_, ?_, fun h => ?_⟩
 ·rw [e, z60 _ hq C hpre hpost, z5z (hid ▸ z1d _) C hpre]
  exact z29 hid
 ·rw [hk]; simp only [List.length_append, List.length_cons, List.length_take, List.length_drop]; omega
 ·simp only [hk]
  rw [List.getElem_append_right (by rw [List.length_take]; omega)]
  simp only [List.length_take, Nat.min_eq_left hl, Nat.sub_self, List.getElem_cons_zero]
end Tr
end
section
open Abs Facts Tr
attribute [local irreducible] awp
set_option maxRecDepth 100000
namespace Tr
def z55 (id : Idv) (t : T) : Int := ((z1i id t).length : Int) - 1
theorem zdc {id : Idv} {t : T} (h : t.id = id) : z55 id t = 0 := by unfold z55; rw [z52 h]; rfl
theorem zhu {id : Idv} {t : T} (h : z1i id t = []) : z55 id t = -1 := by unfold z55; rw [h]; rfl
theorem zlv {id : Idv} {t : T} (h : id ∉ z0c t) : z55 id t = -1 := zhu ((z4q id t).2 h)
theorem zlw {id : Idv} {t k : T} (h : z1i id t = t :: z1i id k) : z55 id t = z55 id k + 1 := by
 unfold z55; rw [h, List.length_cons, Int.natCast_add]; omega
theorem z9r {id : Idv} {t : T} : 0 <= z55 id t ↔ z1i id t ≠ [] := by
 unfold z55
 cases z1i id t with
 | nil => simp
 | cons a l => simp only [List.length_cons, Int.natCast_add, ne_eq, reduceCtorEq, not_false_eq_true, iff_true]; omega
theorem zpu {id : Idv} {t : T} (h : id ∈ z0c t) : z55 id t = ((z54 id t).length : Int) := by
 have h1 := z3p.2 h
 unfold z55 z54
 rw [List.length_reverse, List.length_map, List.length_dropLast]
 have := List.length_pos_iff.2 h1
 omega
theorem zn6 {id : Idv} {t : T} {i : Nat} (hi : i < t.kids.length) (h1 : ∀ j, (hj : j < i) -> (h : j < t.kids.length) -> ¬ t.kids[j].id = id) (h2 : t.kids[i].id = id) : z4o id t = (t, 0, (i : Int)) := by
 have hf : z2e (fun k => decide (k.id = id)) t.kids = i := z3t (by omega) (fun j hj => decide_eq_false (h1 j hj (by omega))) (fun _ => decide_eq_true h2)
 rw [z7i, hf, if_pos hi]
theorem zue {id : Idv} {t : T} {i : Nat} (hno : ∀ j, (h : j < t.kids.length) -> ¬ t.kids[j].id = id) (hi : i < t.kids.length) (h1 : ∀ j, (hj : j < i) -> (h : j < t.kids.length) -> ¬ 0 <= (z4o id t.kids[j]).2.2) (h2 : 0 <= (z4o id t.kids[i]).2.2) : z4o id t = ((z4o id t.kids[i]).1, (z4o id t.kids[i]).2.1 + 1, (z4o id t.kids[i]).2.2) := by
 have hf : z2e (fun k => decide (k.id = id)) t.kids = t.kids.length := z8j fun k hk => by
  obtain ⟨j, hj, rfl⟩ := List.getElem_of_mem hk
  exact decide_eq_false (hno j hj)
 have hs : (t.kids.map (z4o id)).find? (fun r => decide (0 <= r.2.2)) = some (z4o id t.kids[i]) := by
  rw [List.find?_eq_some_iff_getElem]
  refine ⟨decide_eq_true h2, i, by rw [List.length_map]; exact hi, by rw [List.getElem_map], fun j hj => ?_⟩
  rw [List.getElem_map]
  simp only [Bool.not_eq_true', decide_eq_false_iff_not]
  exact h1 j hj (by omega)
 rw [z7i, hf, if_neg (Nat.lt_irrefl _), hs]
theorem zuf {id : Idv} {t : T} (hno : ∀ j, (h : j < t.kids.length) -> ¬ t.kids[j].id = id) (h1 : ∀ j, (h : j < t.kids.length) -> ¬ 0 <= (z4o id t.kids[j]).2.2) : z4o id t = (T.zero, 0, -1) := by
 have hf : z2e (fun k => decide (k.id = id)) t.kids = t.kids.length := z8j fun k hk => by
  obtain ⟨j, hj, rfl⟩ := List.getElem_of_mem hk
  exact decide_eq_false (hno j hj)
 have hs : (t.kids.map (z4o id)).find? (fun r => decide (0 <= r.2.2)) = none := by
  rw [List.find?_eq_none]
  intro r hr
  obtain ⟨k, hk, rfl⟩ := List.mem_map.1 hr
  obtain ⟨j, hj, rfl⟩ := List.getElem_of_mem hk
  simp only [decide_eq_true_eq]
  exact h1 j hj
 rw [z7i, hf, if_neg (Nat.lt_irrefl _), hs]
theorem zug (id : Idv) : ∀ t : T, 0 <= (z4o id t).2.1 /\ (z4o id t).2.1 <= depT t := by
 refine z3y fun t ih => ?_
 rw [z7i]
 split
 ·exact ⟨Int.le_refl _, Int.natCast_nonneg _⟩
 ·split
  ·rename_i r hr
   obtain ⟨k, hk, rfl⟩ := List.mem_map.1 (List.mem_of_find?_eq_some hr)
   have h1 := ih k hk
   have h2 := z3r hk
   simp only; omega
  ·exact ⟨Int.le_refl _, Int.natCast_nonneg _⟩
end Tr
theorem z8x (id : Idv) : ∀ t : T, szB t = true -> depT t <= 1000000000 -> PC Tryz.prog 11 [z1a t, z41 id] (.tup [z1a (z0b id t).1, .int .i64 (z55 id t)]) := by
 refine z3y fun t ih hs hd => ?_
 obtain ⟨h0, h1, g1, h2, g2, h3, h4⟩ := (z1q t).1 hs
 refine z1v 3 (by simp only [pureD.pureL, z04]; rfl) (by simp only [pureD, pureD.pureL, z04, Bool.and_self]) (z1t [3000023, 3000025, 3000026, 3000027, 5000028] Tryz.func11 rfl (by decide +kernel) z0k (by decide +kernel) (by simp [Tryz.ntmps11]) ?_)
 show awp _ _ (Code.seq _ _) _ _
 rw [show Tryz.f11.results.toList = [.cell 4 27, .tmp 5] from rfl]
 repeat' (first | refine zqj ?_ | ((refine zqh fun K J => ?_); (simp (disch := omega) only [go_sem, Nat.reduceBEq, ↓reduceIte, reduceCtorEq, Nat.reduceAdd, Nat.reduceLeDiff])) | ((refine zqd _ rfl (fun hc => ?_) (fun hc => ?_)) <;> (((try simp only [z03] at hc); (try (exfalso; omega))))) | refine zqa ?_ | refine zqb ?_ | refine zqg ?_ | refine zqu (by (simp (disch := omega) only [go_sem, Nat.reduceBEq, ↓reduceIte, Nat.reduceLeDiff]); rfl) rfl ?_ | (refine J _ ?_; clear J K))
 ·rw [z29 (by assumption), zdc (by assumption)]
  exact z02 (by simp only [pureD, pureD.pureL, z0d, Bool.and_self]) (Le.refl _)
 ·have hne : ¬ t.id = id := by assumption
  (refine z35 (fun U st => ∃ (i : _), U = t.kids.length - i /\ st.t 2 = .ptr 0 0 /\ st.t 3 = .ptr 1 0 /\ st.t 4 = .ptr 2 0 /\ st.t 6 = .int .i64 i /\ st.H 0 = some (.box 27 (z05 t)) /\ st.H 1 = some (.box 23 (z07 id)) /\ st.H 2 = some (.box 27 [.int .i64 0, .int .i64 0, .int .i64 0, .int .i64 0, .str ByteArray.empty, .nil, .nil, .nil]) /\ (i <= t.kids.length) /\ (3 <= st.nx) /\ (∀ j, (hj : j < i) -> (h : j < t.kids.length) -> z1i id t.kids[j] = [])) ?_ ?_); rotate_left; (rintro U st ⟨i, rfl, q2, q3, q4, q6, qH0, qH1, qH2, qp0, qp1, qp2⟩); rotate_left
  ·(refine ⟨_, 0, rfl, ?_⟩); (simp (disch := omega) only [go_sem, Nat.reduceBEq, Nat.reduceLeDiff, true_and, Int.natCast_zero, z07])
   (repeat' (omega))
  by_cases hi : i < t.kids.length
  ·have hdk := z3r (List.getElem_mem hi)
   have hin := ih t.kids[i] (List.getElem_mem hi) (h4 _ (List.getElem_mem hi)) (by omega)
   have hlen := z6c id t.kids[i]
   have hdi : z55 id t.kids[i] <= 1000000000 := by unfold z55; omega
   repeat' (first | refine zqj ?_ | ((first | refine zqh fun K J => ?_ | refine zqe (by decide +kernel) fun K J => ?_ | refine zqr fun K J => ?_ | refine zqt (hin) ?_); (simp (disch := omega) only [go_sem, Nat.reduceBEq, Nat.reduceEqDiff, ↓reduceIte, reduceCtorEq, Nat.reduceAdd, Nat.reduceLeDiff, q2, q3, q4, q6, qH0, qH1, qH2, z0e, z07])) | ((first | refine zqd _ rfl (fun hc => ?_) (fun hc => ?_) | refine zqm _ rfl (fun hc => ?_) (fun hc => ?_)) <;> (((try simp only [z03] at hc); (try (exfalso; omega))))) | refine zqa ?_ | refine zqb ?_ | refine zqk ?_ | refine zqn ?_ | refine zqv ?_ | refine zqx ?_ | refine zqy ?_ | refine z4f ?_ | refine zqo ?_ | refine zqu (by (simp (disch := omega) only [go_sem, Nat.reduceBEq, ↓reduceIte, Nat.reduceLeDiff, q4, qH2]); rfl) rfl ?_ | (refine J _ ?_; clear J K))
   ·have hf := z9r.1 ‹0 <= z55 id t.kids[i]›
    rw [z3i (z3s hne hi qp2 hf) hf, zlw (z3s hne hi qp2 hf)]
    refine z02 (by simp only [pureD, pureD.pureL, z0d, Bool.and_self]) ?_
    exact Le.refl _
   ·have hf : z1i id t.kids[i] = [] := Classical.byContradiction fun g => by have := z9r.2 g; omega
    (refine Exists.intro _ (And.intro ?_ ⟨i + 1, rfl, ?_⟩)); rotate_left; (simp (disch := omega) only [go_sem, Nat.reduceBEq, Nat.reduceLeDiff, q2, q3, q4, q6, qH0, qH1, qH2, true_and, Int.natCast_add, Int.natCast_one, z07]); rotate_left
    ·omega
    ·refine ⟨by omega, by omega, fun j hj h => ?_⟩
     by_cases e : j = i
     ·subst e; exact hf
     ·exact qp2 j (by omega) h
  ·repeat' (first | refine zqj ?_ | ((refine zqh fun K J => ?_); (simp (disch := omega) only [go_sem, Nat.reduceBEq, ↓reduceIte, reduceCtorEq, Nat.reduceAdd, Nat.reduceLeDiff, q2, q4, q6, qH0, qH2, z0e])) | ((refine zqd _ rfl (fun hc => ?_) (fun hc => ?_)) <;> (((try simp only [z03] at hc); (try (exfalso; omega))))) | refine zqc ?_ | refine zqn ?_ | refine zqv ?_ | refine zqz ?_ | refine zqp ?_ | refine zqu (by (simp (disch := omega) only [go_sem, Nat.reduceBEq, ↓reduceIte, Nat.reduceAdd, Nat.reduceLeDiff, q4, qH2]); rfl) rfl ?_ | (refine J _ ?_; clear J K))
   rw [zd6 (zes hne (by omega) qp2), zhu (zes hne (by omega) qp2)]
   exact z02 (by simp only [pureD, pureD.pureL, Bool.and_self]) (Le.tup ⟨zgf, Le.refl _, trivial⟩)
theorem zdd (id : Idv) : ∀ t : T, szB t = true -> depT t <= 1000000000 -> PC Tryz.prog 36 [z1a t, z41 id] (.tup [z1a (z4o id t).1, .int .i64 (z4o id t).2.1, .int .i64 (z4o id t).2.2]) := by
 refine z3y fun t ih hs hd => ?_
 obtain ⟨h0, h1, g1, h2, g2, h3, h4⟩ := (z1q t).1 hs
 refine z1v 3 (by simp only [pureD.pureL, z04]; rfl) (by simp only [pureD, pureD.pureL, z04, Bool.and_self]) (z1t [3000038, 3000040, 3000041, 3000042, 5000043] Tryz.func36 rfl (by decide +kernel) z0k (by decide +kernel) (by simp [Tryz.ntmps36]) ?_)
 show awp _ _ (Code.seq _ _) _ _
 rw [show Tryz.f36.results.toList = [.cell 4 27, .tmp 5, .tmp 6] from rfl]
 repeat' (first | refine zqj ?_ | ((refine zqh fun K J => ?_); (simp (disch := omega) only [go_sem, Nat.reduceBEq, Nat.reduceAdd])) | refine zqa ?_ | (refine J _ ?_; clear J K))
 (refine z35 (fun U st => ∃ (i : _), U = t.kids.length - i /\ st.t 2 = .ptr 0 0 /\ st.t 3 = .ptr 1 0 /\ st.t 4 = .ptr 2 0 /\ st.t 7 = .int .i64 i /\ st.H 0 = some (.box 27 (z05 t)) /\ st.H 1 = some (.box 23 (z07 id)) /\ st.H 2 = some (.box 27 [.int .i64 0, .int .i64 0, .int .i64 0, .int .i64 0, .str ByteArray.empty, .nil, .nil, .nil]) /\ (i <= t.kids.length) /\ (3 <= st.nx) /\ (∀ j, (hj : j < i) -> (h : j < t.kids.length) -> ¬ t.kids[j].id = id)) ?_ ?_); rotate_left; (rintro U st ⟨i, rfl, q2, q3, q4, q7, qH0, qH1, qH2, qp0, qp1, qp2⟩); rotate_left
 ·(refine ⟨_, 0, rfl, ?_⟩); (simp (disch := omega) only [go_sem, Nat.reduceBEq, Nat.reduceLeDiff, true_and, Int.natCast_zero, z07])
  (repeat' (omega))
  all_goals intro j hj; omega
 by_cases hi : i < t.kids.length
 ·repeat' (first | refine zqj ?_ | ((first | refine zqh fun K J => ?_ | refine zqe (by decide +kernel) fun K J => ?_ | refine zqr fun K J => ?_); (simp (disch := omega) only [go_sem, Nat.reduceBEq, Nat.reduceEqDiff, ↓reduceIte, reduceCtorEq, Nat.reduceAdd, Nat.reduceLeDiff, q2, q3, q4, q7, qH0, qH1, qH2, z0e, z07])) | ((first | refine zqd _ rfl (fun hc => ?_) (fun hc => ?_) | refine zqm _ rfl (fun hc => ?_) (fun hc => ?_)) <;> (((try simp only [z03] at hc); (try (exfalso; omega))))) | refine zqa ?_ | refine zqb ?_ | refine zqk ?_ | refine zqn ?_ | refine zqv ?_ | refine zqx ?_ | refine zqy ?_ | refine z4f ?_ | refine zqo ?_ | refine zqu (by (simp (disch := omega) only [go_sem, Nat.reduceBEq, ↓reduceIte, Nat.reduceLeDiff, q4, qH2]); rfl) rfl ?_ | (refine J _ ?_; clear J K))
  ·rw [zn6 hi qp2 (by assumption)]
   exact z02 (by simp only [pureD, pureD.pureL, z0d, Bool.and_self]) (Le.refl _)
  ·(refine Exists.intro _ (And.intro ?_ ⟨i + 1, rfl, ?_⟩)); rotate_left; (simp (disch := omega) only [go_sem, Nat.reduceBEq, q2, q3, q4, q7, qH0, qH1, qH2, true_and, Int.natCast_add, Int.natCast_one, z07]); rotate_left
   ·omega
   ·refine ⟨by omega, by omega, fun j hj h => ?_⟩
    by_cases e : j = i
    ·subst e; assumption
    ·exact qp2 j (by omega) h
 ·repeat' (first | refine zqj ?_ | ((refine zqh fun K J => ?_); (simp (disch := omega) only [go_sem, Nat.reduceBEq, ↓reduceIte, reduceCtorEq, Nat.reduceAdd, q2, q7, qH0, z0e])) | ((refine zqd _ rfl (fun hc => ?_) (fun hc => ?_)) <;> (((try simp only [z03] at hc); (try (exfalso; omega))))) | refine zqa ?_ | refine zqc ?_ | refine zqv ?_ | refine zqz ?_ | refine zqp ?_ | (refine J _ ?_; clear J K))
  have hno : ∀ j, (h : j < t.kids.length) -> ¬ t.kids[j].id = id := fun j h => qp2 j (by omega) h
  (refine z35 (fun U st => ∃ (k : _), U = t.kids.length - k /\ st.t 2 = .ptr 0 0 /\ st.t 3 = .ptr 1 0 /\ st.t 4 = .ptr 2 0 /\ st.t 8 = .int .i64 k /\ st.H 0 = some (.box 27 (z05 t)) /\ st.H 1 = some (.box 23 (z07 id)) /\ st.H 2 = some (.box 27 [.int .i64 0, .int .i64 0, .int .i64 0, .int .i64 0, .str ByteArray.empty, .nil, .nil, .nil]) /\ (k <= t.kids.length) /\ (3 <= st.nx) /\ (∀ j, (hj : j < k) -> (h : j < t.kids.length) -> ¬ 0 <= (z4o id t.kids[j]).2.2)) ?_ ?_); rotate_left; (rintro U st ⟨k, rfl, r2, r3, r4, r8, rH0, rH1, rH2, rp0, rp1, rp2⟩); rotate_left
  ·(refine ⟨_, 0, rfl, ?_⟩); (simp (disch := omega) only [go_sem, Nat.reduceBEq, q2, q3, q4, qH0, qH1, qH2, true_and, Int.natCast_zero, z07])
   (repeat' (first | omega | refine And.intro ?_ ?_))
   all_goals first | omega | (intro j hj; omega)
  by_cases hk : k < t.kids.length
  ·have hdk := z3r (List.getElem_mem hk)
   have hin := ih t.kids[k] (List.getElem_mem hk) (h4 _ (List.getElem_mem hk)) (by omega)
   have hle := zug id t.kids[k]
   repeat' (first | refine zqj ?_ | ((first | refine zqh fun K J => ?_ | refine zqe (by decide +kernel) fun K J => ?_ | refine zqr fun K J => ?_ | refine zqt (hin) ?_); (simp (disch := omega) only [go_sem, Nat.reduceBEq, Nat.reduceEqDiff, ↓reduceIte, reduceCtorEq, Nat.reduceAdd, Nat.reduceLeDiff, r2, r3, r4, r8, rH0, rH1, rH2, z0e, z07])) | ((first | refine zqd _ rfl (fun hc => ?_) (fun hc => ?_) | refine zqm _ rfl (fun hc => ?_) (fun hc => ?_)) <;> (((try simp only [z03] at hc); (try (exfalso; omega))))) | refine zqa ?_ | refine zqb ?_ | refine zqk ?_ | refine zqn ?_ | refine zqv ?_ | refine zqx ?_ | refine zqy ?_ | refine z4f ?_ | refine zqo ?_ | refine zqu (by (simp (disch := omega) only [go_sem, Nat.reduceBEq, ↓reduceIte, Nat.reduceLeDiff, r4, rH2]); rfl) rfl ?_ | (refine J _ ?_; clear J K))
   ·rw [zue hno hk rp2 (by assumption)]
    refine z02 (by simp only [pureD, pureD.pureL, z0d, Bool.and_self]) ?_
    exact Le.refl _
   ·(refine Exists.intro _ (And.intro ?_ ⟨k + 1, rfl, ?_⟩)); rotate_left; (simp (disch := omega) only [go_sem, Nat.reduceBEq, Nat.reduceLeDiff, r2, r3, r4, r8, rH0, rH1, rH2, true_and, Int.natCast_add, Int.natCast_one, z07]); rotate_left
    ·omega
    ·refine ⟨by omega, by omega, fun j hj h => ?_⟩
     by_cases e : j = k
     ·subst e; omega
     ·exact rp2 j (by omega) h
  ·repeat' (first | refine zqj ?_ | ((refine zqh fun K J => ?_); (simp (disch := omega) only [go_sem, Nat.reduceBEq, ↓reduceIte, reduceCtorEq, Nat.reduceAdd, Nat.reduceLeDiff, r2, r4, r8, rH0, rH2, z0e])) | ((refine zqd _ rfl (fun hc => ?_) (fun hc => ?_)) <;> (((try simp only [z03] at hc); (try (exfalso; omega))))) | refine zqc ?_ | refine zqn ?_ | refine zqv ?_ | refine zqz ?_ | refine zqp ?_ | refine zqu (by (simp (disch := omega) only [go_sem, Nat.reduceBEq, ↓reduceIte, Nat.reduceAdd, Nat.reduceLeDiff, r4, rH2]); rfl) rfl ?_ | (refine J _ ?_; clear J K))
   rw [zuf hno fun j h => rp2 j (by omega) h]
   exact z02 (by simp only [pureD, pureD.pureL, Bool.and_self]) (Le.tup ⟨zgf, Le.refl _, Le.refl _, trivial⟩)
theorem zev (x : T) : ∀ t : T, szB t = true -> PC Tryz.prog 38 [z1a t, z1a x] (z1a (z25 x.id (fun _ => x) t)) := by
 refine z3y fun t ih hs => ?_
 obtain ⟨h0, h1, g1, h2, g2, h3, h4⟩ := (z1q t).1 hs
 refine z1v 4 (by simp only [pureD.pureL, z04, Bool.and_self]) (z04 _) (z1t [13, 3000016, 3000023, 3000025, 3000026, 3000027] Tryz.func38 rfl (by decide +kernel) z0k (by decide +kernel) (by simp [Tryz.ntmps38]) ?_)
 show awp _ _ (Code.seq _ _) _ _
 rw [show Tryz.f38.results.toList = [.cell 4 27] from rfl]
 rw [show z1a t = .agg _ from by rw [z1a, z0y], z7l]
 by_cases hid : t.id = x.id
 ·have hidd : decide (t.id = x.id) = true := decide_eq_true hid
  rw [if_pos hid]
  rw [show z1a x = .agg _ from by rw [z1a, z0y]]
  repeat' (first | refine zqj ?_ | ((refine zqh fun K J => ?_); (simp (disch := omega) only [go_sem, Nat.reduceBEq, ↓reduceIte, reduceCtorEq, Nat.reduceAdd, Nat.reduceLeDiff, hidd, z0e, List.set_cons_succ, List.set_cons_zero])) | ((refine zqd _ rfl (fun hc => ?_) (fun hc => ?_)) <;> (first | (cases hc; done) | ((try simp only [] at hc); (try (exfalso; omega))))) | refine zqg ?_ | refine zqu (by (simp (disch := omega) only [go_sem, Nat.reduceBEq, ↓reduceIte, Nat.reduceAdd, Nat.reduceLeDiff]); rfl) rfl ?_ | (refine J _ ?_; clear J K))
  exact z02 (by simp only [pureD, pureD.pureL, z0w, zmy, Bool.and_self]) (Le.refl _)
 ·have hidd : decide (t.id = x.id) = false := decide_eq_false hid
  rw [if_neg hid]
  repeat' (first | refine zqj ?_ | ((refine zqh fun K J => ?_); (simp (disch := omega) only [go_sem, Nat.reduceBEq, ↓reduceIte, reduceCtorEq, Nat.reduceAdd, Nat.reduceMul, Nat.reduceLeDiff, hidd])) | ((refine zqd _ rfl (fun hc => ?_) (fun hc => ?_)) <;> (first | (cases hc; done) | ((try simp only [] at hc); (try (exfalso; omega))))) | refine zqa ?_ | refine zqb ?_ | (refine J _ ?_; clear J K))
  (refine z35 (fun U st => ∃ (i : _), U = t.kids.length - i /\ st.t 2 = .ptr 0 0 /\ st.t 3 = .ptr 1 0 /\ st.t 4 = .ptr 2 0 /\ st.t 5 = .osl 3 i /\ st.t 6 = .int .i64 i /\ st.H 0 = some (.box 27 (zjf t)) /\ st.H 1 = some (.box 27 (z05 x)) /\ st.H 2 = some (.box 27 [.int .i64 0, .int .i64 0, .int .i64 0, .int .i64 0, .str ByteArray.empty, .nil, .nil, .nil]) /\ st.H 3 = some (.row 27 i (((t.kids.take i).map (z25 x.id (fun _ => x))).flatMap z05)) /\ (i <= t.kids.length) /\ (4 <= st.nx)) ?_ ?_); rotate_left; (rintro U st ⟨i, rfl, q2, q3, q4, q5, q6, qH0, qH1, qH2, qH3, qp0, qp1⟩); rotate_left
  ·(refine ⟨_, 0, rfl, ?_⟩); (simp (disch := omega) only [go_sem, Nat.reduceBEq, Nat.reduceLeDiff, and_self, Int.natCast_zero, List.flatMap_nil, List.map_nil, zjf])
   try exact ⟨rfl, rfl⟩
  by_cases hi : i < t.kids.length
  ·have hin := ih t.kids[i] (List.getElem_mem hi) (h4 _ (List.getElem_mem hi))
   have htk := List.take_succ_eq_append_getElem hi
   repeat' (first | refine zqj ?_ | ((first | refine zqh fun K J => ?_ | refine zqr fun K J => ?_ | refine zqq (by decide +kernel) fun K J => ?_ | refine zqt (hin) ?_); (simp (disch := omega) only [go_sem, Nat.reduceBEq, Nat.reduceEqDiff, ↓reduceIte, reduceCtorEq, Nat.reduceAdd, Nat.reduceMul, Nat.reduceLeDiff, q2, q3, q5, q6, qH0, qH1, qH3, zjf, z0e])) | ((refine zqd _ rfl (fun hc => ?_) (fun hc => ?_)) <;> (((try simp only [z03] at hc); (try (exfalso; omega))))) | refine zqa ?_ | refine zqb ?_ | refine zqv ?_ | refine zqy ?_ | (refine J _ ?_; clear J K))
   (refine Exists.intro _ (And.intro ?_ ⟨i + 1, rfl, ?_⟩)); rotate_left; (simp (disch := omega) only [go_sem, Nat.reduceBEq, q2, q3, q4, q5, q6, qH0, qH1, qH2, qH3, true_and, Int.natCast_add, Int.natCast_one, List.flatMap_append, List.flatMap_cons, List.flatMap_nil, List.map_append, List.map_cons, List.map_nil, List.append_nil, htk, zjf]); rotate_left
   ·omega
   ·omega
  ·repeat' (first | refine zqj ?_ | ((refine zqh fun K J => ?_); (simp (disch := omega) only [go_sem, Nat.reduceBEq, ↓reduceIte, reduceCtorEq, Nat.reduceAdd, Nat.reduceLeDiff, Nat.reduceLT, q2, q4, q5, q6, qH0, qH2, z0e, zjf, List.set_cons_succ, List.set_cons_zero])) | ((refine zqd _ rfl (fun hc => ?_) (fun hc => ?_)) <;> (((try simp only [z03] at hc); (try (exfalso; omega))))) | refine zqc ?_ | refine zqn ?_ | refine zqv ?_ | refine zqz ?_ | refine zqp ?_ | refine zqu (by (simp (disch := omega) only [go_sem, Nat.reduceBEq, ↓reduceIte, Nat.reduceAdd, Nat.reduceLeDiff, q4, qH2]); rfl) rfl ?_ | (refine J _ ?_; clear J K))
   have hi2 : i = t.kids.length := by omega
   subst hi2
   rw [List.take_length] at qH3
   refine z50 (zgc 2 (t := t.setKids (t.kids.map (z25 x.id (fun _ => x)))) (z4a (f := z05) (l := t.kids.map (z25 x.id (fun _ => x))) 1 ?_ ?_ z5b z71 z0l z0d) rfl)
   ·rw [List.length_map]
   ·(simp (disch := omega) only [go_sem, Nat.reduceBEq, qH3])
theorem zt5 (l : List T) (hl : l.length <= 1000000) (i : Nat) (hi : i <= l.length) (x : T) : PC Tryz.prog 69 [z0e l, .int .i64 i, z1a x] (z0e (l.take i ++ x :: l.drop i)) := by
 refine z1v 3 (by simp only [pureD.pureL, z1b, z04, pureD, Bool.and_self]) (z1b _) (z1t [7, 3000012] Tryz.func69 rfl (by decide +kernel) z0k (by decide +kernel) (by simp [Tryz.ntmps69]) ?_)
 show awp _ _ (Code.seq _ _) _ _
 repeat' (first | ((first | refine zqh fun K J => ?_ | refine zqe (by decide +kernel) fun K J => ?_); (simp (disch := omega) only [go_sem, Nat.reduceBEq, Nat.reduceEqDiff, ↓reduceIte, reduceCtorEq, Nat.reduceAdd, Nat.reduceMul, Nat.reduceLeDiff, z0e, z4c])) | refine zqn ?_ | refine zqu (by (simp (disch := omega) only [go_sem]); rfl) rfl ?_ | (refine J _ ?_; clear J K))
 refine z50 (z4a (f := z05) (l := l.take i ++ x :: l.drop i) 1 ?_ ?_ z5b z71 z0l z0d)
 ·simp; omega
 ·(simp (disch := omega) only [go_sem, Nat.reduceBEq, List.flatMap_append, List.flatMap_cons, List.append_assoc])
theorem zw4 (l : List T) (hl : l.length <= 1000000) (i : Nat) (hi : i < l.length) : PC Tryz.prog 37 [z0e l, .int .i64 i] (z0e (l.eraseIdx i)) := by
 refine z1v 3 (by simp only [pureD.pureL, z1b, pureD, Bool.and_self]) (z1b _) (z1t [5] Tryz.func37 rfl (by decide +kernel) z0k (by decide +kernel) (by simp [Tryz.ntmps37]) ?_)
 show awp _ _ (Code.seq _ _) _ _
 have hn : ((i : Int) + 1).toNat = i + 1 := by omega
 have hw : IntKind.i64.wrap ((i : Int) + 1) = i + 1 := zf6 (by omega)
 repeat' (first | ((first | refine zqh fun K J => ?_ | refine zqe (by decide +kernel) fun K J => ?_); (simp (disch := omega) only [go_sem, Nat.reduceBEq, ↓reduceIte, reduceCtorEq, Nat.reduceAdd, Nat.reduceMul, z0e, z4c, hn, hw])) | refine zqn ?_ | refine zqu (by (simp (disch := omega) only [go_sem]); rfl) rfl ?_ | (refine J _ ?_; clear J K))
 rw [List.eraseIdx_eq_take_drop_succ]
 refine z50 (z4a (f := z05) (l := l.take i ++ l.drop (i + 1)) 1 ?_ ?_ z5b z71 z0l z0d)
 ·simp
 ·(simp (disch := omega) only [go_sem, List.flatMap_append])
def atI (id : Idv) (l : List T) : Int := if z2e (fun k => decide (k.id = id)) l < l.length then (z2e (fun k => decide (k.id = id)) l : Int) else -1
theorem zzc (l : List T) (hl : l.length <= 1000000) (id : Idv) : PC Tryz.prog 70 [z0e l, z41 id] (.int .i64 (atI id l)) := by
 refine z1v 1 (by simp only [pureD.pureL, z1b]; rfl) rfl (z1t [] Tryz.func70 rfl (by decide +kernel) z0k (by decide +kernel) (by simp [Tryz.ntmps70]) ?_)
 show awp _ _ (Code.seq _ _) _ _
 repeat' (first | refine zqj ?_ | ((refine zqh fun K J => ?_); (simp (disch := omega) only [go_sem, z0e])) | refine zqa ?_ | (refine J _ ?_; clear J K))
 (refine z35 (fun U st => ∃ (i : _), U = l.length - i /\ st.t 0 = z0e l /\ st.t 3 = .ptr 0 0 /\ st.t 5 = .int .i64 i /\ st.H 0 = some (.box 23 (z07 id)) /\ (i <= l.length) /\ (1 <= st.nx) /\ (∀ j, (hj : j < i) -> (h : j < l.length) -> ¬ l[j].id = id)) ?_ ?_); rotate_left; (rintro U st ⟨i, rfl, q0, q3, q5, qH0, qp0, qp1, qp2⟩); rotate_left
 ·(refine ⟨_, 0, rfl, ?_⟩); (simp (disch := omega) only [go_sem, Nat.reduceBEq, Nat.reduceLeDiff, true_and, Int.natCast_zero, z07, z0e])
  (repeat' (omega))
  all_goals intro j hj; omega
 by_cases hi : i < l.length
 ·repeat' (first | refine zqj ?_ | ((first | refine zqh fun K J => ?_ | refine zqe (by decide +kernel) fun K J => ?_ | refine zqr fun K J => ?_); (simp (disch := omega) only [go_sem, Nat.reduceBEq, ↓reduceIte, reduceCtorEq, Nat.reduceAdd, Nat.reduceLeDiff, q0, q3, q5, qH0, z0e, z07])) | ((first | refine zqd _ rfl (fun hc => ?_) (fun hc => ?_) | refine zqm _ rfl (fun hc => ?_) (fun hc => ?_)) <;> (((try simp only [z03] at hc); (try (exfalso; omega))))) | refine zqa ?_ | refine zqb ?_ | refine zqk ?_ | refine zqn ?_ | refine zqv ?_ | refine zqx ?_ | refine zqy ?_ | refine z4f ?_ | refine zqo ?_ | refine zqu (by (simp (disch := omega) only [go_sem]); rfl) rfl ?_ | (refine J _ ?_; clear J K))
  ·refine z2w ?_
   have hf : z2e (fun k => decide (k.id = id)) l = i := z3t (by omega) (fun j hj => decide_eq_false (qp2 j hj (by omega))) (fun _ => decide_eq_true (by assumption))
   unfold atI
   rw [hf, if_pos hi]
  ·(refine Exists.intro _ (And.intro ?_ ⟨i + 1, rfl, ?_⟩)); rotate_left; (simp (disch := omega) only [go_sem, Nat.reduceBEq, q0, q3, q5, qH0, true_and, Int.natCast_add, Int.natCast_one, z07]); rotate_left
   ·omega
   ·refine ⟨by omega, by omega, fun j hj h => ?_⟩
    by_cases e : j = i
    ·subst e; assumption
    ·exact qp2 j (by omega) h
 ·repeat' (first | refine zqj ?_ | ((refine zqh fun K J => ?_); (simp (disch := omega) only [go_sem, Nat.reduceBEq, ↓reduceIte, q0, q5, z0e])) | ((refine zqd _ rfl (fun hc => ?_) (fun hc => ?_)) <;> (((try simp only [z03] at hc); (try (exfalso; omega))))) | refine zqc ?_ | refine zqn ?_ | refine zqv ?_ | refine zqz ?_ | refine zqp ?_ | refine zqu (by (simp (disch := omega) only [go_sem]); rfl) rfl ?_ | (refine J _ ?_; clear J K))
  refine z2w ?_
  have hf : z2e (fun k => decide (k.id = id)) l = l.length := z8j fun k hk => by
   obtain ⟨j, hj, rfl⟩ := List.getElem_of_mem hk
   exact decide_eq_false (qp2 j (by omega) hj)
  unfold atI
  rw [hf, if_neg (Nat.lt_irrefl _)]
theorem zgb (l : List T) (hl : l.length <= 1000000) (kind : Int) (name : ByteArray) : PC Tryz.prog 41 [z0e l, .int .i64 kind, .str name] (.bool (z3z l kind name)) := by
 refine z1v 1 (by simp only [pureD.pureL, z1b, pureD, Bool.and_self]) rfl (z1t [] Tryz.func41 rfl (by decide +kernel) z0k (by decide +kernel) (by simp [Tryz.ntmps41]) ?_)
 show awp _ _ (Code.seq _ _) _ _
 repeat' (first | refine zqj ?_ | ((refine zqh fun K J => ?_); (simp (disch := omega) only [go_sem, z0e])) | refine zqa ?_ | (refine J _ ?_; clear J K))
 (refine z35 (fun U st => ∃ (i : _), U = l.length - i /\ st.t 0 = z0e l /\ st.t 1 = .int .i64 kind /\ st.t 2 = .str name /\ st.t 7 = .int .i64 i /\ (i <= l.length) /\ ((l.take i).any (fun k => decide (k.kind = kind) && decide (k.label = name)) = false)) ?_ ?_); rotate_left; (rintro U st ⟨i, rfl, q0, q1, q2, q7, qp0, qp1⟩); rotate_left
 ·(refine ⟨_, 0, rfl, ?_⟩); (simp (disch := omega) only [go_sem, Nat.reduceBEq, and_self, Int.natCast_zero, z0e])
  try simp
 by_cases hi : i < l.length
 ·repeat' (first | refine zqj ?_ | ((first | refine zqh fun K J => ?_ | refine zqr fun K J => ?_); (simp (disch := omega) only [go_sem, Nat.reduceBEq, ↓reduceIte, reduceCtorEq, Nat.reduceAdd, q0, q1, q7, z0e])) | ((first | refine zqd _ rfl (fun hc => ?_) (fun hc => ?_) | refine zqm _ rfl (fun hc => ?_) (fun hc => ?_)) <;> (first | (cases hc; done) | ((try simp only [z03] at hc); (try (exfalso; omega))))) | refine zqa ?_ | refine zqb ?_ | refine zqk ?_ | refine zqn ?_ | refine zqv ?_ | refine zqx ?_ | refine zqy ?_ | refine z4f ?_ | refine zqo ?_ | refine zqu (by (simp (disch := omega) only [go_sem]); rfl) rfl ?_ | (refine J _ ?_; clear J K) | (refine zqf (fun hb => ?_) (fun hb => ?_) <;> (have hb2 := hb; try simp only [z03] at hb2) <;> ((first | have F := eq_false hb2 | have F := eq_true hb2); (simp (disch := omega) only [go_sem, Nat.reduceBEq, ↓reduceIte, reduceCtorEq, Nat.reduceAdd, F, q0, q2, q7, z0e]); clear hb F; (try (exfalso; omega)))))
  ·exact z00 (zyi (f := fun k : T => decide (k.kind = kind) && decide (k.label = name)) (i := i) hi (by simp_all)).symm
  all_goals
   (refine Exists.intro _ (And.intro ?_ ⟨i + 1, rfl, ?_⟩)); rotate_left; (simp (disch := omega) only [go_sem, Nat.reduceBEq, q0, q1, q2, q7, true_and, Int.natCast_add, Int.natCast_one]); rotate_left
   ·omega
   ·exact ⟨by omega, z7a (f := fun k : T => decide (k.kind = kind) && decide (k.label = name)) hi qp1 (by simp_all)⟩
 ·repeat' (first | refine zqj ?_ | ((refine zqh fun K J => ?_); (simp (disch := omega) only [go_sem, Nat.reduceBEq, ↓reduceIte, q0, q7, z0e])) | ((refine zqd _ rfl (fun hc => ?_) (fun hc => ?_)) <;> (((try simp only [z03] at hc); (try (exfalso; omega))))) | refine zqc ?_ | refine zqn ?_ | refine zqv ?_ | refine zqz ?_ | refine zqp ?_ | refine zqu (by (simp (disch := omega) only [go_sem]); rfl) rfl ?_ | (refine J _ ?_; clear J K))
  exact z00 (zv9 (f := fun k : T => decide (k.kind = kind) && decide (k.label = name)) (i := i) (by omega) qp1).symm
theorem zjy : ∀ t : T, szB t = true -> depT t <= 1000000000 -> PC Tryz.prog 66 [z1a t] (.int .i64 (depT t)) := by
 refine z3y fun t ih hs hd => ?_
 obtain ⟨h0, h1, g1, h2, g2, h3, h4⟩ := (z1q t).1 hs
 refine z1v 1 (by simp only [pureD.pureL, z04, Bool.and_self]) rfl (z1t [] Tryz.func66 rfl (by decide +kernel) z0k (by decide +kernel) (by simp [Tryz.ntmps66]) ?_)
 show awp _ _ (Code.seq _ _) _ _
 repeat' (first | refine zqj ?_ | ((refine zqh fun K J => ?_); (simp (disch := omega) only [go_sem])) | refine zqa ?_ | (refine J _ ?_; clear J K))
 (refine z35 (fun U st => ∃ (i : _), U = t.kids.length - i /\ st.t 1 = .ptr 0 0 /\ st.t 3 = .int .i64 (z9e ((t.kids.take i).map depT) : Nat) /\ st.t 4 = .int .i64 i /\ st.H 0 = some (.box 27 (z05 t)) /\ (i <= t.kids.length) /\ (1 <= st.nx)) ?_ ?_); rotate_left; (rintro U st ⟨i, rfl, q1, q3, q4, qH0, qp0, qp1⟩); rotate_left
 ·(refine ⟨_, 0, rfl, ?_⟩); (simp (disch := omega) only [go_sem, Nat.reduceBEq, Nat.reduceLeDiff, true_and, and_true, and_self, Int.natCast_zero, List.map_nil])
  rfl
 by_cases hi : i < t.kids.length
 ·have hk := z3r (t := t) (List.getElem_mem hi)
  have hin := ih t.kids[i] (List.getElem_mem hi) (h4 _ (List.getElem_mem hi)) (by omega)
  have hsn : z9e ((t.kids.take (i + 1)).map depT) = max (z9e ((t.kids.take i).map depT)) (1 + depT t.kids[i]) := by
   rw [List.take_succ_eq_append_getElem hi, List.map_append, List.map_cons, List.map_nil, zjk]
  have hw : IntKind.i64.wrap (1 + (depT t.kids[i] : Int)) = 1 + depT t.kids[i] := zf6 (by omega)
  repeat' (first | refine zqj ?_ | ((first | refine zqh fun K J => ?_ | refine zqr fun K J => ?_ | refine zqs (hin) ?_); (simp (disch := omega) only [go_sem, Nat.reduceBEq, ↓reduceIte, reduceCtorEq, Nat.reduceAdd, q1, q3, q4, qH0, z0e, hw])) | ((first | refine zqd _ rfl (fun hc => ?_) (fun hc => ?_) | refine zqm _ rfl (fun hc => ?_) (fun hc => ?_)) <;> (((try simp only [z03] at hc); (try (exfalso; omega))))) | refine zqa ?_ | refine zqb ?_ | refine zqk ?_ | refine zqv ?_ | refine zqy ?_ | (refine J _ ?_; clear J K))
  all_goals
   (refine Exists.intro _ (And.intro ?_ ⟨i + 1, rfl, ?_⟩)); rotate_left; (simp (disch := omega) only [go_sem, Nat.reduceBEq, q1, q3, q4, qH0, true_and, Int.natCast_add, Int.natCast_one, hsn]); rotate_left
   ·omega
   ·refine ⟨?_, by omega⟩
    omega
 ·repeat' (first | refine zqj ?_ | ((refine zqh fun K J => ?_); (simp (disch := omega) only [go_sem, Nat.reduceBEq, ↓reduceIte, reduceCtorEq, Nat.reduceAdd, q1, q3, q4, qH0, z0e])) | ((refine zqd _ rfl (fun hc => ?_) (fun hc => ?_)) <;> (((try simp only [z03] at hc); (try (exfalso; omega))))) | refine zqc ?_ | refine zqn ?_ | refine zqv ?_ | refine zqz ?_ | refine zqp ?_ | refine zqu (by (simp (disch := omega) only [go_sem]); rfl) rfl ?_ | (refine J _ ?_; clear J K))
  refine z2w ?_
  have hi2 : i = t.kids.length := by omega
  subst hi2
  rw [List.take_length, <- z3v]
theorem zby (p k : Int) : PC Tryz.prog 65 [.int .i64 p, .int .i64 k] (.bool (z1w p k)) := by
 refine z1v 1 rfl rfl (z1t [] Tryz.func65 rfl (by decide +kernel) z0k (by decide +kernel) (by simp [Tryz.ntmps65]) ?_)
 show awp _ _ (Code.seq _ _) _ _
 by_cases hk : 0 <= p /\ p < 8
 ·rcases zpa hk with rfl | rfl | rfl | rfl | rfl | rfl | rfl | rfl
  all_goals clear hk
  all_goals (repeat' (first | refine zqj ?_ | ((refine zqh fun K J => ?_); (simp (disch := omega) only [go_sem, Nat.reduceBEq, ↓reduceIte, Int.reduceEq])) | ((refine zqm _ rfl (fun hc => ?_) (fun hc => ?_)) <;> (first | (cases hc; done) | ((try simp only [] at hc); (try (exfalso; omega))))) | refine zqa ?_ | refine zqk ?_ | refine zqn ?_ | refine zqv ?_ | refine zqx ?_ | refine zqy ?_ | refine z4f ?_ | refine zqu (by (simp (disch := omega) only [go_sem]); rfl) rfl ?_ | (refine J _ ?_; clear J K) | (refine zqf (fun hb => ?_) (fun hb => ?_) <;> (have hb2 := hb; try simp only [z03] at hb2) <;> ((first | have F := eq_false hb2 | have F := eq_true hb2); (simp (disch := omega) only [go_sem, Nat.reduceBEq, ↓reduceIte, F]); clear hb F; (try (exfalso; omega))))))
  all_goals refine z00 ?_
  all_goals (simp_all [z1w, belowL]; done)
 ·rw [show z1w p k = false from if_neg hk]
  repeat' (first | refine zqj ?_ | ((refine zqh fun K J => ?_); (simp (disch := omega) only [go_sem, Nat.reduceBEq, ↓reduceIte])) | ((refine zqm _ rfl (fun hc => ?_) (fun hc => ?_)) <;> (((try simp only [z03] at hc); (try (exfalso; omega))))) | refine zqa ?_ | refine zqk ?_ | refine zqn ?_ | refine zqv ?_ | refine zqy ?_ | refine zqu (by (simp (disch := omega) only [go_sem]); rfl) rfl ?_ | (refine J _ ?_; clear J K))
  all_goals exact z00 rfl
theorem zt4 (s : ByteArray) (hs : s.size <= maxLen) : PC Tryz.prog 113 [.str s] (.bool (z8l s)) := by
 unfold maxLen at hs
 refine z1v 1 (by simp only [pureD.pureL, pureD, Bool.and_self]) rfl (z1t [] Tryz.func113 rfl (by decide +kernel) z0k (by decide +kernel) (by simp [Tryz.ntmps113]) ?_)
 show awp _ _ (Code.seq _ _) _ _
 have hbl := z19 s
 repeat' (first | refine zqj ?_ | ((refine zqh fun K J => ?_); (simp (disch := omega) only [go_sem])) | refine zqa ?_ | (refine J _ ?_; clear J K))
 (refine z35 (fun U st => ∃ (k : _), U = s.size - k /\ st.t 0 = .str s /\ st.t 3 = .int .i64 k /\ (k <= s.size) /\ (((bl s).take k).all ink = true)) ?_ ?_); rotate_left; (rintro U st ⟨k, rfl, q0, q3, qp0, qp1⟩); rotate_left
 ·(refine ⟨_, 0, rfl, ?_⟩); (simp (disch := omega) only [go_sem, Nat.reduceBEq, true_and, Int.natCast_zero])
  simp
 have hno : ∀ h : k < s.size, ink ((bl s)[k]'h) = false -> z8l s = false := fun h hi => by
  unfold z8l; rw [z3m (l := bl s) (k := k) h hi, Bool.and_false]
 by_cases hk : k < s.size
 ·repeat' (first | refine zqj ?_ | ((first | refine zqh fun K J => ?_ | refine zqr fun K J => ?_); (simp (disch := omega) only [go_sem, Nat.reduceBEq, ↓reduceIte, q0, q3, zl3])) | ((first | refine zqd _ rfl (fun hc => ?_) (fun hc => ?_) | refine zqm _ rfl (fun hc => ?_) (fun hc => ?_)) <;> (first | (cases hc; done) | ((try simp only [z03] at hc); (try (exfalso; omega))))) | refine zqa ?_ | refine zqb ?_ | refine zqk ?_ | refine zqn ?_ | refine zqv ?_ | refine zqx ?_ | refine zqy ?_ | refine z4f ?_ | refine zqo ?_ | refine zqu (by (simp (disch := omega) only [go_sem]); rfl) rfl ?_ | (refine J _ ?_; clear J K) | (refine zqf (fun hb => ?_) (fun hb => ?_) <;> (have hb2 := hb; try simp only [z03] at hb2) <;> ((first | have F := eq_false hb2 | have F := eq_true hb2); (simp (disch := omega) only [go_sem, Nat.reduceBEq, ↓reduceIte, F, q0, q3, zl3]); clear hb F; (try (exfalso; omega)))))
  ·exact z00 (hno hk (by unfold ink; exact decide_eq_false (by omega))).symm
  ·(refine Exists.intro _ (And.intro ?_ ⟨k + 1, rfl, ?_⟩)); rotate_left; (simp (disch := omega) only [go_sem, Nat.reduceBEq, q0, q3, true_and, Int.natCast_add, Int.natCast_one]); rotate_left
   ·omega
   ·exact ⟨by omega, z2d (by omega) qp1 (by unfold ink; exact decide_eq_true (by omega))⟩
  ·exact z00 (hno hk (by unfold ink; exact decide_eq_false (by omega))).symm
 ·have hall : (bl s).all ink = true := z2h (k := k) (by omega) qp1
  repeat' (first | refine zqj ?_ | ((refine zqh fun K J => ?_); (simp (disch := omega) only [go_sem, Nat.reduceBEq, ↓reduceIte, q0, q3])) | ((refine zqd _ rfl (fun hc => ?_) (fun hc => ?_)) <;> (((try simp only [z03] at hc); (try (exfalso; omega))))) | refine zqc ?_ | refine zqn ?_ | refine zqv ?_ | refine zqz ?_ | refine zqp ?_ | refine zqu (by (simp (disch := omega) only [go_sem]); rfl) rfl ?_ | (refine J _ ?_; clear J K) | (refine zqf (fun hb => ?_) (fun hb => ?_) <;> (have hb2 := hb; try simp only [z03] at hb2) <;> ((first | have F := eq_false hb2 | have F := eq_true hb2); (simp (disch := omega) only [go_sem, Nat.reduceBEq, ↓reduceIte, F, q0]); clear hb F; (try (exfalso; omega)))))
  all_goals first
   | exact z00 (by unfold z8l; rw [hall, Bool.and_true, decide_eq_decide]; omega)
   | exact z00 (by unfold z8l; rw [decide_eq_false (by omega)]; rfl)
theorem zmu (l : List Wd) (hl : l.length <= maxLen) (hs : ∀ w ∈ l, w.text.size <= maxLen) : PC Tryz.prog 108 [z0n l] (.bool (zmj l)) := by
 unfold maxLen at hl
 refine z1v 1 (by simp only [pureD.pureL, z0w, Bool.and_self]) rfl (z1t [] Tryz.func108 rfl (by decide +kernel) z0k (by decide +kernel) (by simp [Tryz.ntmps108]) ?_)
 show awp _ _ (Code.seq _ _) _ _
 have hw := fun (i : Nat) (h : i < l.length) => zt4 l[i].text (hs _ (List.getElem_mem h))
 repeat' (first | refine zqj ?_ | ((refine zqh fun K J => ?_); (simp (disch := omega) only [go_sem, z0n])) | refine zqa ?_ | (refine J _ ?_; clear J K))
 (refine z35 (fun U st => ∃ (k : _), U = l.length - k /\ st.t 0 = z0n l /\ st.t 3 = .int .i64 k /\ (k <= l.length) /\ ((l.take k).all (fun w => z8l w.text) = true)) ?_ ?_); rotate_left; (rintro U st ⟨k, rfl, s0, s3, sp0, sp1⟩); rotate_left
 ·(refine ⟨_, 0, rfl, ?_⟩); (simp (disch := omega) only [go_sem, Nat.reduceBEq, true_and, Int.natCast_zero, z0n])
  simp
 by_cases hk : k < l.length
 ·repeat' (first | refine zqj ?_ | ((first | refine zqh fun K J => ?_ | refine zqr fun K J => ?_ | refine zqs (hw k hk) ?_); (simp (disch := omega) only [go_sem, Nat.reduceBEq, ↓reduceIte, reduceCtorEq, Nat.reduceAdd, s0, s3, z0n])) | ((first | refine zqd _ rfl (fun hc => ?_) (fun hc => ?_) | refine zqm _ rfl (fun hc => ?_) (fun hc => ?_)) <;> (((try simp only [z03] at hc); (try (exfalso; omega))))) | refine zqa ?_ | refine zqb ?_ | refine zqk ?_ | refine zqn ?_ | refine zqv ?_ | refine zqx ?_ | refine zqy ?_ | refine z4f ?_ | refine zqo ?_ | refine zqu (by (simp (disch := omega) only [go_sem]); rfl) rfl ?_ | (refine J _ ?_; clear J K))
  ·exact z00 (by unfold zmj; rw [z3m (f := fun w : Wd => z8l w.text) (k := k) hk (by assumption), Bool.and_false])
  ·(refine Exists.intro _ (And.intro ?_ ⟨k + 1, rfl, ?_⟩)); rotate_left; (simp (disch := omega) only [go_sem, Nat.reduceBEq, s0, s3, true_and, Int.natCast_add, Int.natCast_one]); rotate_left
   ·omega
   ·exact ⟨by omega, z2d hk sp1 (by assumption)⟩
 ·repeat' (first | refine zqj ?_ | ((refine zqh fun K J => ?_); (simp (disch := omega) only [go_sem, Nat.reduceBEq, ↓reduceIte, s0, s3, z0n])) | ((refine zqd _ rfl (fun hc => ?_) (fun hc => ?_)) <;> (((try simp only [z03] at hc); (try (exfalso; omega))))) | refine zqc ?_ | refine zqn ?_ | refine zqv ?_ | refine zqz ?_ | refine zqp ?_ | refine zqu (by (simp (disch := omega) only [go_sem]); rfl) rfl ?_ | (refine J _ ?_; clear J K))
  refine z00 ?_
  unfold zmj
  rw [z2h (by omega) sp1, Bool.and_true, decide_eq_decide]; omega
theorem zga (t : T) (hs : szB t = true) : PC Tryz.prog 98 [z1a t] (.bool (zey t)) := by
 obtain ⟨h0, h1, g1, h2, g2, h3, _⟩ := (z1q t).1 hs
 have r1 := zmu t.head (by unfold maxLen; omega) (fun w hw => by have := g1 w hw; unfold maxLen; omega)
 have r2 := zmu t.words (by unfold maxLen; omega) (fun w hw => by have := g2 w hw; unfold maxLen; omega)
 have r3 := zd4 t.label (by unfold maxLen; omega)
 refine z1v 1 (by simp only [pureD.pureL, z04, Bool.and_self]) rfl (z1t [] Tryz.func98 rfl (by decide +kernel) z0k (by decide +kernel) (by simp [Tryz.ntmps98]) ?_)
 show awp _ _ (Code.seq _ _) _ _
 unfold zey
 by_cases hk : t.kind = 0
 ·rw [if_pos hk]
  repeat' (first | refine zqj ?_ | ((refine zqh fun K J => ?_); (simp (disch := omega) only [go_sem, Nat.reduceBEq, ↓reduceIte, reduceCtorEq, Nat.reduceAdd, hk])) | ((refine zqd _ rfl (fun hc => ?_) (fun hc => ?_)) <;> (first | (cases hc; done) | ((try simp only [] at hc); (try (exfalso; omega))))) | refine zqg ?_ | refine zqu (by (simp (disch := omega) only [go_sem]); rfl) rfl ?_ | (refine J _ ?_; clear J K) | (refine zqf (fun hb => ?_) (fun hb => ?_) <;> (have hb2 := hb; try simp only [z03] at hb2) <;> ((first | have F := eq_false hb2 | have F := eq_true hb2); (simp (disch := omega) only [go_sem, Nat.reduceBEq, ↓reduceIte, reduceCtorEq, Nat.reduceAdd, F, z0n]); clear hb F; (try (exfalso; omega)))))
  all_goals
   refine z00 ?_
   unfold z3l
   first
    | (rw [decide_eq_true (p := t.label = _) (by assumption), decide_eq_true (show t.head.length = 0 by omega)]; simp only [Bool.true_and, decide_eq_decide]; omega)
    | (rw [decide_eq_true (p := t.label = _) (by assumption), decide_eq_false (show ¬ t.head.length = 0 by omega)]; rfl)
    | (rw [decide_eq_false (p := t.label = _) (by assumption)]; rfl)
 ·rw [if_neg hk]
  repeat' (first | refine zqj ?_ | ((first | refine zqh fun K J => ?_ | refine zqs (r1) ?_ | refine zqs (r2) ?_ | refine zqs (r3) ?_); (simp (disch := omega) only [go_sem, Nat.reduceBEq, ↓reduceIte, reduceCtorEq, Nat.reduceAdd])) | ((refine zqd _ rfl (fun hc => ?_) (fun hc => ?_)) <;> (((try simp only [z03] at hc); (try (exfalso; omega))))) | refine zqb ?_ | refine zqn ?_ | refine zqu (by (simp (disch := omega) only [go_sem]); rfl) rfl ?_ | (refine J _ ?_; clear J K) | (refine zqf (fun hb => ?_) (fun hb => ?_) <;> (have hb2 := hb; try simp only [z03] at hb2) <;> ((first | have F : (_ : Bool) = _ := hb2 | have F := eq_false hb2 | have F := eq_true hb2); (simp (disch := omega) only [go_sem, Nat.reduceBEq, ↓reduceIte, reduceCtorEq, Nat.reduceAdd, hb, F, z0n]); clear hb F; (try (exfalso; omega)))))
  all_goals
   refine z00 ?_
   first
    | (rw [decide_eq_false (p := 0 < t.kind /\ t.kind <= 7) (by omega)]; rfl)
    | (rw [decide_eq_true (p := 0 < t.kind /\ t.kind <= 7) (by omega)]; simp_all; done)
theorem zbz : ∀ t : T, szB t = true -> cntT t <= 1000000000 -> PC Tryz.prog 67 [z1a t] (.int .i64 (cntT t)) := by
 refine z3y fun t ih hs hc => ?_
 obtain ⟨h0, h1, g1, h2, g2, h3, h4⟩ := (z1q t).1 hs
 have hce := z3k t
 refine z1v 1 (by simp only [pureD.pureL, z04, Bool.and_self]) rfl (z1t [] Tryz.func67 rfl (by decide +kernel) z0k (by decide +kernel) (by simp [Tryz.ntmps67]) ?_)
 show awp _ _ (Code.seq _ _) _ _
 repeat' (first | refine zqj ?_ | ((refine zqh fun K J => ?_); (simp (disch := omega) only [go_sem])) | refine zqa ?_ | (refine J _ ?_; clear J K))
 (refine z35 (fun U st => ∃ (i : _), U = t.kids.length - i /\ st.t 1 = .ptr 0 0 /\ st.t 3 = .int .i64 (1 + ((t.kids.take i).flatMap z08).length : Nat) /\ st.t 4 = .int .i64 i /\ st.H 0 = some (.box 27 (z05 t)) /\ (i <= t.kids.length) /\ (1 <= st.nx)) ?_ ?_); rotate_left; (rintro U st ⟨i, rfl, q1, q3, q4, qH0, qp0, qp1⟩); rotate_left
 ·(refine ⟨_, 0, rfl, ?_⟩); (simp (disch := omega) only [go_sem, Nat.reduceBEq, Nat.reduceLeDiff, and_self, Int.natCast_one, Int.natCast_zero, List.flatMap_nil])
  try simp
 have hin := fun (h : i < t.kids.length) => ih t.kids[i] (List.getElem_mem h) (h4 _ (List.getElem_mem h)) (by have := z7x (List.getElem_mem h); omega)
 have hb := z2s t.kids (i + 1)
 have hsu := fun (h : i < t.kids.length) => z42 t.kids i h
 repeat' (first | refine zqj ?_ | ((first | refine zqh fun K J => ?_ | refine zqr fun K J => ?_ | refine zqs (hin (by omega)) ?_); (simp (disch := omega) only [go_sem, Nat.reduceBEq, ↓reduceIte, reduceCtorEq, Nat.reduceAdd, q1, q3, q4, qH0, z0e])) | ((refine zqd _ rfl (fun hc => ?_) (fun hc => ?_)) <;> (((try simp only [z03] at hc); (try (exfalso; omega))))) | refine zqa ?_ | refine zqb ?_ | refine zqc ?_ | refine zqn ?_ | refine zqv ?_ | refine zqy ?_ | refine zqz ?_ | refine zqp ?_ | refine zqu (by (simp (disch := omega) only [go_sem]); rfl) rfl ?_ | (refine J _ ?_; clear J K))
 ·have hsu := hsu (by omega)
  (refine Exists.intro _ (And.intro ?_ ⟨i + 1, rfl, ?_⟩)); rotate_left; (simp (disch := omega) only [go_sem, Nat.reduceBEq, q1, q3, q4, qH0, true_and, Int.natCast_add, Int.natCast_one, hsu]); rotate_left
  ·omega
  ·exact ⟨by omega, by omega, by omega⟩
 ·have hi : i = t.kids.length := by omega
  subst hi
  refine z2w ?_
  rw [List.take_length, hce]
theorem zoy : ∀ t : T, szB t = true -> ∀ d : Nat, d <= 100 -> PC Tryz.prog 77 [z1a t, .int .i64 d] (.bool (zb6 t d)) := by
 refine z3y fun t ih hs d hd => ?_
 have ha := zga t hs
 obtain ⟨h0, h1, g1, h2, g2, h3, h4⟩ := (z1q t).1 hs
 rw [ztc]
 refine z1v 1 (by simp only [pureD.pureL, z04, pureD, Bool.and_self]) rfl (z1t [] Tryz.func77 rfl (by decide +kernel) z0k (by decide +kernel) (by simp [Tryz.ntmps77]) ?_)
 show awp _ _ (Code.seq _ _) _ _
 by_cases hb : (decide (8 < d) || (decide (0 < d) && decide (t.kind = 0)) || !zey t || decide (64 < t.kids.length)) = true
 ·rw [hb]
  simp only [z03] at hb
  repeat' (first | refine zqj ?_ | ((first | refine z01 (N := 3) rfl fun K J => ?_ | refine zqs (ha) ?_); (simp (disch := omega) only [go_sem, Nat.reduceBEq, ↓reduceIte])) | ((refine zqd _ rfl (fun hc => ?_) (fun hc => ?_)) <;> (first | (cases hc; done) | ((try simp only [z03] at hc); (try (exfalso; omega))))) | refine zqb ?_ | refine zqg ?_ | refine zqu (by (simp (disch := omega) only [go_sem]); rfl) rfl ?_ | (refine J _ ?_; clear J K) | (refine zqf (fun hb => ?_) (fun hb => ?_) <;> (have hb2 := hb; try simp only [z03] at hb2) <;> ((first | have F : (_ : Bool) = _ := hb2 | have F := eq_false hb2 | have F := eq_true hb2); (simp (disch := omega) only [go_sem, Nat.reduceBEq, ↓reduceIte, reduceCtorEq, Nat.reduceAdd, Nat.reduceLeDiff, F, z0e]); clear hb F; (try (exfalso; omega)))))
  all_goals first
   | exact z00 rfl
   | (exfalso; simp_all; done)
   | (exfalso; simp_all; omega)
 ·rw [Bool.not_eq_true] at hb
  rw [hb]
  simp only [Bool.or_eq_false_iff, Bool.and_eq_false_iff, decide_eq_false_iff_not, Bool.not_eq_false'] at hb
  obtain ⟨⟨⟨b1, b2⟩, b3⟩, b4⟩ := hb
  rw [b3] at ha
  repeat' (first | refine zqj ?_ | ((first | refine z01 (N := 3) rfl fun K J => ?_ | refine zqs (ha) ?_); (simp (disch := omega) only [go_sem, Nat.reduceBEq, ↓reduceIte, reduceCtorEq, Nat.reduceAdd, z0e])) | ((refine zqd _ rfl (fun hc => ?_) (fun hc => ?_)) <;> (((try simp only [z03] at hc); (try (exfalso; omega))))) | refine zqb ?_ | (refine J _ ?_; clear J K) | (refine zqf (fun hb => ?_) (fun hb => ?_) <;> (have hb2 := hb; try simp only [z03] at hb2) <;> ((first | have F := eq_false hb2 | have F := eq_true hb2); (simp (disch := omega) only [go_sem, Nat.reduceBEq, ↓reduceIte, reduceCtorEq, Nat.reduceAdd, Nat.reduceLeDiff, F]); clear hb F; (try (exfalso; omega)))))
  all_goals
   clear b2
   (refine z1e (fun st => st.t 1 = .int .i64 d /\ st.t 2 = .ptr 0 0 /\ st.H 0 = some (.box 27 (z05 t)) /\ (1 <= st.nx)) ?_ ?_); rotate_left; (rintro st ⟨p1, p2, pH0, pp0⟩); rotate_left
   ·(simp (disch := omega) only [go_sem, Nat.reduceBEq, Nat.reduceLeDiff, and_self])
   repeat' (first | ((refine zqh fun K J => ?_); (simp (disch := omega) only [go_sem])) | refine zqa ?_ | (refine J _ ?_; clear J K))
   (refine z35 (fun U st => ∃ (i : _), U = t.kids.length - i /\ st.t 1 = .int .i64 d /\ st.t 2 = .ptr 0 0 /\ st.t 5 = .int .i64 i /\ st.H 0 = some (.box 27 (z05 t)) /\ (i <= t.kids.length) /\ (1 <= st.nx) /\ ((t.kids.take i).all (fun k => z1w t.kind k.kind) = true) /\ ((t.kids.take i).all (fun k => zb6 k (d + 1)) = true) /\ (((t.kids.take i).map z6y).Nodup)) ?_ ?_); rotate_left; (rintro U st ⟨i, rfl, q1, q2, q5, qH0, qp0, qp1, qp2, qp3, qp4⟩); rotate_left
   ·(refine ⟨_, 0, rfl, ?_⟩); (simp (disch := omega) only [go_sem, Nat.reduceBEq, p1, p2, pH0, true_and, Int.natCast_zero, List.map_nil])
    simp only [List.all_nil, List.nodup_nil, and_true]
    omega
   by_cases hi : i < t.kids.length
   ·have hin := ih t.kids[i] (List.getElem_mem hi) (h4 _ (List.getElem_mem hi)) (d + 1) (by omega)
    have hn := zby t.kind t.kids[i].kind
    have hd1 : IntKind.i64.wrap ((d : Int) + 1) = ((d + 1 : Nat) : Int) := by rw [zf6 (by omega)]; rfl
    repeat' (first | refine zqj ?_ | ((first | refine zqh fun K J => ?_ | refine zqs (hn) ?_ | refine zqs (hin) ?_); (simp (disch := omega) only [go_sem, Nat.reduceBEq, ↓reduceIte, reduceCtorEq, Nat.reduceAdd, Nat.reduceLeDiff, q2, q5, qH0, z0e])) | ((refine zqd _ rfl (fun hc => ?_) (fun hc => ?_)) <;> (first | (cases hc; done) | ((try simp only [z03] at hc); (try (exfalso; omega))))) | refine zqa ?_ | refine zqi ?_ | refine zqb ?_ | refine zqg ?_ | refine zqx ?_ | refine z4f ?_ | refine zqo ?_ | refine zqu (by (simp (disch := omega) only [go_sem]); rfl) rfl ?_ | (refine J _ ?_; clear J K) | (refine zqf (fun hb => ?_) (fun hb => ?_) <;> (have hb2 := hb; try simp only [z03] at hb2) <;> ((have F : (_ : Bool) = _ := hb2); (simp (disch := omega) only [go_sem, Nat.reduceBEq, ↓reduceIte, Nat.reduceAdd, Nat.reduceLeDiff, F, q1, hd1]); clear hb F; (try (exfalso; omega)))))
    ·exact z00 (by rw [z3m (f := fun k : T => zb6 k (d + 1)) (k := i) hi (by assumption), Bool.false_and, Bool.and_false, Bool.and_false])
    ·(refine z35 (fun U st => ∃ (k : _) (m : Nat), U = i - k /\ st.t 1 = .int .i64 d /\ st.t 2 = .ptr 0 0 /\ st.t 5 = .int .i64 i /\ st.t 6 = .ptr m 0 /\ st.t 7 = .int .i64 k /\ st.H 0 = some (.box 27 (z05 t)) /\ st.H (m) = some (.box 27 (z05 t.kids[i])) /\ (k <= i) /\ (0 < m) /\ (m < st.nx) /\ (∀ j, (hj : j < k) -> (h : j < t.kids.length) -> z6y t.kids[j] ≠ z6y t.kids[i])) ?_ ?_); rotate_left; (rintro U st ⟨k, m, rfl, r1, r2, r5, r6, r7, rH0, rHm, rp0, rp1, rp2, rp3⟩); rotate_left
     ·(refine ⟨_, 0, st.nx, rfl, ?_⟩); (simp (disch := omega) only [go_sem, Nat.reduceBEq, q1, q2, q5, qH0, true_and, Int.natCast_add, Int.natCast_one, Int.natCast_zero])
      exact ⟨by omega, by omega, fun j hj => by omega⟩
     by_cases hk : k < i
     ·repeat' (first | refine zqj ?_ | ((first | refine zqh fun K J => ?_ | refine zqe (by decide +kernel) fun K J => ?_ | refine zqr fun K J => ?_); (simp (disch := omega) only [go_sem, Nat.reduceBEq, ↓reduceIte, reduceCtorEq, Nat.reduceAdd, r2, r5, r6, r7, rH0, rHm, z0e])) | ((first | refine zqd _ rfl (fun hc => ?_) (fun hc => ?_) | refine zqm _ rfl (fun hc => ?_) (fun hc => ?_)) <;> (first | (cases hc; done) | ((try simp only [z03] at hc); (try (exfalso; omega))))) | refine zqa ?_ | refine zqb ?_ | refine zqk ?_ | refine zqn ?_ | refine zqv ?_ | refine zqx ?_ | refine zqy ?_ | refine z4f ?_ | refine zqo ?_ | refine zqu (by (simp (disch := omega) only [go_sem]); rfl) rfl ?_ | (refine J _ ?_; clear J K) | (refine zqf (fun hb => ?_) (fun hb => ?_) <;> (have hb2 := hb; try simp only [z03] at hb2) <;> ((first | have F := eq_false hb2 | have F := eq_true hb2); (simp (disch := omega) only [go_sem, Nat.reduceBEq, ↓reduceIte, reduceCtorEq, Nat.reduceAdd, F, r2, r6, r7, rH0, rHm, z0e]); clear hb F; (try (exfalso; omega)))))
      ·refine z00 ?_
       have hno := zgj (f := z6y) (l := t.kids) (j := k) (k := i) (by omega) hi (by unfold z6y; rw [‹t.kids[k].kind = t.kids[i].kind›, ‹t.kids[k].label = t.kids[i].label›])
       rw [decide_eq_false hno, Bool.and_false, Bool.and_false, Bool.and_false]
      ·(refine Exists.intro _ (And.intro ?_ ⟨k + 1, m, rfl, ?_⟩)); rotate_left; (simp (disch := omega) only [go_sem, Nat.reduceBEq, r1, r2, r5, r6, r7, rH0, rHm, true_and, Int.natCast_add, Int.natCast_one]); rotate_left
       ·omega
       ·refine ⟨by omega, by omega, by omega, fun j hj h => ?_⟩
        by_cases e : j = k
        ·subst e; exact fun h => absurd (congrArg Prod.snd h) (by assumption)
        ·exact rp3 j (by omega) h
      ·(refine Exists.intro _ (And.intro ?_ ⟨k + 1, m, rfl, ?_⟩)); rotate_left; (simp (disch := omega) only [go_sem, Nat.reduceBEq, r1, r2, r5, r6, r7, rH0, rHm, true_and, Int.natCast_add, Int.natCast_one]); rotate_left
       ·omega
       ·refine ⟨by omega, by omega, by omega, fun j hj h => ?_⟩
        by_cases e : j = k
        ·subst e; exact fun h => absurd (congrArg Prod.fst h) (by assumption)
        ·exact rp3 j (by omega) h
     ·repeat' (first | refine zqj ?_ | ((first | refine zqh fun K J => ?_ | refine zqr fun K J => ?_); (simp (disch := omega) only [go_sem, Nat.reduceBEq, ↓reduceIte, r5, r7])) | ((refine zqd _ rfl (fun hc => ?_) (fun hc => ?_)) <;> (((try simp only [z03] at hc); (try (exfalso; omega))))) | refine zqc ?_ | refine zqv ?_ | refine zqy ?_ | refine zqz ?_ | refine zqp ?_ | (refine J _ ?_; clear J K))
      (refine Exists.intro _ (And.intro ?_ ⟨i + 1, rfl, ?_⟩)); rotate_left; (simp (disch := omega) only [go_sem, Nat.reduceBEq, true_and, Int.natCast_add, Int.natCast_one, r1, r2, r5, rH0]); rotate_left
      ·omega
      ·exact ⟨by omega, by omega, z2d hi qp2 (by assumption), z2d hi qp3 (by assumption), zbb hi qp4 (fun j hj => rp3 j (by omega) (by omega))⟩
    ·exact z00 (by rw [z3m (f := fun k : T => z1w t.kind k.kind) (k := i) hi (by assumption), Bool.false_and, Bool.and_false])
   ·skip
    repeat' (first | refine zqj ?_ | ((refine zqh fun K J => ?_); (simp (disch := omega) only [go_sem, Nat.reduceBEq, ↓reduceIte, reduceCtorEq, Nat.reduceAdd, q2, q5, qH0, z0e])) | ((refine zqd _ rfl (fun hc => ?_) (fun hc => ?_)) <;> (((try simp only [z03] at hc); (try (exfalso; omega))))) | refine zqc ?_ | refine zqn ?_ | refine zqv ?_ | refine zqz ?_ | refine zqp ?_ | refine zqu (by (simp (disch := omega) only [go_sem]); rfl) rfl ?_ | (refine J _ ?_; clear J K))
    refine z00 ?_
    rw [z2h (by omega) qp2, z2h (by omega) qp3]
    rw [List.take_of_length_le (by omega)] at qp4
    rw [decide_eq_true qp4]; rfl
theorem zfw (t : T) (hs : szB t = true) (hc : cntT t <= 1000000000) : PC Tryz.prog 54 [z1a t] (.bool (zk0 t)) := by
 have c1 := zoy t hs 0 (by omega)
 have c2 := zbz t hs hc
 refine z1v 1 (by simp only [pureD.pureL, z04, Bool.and_self]) rfl (z1t [] Tryz.func54 rfl (by decide +kernel) z0k (by decide +kernel) (by simp [Tryz.ntmps54]) ?_)
 show awp _ _ (Code.seq _ _) _ _
 unfold zk0
 have hz : ((0 : Nat) : Int) = 0 := rfl
 rw [hz] at c1
 repeat' (first | ((first | refine zqh fun K J => ?_ | refine zqs (c1) ?_ | refine zqs (c2) ?_); (simp (disch := omega) only [go_sem, Nat.reduceBEq, ↓reduceIte, Nat.reduceAdd, Nat.reduceLeDiff])) | refine zqn ?_ | refine zqu (by (simp (disch := omega) only [go_sem]); rfl) rfl ?_ | (refine J _ ?_; clear J K) | (refine zqf (fun hb => ?_) (fun hb => ?_) <;> (have hb2 := hb; try simp only [z03] at hb2) <;> ((have F : (_ : Bool) = _ := hb2); (simp (disch := omega) only [go_sem, Nat.reduceBEq, ↓reduceIte, Nat.reduceAdd, Nat.reduceLeDiff, hb]); clear hb F; (try (exfalso; omega)))))
 ·refine z00 ?_
  rw [‹zb6 t 0 = true›, Bool.true_and, decide_eq_decide]; omega
 ·exact z00 (by rw [‹zb6 t 0 = false›]; rfl)
namespace Tr
theorem zak (l : List Wd) (w : Wd) : zoz (l ++ [w]) = zoz l ++ b1 32 ++ zx1 w.text := by unfold zoz; rw [List.foldl_append]; rfl
theorem z4n (a b : ByteArray) : (a ++ b).size = a.size + b.size := ByteArray.size_append
theorem zv5 (s : ByteArray) : (zx1 s).size <= s.size + 1 := by
 unfold zx1
 split
 ·rw [z4n]; show (b1 92).size + _ <= _; rw [show (b1 92).size = 1 from rfl]; omega
 ·omega
theorem zil {l : List Wd} {m : Nat} (h : ∀ w ∈ l, w.text.size <= m) : (zoz l).size <= l.length * (m + 2) := by
 have key : ∀ (n : Nat), n <= l.length -> (zoz (l.take n)).size <= n * (m + 2) := fun n => by
  induction n with
  | zero => intro _; show ByteArray.empty.size <= _; simp
  | succ n ih =>
   intro hn
   rw [List.take_succ_eq_append_getElem (by omega), zak, z4n, z4n]
   have h1 := ih (by omega)
   have h2 := zv5 l[n].text
   have h3 := h _ (List.getElem_mem (l := l) (n := n) (by omega))
   have h4 : (b1 32).size = 1 := rfl
   rw [Nat.add_mul]; omega
 have := key l.length (Nat.le_refl _)
 rwa [List.take_length] at this
theorem zdy : ∀ n, (zze n).size = 2 * n
 | 0 => rfl
 | n + 1 => by rw [zze, z4n, zdy n]; show _ + 2 = _; omega
theorem zfx {t : T} (h : zey t = true) : t.kind = 0 \/ ((0 < t.kind /\ t.kind <= 7) /\ zmj t.head = true /\ zmj t.words = true) := by
 unfold zey at h
 split at h
 ·exact .inl (by assumption)
 ·simp only [Bool.and_eq_true, decide_eq_true_eq] at h
  exact .inr ⟨h.1, h.2.2.1, h.2.2.2⟩
theorem zrh {s : ByteArray} (h : 0 < (bl s).length) (h2 : (((bl s)[0]'h).toNat : Int) = 124 \/ (((bl s)[0]'h).toNat : Int) = 92) : zx1 s = b1 92 ++ s := by
 have e : (bl s).headD 0 = (bl s)[0]'h := (zsh (s := s) h).symm
 unfold zx1
 rw [e, if_pos]
 rcases h2 with h2 | h2
 ·exact .inl (UInt8.toNat.inj (by show _ = 124; omega))
 ·exact .inr (UInt8.toNat.inj (by show _ = 92; omega))
theorem zyg {s : ByteArray} (h : 0 < (bl s).length) (h1 : ¬ (((bl s)[0]'h).toNat : Int) = 124) (h2 : ¬ (((bl s)[0]'h).toNat : Int) = 92) : zx1 s = s := by
 have e : (bl s).headD 0 = (bl s)[0]'h := (zsh (s := s) h).symm
 unfold zx1
 rw [e, if_neg]
 rintro (g | g)
 ·rw [g] at h1; exact h1 rfl
 ·rw [g] at h2; exact h2 rfl
end Tr
theorem zfy (l : List Wd) (hl : l.length <= 1000000) (hs : ∀ w ∈ l, 1 <= w.text.size /\ w.text.size <= 1000000) : PC Tryz.prog 110 [z0n l] (.str (zoz l)) := by
 refine z1v 1 (by simp only [pureD.pureL, z0w, Bool.and_self]) rfl (z1t [] Tryz.func110 rfl (by decide +kernel) z0k (by decide +kernel) (by simp [Tryz.ntmps110]) ?_)
 show awp _ _ (Code.seq _ _) _ _
 repeat' (first | refine zqj ?_ | ((refine zqh fun K J => ?_); (simp (disch := omega) only [go_sem, z0n])) | refine zqa ?_ | (refine J _ ?_; clear J K))
 (refine z35 (fun U st => ∃ (k : _), U = l.length - k /\ st.t 0 = z0n l /\ st.t 3 = .str (zoz (l.take k)) /\ st.t 4 = .int .i64 k /\ (k <= l.length)) ?_ ?_); rotate_left; (rintro U st ⟨k, rfl, q0, q3, q4, qp0⟩); rotate_left
 ·(refine ⟨_, 0, rfl, ?_⟩); (simp (disch := omega) only [go_sem, Nat.reduceBEq, true_and, and_true, and_self, Int.natCast_zero, z0n])
  try rfl
 by_cases hk : k < l.length
 ·have hw := hs _ (List.getElem_mem hk)
  have htk := List.take_succ_eq_append_getElem hk
  have hsz : (zoz (l.take k)).size <= 1000000 * 1000002 := by
   have h1 := zil (l := l.take k) (m := 1000000) fun w hw => (hs w (List.mem_of_mem_take hw)).2
   have h2 : (l.take k).length <= 1000000 := by rw [List.length_take]; omega
   exact Nat.le_trans h1 (Nat.mul_le_mul_right _ h2)
  have hz : Int.toNat 0 = 0 := rfl
  have e92 : (#[92] : Array UInt8).size = 1 := rfl
  have e32 : (#[32] : Array UInt8).size = 1 := rfl
  have hbl := z19 l[k].text
  have hpos : 0 < (bl l[k].text).length := by omega
  repeat' (first | refine zqj ?_ | ((first | refine zqh fun K J => ?_ | refine zqr fun K J => ?_); (simp (disch := omega) only [go_sem, Nat.reduceBEq, ↓reduceIte, reduceCtorEq, Nat.reduceAdd, Nat.reduceLeDiff, Int.reduceLE, q0, q3, q4, z0n, zl3, hz, z4n, e92, e32])) | ((refine zqd _ rfl (fun hc => ?_) (fun hc => ?_)) <;> (first | (cases hc; done) | ((try simp only [z03] at hc); (try (exfalso; omega))))) | refine zqa ?_ | refine zqb ?_ | refine zqv ?_ | refine zqy ?_ | (refine J _ ?_; clear J K) | (refine zqf (fun hb => ?_) (fun hb => ?_) <;> (have hb2 := hb; try simp only [z03] at hb2) <;> ((first | have F := eq_false hb2 | have F := eq_true hb2); (simp (disch := omega) only [go_sem, Nat.reduceBEq, ↓reduceIte, Int.reduceLE, F, zl3, hz]); clear hb F; (try (exfalso; omega)))))
  ·have he := zrh hpos (.inr (by assumption))
   (refine Exists.intro _ (And.intro ?_ ⟨k + 1, rfl, ?_⟩)); rotate_left; (simp (disch := omega) only [go_sem, Nat.reduceBEq, q0, q3, q4, true_and, Int.natCast_add, Int.natCast_one, htk, zak, he]); rotate_left
   ·omega
   ·exact ⟨rfl, by omega⟩
  ·have he := zyg hpos (by assumption) (by assumption)
   (refine Exists.intro _ (And.intro ?_ ⟨k + 1, rfl, ?_⟩)); rotate_left; (simp (disch := omega) only [go_sem, Nat.reduceBEq, q0, q3, q4, true_and, Int.natCast_add, Int.natCast_one, htk, zak, he]); rotate_left
   ·omega
   ·exact ⟨rfl, by omega⟩
  ·have he := zrh hpos (.inl (by assumption))
   (refine Exists.intro _ (And.intro ?_ ⟨k + 1, rfl, ?_⟩)); rotate_left; (simp (disch := omega) only [go_sem, Nat.reduceBEq, q0, q3, q4, true_and, Int.natCast_add, Int.natCast_one, htk, zak, he]); rotate_left
   ·omega
   ·exact ⟨rfl, by omega⟩
 ·repeat' (first | refine zqj ?_ | ((refine zqh fun K J => ?_); (simp (disch := omega) only [go_sem, Nat.reduceBEq, ↓reduceIte, q0, q3, q4, z0n])) | ((refine zqd _ rfl (fun hc => ?_) (fun hc => ?_)) <;> (((try simp only [z03] at hc); (try (exfalso; omega))))) | refine zqc ?_ | refine zqn ?_ | refine zqv ?_ | refine zqz ?_ | refine zqp ?_ | refine zqu (by (simp (disch := omega) only [go_sem]); rfl) rfl ?_ | (refine J _ ?_; clear J K))
  have hk2 : k = l.length := by omega
  subst hk2
  rw [List.take_length]
  exact z02 rfl (Le.refl _)
def nmsD : List D := nameL.map .str
theorem zri : PC Tryz.prog 109 [] (.rsl true 1 nmsD) := by
 refine z1v 2 rfl rfl (z1t [] Tryz.func109 rfl (by decide +kernel) z0k (by decide +kernel) (by simp [Tryz.ntmps109]) ?_)
 show awp _ _ (Code.seq _ _) _ _
 repeat' (first | ((refine zqh fun K J => ?_); (simp (disch := omega) only [go_sem, Nat.reduceBEq, ↓reduceIte, reduceCtorEq, Nat.reduceAdd, Nat.reduceLeDiff])) | refine zqn ?_ | refine zqu (by (simp (disch := omega) only [go_sem]); rfl) rfl ?_ | (refine J _ ?_; clear J K))
 exact z02 rfl (Le.refl _)
theorem nms_at {k : Int} (h : 0 <= k /\ k < 8) : zkd nmsD k = some (.str (zmz k)) := by
 rcases zpa h with rfl | rfl | rfl | rfl | rfl | rfl | rfl | rfl <;> rfl
theorem zim (k : Int) : (zmz k).size <= 9 := by
 unfold zmz
 split
 ·rename_i h
  rcases zpa h with rfl | rfl | rfl | rfl | rfl | rfl | rfl | rfl <;> decide
 ·decide
namespace Tr
theorem zm5 {l : List Wd} (h : zmj l = true) : ∀ w ∈ l, 1 <= w.text.size /\ w.text.size <= 1000000 := fun w hw => by
 unfold zmj at h
 simp only [Bool.and_eq_true, decide_eq_true_eq, List.all_eq_true] at h
 have := h.2 w hw
 unfold z8l at this
 simp only [Bool.and_eq_true, decide_eq_true_eq] at this
 omega
theorem zcz {l : List Wd} (hl : l.length <= 1000000) (h : ∀ w ∈ l, w.text.size <= 1000000) : (zoz l).size <= 1000002000000 := by
 have := zil h
 exact Nat.le_trans this (Nat.mul_le_mul_right _ hl)
theorem znw {t : T} (hs : szB t = true) (d : Nat) : (zct t d).size <= 2000010000000 := by
 obtain ⟨h0, h1, g1, h2, g2, h3, _⟩ := (z1q t).1 hs
 have a1 := zcz h1 g1
 have a2 := zcz h2 g2
 have a3 := zim t.kind
 have a4 : (b1 32).size = 1 := rfl
 have a5 : (b1 58).size = 1 := rfl
 have a6 : (⟨#[32, 124]⟩ : ByteArray).size = 2 := rfl
 unfold zct
 split
 ·show ByteArray.empty.size <= _; decide
 ·rename_i h
  have a7 := zdy d
  simp only
  split <;> split <;> split <;> simp only [z4n] <;> omega
end Tr
theorem zrj (t : T) (hs : szB t = true) (d : Nat) (hd : d <= 100) : PC Tryz.prog 99 [z1a t, .int .i64 d] (.str (zct t d)) := by
 obtain ⟨h0, h1, g1, h2, g2, h3, _⟩ := (z1q t).1 hs
 have c1 := zga t hs
 have c2 := zri
 refine z1v 2 (by simp only [pureD.pureL, z04, pureD, Bool.and_self]) rfl (z1t [] Tryz.func99 rfl (by decide +kernel) z0k (by decide +kernel) (by simp [Tryz.ntmps99]) ?_)
 show awp _ _ (Code.seq _ _) _ _
 by_cases hb : zey t = false \/ 8 < d
 ·have hx : zct t d = ByteArray.empty := by unfold zct; rw [if_pos hb]
  rw [hx]
  rcases hb with hb | hb
  ·rw [hb] at c1
   repeat' (first | refine zqj ?_ | ((first | refine z01 (N := 3) rfl fun K J => ?_ | refine zqs (c1) ?_); (simp (disch := omega) only [go_sem, Nat.reduceBEq, ↓reduceIte])) | ((refine zqd _ rfl (fun hc => ?_) (fun hc => ?_)) <;> (first | (cases hc; done) | ((try simp only [] at hc); (try (exfalso; omega))))) | refine zqg ?_ | refine zqu (by (simp (disch := omega) only [go_sem]); rfl) rfl ?_ | (refine J _ ?_; clear J K) | (refine zqf (fun hb => ?_) (fun hb => ?_) <;> (have hb2 := hb; try simp only [z03] at hb2) <;> ((first | have F := eq_false hb2 | have F := eq_true hb2); (simp (disch := omega) only [go_sem, Nat.reduceBEq, ↓reduceIte, Nat.reduceAdd, Nat.reduceLeDiff, F]); clear hb F; (try (exfalso; omega)))))
   all_goals first
    | exact z02 rfl (Le.refl _)
    | (exfalso; omega)
  ·repeat' (first | refine zqj ?_ | ((refine z01 (N := 3) rfl fun K J => ?_); (simp (disch := omega) only [go_sem, Nat.reduceBEq, ↓reduceIte])) | ((refine zqd _ rfl (fun hc => ?_) (fun hc => ?_)) <;> (first | (cases hc; done) | ((try simp only [] at hc); (try (exfalso; omega))))) | refine zqg ?_ | refine zqu (by (simp (disch := omega) only [go_sem]); rfl) rfl ?_ | (refine J _ ?_; clear J K) | (refine zqf (fun hb => ?_) (fun hb => ?_) <;> (have hb2 := hb; try simp only [z03] at hb2) <;> ((first | have F := eq_false hb2 | have F := eq_true hb2); (simp (disch := omega) only [go_sem, Nat.reduceBEq, ↓reduceIte, Nat.reduceAdd, Nat.reduceLeDiff, F]); clear hb F; (try (exfalso; omega)))))
   all_goals first
    | exact z02 rfl (Le.refl _)
    | (exfalso; omega)
 ·simp only [not_or, Bool.not_eq_false] at hb
  obtain ⟨hb, hd8⟩ := hb
  rw [hb] at c1
  repeat' (first | refine zqj ?_ | ((first | refine z01 (N := 3) rfl fun K J => ?_ | refine zqs (c1) ?_); (simp (disch := omega) only [go_sem, Nat.reduceBEq, ↓reduceIte])) | ((refine zqd _ rfl (fun hc => ?_) (fun hc => ?_)) <;> (first | (cases hc; done) | ((try simp only [] at hc); (try (exfalso; omega))))) | refine zqb ?_ | (refine J _ ?_; clear J K) | (refine zqf (fun hb => ?_) (fun hb => ?_) <;> (have hb2 := hb; try simp only [z03] at hb2) <;> ((first | have F := eq_false hb2 | have F := eq_true hb2); (simp (disch := omega) only [go_sem, Nat.reduceBEq, ↓reduceIte, Nat.reduceAdd, Nat.reduceLeDiff, F]); clear hb F; (try (exfalso; omega)))))
  (refine z1e (fun st => st.t 1 = .int .i64 d /\ st.t 2 = .ptr 0 0 /\ st.H 0 = some (.box 27 (z05 t)) /\ st.nx = 1) ?_ ?_); rotate_left; (rintro st ⟨p1, p2, pH0, pnx⟩); rotate_left
  ·(simp (disch := omega) only [go_sem, Nat.reduceBEq, and_self])
  repeat' (first | refine zqj ?_ | ((refine zqh fun K J => ?_); (simp (disch := omega) only [go_sem, pnx])) | refine zqa ?_ | (refine J _ ?_; clear J K))
  (refine z35 (fun U st => ∃ (i : _), U = d - i /\ st.t 1 = .int .i64 d /\ st.t 2 = .ptr 0 0 /\ st.t 5 = .str (zze i) /\ st.t 6 = .int .i64 i /\ st.H 0 = some (.box 27 (z05 t)) /\ st.nx = 1 /\ (i <= d)) ?_ ?_); rotate_left; (rintro U st ⟨i, rfl, q1, q2, q5, q6, qH0, qnx, qp0⟩); rotate_left
  ·(refine ⟨_, 0, rfl, ?_⟩); (simp (disch := omega) only [go_sem, Nat.reduceBEq, p1, p2, pH0, true_and, and_true, and_self, Int.natCast_zero])
   rfl
  have h2x := zdy i
  have e22 : (#[32, 32] : Array UInt8).size = 2 := rfl
  by_cases hi : i < d
  ·repeat' (first | refine zqj ?_ | ((first | refine zqh fun K J => ?_ | refine zqr fun K J => ?_); (simp (disch := omega) only [go_sem, Nat.reduceBEq, ↓reduceIte, Nat.reduceLeDiff, q1, q5, q6, qnx, e22])) | ((refine zqd _ rfl (fun hc => ?_) (fun hc => ?_)) <;> (((try simp only [z03] at hc); (try (exfalso; omega))))) | refine zqa ?_ | refine zqb ?_ | refine zqv ?_ | refine zqy ?_ | (refine J _ ?_; clear J K))
   (refine Exists.intro _ (And.intro ?_ ⟨i + 1, rfl, ?_⟩)); rotate_left; (simp (disch := omega) only [go_sem, Nat.reduceBEq, q1, q2, q5, q6, qH0, true_and, Int.natCast_add, Int.natCast_one]); rotate_left
   ·omega
   ·exact ⟨rfl, by omega⟩
  ·have hk8 : 0 <= t.kind /\ t.kind < 8 := by
    rcases zfx hb with h | h <;> omega
   have hnm := nms_at hk8
   have hns := zim t.kind
   have hie : i = d := by omega
   subst hie
   have hnb : ¬ (zey t = false \/ 8 < i) := by rw [hb]; simp; omega
   have e32 : (#[32] : Array UInt8).size = 1 := rfl
   have e58 : (#[58] : Array UInt8).size = 1 := rfl
   have e2 : (#[32, 124] : Array UInt8).size = 2 := rfl
   by_cases hk : t.kind = 0
   ·have hz : t.head.length = 0 /\ t.words.length = 0 := by
     unfold zey at hb
     rw [if_pos hk] at hb
     simp only [z03] at hb
     exact ⟨hb.2.1, hb.2.2⟩
    have hlx : zct t i = zze i ++ zmz t.kind := by
     unfold zct
     rw [if_neg hnb]
     simp only [if_pos hk, hz.1, hz.2, Nat.lt_irrefl, if_false]
    rw [hlx, hk]
    rw [hk] at hnm hns
    repeat' (first | refine zqj ?_ | ((first | refine zqh fun K J => ?_ | refine zqe (by decide +kernel) fun K J => ?_ | refine zqt (c2) ?_); (simp (disch := omega) only [go_sem, Nat.reduceBEq, ↓reduceIte, reduceCtorEq, Nat.reduceAdd, q1, q2, q5, q6, qH0, qnx, z0n, hnm, hk, hz.1, hz.2])) | ((refine zqd _ rfl (fun hc => ?_) (fun hc => ?_)) <;> (first | (cases hc; done) | ((try simp only [z03] at hc); (try (exfalso; omega))))) | refine zqb ?_ | refine zqc ?_ | refine zqn ?_ | refine zqv ?_ | refine zqz ?_ | refine zqp ?_ | refine zqu (by (simp (disch := omega) only [go_sem]); rfl) rfl ?_ | (refine J _ ?_; clear J K))
    exact z02 rfl (Le.refl _)
   ·obtain ⟨_, hr1, hr2⟩ := (zfx hb).resolve_left hk
    have r1 := zfy t.head h1 (zm5 hr1)
    have r2 := zfy t.words h2 (zm5 hr2)
    have s1 := zcz h1 g1
    have s2 := zcz h2 g2
    have hlx : zct t i = (let s := zze i ++ zmz t.kind ++ b1 32 ++ t.label; let s := if 0 < t.head.length then s ++ b1 58 ++ zoz t.head else s; if 0 < t.words.length then s ++ ⟨#[32, 124]⟩ ++ zoz t.words else s) := by
     unfold zct
     rw [if_neg hnb]
     simp only [if_neg hk]
    rw [hlx]
    simp only
    by_cases hh : 0 < t.head.length
    ·rw [if_pos hh]
     by_cases hw : 0 < t.words.length
     ·rw [if_pos hw]
      repeat' (first | refine zqj ?_ | ((first | refine zqh fun K J => ?_ | refine zqe (by decide +kernel) fun K J => ?_ | refine zqt (c2) ?_ | refine zqs (r1) ?_ | refine zqs (r2) ?_); (simp (disch := omega) only [go_sem, Nat.reduceBEq, ↓reduceIte, reduceCtorEq, Nat.reduceAdd, Nat.reduceLeDiff, q1, q2, q5, q6, qH0, qnx, z0n, hnm, z4n, e32, e58, e2])) | ((refine zqd _ rfl (fun hc => ?_) (fun hc => ?_)) <;> (((try simp only [z03] at hc); (try (exfalso; omega))))) | refine zqc ?_ | refine zqn ?_ | refine zqv ?_ | refine zqz ?_ | refine zqp ?_ | refine zqu (by (simp (disch := omega) only [go_sem]); rfl) rfl ?_ | (refine J _ ?_; clear J K))
      exact z02 rfl (Le.refl _)
     ·rw [if_neg hw]
      repeat' (first | refine zqj ?_ | ((first | refine zqh fun K J => ?_ | refine zqe (by decide +kernel) fun K J => ?_ | refine zqt (c2) ?_ | refine zqs (r1) ?_); (simp (disch := omega) only [go_sem, Nat.reduceBEq, ↓reduceIte, reduceCtorEq, Nat.reduceAdd, Nat.reduceLeDiff, q1, q2, q5, q6, qH0, qnx, z0n, hnm, z4n, e32, e58])) | ((refine zqd _ rfl (fun hc => ?_) (fun hc => ?_)) <;> (((try simp only [z03] at hc); (try (exfalso; omega))))) | refine zqb ?_ | refine zqc ?_ | refine zqn ?_ | refine zqv ?_ | refine zqz ?_ | refine zqp ?_ | refine zqu (by (simp (disch := omega) only [go_sem]); rfl) rfl ?_ | (refine J _ ?_; clear J K))
      exact z02 rfl (Le.refl _)
    ·rw [if_neg hh]
     by_cases hw : 0 < t.words.length
     ·rw [if_pos hw]
      repeat' (first | refine zqj ?_ | ((first | refine zqh fun K J => ?_ | refine zqe (by decide +kernel) fun K J => ?_ | refine zqt (c2) ?_ | refine zqs (r2) ?_); (simp (disch := omega) only [go_sem, Nat.reduceBEq, ↓reduceIte, reduceCtorEq, Nat.reduceAdd, Nat.reduceLeDiff, q1, q2, q5, q6, qH0, qnx, z0n, hnm, z4n, e32, e2])) | ((refine zqd _ rfl (fun hc => ?_) (fun hc => ?_)) <;> (((try simp only [z03] at hc); (try (exfalso; omega))))) | refine zqb ?_ | refine zqc ?_ | refine zqn ?_ | refine zqv ?_ | refine zqz ?_ | refine zqp ?_ | refine zqu (by (simp (disch := omega) only [go_sem]); rfl) rfl ?_ | (refine J _ ?_; clear J K))
      exact z02 rfl (Le.refl _)
     ·rw [if_neg hw]
      repeat' (first | refine zqj ?_ | ((first | refine zqh fun K J => ?_ | refine zqe (by decide +kernel) fun K J => ?_ | refine zqt (c2) ?_); (simp (disch := omega) only [go_sem, Nat.reduceBEq, ↓reduceIte, reduceCtorEq, Nat.reduceAdd, Nat.reduceLeDiff, q1, q2, q5, q6, qH0, qnx, z0n, hnm, z4n, e32])) | ((refine zqd _ rfl (fun hc => ?_) (fun hc => ?_)) <;> (((try simp only [z03] at hc); (try (exfalso; omega))))) | refine zqb ?_ | refine zqc ?_ | refine zqn ?_ | refine zqv ?_ | refine zqz ?_ | refine zqp ?_ | refine zqu (by (simp (disch := omega) only [go_sem]); rfl) rfl ?_ | (refine J _ ?_; clear J K))
      exact z02 rfl (Le.refl _)
namespace Tr
theorem zdz : ∀ t : T, ∀ d : Nat, (z4e t d).length = cntT t := by
 refine z3y fun t ih d => ?_
 rw [zez, List.length_cons, z3k]
 have key : ∀ l : List T, (∀ k ∈ l, ∀ d : Nat, (z4e k d).length = cntT k) -> (l.flatMap fun k => z4e k (d + 1)).length = (l.flatMap z08).length := fun l => by
  induction l with
  | nil => intro _; rfl
  | cons k l ih2 =>
   intro h
   rw [List.flatMap_cons, List.flatMap_cons, List.length_append, List.length_append, h k (by simp), ih2 fun q hq => h q (List.mem_cons_of_mem _ hq)]; rfl
 rw [key t.kids ih]; omega
theorem znx : ∀ t : T, szB t = true -> ∀ d : Nat, ∀ s ∈ z4e t d, s.size <= 2000010000000 := by
 refine z3y fun t ih hs d s h => ?_
 rw [zez, List.mem_cons] at h
 rcases h with rfl | h
 ·exact znw hs d
 ·obtain ⟨k, hk, h⟩ := List.mem_flatMap.1 h
  exact ih k hk ((z5y hs).2 k hk) (d + 1) s h
theorem zfz (l : List ByteArray) (w : ByteArray) : zk1 (l ++ [w]) = zk1 l ++ w ++ b1 10 := by unfold zk1; rw [List.foldl_append]; rfl
theorem zny {l : List ByteArray} {m : Nat} (h : ∀ s ∈ l, s.size <= m) : ∀ n, n <= l.length -> (zk1 (l.take n)).size <= n * (m + 1) := fun n => by
 induction n with
 | zero => intro _; show ByteArray.empty.size <= _; simp
 | succ n ih =>
  intro hn
  rw [List.take_succ_eq_append_getElem (by omega), zfz, z4n, z4n]
  have h1 := ih (by omega)
  have h3 := h _ (List.getElem_mem (l := l) (n := n) (by omega))
  have h4 : (b1 10).size = 1 := rfl
  rw [Nat.add_mul]; omega
end Tr
theorem znz : ∀ t : T, szB t = true -> cntT t <= 1000000 -> ∀ d : Nat, d + depT t <= 100 -> PC Tryz.prog 78 [z1a t, .int .i64 d] (z39 (z4e t d)) := by
 refine z3y fun t ih hs hc d hd => ?_
 obtain ⟨h0, h1, g1, h2, g2, h3, h4⟩ := (z1q t).1 hs
 have hce := z3k t
 have c1 := zrj t hs d (by omega)
 rw [zez]
 refine z1v 2 (by simp only [pureD.pureL, z04, pureD, Bool.and_self]) (z2o _) (z1t [10] Tryz.func78 rfl (by decide +kernel) z0k (by decide +kernel) (by simp [Tryz.ntmps78]) ?_)
 show awp _ _ (Code.seq _ _) _ _
 repeat' (first | refine zqj ?_ | ((first | refine zqh fun K J => ?_ | refine zqs (c1) ?_); (simp (disch := omega) only [go_sem, Nat.reduceBEq, ↓reduceIte, reduceCtorEq, Nat.reduceAdd, Nat.reduceLeDiff])) | refine zqa ?_ | (refine J _ ?_; clear J K))
 (refine z35 (fun U st => ∃ (i : _), U = t.kids.length - i /\ st.t 1 = .int .i64 d /\ st.t 2 = .ptr 0 0 /\ st.t 5 = .osl 1 (1 + ((t.kids.take i).flatMap fun k => z4e k (d + 1)).length) /\ st.t 6 = .int .i64 i /\ st.H 0 = some (.box 27 (z05 t)) /\ st.H 1 = some (.row 9 (1 + ((t.kids.take i).flatMap fun k => z4e k (d + 1)).length) ((zct t d :: (t.kids.take i).flatMap fun k => z4e k (d + 1)).map .str)) /\ (i <= t.kids.length) /\ (2 <= st.nx)) ?_ ?_); rotate_left; (rintro U st ⟨i, rfl, q1, q2, q5, q6, qH0, qH1, qp0, qp1⟩); rotate_left
 ·(refine ⟨_, 0, rfl, ?_⟩); (simp (disch := omega) only [go_sem, Nat.reduceBEq, Nat.reduceLeDiff, and_self, Int.natCast_zero, List.flatMap_nil, List.map_nil])
  try simp
 have hb := z2s t.kids (i + 1)
 have key : ∀ l : List T, (l.flatMap fun k => z4e k (d + 1)).length = (l.flatMap z08).length := fun l => by
  induction l with
  | nil => rfl
  | cons k l ih2 => rw [List.flatMap_cons, List.flatMap_cons, List.length_append, List.length_append, zdz, ih2]; rfl
 have hb2 := key (t.kids.take i)
 have F := z2s t.kids i
 by_cases hi : i < t.kids.length
 ·have hkd := z3r (List.getElem_mem hi)
  have hin := ih t.kids[i] (List.getElem_mem hi) (h4 _ (List.getElem_mem hi)) (by have := z7x (List.getElem_mem hi); omega) (d + 1) (by omega)
  have hck := z7x (List.getElem_mem hi)
  have hil := zdz t.kids[i] (d + 1)
  have htk : (t.kids.take (i + 1)).flatMap (fun k => z4e k (d + 1)) = (t.kids.take i).flatMap (fun k => z4e k (d + 1)) ++ z4e t.kids[i] (d + 1) := by
   rw [List.take_succ_eq_append_getElem hi, List.flatMap_append]; simp
  have hd1 : IntKind.i64.wrap ((d : Int) + 1) = ((d + 1 : Nat) : Int) := by rw [zf6 (by omega)]; rfl
  repeat' (first | refine zqj ?_ | ((first | refine zqh fun K J => ?_ | refine zqr fun K J => ?_ | refine zqs (hin) ?_); (simp (disch := omega) only [go_sem, Nat.reduceBEq, ↓reduceIte, reduceCtorEq, Nat.reduceAdd, Nat.reduceLT, q1, q2, q5, q6, qH0, qH1, z0e, z39, hd1])) | ((refine zqd _ rfl (fun hc => ?_) (fun hc => ?_)) <;> (((try simp only [z03] at hc); (try (exfalso; omega))))) | refine zqa ?_ | refine zqb ?_ | refine zqv ?_ | refine zqy ?_ | (refine J _ ?_; clear J K))
  (refine Exists.intro _ (And.intro ?_ ⟨i + 1, rfl, ?_⟩)); rotate_left; (simp (disch := omega) only [go_sem, Nat.reduceBEq, q1, q2, q5, q6, qH0, qH1, true_and, Int.natCast_add, Int.natCast_one, List.map_append, List.map_cons, htk, List.length_append, Nat.add_assoc]); rotate_left
  ·omega
  ·exact ⟨by omega, by omega⟩
 ·repeat' (first | refine zqj ?_ | ((refine zqh fun K J => ?_); (simp (disch := omega) only [go_sem, Nat.reduceBEq, ↓reduceIte, reduceCtorEq, Nat.reduceAdd, q2, q5, q6, qH0, z0e])) | ((refine zqd _ rfl (fun hc => ?_) (fun hc => ?_)) <;> (((try simp only [z03] at hc); (try (exfalso; omega))))) | refine zqc ?_ | refine zqn ?_ | refine zqv ?_ | refine zqz ?_ | refine zqp ?_ | refine zqu (by (simp (disch := omega) only [go_sem]); rfl) rfl ?_ | (refine J _ ?_; clear J K))
  have hi2 : i = t.kids.length := by omega
  subst hi2
  rw [List.take_length] at qH1
  rw [List.take_length]
  exact z50 (ze2 0 qH1 z70 z7v (by simp; omega) (zgv _))
theorem zo0 (t : T) (hs : szB t = true) (hc : cntT t <= 1000000) (hd : depT t <= 100) (hb : zk0 t = true) : PC Tryz.prog 55 [z1a t] (z39 (z4e t 0)) := by
 have c1 := zfw t hs (by omega)
 have c2 := znz t hs hc 0 (by omega)
 have hz : ((0 : Nat) : Int) = 0 := rfl
 rw [hz] at c2
 rw [hb] at c1
 refine z1v 1 (by simp only [pureD.pureL, z04, Bool.and_self]) (z2o _) (z1t [] Tryz.func55 rfl (by decide +kernel) z0k (by decide +kernel) (by simp [Tryz.ntmps55]) ?_)
 show awp _ _ (Code.seq _ _) _ _
 repeat' (first | refine zqj ?_ | ((first | refine zqh fun K J => ?_ | refine zqs (c1) ?_ | refine zqs (c2) ?_); (simp (disch := omega) only [go_sem, Nat.reduceBEq, ↓reduceIte, Nat.reduceAdd, Nat.reduceLeDiff])) | ((refine zqd _ rfl (fun hc => ?_) (fun hc => ?_)) <;> (first | (cases hc; done) | ((try simp only [] at hc); (try (exfalso; omega))))) | refine zqb ?_ | refine zqn ?_ | refine zqu (by (simp (disch := omega) only [go_sem]); rfl) rfl ?_ | (refine J _ ?_; clear J K))
 exact z02 (z2o _) (Le.refl _)
theorem zrk (t : T) (hs : szB t = true) (hc : cntT t <= 1000000) (hd : depT t <= 100) : PC Tryz.prog 25 [z1a t] (.tup [.str (ztd t).1, .int .i64 (ztd t).2]) := by
 have c1 := zfw t hs (by omega)
 refine z1v 3 (by simp only [pureD.pureL, z04, Bool.and_self]) rfl (z1t [] Tryz.func25 rfl (by decide +kernel) z0k (by decide +kernel) (by simp [Tryz.ntmps25]) ?_)
 show awp _ _ (Code.seq _ _) _ _
 rw [show Tryz.f25.results.toList = [.tmp 2, .tmp 3] from rfl]
 unfold ztd
 cases hb : zk0 t with
 | false =>
  rw [if_pos rfl]
  rw [hb] at c1
  repeat' (first | refine zqj ?_ | ((first | refine zqh fun K J => ?_ | refine zqs (c1) ?_); (simp (disch := omega) only [go_sem, Nat.reduceBEq, ↓reduceIte, Nat.reduceAdd, Nat.reduceLeDiff])) | ((refine zqd _ rfl (fun hc => ?_) (fun hc => ?_)) <;> (first | (cases hc; done) | ((try simp only [] at hc); (try (exfalso; omega))))) | refine zqg ?_ | refine zqu (by (simp (disch := omega) only [go_sem, Nat.reduceBEq]); rfl) rfl ?_ | (refine J _ ?_; clear J K))
  exact z02 rfl (Le.refl _)
 | true =>
  rw [if_neg (by simp)]
  have c2 := zo0 t hs hc hd hb
  rw [hb] at c1
  have hll := zdz t 0
  have hls := znx t hs 0
  generalize z4e t 0 = L at c2 hll hls ⊢
  repeat' (first | refine zqj ?_ | ((first | refine zqh fun K J => ?_ | refine zqs (c1) ?_ | refine zqs (c2) ?_); (simp (disch := omega) only [go_sem, Nat.reduceBEq, ↓reduceIte, Nat.reduceAdd, Nat.reduceLeDiff])) | ((refine zqd _ rfl (fun hc => ?_) (fun hc => ?_)) <;> (first | (cases hc; done) | ((try simp only [] at hc); (try (exfalso; omega))))) | refine zqa ?_ | refine zqb ?_ | (refine J _ ?_; clear J K))
  (refine z35 (fun U st => ∃ (k : _), U = L.length - k /\ st.t 4 = z39 L /\ st.t 5 = .str (zk1 (L.take k)) /\ st.t 6 = .int .i64 k /\ (k <= L.length)) ?_ ?_); rotate_left; (rintro U st ⟨k, rfl, q4, q5, q6, qp0⟩); rotate_left
  ·(refine ⟨_, 0, rfl, ?_⟩); (simp (disch := omega) only [go_sem, Nat.reduceBEq, true_and, and_true, and_self, Int.natCast_zero, z39])
   try rfl
  have hsz := zny hls
  by_cases hk : k < L.length
  ·have h1 := hsz k (by omega)
   have h2 := hls _ (List.getElem_mem hk)
   have h3 : k * (2000010000000 + 1) <= 1000000 * (2000010000000 + 1) := Nat.mul_le_mul_right _ (by omega)
   have htk := List.take_succ_eq_append_getElem hk
   have e10 : (#[10] : Array UInt8).size = 1 := rfl
   repeat' (first | refine zqj ?_ | ((first | refine zqh fun K J => ?_ | refine zqr fun K J => ?_); (simp (disch := omega) only [go_sem, Nat.reduceBEq, ↓reduceIte, reduceCtorEq, Nat.reduceAdd, Nat.reduceLeDiff, q4, q5, q6, z39, z4n, e10])) | ((refine zqd _ rfl (fun hc => ?_) (fun hc => ?_)) <;> (((try simp only [z03] at hc); (try (exfalso; omega))))) | refine zqa ?_ | refine zqb ?_ | refine zqv ?_ | refine zqy ?_ | (refine J _ ?_; clear J K))
   (refine Exists.intro _ (And.intro ?_ ⟨k + 1, rfl, ?_⟩)); rotate_left; (simp (disch := omega) only [go_sem, Nat.reduceBEq, q4, q5, q6, true_and, Int.natCast_add, Int.natCast_one, htk, zfz]); rotate_left
   ·omega
   ·exact ⟨rfl, by omega⟩
  ·have hk2 : k = L.length := by omega
   subst hk2
   rw [List.take_length] at q5
   by_cases hbig : 16384 < (zk1 L).size
   ·rw [if_pos hbig]
    repeat' (first | refine zqj ?_ | ((refine zqh fun K J => ?_); (simp (disch := omega) only [go_sem, Nat.reduceBEq, ↓reduceIte, q4, q5, q6, z39])) | ((refine zqd _ rfl (fun hc => ?_) (fun hc => ?_)) <;> (((try simp only [z03] at hc); (try (exfalso; omega))))) | refine zqg ?_ | refine zqc ?_ | refine zqv ?_ | refine zqz ?_ | refine zqp ?_ | refine zqu (by (simp (disch := omega) only [go_sem, Nat.reduceBEq]); rfl) rfl ?_ | (refine J _ ?_; clear J K))
    exact z02 rfl (Le.refl _)
   ·rw [if_neg hbig]
    repeat' (first | refine zqj ?_ | ((refine zqh fun K J => ?_); (simp (disch := omega) only [go_sem, Nat.reduceBEq, ↓reduceIte, q4, q5, q6, z39])) | ((refine zqd _ rfl (fun hc => ?_) (fun hc => ?_)) <;> (((try simp only [z03] at hc); (try (exfalso; omega))))) | refine zqb ?_ | refine zqc ?_ | refine zqn ?_ | refine zqv ?_ | refine zqz ?_ | refine zqp ?_ | refine zqu (by (simp (disch := omega) only [go_sem, Nat.reduceBEq]); rfl) rfl ?_ | (refine J _ ?_; clear J K))
    exact z02 rfl (Le.refl _)
theorem z7h (n a b : Int) : PC Tryz.prog 19 [.int .i64 n, .int .i64 a, .int .i64 b] (.bool (inB n a b)) := by
 refine z1v 1 rfl rfl (z1t [] Tryz.func19 rfl (by decide +kernel) z0k (by decide +kernel) (by simp [Tryz.ntmps19]) ?_)
 show awp _ _ (Code.seq _ _) _ _
 repeat' (first | ((refine zqh fun K J => ?_); (simp (disch := omega) only [go_sem, Nat.reduceBEq, ↓reduceIte])) | refine zqn ?_ | refine zqu (by (simp (disch := omega) only [go_sem]); rfl) rfl ?_ | (refine J _ ?_; clear J K) | (refine zqf (fun hb => ?_) (fun hb => ?_) <;> (have hb2 := hb; try simp only [z03] at hb2) <;> ((first | have F := eq_false hb2 | have F := eq_true hb2); (simp (disch := omega) only [go_sem, Nat.reduceBEq, ↓reduceIte, F]); clear hb F; (try (exfalso; omega)))))
 all_goals first | exact z00 (decide_eq_true (by omega)).symm | exact z00 (decide_eq_false (by omega)).symm | exact z00 (decide_eq_decide.2 (by omega))
theorem zj8 (a b : List Stp) (ha : a.length <= maxLen) (hb : b.length <= maxLen) : PC Tryz.prog 51 [z0a a, z0a b] (.bool (decide (a = b))) := by
 unfold maxLen at ha hb
 have heq : ∀ x y : Stp, (decide (x.kind = y.kind) && decide (x.label = y.label)) = decide (x = y) := fun x y => by
  obtain ⟨a, b⟩ := x; obtain ⟨a', b'⟩ := y
  rw [Bool.eq_iff_iff]; simp [Stp.mk.injEq]
 refine z1v 1 (by simp only [pureD.pureL, z0z, Bool.and_self]) rfl (z1t [] Tryz.func51 rfl (by decide +kernel) z0k (by decide +kernel) (by simp [Tryz.ntmps51]) ?_)
 show awp _ _ (Code.seq _ _) _ _
 repeat' (first | refine zqj ?_ | ((refine zqh fun K J => ?_); (simp (disch := omega) only [go_sem, Nat.reduceBEq, ↓reduceIte, z0a])) | ((refine zqd _ rfl (fun hc => ?_) (fun hc => ?_)) <;> (((try simp only [z03] at hc); (try (exfalso; omega))))) | refine zqa ?_ | refine zqb ?_ | refine zqg ?_ | refine zqu (by (simp (disch := omega) only [go_sem]); rfl) rfl ?_ | (refine J _ ?_; clear J K))
 ·exact z00 (decide_eq_false (fun h => by subst h; contradiction)).symm
 ·have hl : a.length = b.length := by omega
  (refine z35 (fun U st => ∃ (k : _), U = a.length - k /\ st.t 0 = z0a a /\ st.t 1 = z0a b /\ st.t 5 = .int .i64 k /\ (k <= a.length) /\ (a.take k = b.take k)) ?_ ?_); rotate_left; (rintro U st ⟨k, rfl, q0, q1, q5, qp0, qp1⟩); rotate_left
  ·(refine ⟨_, 0, rfl, ?_⟩); (simp (disch := omega) only [go_sem, Nat.reduceBEq, and_self, Int.natCast_zero, z0a])
   try simp
  repeat' (first | refine zqj ?_ | ((first | refine zqh fun K J => ?_ | refine zqe (by decide +kernel) fun K J => ?_ | refine zqr fun K J => ?_); (simp (disch := omega) only [go_sem, Nat.reduceBEq, ↓reduceIte, reduceCtorEq, Nat.reduceAdd, q0, q1, q5, z0a, heq])) | ((first | refine zqd _ rfl (fun hc => ?_) (fun hc => ?_) | refine zqm _ rfl (fun hc => ?_) (fun hc => ?_)) <;> (((try simp only [z03] at hc); (try (exfalso; omega))))) | refine zqa ?_ | refine zqb ?_ | refine zqc ?_ | refine zqk ?_ | refine zqn ?_ | refine zqv ?_ | refine zqx ?_ | refine zqy ?_ | refine zqz ?_ | refine z4f ?_ | refine zqp ?_ | refine zqo ?_ | refine zqu (by (simp (disch := omega) only [go_sem]); rfl) rfl ?_ | (refine J _ ?_; clear J K))
  ·exact z00 (decide_eq_false (zvt (k := k) (by omega) hl (by assumption))).symm
  ·(refine Exists.intro _ (And.intro ?_ ⟨k + 1, rfl, ?_⟩)); rotate_left; (simp (disch := omega) only [go_sem, Nat.reduceBEq, q0, q1, q5, true_and, Int.natCast_add, Int.natCast_one, z0a]); rotate_left
   ·omega
   ·exact ⟨by omega, zb2 (by omega) hl qp1 (by assumption)⟩
  ·exact z00 (decide_eq_true (zer (by omega) hl qp1)).symm
theorem zmd (a b : List ByteArray) (ha : a.length <= maxLen) (hb : b.length <= maxLen) : PC Tryz.prog 52 [z39 a, z39 b] (.bool (decide (a = b))) := by
 unfold maxLen at ha hb
 have heq : ∀ x y : Stp, (decide (x.kind = y.kind) && decide (x.label = y.label)) = decide (x = y) := fun x y => by
  obtain ⟨a, b⟩ := x; obtain ⟨a', b'⟩ := y
  rw [Bool.eq_iff_iff]; simp [Stp.mk.injEq]
 refine z1v 1 (by simp only [pureD.pureL, z2o, Bool.and_self]) rfl (z1t [] Tryz.func52 rfl (by decide +kernel) z0k (by decide +kernel) (by simp [Tryz.ntmps52]) ?_)
 show awp _ _ (Code.seq _ _) _ _
 repeat' (first | refine zqj ?_ | ((refine zqh fun K J => ?_); (simp (disch := omega) only [go_sem, Nat.reduceBEq, ↓reduceIte, z39])) | ((refine zqd _ rfl (fun hc => ?_) (fun hc => ?_)) <;> (((try simp only [z03] at hc); (try (exfalso; omega))))) | refine zqa ?_ | refine zqb ?_ | refine zqg ?_ | refine zqu (by (simp (disch := omega) only [go_sem]); rfl) rfl ?_ | (refine J _ ?_; clear J K))
 ·exact z00 (decide_eq_false (fun h => by subst h; contradiction)).symm
 ·have hl : a.length = b.length := by omega
  (refine z35 (fun U st => ∃ (k : _), U = a.length - k /\ st.t 0 = z39 a /\ st.t 1 = z39 b /\ st.t 5 = .int .i64 k /\ (k <= a.length) /\ (a.take k = b.take k)) ?_ ?_); rotate_left; (rintro U st ⟨k, rfl, q0, q1, q5, qp0, qp1⟩); rotate_left
  ·(refine ⟨_, 0, rfl, ?_⟩); (simp (disch := omega) only [go_sem, Nat.reduceBEq, and_self, Int.natCast_zero, z39])
   try simp
  repeat' (first | refine zqj ?_ | ((first | refine zqh fun K J => ?_ | refine zqe (by decide +kernel) fun K J => ?_ | refine zqr fun K J => ?_); (simp (disch := omega) only [go_sem, Nat.reduceBEq, ↓reduceIte, reduceCtorEq, Nat.reduceAdd, q0, q1, q5, z39])) | ((first | refine zqd _ rfl (fun hc => ?_) (fun hc => ?_) | refine zqm _ rfl (fun hc => ?_) (fun hc => ?_)) <;> (((try simp only [z03] at hc); (try (exfalso; omega))))) | refine zqa ?_ | refine zqb ?_ | refine zqc ?_ | refine zqk ?_ | refine zqn ?_ | refine zqv ?_ | refine zqx ?_ | refine zqy ?_ | refine zqz ?_ | refine z4f ?_ | refine zqp ?_ | refine zqo ?_ | refine zqu (by (simp (disch := omega) only [go_sem]); rfl) rfl ?_ | (refine J _ ?_; clear J K))
  ·exact z00 (decide_eq_false (zvt (k := k) (by omega) hl (by assumption))).symm
  ·(refine Exists.intro _ (And.intro ?_ ⟨k + 1, rfl, ?_⟩)); rotate_left; (simp (disch := omega) only [go_sem, Nat.reduceBEq, q0, q1, q5, true_and, Int.natCast_add, Int.natCast_one, z39]); rotate_left
   ·omega
   ·exact ⟨by omega, zb2 (by omega) hl qp1 (by assumption)⟩
  ·exact z00 (decide_eq_true (zer (by omega) hl qp1)).symm
theorem zaw (l : List ByteArray) (hl : l.length <= maxLen) (hs : ∀ s ∈ l, s.size <= maxLen) (n : Int) : PC Tryz.prog 27 [z39 l, .int .i64 n] (.bool (zf1 l && decide (n <= (l.length : Int)))) := by
 have c1 := zwo l hl hs
 refine z1v 1 (by simp only [pureD.pureL, z2o, pureD, Bool.and_self]) rfl (z1t [] Tryz.func27 rfl (by decide +kernel) z0k (by decide +kernel) (by simp [Tryz.ntmps27]) ?_)
 show awp _ _ (Code.seq _ _) _ _
 repeat' (first | ((first | refine zqh fun K J => ?_ | refine zqs (c1) ?_); (simp (disch := omega) only [go_sem, Nat.reduceBEq, z39])) | refine zqn ?_ | refine zqu (by (simp (disch := omega) only [go_sem]); rfl) rfl ?_ | (refine J _ ?_; clear J K) | (refine zqf (fun hb => ?_) (fun hb => ?_) <;> (have hb2 := hb; try simp only [z03] at hb2) <;> ((have F : (_ : Bool) = _ := hb2); (simp (disch := omega) only [go_sem, Nat.reduceBEq, ↓reduceIte, hb]); clear hb F; (try (exfalso; omega)))))
 all_goals refine z00 ?_
 all_goals first | (rw [‹zf1 l = true›, Bool.true_and]; done) | (rw [‹zf1 l = true›, Bool.true_and, decide_eq_decide]; omega) | (rw [‹zf1 l = false›]; rfl)
theorem zyo {b : UInt8} (h : (97 <= b.toNat /\ b.toNat <= 122) \/ (48 <= b.toNat /\ b.toNat <= 57) \/ b.toNat = 45) : zli b = true := by
 unfold zli zte dig
 simp only [Bool.or_eq_true, decide_eq_true_eq]; exact h
theorem zyp {b : UInt8} (h : ¬ ((97 <= b.toNat /\ b.toNat <= 122) \/ (48 <= b.toNat /\ b.toNat <= 57) \/ b.toNat = 45)) : zli b = false := by
 rw [<- Bool.not_eq_true]
 intro g
 unfold zli zte dig at g
 simp only [Bool.or_eq_true, decide_eq_true_eq] at g
 exact h g
theorem zeh (s : ByteArray) (hs : s.size <= maxLen) : PC Tryz.prog 23 [.str s] (.bool (zf0 s)) := by
 unfold maxLen at hs
 refine z1v 1 (by simp only [pureD.pureL, pureD, Bool.and_self]) rfl (z1t [] Tryz.func23 rfl (by decide +kernel) z0k (by decide +kernel) (by simp [Tryz.ntmps23]) ?_)
 show awp _ _ (Code.seq _ _) _ _
 have hbl := z19 s
 have hz : Int.toNat 0 = 0 := rfl
 have hhd : ∀ h : 0 < (bl s).length, (bl s)[0] = (bl s).headD 0 := fun h => zsh (s := s) h
 by_cases hlen : 1 <= s.size /\ s.size <= 16
 ·have hpos : 0 < (bl s).length := by omega
  have hhd := hhd hpos
  by_cases hlo : zte ((bl s).headD 0) = true
  ·have hlo2 : 97 <= ((bl s)[0]'hpos).toNat /\ ((bl s)[0]'hpos).toNat <= 122 := by rw [hhd]; exact of_decide_eq_true hlo
   have hn : zf0 s = (bl s).all zli := by unfold zf0; rw [decide_eq_true hlen, hlo]; rfl
   rw [hn]
   repeat' (first | refine zqj ?_ | ((refine zqh fun K J => ?_); (simp (disch := omega) only [go_sem, Nat.reduceBEq, ↓reduceIte])) | ((refine zqd _ rfl (fun hc => ?_) (fun hc => ?_)) <;> (((try simp only [z03] at hc); (try (exfalso; omega))))) | refine zqa ?_ | refine zqb ?_ | (refine J _ ?_; clear J K) | (refine zqf (fun hb => ?_) (fun hb => ?_) <;> (have hb2 := hb; try simp only [z03] at hb2) <;> ((first | have F := eq_false hb2 | have F := eq_true hb2); (simp (disch := omega) only [go_sem, Nat.reduceBEq, ↓reduceIte, Int.reduceLE, F, zl3, hz]); clear hb F; (try (exfalso; omega)))))
   (refine z35 (fun U st => ∃ (k : _), U = s.size - k /\ st.t 0 = .str s /\ st.t 3 = .int .i64 k /\ (k <= s.size) /\ (((bl s).take k).all zli = true)) ?_ ?_); rotate_left; (rintro U st ⟨k, rfl, q0, q3, qp0, qp1⟩); rotate_left
   ·(refine ⟨_, 0, rfl, ?_⟩); (simp (disch := omega) only [go_sem, Nat.reduceBEq, true_and, Int.natCast_zero])
    simp
   by_cases hk : k < s.size
   ·repeat' (first | refine zqj ?_ | ((first | refine zqh fun K J => ?_ | refine zqr fun K J => ?_); (simp (disch := omega) only [go_sem, Nat.reduceBEq, ↓reduceIte, q0, q3, zl3])) | ((first | refine zqd _ rfl (fun hc => ?_) (fun hc => ?_) | refine zqm _ rfl (fun hc => ?_) (fun hc => ?_)) <;> (first | (cases hc; done) | ((try simp only [z03] at hc); (try (exfalso; omega))))) | refine zqa ?_ | refine zqb ?_ | refine zqk ?_ | refine zqn ?_ | refine zqv ?_ | refine zqx ?_ | refine zqy ?_ | refine z4f ?_ | refine zqo ?_ | refine zqu (by (simp (disch := omega) only [go_sem]); rfl) rfl ?_ | (refine J _ ?_; clear J K) | (refine zqf (fun hb => ?_) (fun hb => ?_) <;> (have hb2 := hb; try simp only [z03] at hb2) <;> ((first | have F := eq_false hb2 | have F := eq_true hb2); (simp (disch := omega) only [go_sem, Nat.reduceBEq, ↓reduceIte, F]); clear hb F; (try (exfalso; omega)))))
    all_goals first
     | exact z00 (z3m (k := k) (by omega) (zyp (by omega))).symm
     | skip
    all_goals
     (refine Exists.intro _ (And.intro ?_ ⟨k + 1, rfl, ?_⟩)); rotate_left; (simp (disch := omega) only [go_sem, Nat.reduceBEq, q0, q3, true_and, Int.natCast_add, Int.natCast_one]); rotate_left
     ·omega
     ·exact ⟨by omega, z2d (by omega) qp1 (zyo (by omega))⟩
   ·repeat' (first | refine zqj ?_ | ((refine zqh fun K J => ?_); (simp (disch := omega) only [go_sem, Nat.reduceBEq, ↓reduceIte, q0, q3])) | ((refine zqd _ rfl (fun hc => ?_) (fun hc => ?_)) <;> (((try simp only [z03] at hc); (try (exfalso; omega))))) | refine zqc ?_ | refine zqn ?_ | refine zqv ?_ | refine zqz ?_ | refine zqp ?_ | refine zqu (by (simp (disch := omega) only [go_sem]); rfl) rfl ?_ | (refine J _ ?_; clear J K))
    exact z00 (z2h (k := k) (by omega) qp1).symm
  ·have hlo2 : ¬ (97 <= ((bl s)[0]'hpos).toNat /\ ((bl s)[0]'hpos).toNat <= 122) := by rw [hhd]; exact fun g => hlo (decide_eq_true g)
   have hn : zf0 s = false := by
    rw [Bool.not_eq_true] at hlo
    unfold zf0; rw [hlo, Bool.false_and, Bool.and_false]
   rw [hn]
   repeat' (first | refine zqj ?_ | ((refine z01 (N := 3) rfl fun K J => ?_); (simp (disch := omega) only [go_sem, Nat.reduceBEq, ↓reduceIte])) | ((refine zqd _ rfl (fun hc => ?_) (fun hc => ?_)) <;> (first | (cases hc; done) | ((try simp only [z03] at hc); (try (exfalso; omega))))) | refine zqg ?_ | refine zqu (by (simp (disch := omega) only [go_sem]); rfl) rfl ?_ | (refine J _ ?_; clear J K) | (refine zqf (fun hb => ?_) (fun hb => ?_) <;> (have hb2 := hb; try simp only [z03] at hb2) <;> ((first | have F := eq_false hb2 | have F := eq_true hb2); (simp (disch := omega) only [go_sem, Nat.reduceBEq, ↓reduceIte, Int.reduceLE, F, zl3, hz]); clear hb F; (try (exfalso; omega)))))
   all_goals first | exact z00 rfl | (exfalso; omega)
 ·have hn : zf0 s = false := by unfold zf0; rw [decide_eq_false hlen]; rfl
  rw [hn]
  repeat' (first | refine zqj ?_ | ((refine z01 (N := 3) rfl fun K J => ?_); (simp (disch := omega) only [go_sem, Nat.reduceBEq, ↓reduceIte])) | ((refine zqd _ rfl (fun hc => ?_) (fun hc => ?_)) <;> (first | (cases hc; done) | ((try simp only [] at hc); (try (exfalso; omega))))) | refine zqg ?_ | refine zqu (by (simp (disch := omega) only [go_sem]); rfl) rfl ?_ | (refine J _ ?_; clear J K) | (refine zqf (fun hb => ?_) (fun hb => ?_) <;> (have hb2 := hb; try simp only [z03] at hb2) <;> ((first | have F := eq_false hb2 | have F := eq_true hb2); (simp (disch := omega) only [go_sem, Nat.reduceBEq, ↓reduceIte, Int.reduceLE, F, zl3, hz]); clear hb F; (try (exfalso; omega)))))
  all_goals first | exact z00 rfl | (exfalso; omega)
theorem zvj (k d : Int) (e : ByteArray) (he : e.size <= maxLen) : PC Tryz.prog 24 [.agg [.int .i64 k, .int .i64 d, .str e]] (.bool (ztf k d e)) := by
 have c1 := z7h d 0 1048576
 have c2 := zeh e he
 have hin : inB d 0 1048576 = decide (0 <= d /\ d <= 1048576) := rfl
 refine z1v 1 rfl rfl (z1t [] Tryz.func24 rfl (by decide +kernel) z0k (by decide +kernel) (by simp [Tryz.ntmps24]) ?_)
 show awp _ _ (Code.seq _ _) _ _
 unfold ztf
 by_cases h1 : k = 1
 ·rw [if_pos h1, <- hin]
  repeat' (first | refine zqj ?_ | ((first | refine zqh fun K J => ?_ | refine zqs (c1) ?_); (simp (disch := omega) only [go_sem, Nat.reduceBEq, ↓reduceIte, reduceCtorEq, Nat.reduceAdd, h1])) | ((refine zqm _ rfl (fun hc => ?_) (fun hc => ?_)) <;> (first | (cases hc; done) | ((try simp only [] at hc); (try (exfalso; omega))))) | refine zqa ?_ | refine zqn ?_ | refine zqx ?_ | refine z4f ?_ | refine zqu (by (simp (disch := omega) only [go_sem]); rfl) rfl ?_ | (refine J _ ?_; clear J K) | (refine zqf (fun hb => ?_) (fun hb => ?_) <;> (have hb2 := hb; try simp only [z03] at hb2) <;> ((have F : (_ : Bool) = _ := hb2); (simp (disch := omega) only [go_sem, Nat.reduceBEq, ↓reduceIte, reduceCtorEq, Nat.reduceAdd, hb]); clear hb F; (try (exfalso; omega)))))
  all_goals first
   | (refine z00 ?_; rw [‹inB d 0 1048576 = true›, Bool.true_and]; try (exact decide_eq_decide.2 Iff.rfl))
   | (refine z00 ?_; rw [‹inB d 0 1048576 = false›]; rfl)
   | (refine z00 ?_; rw [decide_eq_true (p := d = 0) (by assumption), Bool.true_and]; try (exact decide_eq_decide.2 Iff.rfl))
   | (refine z00 ?_; rw [decide_eq_false (p := d = 0) (by assumption)]; rfl)
 ·rw [if_neg h1]
  by_cases h3 : k = 3
  ·rw [if_pos h3]
   repeat' (first | refine zqj ?_ | ((first | refine zqh fun K J => ?_ | refine zqs (c2) ?_); (simp (disch := omega) only [go_sem, Nat.reduceBEq, ↓reduceIte, reduceCtorEq, Nat.reduceAdd, Int.reduceEq, h3])) | ((refine zqm _ rfl (fun hc => ?_) (fun hc => ?_)) <;> (first | (cases hc; done) | ((try simp only [] at hc); (try (exfalso; omega))))) | refine zqa ?_ | refine zqn ?_ | refine zqx ?_ | refine z4f ?_ | refine zqu (by (simp (disch := omega) only [go_sem]); rfl) rfl ?_ | (refine J _ ?_; clear J K) | (refine zqf (fun hb => ?_) (fun hb => ?_) <;> (have hb2 := hb; try simp only [z03] at hb2) <;> ((first | have F := eq_false hb2 | have F := eq_true hb2); (simp (disch := omega) only [go_sem, Nat.reduceBEq, ↓reduceIte, reduceCtorEq, Nat.reduceAdd, F]); clear hb F; (try (exfalso; omega)))))
   all_goals first
    | (refine z00 ?_; rw [‹inB d 0 1048576 = true›, Bool.true_and]; try (exact decide_eq_decide.2 Iff.rfl))
    | (refine z00 ?_; rw [‹inB d 0 1048576 = false›]; rfl)
    | (refine z00 ?_; rw [decide_eq_true (p := d = 0) (by assumption), Bool.true_and]; try (exact decide_eq_decide.2 Iff.rfl))
    | (refine z00 ?_; rw [decide_eq_false (p := d = 0) (by assumption)]; rfl)
  ·rw [if_neg h3]
   by_cases h0 : k = 0 \/ k = 2
   ·rw [if_pos h0]
    rcases h0 with h0 | h0
    all_goals (repeat' (first | refine zqj ?_ | ((refine zqh fun K J => ?_); (simp (disch := omega) only [go_sem, Nat.reduceBEq, ↓reduceIte, reduceCtorEq, Nat.reduceAdd, Int.reduceEq, h0])) | ((first | refine zqd _ rfl (fun hc => ?_) (fun hc => ?_) | refine zqm _ rfl (fun hc => ?_) (fun hc => ?_)) <;> (first | (cases hc; done) | ((try simp only [] at hc); (try (exfalso; omega))))) | refine zqa ?_ | refine zqb ?_ | refine zqn ?_ | refine zqx ?_ | refine z4f ?_ | refine zqu (by (simp (disch := omega) only [go_sem]); rfl) rfl ?_ | (refine J _ ?_; clear J K) | (refine zqf (fun hb => ?_) (fun hb => ?_) <;> (have hb2 := hb; try simp only [z03] at hb2) <;> ((first | have F := eq_false hb2 | have F := eq_true hb2); (simp (disch := omega) only [go_sem, Nat.reduceBEq, ↓reduceIte, reduceCtorEq, Nat.reduceAdd, F]); clear hb F; (try (exfalso; omega))))))
    all_goals first
     | (refine z00 ?_; rw [‹inB d 0 1048576 = true›, Bool.true_and]; try (exact decide_eq_decide.2 Iff.rfl))
     | (refine z00 ?_; rw [‹inB d 0 1048576 = false›]; rfl)
     | (refine z00 ?_; rw [decide_eq_true (p := d = 0) (by assumption), Bool.true_and]; try (exact decide_eq_decide.2 Iff.rfl))
     | (refine z00 ?_; rw [decide_eq_false (p := d = 0) (by assumption)]; rfl)
   ·rw [if_neg h0]
    repeat' (first | refine zqj ?_ | ((refine zqh fun K J => ?_); (simp (disch := omega) only [go_sem, Nat.reduceBEq, ↓reduceIte, reduceCtorEq, Nat.reduceAdd])) | ((first | refine zqd _ rfl (fun hc => ?_) (fun hc => ?_) | refine zqm _ rfl (fun hc => ?_) (fun hc => ?_)) <;> (((try simp only [z03] at hc); (try (exfalso; omega))))) | refine zqa ?_ | refine zqk ?_ | refine zqn ?_ | refine zqv ?_ | refine zqy ?_ | refine zqu (by (simp (disch := omega) only [go_sem]); rfl) rfl ?_ | (refine J _ ?_; clear J K))
    all_goals first | exact z00 rfl | (exfalso; omega)
namespace Tr
structure BaseI (x : It) : Prop where
 at_ : x.at_.length <= maxLen
 to : x.to.length <= maxLen
 old : x.old.length <= maxLen
 new : x.new.length <= maxLen
 by_ : x.by_.length <= maxLen
 unit : szB x.unit = true
def FitF (x : It) (l : List Prop) : Prop := BaseI x /\ ∀ p ∈ l, p
def zw2 (x : It) : Prop := zt3 FitF x
theorem zb5 (x : It) : zw2 x ↔ BaseI x /\ ∀ k ∈ x.by_, zw2 k := by
 unfold zw2
 rw [zbx]
 refine ⟨fun ⟨h1, h2⟩ => ⟨h1, fun k hk => h2 _ (List.mem_map.2 ⟨k, hk, rfl⟩)⟩, fun ⟨h1, h2⟩ => ⟨h1, fun p hp => ?_⟩⟩
 obtain ⟨k, hk, rfl⟩ := List.mem_map.1 hp
 exact h2 k hk
theorem It.ext {a b : It} (h0 : a.kind = b.kind) (h1 : a.at_ = b.at_) (h2 : a.to = b.to) (h3 : a.wh = b.wh) (h4 : a.nth = b.nth) (h5 : a.unit = b.unit) (h6 : a.old = b.old) (h7 : a.new = b.new) (h8 : a.label = b.label) (h9 : a.for_ = b.for_)
  (g0 : a.sk = b.sk) (g1 : a.sd = b.sd) (g2 : a.se = b.se) (g3 : a.act = b.act) (g4 : a.item = b.item) (g5 : a.day = b.day) (g6 : a.event = b.event) (g7 : a.by_ = b.by_) : a = b := by
 cases a; cases b
 simp only [It.kind, It.at_, It.to, It.wh, It.nth, It.unit, It.old, It.new, It.label, It.for_, It.sk, It.sd, It.se, It.act, It.item, It.day, It.event, It.by_] at *
 subst h0 h1 h2 h3 h4 h5 h6 h7 h8 h9 g0 g1 g2 g3 g4 g5 g6 g7
 rfl
structure Sta where
 k : Int
 d : Int
 e : ByteArray
instance : DecidableEq Sta := fun a b => decidable_of_iff (a.k = b.k /\ a.d = b.d /\ a.e = b.e) ⟨fun ⟨h1, h2, h3⟩ => by cases a; cases b; simp_all, fun h => by subst h; exact ⟨rfl, rfl, rfl⟩⟩
theorem staEq (a b c a' b' c') : (decide (a = a') && (decide (b = b') && decide (c = c'))) = decide (Sta.mk a b c = Sta.mk a' b' c') := by
 rw [Bool.eq_iff_iff]; simp [Sta.mk.injEq]
theorem staEq' (a b c a' b' c') : (decide (a = a') && decide (b = b') && decide (c = c')) = decide (Sta.mk a b c = Sta.mk a' b' c') := by rw [Bool.and_assoc, staEq]
end Tr
set_option maxHeartbeats 16000000 in
theorem zw3 : ∀ a : It, zw2 a -> ∀ b : It, zw2 b -> PC Tryz.prog 20 [zcs a, zcs b] (.bool (decide (a = b))) := by
 refine zl9 fun a ih ha b hb => ?_
 obtain ⟨a1, a2⟩ := (zb5 a).1 ha
 obtain ⟨b1, b2⟩ := (zb5 b).1 hb
 have c1 := zj8 a.at_ b.at_ a1.at_ b1.at_
 have c2 := zj8 a.to b.to a1.to b1.to
 have c3 := zmd a.old b.old a1.old b1.old
 have c4 := zmd a.new b.new a1.new b1.new
 have c5 := zsu a.unit a1.unit b.unit b1.unit
 have hl1 := a1.by_
 have hl2 := b1.by_
 unfold maxLen at hl1 hl2
 have hst := staEq a.sk a.sd a.se b.sk b.sd b.se
 have hst' := staEq' a.sk a.sd a.se b.sk b.sd b.se
 refine z1v 1 (by simp only [pureD.pureL, z4r, Bool.and_self]) rfl (z1t [] Tryz.func20 rfl (by decide +kernel) z0k (by decide +kernel) (by simp [Tryz.ntmps20]) ?_)
 show awp _ _ (Code.seq _ _) _ _
 repeat' (first | refine zqj ?_ | ((refine z01 (N := 3) rfl fun K J => ?_); (simp (disch := omega) only [go_sem, Nat.reduceBEq, ↓reduceIte, reduceCtorEq, Nat.reduceAdd, List.append_eq, List.cons_append, List.nil_append, List.map_cons, List.map_nil])) | ((refine zqd _ rfl (fun hc => ?_) (fun hc => ?_)) <;> (first | (cases hc; done) | ((try simp only [z03] at hc); (try (exfalso; omega))))) | refine zqb ?_ | refine zqg ?_ | refine zqu (by (simp (disch := omega) only [go_sem]); rfl) rfl ?_ | (refine J _ ?_; clear J K) | (refine zqf (fun hb => ?_) (fun hb => ?_) <;> (have hb2 := hb; try simp only [z03] at hb2) <;> ((first | have F := eq_false hb2 | have F := eq_true hb2); (simp (disch := omega) only [go_sem, Nat.reduceBEq, ↓reduceIte, reduceCtorEq, Nat.reduceAdd, Nat.reduceLeDiff, F, hst']); clear hb F; (try (exfalso; omega)))))
 all_goals first
  | exact z00 (decide_eq_false (fun h => by subst h; contradiction)).symm
  | skip
 clear hst hst'
 have hsta : a.sk = b.sk /\ a.sd = b.sd /\ a.se = b.se := by
  have h := ‹Sta.mk a.sk a.sd a.se = Sta.mk b.sk b.sd b.se›
  rw [Sta.mk.injEq] at h; exact h
 (refine z1e (fun st => st.t 2 = .ptr 0 0 /\ st.t 3 = .ptr 1 0 /\ st.H 0 = some (.box 34 (z0h a)) /\ st.H 1 = some (.box 34 (z0h b)) /\ st.nx = 2) ?_ ?_); rotate_left; (rintro st ⟨p2, p3, pH0, pH1, pnx⟩); rotate_left
 ·(simp (disch := omega) only [go_sem, Nat.reduceBEq, and_self])
 repeat' (first | refine zqj ?_ | ((first | refine z01 (N := 5) rfl fun K J => ?_ | refine zqs (c1) ?_ | refine zqs (c2) ?_ | refine zqs (c3) ?_ | refine zqs (c4) ?_ | refine zqs (c5) ?_); (simp (disch := omega) only [go_sem, Nat.reduceBEq, ↓reduceIte, reduceCtorEq, Nat.reduceAdd, p2, p3, pH0, pH1, pnx])) | ((refine zqd _ rfl (fun hc => ?_) (fun hc => ?_)) <;> (first | (cases hc; done) | ((try simp only [z03] at hc); (try (exfalso; omega))))) | refine zqb ?_ | refine zqg ?_ | refine zqu (by (simp (disch := omega) only [go_sem]); rfl) rfl ?_ | (refine J _ ?_; clear J K) | (refine zqf (fun hb => ?_) (fun hb => ?_) <;> (have hb2 := hb; try simp only [z03] at hb2) <;> ((first | have F := eq_false hb2 | have F := eq_true hb2); (simp (disch := omega) only [go_sem, Nat.reduceBEq, ↓reduceIte, reduceCtorEq, Nat.reduceAdd, Nat.reduceLeDiff, F, p2, p3, pH0, pH1, z3c]); clear hb F; (try (exfalso; omega)))))
 all_goals first
  | exact z00 (decide_eq_false (fun h => by subst h; contradiction)).symm
  | skip
 have hl : a.by_.length = b.by_.length := by omega
 repeat' (first | ((refine zqh fun K J => ?_); (simp (disch := omega) only [go_sem, pnx])) | refine zqa ?_ | (refine J _ ?_; clear J K))
 (refine z35 (fun U st => ∃ (k : _), U = a.by_.length - k /\ st.t 2 = .ptr 0 0 /\ st.t 3 = .ptr 1 0 /\ st.t 5 = .int .i64 k /\ st.H 0 = some (.box 34 (z0h a)) /\ st.H 1 = some (.box 34 (z0h b)) /\ st.nx = 2 /\ (k <= a.by_.length) /\ (a.by_.take k = b.by_.take k)) ?_ ?_); rotate_left; (rintro U st ⟨k, rfl, q2, q3, q5, qH0, qH1, qnx, qp0, qp1⟩); rotate_left
 ·(refine ⟨_, 0, rfl, ?_⟩); (simp (disch := omega) only [go_sem, Nat.reduceBEq, p2, p3, pH0, pH1, and_self, Int.natCast_zero])
 by_cases hk : k < a.by_.length
 ·have c6 := ih a.by_[k] (List.getElem_mem hk) (a2 _ (List.getElem_mem hk)) (b.by_[k]'(by omega)) (b2 _ (List.getElem_mem (by omega)))
  repeat' (first | refine zqj ?_ | ((first | refine zqh fun K J => ?_ | refine zqe (by decide +kernel) fun K J => ?_ | refine zqr fun K J => ?_ | refine zqt (c6) ?_); (simp (disch := omega) only [go_sem, Nat.reduceBEq, ↓reduceIte, reduceCtorEq, Nat.reduceAdd, q2, q3, q5, qH0, qH1, qnx, z3c])) | ((first | refine zqd _ rfl (fun hc => ?_) (fun hc => ?_) | refine zqm _ rfl (fun hc => ?_) (fun hc => ?_)) <;> (((try simp only [z03] at hc); (try (exfalso; omega))))) | refine zqa ?_ | refine zqb ?_ | refine zqk ?_ | refine zqn ?_ | refine zqv ?_ | refine zqx ?_ | refine zqy ?_ | refine z4f ?_ | refine zqo ?_ | refine zqu (by (simp (disch := omega) only [go_sem]); rfl) rfl ?_ | (refine J _ ?_; clear J K))
  ·exact z00 (decide_eq_false (fun h => by subst h; exact ‹¬ a.by_[k] = a.by_[k]› rfl)).symm
  ·(refine Exists.intro _ (And.intro ?_ ⟨k + 1, rfl, ?_⟩)); rotate_left; (simp (disch := omega) only [go_sem, Nat.reduceBEq, q2, q3, q5, qH0, qH1, true_and, Int.natCast_add, Int.natCast_one]); rotate_left
   ·omega
   ·exact ⟨by omega, zb2 hk hl qp1 (by assumption)⟩
 ·repeat' (first | refine zqj ?_ | ((refine zqh fun K J => ?_); (simp (disch := omega) only [go_sem, Nat.reduceBEq, ↓reduceIte, reduceCtorEq, Nat.reduceAdd, q2, q5, qH0, qnx, z3c])) | ((refine zqd _ rfl (fun hc => ?_) (fun hc => ?_)) <;> (((try simp only [z03] at hc); (try (exfalso; omega))))) | refine zqc ?_ | refine zqn ?_ | refine zqv ?_ | refine zqz ?_ | refine zqp ?_ | refine zqu (by (simp (disch := omega) only [go_sem]); rfl) rfl ?_ | (refine J _ ?_; clear J K))
  have hby := zer (by omega) hl qp1
  exact z00 (decide_eq_true (It.ext (by assumption) (by assumption) (by assumption) (by assumption) (by assumption) (by assumption) (by assumption) (by assumption) (by assumption) (by assumption) hsta.1 hsta.2.1 hsta.2.2 (by assumption) (by assumption) (by assumption) (by assumption) hby)).symm
end
end Go.Proofs.YtppebcifiejplaaGreat
