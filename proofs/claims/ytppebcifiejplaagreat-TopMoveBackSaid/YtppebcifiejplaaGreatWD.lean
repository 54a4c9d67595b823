import Derived.Test.YtppebcifiejplaaGreatWC
import Derived.WalkKit
import Derived.Lib.Walk
import Derived.Lib.SliceRun
import Derived.Lib.AppendZerosOnto
import Derived.Lib.Overlaps
import Derived.Laws.Externs
import Derived.Laws.NewBlocks
import Derived.Shelf.Spec.SlicesInsert
/-
 Lemmas of the claim. No condition but those that each names.
-/
set_option linter.unusedSimpArgs false
set_option linter.unusedVariables false
set_option maxRecDepth 100000
set_option maxHeartbeats 8000000
set_option linter.unusedSectionVars false
namespace Go.Proofs.YtppebcifiejplaaGreat
section
open Abs Facts Tr Go.RowKit
namespace Abs
theorem zez : ∀ (vs a b : List D) (off : Nat), z11 (a ++ b) (a.length + off) vs = a ++ z11 b off vs
 | [], a, b, off => rfl
 | v :: vs, a, b, off => by
  unfold z11
  rw [List.set_append_right _ _ (by omega), show a.length + off - a.length = off from by omega, Nat.add_assoc, zez vs a (b.set off v) (off + 1)]
section
variable {α : Type} {f : α -> List D} {sz : Nat}
theorem zmz (h : ∀ x, (f x).length = sz) : ∀ l : List α, (l.flatMap f).length = l.length * sz
 | [] => by simp
 | x :: l => by rw [List.flatMap_cons, List.length_append, h, zmz h l, List.length_cons, Nat.add_mul]; omega
theorem z1n : ∀ (vs cs : List D), vs.length = cs.length -> z11 cs 0 vs = vs := by
 intro vs cs h
 rw [z73 vs cs 0 (by omega)]
 simp [<- h]
end
variable {P : Program}
theorem z35 {α : Type} {P : Program} {H : HM} {id e sz n : Nat} {f : α -> List D} {l : List α} (k : Nat) (hn : l.length = n) (hH : H id = some (.row e n (l.flatMap f))) (ha : z0f P e = true) (hs : z08 P e = sz) (h : ∀ x, (f x).length = sz) (hp : ∀ x, pureD.pureL (f x) = true) :
  z39 P H (k + 2) (.osl id n) = some (.rsl false sz (l.map fun x => .agg (f x))) := by
 subst hn
 exact z22 k hH ha hs h hp
theorem zp4 {st : St} {b off : Nat} {e : TypeId} {cs : List D} (e' : TypeId) (hb : st.H b = some (.box e cs)) (hoff : cs[off]? = some .nil) :
  SealTo P st { st with H := z1z (z1z st.H st.nx (some (.row e' 0 []))) b (some (.box e (cs.set off (.osl st.nx 0)))), nx := st.nx + 1 } := by
 intro N s a w hf
 have hHb : s.H b = some (.box e cs) := by rw [hf.H]; exact hb
 have hne : b ≠ s.nx := by have := (hf.heap.obj b _ hHb).1; omega
 obtain ⟨g1, g2⟩ := z6x hf.heap (Grew.refl w) (.row e' 0 []) (.slice none 0 0) (fun b hb => by cases hb) ⟨[], ⟨by simp, .inl ⟨rfl, rfl⟩⟩, z0u, by intro v hv; cases hv⟩
 have hb2 : (s.add (.slice none 0 0) (.row e' 0 [])).H b = some (.box e cs) := by simp [RS.add, z1z, hne, hHb]
 obtain ⟨_, q2⟩ := g2.obj b _ hb2
 obtain ⟨g3, g4⟩ := za4 (w' := w) g2 b _ (.box e (cs.set off (.osl s.nx 0))) ((s.add (.slice none 0 0) (.row e' 0 [])).κ b) hb2 rfl rfl rfl (Nat.le_refl _) (fun _ _ _ => rfl) (.inr ⟨_, rfl, rfl⟩) (fun b hb => .inl hb) (fun hl => by
  obtain ⟨b', vs, u1, u2, u3, u4⟩ := q2
  refine ⟨b', vs, u1, u2, ?_, u4⟩
  have hlen := z0b u3
  refine z55 (by rw [List.length_set]; exact hlen) fun i d v hd hv => ?_
  rw [List.getElem?_set] at hd
  split at hd
  ·rename_i hio
   subst hio
   split at hd
   ·cases hd
    obtain ⟨v', hv', hr⟩ := z29 u3 _ _ hoff
    rw [hv'] at hv
    cases hv
    simp only [rel] at hr ⊢
    subst hr
    refine ⟨by simp [RS.set, RS.add], ⟨_, _, rfl⟩, fun e2 k cs hH => ⟨Nat.zero_le _, fun _ => ?_⟩⟩
    simp only [RS.set, RS.add]
    rw [if_neg (fun h => hne h.symm)]
    simp
   ·cases hd
  ·obtain ⟨v', hv', hr⟩ := z29 u3 _ _ hd
   rw [hv'] at hv
   cases hv
   exact rel.later hl _ _ hr)
 refine ⟨_, ⟨?_, ?_, hf.size, hf.defers, fun i => rel.later (g1.trans g3).later _ _ (hf.tmps i), g4⟩, g1.trans g3⟩
 ·simp only [RS.set, RS.add, hf.H, hf.nx]
 ·simp only [RS.set, RS.add, hf.nx]
theorem z01 {N id : Nat} {l : List Oper} {b : Code} {own : List Nat} {Q : Exit -> St -> Prop} {st : St} (_hid : (id == N) = false) (h : ∀ K : St -> Prop, (∀ st, awp P own b Q st -> K st) -> z2s P own (l.map (·.dst)) l K st) : awp P own (.seq (.region id l.toArray false) b) Q st := zqh h
theorem z1a {N id : Nat} {l : List Oper} {b : Code} {own : List Nat} {Q : Exit -> St -> Prop} {st : St} (_hid : (id == N) = false) (h0 : zgb own l.toArray = true) (h : ∀ K : St -> Prop, (∀ st, awp P own b Q st -> K st) -> z3e P own (l.map (·.dst)) l K st) : awp P own (.seq (.region id l.toArray true) b) Q st := zqe h0 h
end Abs
end
section
open Abs Facts Tr
attribute [local irreducible] awp
namespace Tr
def zfs (w : Wd) : Wd := ⟨w.text, Idv.zero⟩
def z6p (t : T) : T := zca (fun t l => .mk Idv.zero t.kind t.label (t.head.map zfs) (t.words.map zfs) l) t
theorem zki (t : T) : z6p t = .mk Idv.zero t.kind t.label (t.head.map zfs) (t.words.map zfs) (t.kids.map z6p) := by unfold z6p; rw [z2r]
theorem zx4 : ∀ t : T, szB t = true -> szB (z6p t) = true := by
 refine z3u fun t ih h => ?_
 obtain ⟨h0, h1, h2, h3, h4, h5, h6⟩ := (z1l t).1 h
 rw [zki, z1l]
 refine ⟨h0, (show (t.head.map zfs).length <= _ by simpa using h1), fun w hw => ?_, (show (t.words.map zfs).length <= _ by simpa using h3), fun w hw => ?_, (show (t.kids.map z6p).length <= _ by simpa using h5), fun k hk => ?_⟩
 ·obtain ⟨x, hx, rfl⟩ := List.mem_map.1 hw; exact h2 x hx
 ·obtain ⟨x, hx, rfl⟩ := List.mem_map.1 hw; exact h4 x hx
 ·obtain ⟨x, hx, rfl⟩ := List.mem_map.1 hk; exact ih x hx (h6 x hx)
end Tr
theorem zuc : ∀ t : T, szB t = true -> PC Tryz.prog 56 [z17 t] (z17 (z6p t)) := by
 refine z3u fun t ih hs => ?_
 obtain ⟨h0, h1, g1, h2, g2, h3, h4⟩ := (z1l t).1 hs
 have b1 : PC Tryz.prog 79 [z0q t.head] (z0q (t.head.map zfs)) := zna t.head h1
 have b2 : PC Tryz.prog 79 [z0q t.words] (z0q (t.words.map zfs)) := zna t.words h2
 rw [zki]
 refine z1y 4 (by simp only [pureD.pureL, z05, Bool.and_self]) (z05 _) (z1w [3000006, 3000008, 3000010, 5000011, 3000013, 5000014] Tryz.func56 rfl (by decide +kernel) z0j (by decide +kernel) (by simp [Tryz.ntmps56]) ?_)
 show awp _ _ (Code.seq _ _) _ _
 rw [show Tryz.f56.results.toList = [.cell 2 27] from rfl]
 repeat' (first | refine zqj ?_ | ((first | refine z01 (N := 2) rfl fun K J => ?_ | refine z1a (N := 2) rfl (by decide +kernel) fun K J => ?_ | refine zqt (b1) ?_ | refine zqt (b2) ?_); (simp (disch := omega) only [go_sem, Nat.reduceBEq, Nat.reduceEqDiff, ↓reduceIte, reduceCtorEq, Nat.reduceAdd, Nat.reduceLeDiff, z0q])) | (refine J _ ?_; clear J K))
 refine z5a fun K J => ?_
 (simp (disch := omega) only [go_sem])
 refine J _ _ (zp4 (b := 2) (off := 7) (e := 27) 27 (by (simp (disch := omega) only [go_sem, Nat.reduceBEq]); rfl) rfl) ?_
 clear J K
 repeat' (refine zqa ?_)
 (refine z37 (fun U st => ∃ (i : _), U = t.kids.length - i /\ st.t 1 = .ptr 0 0 /\ st.t 2 = .ptr 1 0 /\ st.t 3 = .ptr 2 0 /\ st.t 4 = .int .i64 i /\ st.H 0 = some (.box 27 (z06 t)) /\ st.H 1 = some (.box 27 [.int .i64 0, .int .i64 0, .int .i64 0, .int .i64 0, .str ByteArray.empty, .nil, .nil, .nil]) /\ st.H 2 = some (.box 27 [.int .i64 0, .int .i64 0, .int .i64 0, .int .i64 t.kind, .str t.label, z0q (t.head.map zfs), z0q (t.words.map zfs), .osl 3 i]) /\ st.H 3 = some (.row 27 i (((t.kids.take i).map z6p).flatMap z06)) /\ (i <= t.kids.length) /\ (4 <= st.nx)) ?_ ?_); rotate_left; (rintro U st ⟨i, rfl, q1, q2, q3, q4, qH0, qH1, qH2, qH3, qp0, qp1⟩); rotate_left
 ·(refine ⟨_, 0, rfl, ?_⟩); (simp (disch := omega) only [go_sem, Nat.reduceBEq, Nat.reduceAdd, Nat.reduceLeDiff, and_self, Int.natCast_zero, List.flatMap_nil, List.map_nil, z0q, List.set_cons_succ, List.set_cons_zero])
 by_cases hi : i < t.kids.length
 ·have hin := ih t.kids[i] (List.getElem_mem hi) (h4 _ (List.getElem_mem hi))
  have htk := List.take_succ_eq_append_getElem hi
  repeat' (first | refine zqj ?_ | ((first | refine zqh fun K J => ?_ | refine zqr fun K J => ?_ | refine zqq (by decide +kernel) fun K J => ?_ | refine zqt (hin) ?_); (simp (disch := omega) only [go_sem, Nat.reduceBEq, Nat.reduceEqDiff, ↓reduceIte, reduceCtorEq, Nat.reduceAdd, Nat.reduceMul, Nat.reduceLeDiff, Nat.reduceLT, q1, q3, q4, qH0, qH2, qH3, z0e])) | ((refine zqd _ rfl (fun hc => ?_) (fun hc => ?_)) <;> (((try simp only [z03] at hc); (try (exfalso; omega))))) | refine zqa ?_ | refine zqb ?_ | refine zqv ?_ | refine zqy ?_ | (refine J _ ?_; clear J K))
  (refine Exists.intro _ (And.intro ?_ ⟨i + 1, rfl, ?_⟩)); rotate_left; (simp (disch := omega) only [go_sem, Nat.reduceBEq, q1, q2, q3, q4, qH0, qH1, qH2, qH3, true_and, Int.natCast_add, Int.natCast_one, List.flatMap_append, List.flatMap_cons, List.flatMap_nil, List.map_append, List.map_cons, List.map_nil, List.append_nil, htk]); rotate_left
  ·omega
  ·omega
 ·repeat' (first | refine zqj ?_ | ((refine zqh fun K J => ?_); (simp (disch := omega) only [go_sem, Nat.reduceBEq, ↓reduceIte, reduceCtorEq, Nat.reduceAdd, Nat.reduceLeDiff, q1, q2, q3, q4, qH0, qH1, qH2, z0e])) | ((refine zqd _ rfl (fun hc => ?_) (fun hc => ?_)) <;> (((try simp only [z03] at hc); (try (exfalso; omega))))) | refine zqc ?_ | refine zqn ?_ | refine zqv ?_ | refine zqz ?_ | refine zqp ?_ | refine zqu (by (simp (disch := omega) only [go_sem, Nat.reduceBEq, ↓reduceIte, Nat.reduceAdd, Nat.reduceLeDiff, q2, qH1]); rfl) rfl ?_ | (refine J _ ?_; clear J K))
  have hi2 : i = t.kids.length := by omega
  subst hi2
  rw [List.take_length] at qH3
  rw [z17, z10]
  have hlen : t.kids.length = (t.kids.map z6p).length := by simp
  refine z4h (zeg (k := 3) (by simp [pureD.pureL, pureD]) ?_)
  refine z0o (z0p 2 rfl) (z0o (z0p 2 rfl) (z0o (z0p 2 rfl) (z0o (z0p 2 rfl) (z0o (z0p 2 rfl) (z0o (z0p 2 (z0x _)) (z0o (z0p 2 (z0x _)) (z0o ?_ z6j)))))))
  rw [hlen]
  refine z22 (f := z06) (l := t.kids.map z6p) 1 ?_ z5m z7c z0m z0d
  (simp (disch := omega) only [go_sem, Nat.reduceBEq, qH3])
theorem pc_Bare (t : T) (hs : szB t = true) (hc : cntT t <= 1000000000) (hd : depT t <= 1000000000) : PC Tryz.prog 26 [z17 t] (.bool (z71 t && decide (t = z6p t))) := by
 have h1 := zxd t hs hc hd
 have h2 := zuc t hs
 have h3 := zlp t hs (z6p t) (zx4 t hs)
 refine z1y 1 (by simp only [pureD.pureL, z05, Bool.and_self]) rfl (z1w [] Tryz.func26 rfl (by decide +kernel) z0j (by decide +kernel) (by simp [Tryz.ntmps26]) ?_)
 show awp _ _ (Code.seq _ _) _ _
 repeat' (first | ((first | refine zqh fun K J => ?_ | refine zqe (by decide +kernel) fun K J => ?_ | refine zqt (h1) ?_ | refine zqt (h2) ?_ | refine zqt (h3) ?_); (simp (disch := omega) only [go_sem, Nat.reduceBEq, ↓reduceIte, Nat.reduceAdd, Nat.reduceLeDiff])) | refine zqn ?_ | refine zqu (by (simp (disch := omega) only [go_sem]); rfl) rfl ?_ | (refine J _ ?_; clear J K) | (refine zqf (fun hb => ?_) (fun hb => ?_) <;> (have hb2 := hb; try simp only [z03] at hb2) <;> ((have F : (_ : Bool) = _ := hb2); (simp (disch := omega) only [go_sem, Nat.reduceBEq, ↓reduceIte, Nat.reduceAdd, Nat.reduceLeDiff, hb]); clear hb F; (try (exfalso; omega)))))
 all_goals refine z00 ?_
 all_goals (simp (disch := omega) only [Bool.true_and, Bool.false_and, *])
namespace Tr
end Tr
end
section
open Abs Facts Tr
namespace Tr
structure Stp where
 kind : Int
 label : ByteArray
instance : DecidableEq Stp := fun a b => decidable_of_iff (a.kind = b.kind /\ a.label = b.label) ⟨fun ⟨h1, h2⟩ => by cases a; cases b; simp_all, fun h => by subst h; exact ⟨rfl, rfl⟩⟩
inductive It where
 | mk (kind : Int) (at_ to : List Stp) (wh nth : Int) (unit : T) (old new : List ByteArray) (label for_ : ByteArray) (sk sd : Int) (se : ByteArray) (act item day : Int) (event : ByteArray) (by_ : List It)
namespace It
def kind : It -> Int | .mk k _ _ _ _ _ _ _ _ _ _ _ _ _ _ _ _ _ => k
def at_ : It -> List Stp | .mk _ a _ _ _ _ _ _ _ _ _ _ _ _ _ _ _ _ => a
def to : It -> List Stp | .mk _ _ a _ _ _ _ _ _ _ _ _ _ _ _ _ _ _ => a
def wh : It -> Int | .mk _ _ _ a _ _ _ _ _ _ _ _ _ _ _ _ _ _ => a
def nth : It -> Int | .mk _ _ _ _ a _ _ _ _ _ _ _ _ _ _ _ _ _ => a
def unit : It -> T | .mk _ _ _ _ _ a _ _ _ _ _ _ _ _ _ _ _ _ => a
def old : It -> List ByteArray | .mk _ _ _ _ _ _ a _ _ _ _ _ _ _ _ _ _ _ => a
def new : It -> List ByteArray | .mk _ _ _ _ _ _ _ a _ _ _ _ _ _ _ _ _ _ => a
def label : It -> ByteArray | .mk _ _ _ _ _ _ _ _ a _ _ _ _ _ _ _ _ _ => a
def for_ : It -> ByteArray | .mk _ _ _ _ _ _ _ _ _ a _ _ _ _ _ _ _ _ => a
def sk : It -> Int | .mk _ _ _ _ _ _ _ _ _ _ a _ _ _ _ _ _ _ => a
def sd : It -> Int | .mk _ _ _ _ _ _ _ _ _ _ _ a _ _ _ _ _ _ => a
def se : It -> ByteArray | .mk _ _ _ _ _ _ _ _ _ _ _ _ a _ _ _ _ _ => a
def act : It -> Int | .mk _ _ _ _ _ _ _ _ _ _ _ _ _ a _ _ _ _ => a
def item : It -> Int | .mk _ _ _ _ _ _ _ _ _ _ _ _ _ _ a _ _ _ => a
def day : It -> Int | .mk _ _ _ _ _ _ _ _ _ _ _ _ _ _ _ a _ _ => a
def event : It -> ByteArray | .mk _ _ _ _ _ _ _ _ _ _ _ _ _ _ _ _ a _ => a
def by_ : It -> List It | .mk _ _ _ _ _ _ _ _ _ _ _ _ _ _ _ _ _ a => a
end It
mutual
theorem zlt {p : It -> Prop} (h : ∀ t, (∀ k ∈ t.by_, p k) -> p t) : ∀ t, p t
 | .mk a0 a1 a2 a3 a4 a5 a6 a7 a8 a9 a10 a11 a12 a13 a14 a15 a16 ks => h (.mk a0 a1 a2 a3 a4 a5 a6 a7 a8 a9 a10 a11 a12 a13 a14 a15 a16 ks) (ind2I h ks)
theorem ind2I {p : It -> Prop} (h : ∀ t, (∀ k ∈ t.by_, p k) -> p t) : ∀ (ks : List It), ∀ k ∈ ks, p k
 | [], k, hk => by cases hk
 | t :: ts, k, hk => by
  rcases List.mem_cons.1 hk with e | hk
  ·rw [e]; exact zlt h t
  ·exact ind2I h ts k hk
end
mutual
def ztz {β : Type} (f : It -> List β -> β) : It -> β
 | .mk a0 a1 a2 a3 a4 a5 a6 a7 a8 a9 a10 a11 a12 a13 a14 a15 a16 ks => f (.mk a0 a1 a2 a3 a4 a5 a6 a7 a8 a9 a10 a11 a12 a13 a14 a15 a16 ks) (zwt f ks)
def zwt {β : Type} (f : It -> List β -> β) : List It -> List β
 | [] => []
 | t :: ts => ztz f t :: zwt f ts
end
theorem zne {β : Type} (f : It -> List β -> β) : ∀ ks, zwt f ks = ks.map (ztz f)
 | [] => rfl
 | t :: ts => by simp [zwt, zne f ts]
theorem zc4 {β : Type} (f : It -> List β -> β) (t : It) : ztz f t = f t (t.by_.map (ztz f)) := by
 cases t
 rw [ztz, zne]; rfl
end Tr
namespace Abs
open Tr
def z3x (s : Stp) : List D := [.int .i64 s.kind, .str s.label]
def z77 (s : Stp) : D := .agg (z3x s)
def z0a (l : List Stp) : D := .rsl false 2 (l.map z77)
@[go_sem] theorem encSt_agg (s : Stp) : z77 s = .agg [.int .i64 s.kind, .str s.label] := rfl
theorem z0r (l : List Stp) : pureD (z0a l) = true := by simp only [z0a, pureD]; exact z1r (fun _ => rfl) l
@[go_sem] theorem zzx (l : List Stp) : pureD.pureL (l.map z77) = true := z1r (fun _ => rfl) l
def znf (x : It) (ks : List (List D)) : List D := .int .i64 x.kind :: z0a x.at_ :: z0a x.to :: .int .i64 x.wh :: .int .i64 x.nth :: (z06 x.unit ++ [z3i x.old, z3i x.new, .str x.label, .str x.for_, .int .i64 x.sk, .int .i64 x.sd, .str x.se, .int .i64 x.act, .int .i64 x.item, .int .i64 x.day, .str x.event, .rsl false 25 (ks.map .agg)])
def z0i (x : It) : List D := ztz znf x
def zc5 (x : It) : D := .agg (z0i x)
def z3l (l : List It) : D := .rsl false 25 (l.map zc5)
theorem zfc (x : It) : z0i x = .int .i64 x.kind :: z0a x.at_ :: z0a x.to :: .int .i64 x.wh :: .int .i64 x.nth :: (z06 x.unit ++ [z3i x.old, z3i x.new, .str x.label, .str x.for_, .int .i64 x.sk, .int .i64 x.sd, .str x.se, .int .i64 x.act, .int .i64 x.item, .int .i64 x.day, .str x.event, z3l x.by_]) := by
 unfold z0i
 rw [zc4, znf, List.map_map]; rfl
theorem z0g (x : It) : z0i x = [.int .i64 x.kind, z0a x.at_, z0a x.to, .int .i64 x.wh, .int .i64 x.nth, .int .i64 x.unit.id.act, .int .i64 x.unit.id.item, .int .i64 x.unit.id.n, .int .i64 x.unit.kind, .str x.unit.label, z0q x.unit.head, z0q x.unit.words, z0e x.unit.kids,
  z3i x.old, z3i x.new, .str x.label, .str x.for_, .int .i64 x.sk, .int .i64 x.sd, .str x.se, .int .i64 x.act, .int .i64 x.item, .int .i64 x.day, .str x.event, z3l x.by_] := by
 rw [zfc, z10]; rfl
@[go_sem] theorem encIt_agg (x : It) : zc5 x = .agg (z0i x) := rfl
@[go_sem] theorem z9x (x : It) : (z0i x).length = 25 := by rw [z0g]; rfl
@[go_sem] theorem zka (x : It) : (z0i x)[0]? = some (.int .i64 x.kind) := by rw [z0g]; rfl
@[go_sem] theorem zpg (x : It) : (z0i x)[1]? = some (z0a x.at_) := by rw [z0g]; rfl
@[go_sem] theorem zph (x : It) : (z0i x)[2]? = some (z0a x.to) := by rw [z0g]; rfl
@[go_sem] theorem zpi (x : It) : (z0i x)[3]? = some (.int .i64 x.wh) := by rw [z0g]; rfl
@[go_sem] theorem zlu (x : It) : (z0i x)[4]? = some (.int .i64 x.nth) := by rw [z0g]; rfl
@[go_sem] theorem zlv (x : It) : (z0i x)[13]? = some (z3i x.old) := by rw [z0g]; rfl
@[go_sem] theorem zlw (x : It) : (z0i x)[14]? = some (z3i x.new) := by rw [z0g]; rfl
@[go_sem] theorem zhx (x : It) : (z0i x)[15]? = some (.str x.label) := by rw [z0g]; rfl
@[go_sem] theorem zlx (x : It) : (z0i x)[16]? = some (.str x.for_) := by rw [z0g]; rfl
@[go_sem] theorem zpj (x : It) : (z0i x)[17]? = some (.int .i64 x.sk) := by rw [z0g]; rfl
@[go_sem] theorem zpk (x : It) : (z0i x)[18]? = some (.int .i64 x.sd) := by rw [z0g]; rfl
@[go_sem] theorem zpl (x : It) : (z0i x)[19]? = some (.str x.se) := by rw [z0g]; rfl
@[go_sem] theorem zly (x : It) : (z0i x)[20]? = some (.int .i64 x.act) := by rw [z0g]; rfl
@[go_sem] theorem zkb (x : It) : (z0i x)[21]? = some (.int .i64 x.item) := by rw [z0g]; rfl
@[go_sem] theorem zlz (x : It) : (z0i x)[22]? = some (.int .i64 x.day) := by rw [z0g]; rfl
@[go_sem] theorem zhy (x : It) : (z0i x)[23]? = some (.str x.event) := by rw [z0g]; rfl
@[go_sem] theorem zpm (x : It) : (z0i x)[24]? = some (z3l x.by_) := by rw [z0g]; rfl
@[go_sem] theorem zkc (x : It) : List.take 8 (List.drop 5 (z0i x)) = z06 x.unit := by rw [z0g, z10]; rfl
@[go_sem] theorem zwu (x : It) : List.take 3 (List.drop 17 (z0i x)) = [.int .i64 x.sk, .int .i64 x.sd, .str x.se] := by rw [z0g]; rfl
@[go_sem] theorem zkd (x : It) : List.take 25 (z0i x) = z0i x := List.take_of_length_le (by rw [z9x]; decide)
theorem z90 : ∀ x, pureD.pureL (z0i x) = true := by
 refine zlt fun x ih => ?_
 rw [z0g]
 have hk : pureD (z3l x.by_) = true := by
  simp only [z3l, pureD]
  generalize x.by_ = l at ih ⊢
  induction l with
  | nil => rfl
  | cons t l ih2 =>
   simp only [List.map_cons, pureD.pureL, Bool.and_eq_true]
   exact ⟨by simpa only [zc5, pureD] using ih t (by simp), ih2 fun k hk => ih k (List.mem_cons_of_mem _ hk)⟩
 simp only [pureD.pureL, pureD, z0r, z0x, z1e, z2v, hk, Bool.and_self]
theorem z48 (x : It) : pureD (zc5 x) = true := z90 x
theorem zm0 (l : List It) : pureD (z3l l) = true := by simp only [z3l, pureD]; exact z1r z48 l
attribute [go_sem] z90
end Abs
namespace Tr
structure EIt where
 act : Int
 item : Int
 day : Int
 it : It
end Tr
namespace Abs
def z0k (d : EIt) : List D := .int .i64 d.act :: .int .i64 d.item :: .int .i64 d.day :: z0i d.it
def zm1 (d : EIt) : D := .agg (z0k d)
@[go_sem] theorem encEi_agg (d : EIt) : zm1 d = .agg (z0k d) := rfl
@[go_sem] theorem zfr (d : EIt) : (z0k d).length = 28 := by unfold z0k; simp only [List.length_cons, z9x]
@[go_sem] theorem zzy (d : EIt) : (z0k d)[0]? = some (.int .i64 d.act) := rfl
@[go_sem] theorem zxm (d : EIt) : (z0k d)[1]? = some (.int .i64 d.item) := rfl
@[go_sem] theorem cellsEi_it (d : EIt) : List.take 25 (List.drop 3 (z0k d)) = z0i d.it := by
 show List.take 25 (z0i d.it) = _
 rw [zkd]
@[go_sem] theorem zxn (d : EIt) : List.take 28 (z0k d) = z0k d := List.take_of_length_le (by rw [zfr]; decide)
theorem zcs (d : EIt) : pureD.pureL (z0k d) = true := by unfold z0k; simp only [pureD.pureL, pureD, z90, Bool.and_self]
theorem zbd (d : EIt) : pureD (zm1 d) = true := zcs d
attribute [go_sem] zcs
@[go_sem] theorem zwv (d : EIt) : (z0k d)[3]? = some (.int .i64 d.it.kind) := by unfold z0k; simp only [List.getElem?_cons_succ, zka]
@[go_sem] theorem zzz (d : EIt) : (z0k d)[4]? = some (z0a d.it.at_) := by unfold z0k; simp only [List.getElem?_cons_succ, zpg]
@[go_sem] theorem z000 (d : EIt) : (z0k d)[5]? = some (z0a d.it.to) := by unfold z0k; simp only [List.getElem?_cons_succ, zph]
@[go_sem] theorem z001 (d : EIt) : (z0k d)[6]? = some (.int .i64 d.it.wh) := by unfold z0k; simp only [List.getElem?_cons_succ, zpi]
@[go_sem] theorem zxo (d : EIt) : (z0k d)[7]? = some (.int .i64 d.it.nth) := by unfold z0k; simp only [List.getElem?_cons_succ, zlu]
@[go_sem] theorem zxp (d : EIt) : (z0k d)[16]? = some (z3i d.it.old) := by unfold z0k; simp only [List.getElem?_cons_succ, zlv]
@[go_sem] theorem zxq (d : EIt) : (z0k d)[17]? = some (z3i d.it.new) := by unfold z0k; simp only [List.getElem?_cons_succ, zlw]
@[go_sem] theorem zuj (d : EIt) : (z0k d)[18]? = some (.str d.it.label) := by unfold z0k; simp only [List.getElem?_cons_succ, zhx]
@[go_sem] theorem zxr (d : EIt) : (z0k d)[19]? = some (.str d.it.for_) := by unfold z0k; simp only [List.getElem?_cons_succ, zlx]
@[go_sem] theorem z002 (d : EIt) : (z0k d)[20]? = some (.int .i64 d.it.sk) := by unfold z0k; simp only [List.getElem?_cons_succ, zpj]
@[go_sem] theorem z003 (d : EIt) : (z0k d)[21]? = some (.int .i64 d.it.sd) := by unfold z0k; simp only [List.getElem?_cons_succ, zpk]
@[go_sem] theorem z004 (d : EIt) : (z0k d)[22]? = some (.str d.it.se) := by unfold z0k; simp only [List.getElem?_cons_succ, zpl]
@[go_sem] theorem zxs (d : EIt) : (z0k d)[23]? = some (.int .i64 d.it.act) := by unfold z0k; simp only [List.getElem?_cons_succ, zly]
@[go_sem] theorem zww (d : EIt) : (z0k d)[24]? = some (.int .i64 d.it.item) := by unfold z0k; simp only [List.getElem?_cons_succ, zkb]
@[go_sem] theorem zxt (d : EIt) : (z0k d)[25]? = some (.int .i64 d.it.day) := by unfold z0k; simp only [List.getElem?_cons_succ, zlz]
@[go_sem] theorem zuk (d : EIt) : (z0k d)[26]? = some (.str d.it.event) := by unfold z0k; simp only [List.getElem?_cons_succ, zhy]
@[go_sem] theorem z005 (d : EIt) : (z0k d)[27]? = some (z3l d.it.by_) := by unfold z0k; simp only [List.getElem?_cons_succ, zpm]
@[go_sem] theorem zxu (d : EIt) : List.take 8 (List.drop 8 (z0k d)) = z06 d.it.unit := by
 show List.take 8 (List.drop 5 (z0i d.it)) = _
 rw [zkc]
end Abs
end
section
open Abs Facts Tr
attribute [local irreducible] awp
namespace Tr
end Tr
namespace Abs
end Abs
namespace Tr
theorem zfv (deep most : Int) : ∀ (l : List T), (∀ k ∈ l, ∀ (d m : Int), 0 <= m -> 1 <= z3o k d m) -> ∀ n : Int, n <= z3d deep most (l.map z3o) n
 | [], _, n => by simp [z3d]
 | k :: l, h, n => by
  simp only [List.map_cons, z3d]
  split
  ·have h1 := h k (by simp) (deep + 1) (most - n) (by omega)
   have h2 := zfv deep most l (fun q hq => h q (List.mem_cons_of_mem _ hq)) (n + z3o k (deep + 1) (most - n))
   omega
  ·omega
theorem zdj (deep most : Int) : ∀ (l : List T), (∀ k ∈ l, ∀ (m : Int), 0 <= m -> z3o k (deep + 1) m <= m -> (cntT k : Int) = z3o k (deep + 1) m /\ deep + 1 + depT k <= 20) -> ∀ n : Int, z3d deep most (l.map z3o) n <= most ->
  ((l.flatMap z09).length : Int) + n = z3d deep most (l.map z3o) n /\ ∀ k ∈ l, deep + 1 + depT k <= 20
 | [], _, n, _ => by simp [z3d]
 | k :: l, h, n, hn => by
  simp only [List.map_cons, z3d] at hn ⊢
  split at hn
  ·rename_i hle
   rw [if_pos hle]
   have hm := zfv deep most l (fun q _ d m hm => (z6h q d m hm).1) (n + z3o k (deep + 1) (most - n))
   obtain ⟨h1, h2⟩ := h k (by simp) (most - n) (by omega) (by omega)
   obtain ⟨h3, h4⟩ := zdj deep most l (fun q hq => h q (List.mem_cons_of_mem _ hq)) _ hn
   refine ⟨?_, fun q hq => ?_⟩
   ·rw [List.flatMap_cons, List.length_append]
    have : (z09 k).length = cntT k := rfl
    omega
   ·rcases List.mem_cons.1 hq with rfl | hq
    ·exact h2
    ·exact h4 q hq
  ·omega
theorem znq (l : List T) (d : Int) (b : Int) (hb : d <= b) (h : ∀ k ∈ l, d + 1 + depT k <= b) : ∀ a : Nat, d + a <= b -> d + ((l.map depT).foldl (fun d x => max d (1 + x)) a : Nat) <= b := by
 induction l with
 | nil => intro a ha; simpa using ha
 | cons k l ih =>
  intro a ha
  rw [List.map_cons, List.foldl_cons]
  have := h k (by simp)
  exact ih (fun q hq => h q (List.mem_cons_of_mem _ hq)) _ (by omega)
theorem zko : ∀ t : T, ∀ (deep most : Int), 0 <= most -> z3o t deep most <= most -> (cntT t : Int) = z3o t deep most /\ deep + depT t <= 20 := by
 refine z3u fun t ih deep most hm h => ?_
 rw [zh9] at h ⊢
 split at h
 ·omega
 ·rename_i hd
  rw [if_neg hd]
  obtain ⟨h1, h2⟩ := zdj deep most t.kids (fun k hk m hm h => ih k hk (deep + 1) m hm h) 1 h
  refine ⟨?_, ?_⟩
  ·rw [z3w]; omega
  ·rw [z42]
   exact znq t.kids deep 20 (by omega) h2 0 (by omega)
theorem zuy (t : T) : t.kids.length <= cntT t := by
 rw [z3w]
 have : ∀ l : List T, l.length <= (l.flatMap z09).length := by
  intro l
  induction l with
  | nil => simp
  | cons k l ih =>
   rw [List.flatMap_cons, List.length_append, List.length_cons]
   have := zh6 k
   unfold cntT at this
   omega
 have := this t.kids
 omega
theorem zq9 (l : List Wd) : z89 l = true ↔ (∀ w ∈ l, w.text.size <= 100) /\ l.length <= 300 := by
 unfold z89
 simp only [Bool.and_eq_true, List.all_eq_true, decide_eq_true_eq]
theorem zuz : ∀ t : T, zdq t = true -> cntT t <= 1000000 -> szB t = true := by
 refine z3u fun t ih h hc => ?_
 rw [zik] at h
 simp only [Bool.and_eq_true, decide_eq_true_eq, List.all_eq_true, zq9] at h
 obtain ⟨h1, ⟨h2, h3⟩, ⟨h4, h5⟩, h6⟩ := h
 rw [z1l]
 have hk := zuy t
 refine ⟨by omega, by omega, fun w hw => ?_, by omega, fun w hw => ?_, by omega, fun k hk => ih k hk (h6 k hk) ?_⟩
 ·have := h2 w hw; omega
 ·have := h4 w hw; omega
 ·have := z88 hk; omega
theorem zql {t : T} {most : Int} (h0 : 0 <= most) (h1 : most <= 1000) (h : zvi t most = true) : szB t = true /\ (cntT t : Int) <= most /\ depT t <= 20 := by
 unfold zvi at h
 simp only [Bool.and_eq_true, decide_eq_true_eq] at h
 obtain ⟨g1, g2⟩ := zko t 0 most h0 h.1
 exact ⟨zuz t h.2 (by omega), by omega, by omega⟩
end Tr
namespace Tr
theorem zyp : szB T.zero = true := by decide +kernel
theorem zbk (id : Idv) (t : T) (hs : szB t = true) : szB (z07 id t).1 = true := by
 by_cases h : z1d id t = []
 ·rw [z9h h]; exact zyp
 ·unfold z07
  rw [zd5 _ h]
  exact z7d t hs _ (z9y id t _ (List.getElem_mem _))
theorem zv9 (id : Idv) (t : T) : (z5f id t).length <= depT t := by
 have h1 := z50 id t
 have h3 : (z5f id t).length = (z1d id t).length - 1 := by unfold z5f; simp
 omega
end Tr
end
section
open Abs Facts Tr
namespace Tr
theorem z4x (id : Idv) : ∀ t : T, z1d id t = [] ↔ id ∉ z0c t := by
 refine z3u fun t ih => ?_
 rw [z1g, List.mem_cons, List.mem_flatMap]
 by_cases h0 : t.id = id
 ·rw [z2w h0]; simp [h0]
 ·rw [z8y, if_neg h0]
  constructor
  ·intro h hm
   rcases hm with hm | ⟨k, hk, hm⟩
   ·exact h0 hm.symm
   ·have hne : z1d id k ≠ [] := fun e => (ih k hk).1 e hm
    split at h
    ·cases h
    ·rename_i hf
     have := List.find?_eq_none.1 hf (z1d id k) (List.mem_map.2 ⟨k, hk, rfl⟩)
     simp at this
     exact hne this
  ·intro hm
   have : (t.kids.map (z1d id)).find? (fun w => !w.isEmpty) = none := by
    rw [List.find?_eq_none]
    intro w hw
    obtain ⟨k, hk, rfl⟩ := List.mem_map.1 hw
    have := (ih k hk).2 fun h => hm (.inr ⟨k, hk, h⟩)
    rw [this]; simp
   rw [this]
theorem z3g {id : Idv} {t : T} : z1d id t ≠ [] ↔ id ∈ z0c t := by
 rw [ne_eq, z4x, Classical.not_not]
theorem z5d {id : Idv} {t : T} (h0 : ¬ t.id = id) (h : z1d id t ≠ []) : ∃ i, ∃ hi : i < t.kids.length, (∀ j, (hj : j < i) -> (h : j < t.kids.length) -> z1d id t.kids[j] = []) /\ z1d id t.kids[i] ≠ [] /\ z1d id t = t :: z1d id t.kids[i] := by
 have hex : ∃ i, ∃ hi : i < t.kids.length, z1d id t.kids[i] ≠ [] := by
  rcases Classical.em (∃ i, ∃ hi : i < t.kids.length, z1d id t.kids[i] ≠ []) with h1 | h1
  ·exact h1
  ·exfalso
   refine h (z6c h0 (Nat.le_refl _) fun j _ hj => ?_)
   rcases Classical.em (z1d id t.kids[j] = []) with h2 | h2
   ·exact h2
   ·exact (h1 ⟨j, hj, h2⟩).elim
 let p : Nat -> Prop := fun i => ∃ hi : i < t.kids.length, z1d id t.kids[i] ≠ []
 obtain ⟨i, hi, hmin⟩ : ∃ i, p i /\ ∀ j, j < i -> ¬ p j := by
  obtain ⟨i, hi⟩ := hex
  induction i using Nat.strongRecOn with
  | ind i ih =>
   rcases Classical.em (∃ j, j < i /\ p j) with ⟨j, hj, hp⟩ | h2
   ·exact ih j hj hp
   ·exact ⟨i, hi, fun j hj hp => h2 ⟨j, hj, hp⟩⟩
 obtain ⟨hl, hw⟩ := hi
 have h1 : ∀ j, (hj : j < i) -> (h : j < t.kids.length) -> z1d id t.kids[j] = [] := fun j hj h => by
  rcases Classical.em (z1d id t.kids[j] = []) with h2 | h2
  ·exact h2
  ·exact (hmin j hj ⟨h, h2⟩).elim
 exact ⟨i, hl, h1, hw, z3f h0 hl h1 hw⟩
theorem z9i {t : T} (h : (z0c t).Nodup) : (∀ k ∈ t.kids, t.id ∉ z0c k) /\ (∀ k ∈ t.kids, (z0c k).Nodup) /\ ∀ i j, (hi : i < t.kids.length) -> (hj : j < t.kids.length) -> i ≠ j -> ∀ x ∈ z0c t.kids[i], x ∉ z0c t.kids[j] := by
 rw [z1g, List.nodup_cons] at h
 obtain ⟨h1, h2⟩ := h
 refine ⟨fun k hk hm => h1 (List.mem_flatMap.2 ⟨k, hk, hm⟩), fun k hk => ?_, fun i j hi hj hij x hx hx2 => ?_⟩
 ·exact (List.pairwise_flatMap.1 h2).1 k hk
 ·have hp := (List.pairwise_flatMap.1 h2).2
  rw [List.pairwise_iff_getElem] at hp
  rcases Nat.lt_or_gt_of_ne hij with h3 | h3
  ·exact hp i j hi hj h3 x hx x hx2 rfl
  ·exact hp j i hj hi h3 x hx2 x hx rfl
end Tr
end
section
open Abs Facts Tr
namespace Tr
def T.setKids (t : T) (l : List T) : T := .mk t.id t.kind t.label t.head t.words l
theorem z6n (t : T) : t.setKids t.kids = t := T.eta t
inductive Ctx where
 | hole
 | node (t : T) (l : List T) (c : Ctx) (r : List T)
def z2e : Ctx -> T -> T
 | .hole, x => x
 | .node t l c r, x => t.setKids (l ++ z2e c x :: r)
def z70 : Ctx -> List Idv
 | .hole => []
 | .node t l c _ => t.id :: (l.flatMap z0c ++ z70 c)
def z4k : Ctx -> List Idv
 | .hole => []
 | .node _ _ c r => z4k c ++ r.flatMap z0c
def zp5 : Ctx -> Nat
 | .hole => 0
 | .node _ _ c _ => zp5 c + 1
def depC : Ctx -> Nat
 | .hole => 0
 | .node _ l c r => max (z9n ((l ++ r).map depT)) (1 + depC c)
def zgp : Ctx -> List Idv
 | .hole => []
 | .node t _ c _ => zgp c ++ [t.id]
theorem zjy : ∀ C, (zgp C).length = zp5 C
 | .hole => rfl
 | .node t l c r => by simp [zgp, zp5, zjy c]
theorem z2t (x : T) : ∀ C, z0c (z2e C x) = z70 C ++ (z0c x ++ z4k C)
 | .hole => by simp [z2e, z70, z4k]
 | .node t l c r => by
  rw [z2e, z1g]
  show t.id :: (l ++ z2e c x :: r).flatMap z0c = _
  rw [List.flatMap_append, List.flatMap_cons, z2t x c, z70, z4k]
  simp only [List.cons_append, List.append_assoc]
theorem z6o (C : Ctx) (x : T) : cntT (z2e C x) = (z70 C).length + cntT x + (z4k C).length := by
 rw [<- z6g, z2t, List.length_append, List.length_append, z6g]; omega
theorem zjz (l : List Nat) : ∀ a : Nat, l.foldl (fun d x => max d (1 + x)) a = max a (z9n l) := by
 unfold z9n
 induction l with
 | nil => intro a; simp
 | cons y l ih =>
  intro a
  rw [List.foldl_cons, List.foldl_cons, ih, ih (max 0 (1 + y))]; omega
theorem z4w (l r : List Nat) : z9n (l ++ r) = max (z9n l) (z9n r) := by
 conv => lhs; unfold z9n
 rw [List.foldl_append, zjz r]; rfl
theorem z75 (a : Nat) (l : List Nat) : z9n (a :: l) = max (1 + a) (z9n l) := by
 conv => lhs; unfold z9n
 rw [List.foldl_cons, zjz l]; omega
theorem zdf (x : T) : ∀ C, depT (z2e C x) = max (depC C) (zp5 C + depT x)
 | .hole => by simp [z2e, depC, zp5]
 | .node t l c r => by
  rw [z2e, z42]
  show z9n ((l ++ z2e c x :: r).map depT) = _
  rw [List.map_append, List.map_cons, z4w, z75, zdf x c, depC, zp5, List.map_append, z4w]
  omega
def keyC : Ctx -> Int × ByteArray -> Int × ByteArray
 | .hole, k => k
 | .node t _ _ _, _ => z60 t
theorem zwi (C : Ctx) (x : T) : z60 (z2e C x) = keyC C (z60 x) := by cases C <;> rfl
def ctxR : Ctx -> Int × ByteArray -> Prop
 | .hole, _ => True
 | .node t l c r, k => (z4b (t.setKids (l ++ t :: r)) = true /\ (∀ y ∈ l ++ r, z20 t.kind y.kind = true /\ z2x y = true) /\ z20 t.kind (keyC c k).1 = true /\ ((l ++ r).map z60).Nodup /\ keyC c k ∉ (l ++ r).map z60) /\ ctxR c k
theorem zp6 (t : T) {l m : List T} (h : l.length = m.length) : z4b (t.setKids l) = z4b (t.setKids m) := by
 unfold z4b
 show (_ && (decide (l.length <= 64) && _)) = (_ && (decide (m.length <= 64) && _))
 rw [h]; rfl
theorem ztb {α : Type} (l r : List α) (a : α) : (l ++ a :: r).Nodup ↔ (l ++ r).Nodup /\ a ∉ l ++ r := by
 rw [List.perm_middle.nodup_iff, List.nodup_cons]; exact And.comm
theorem zf0 (t p : T) (l r : List T) : z2x (t.setKids (l ++ p :: r)) = true ↔
  (z4b (t.setKids (l ++ t :: r)) = true /\ (∀ y ∈ l ++ r, z20 t.kind y.kind = true /\ z2x y = true) /\ z20 t.kind p.kind = true /\ ((l ++ r).map z60).Nodup /\ z60 p ∉ (l ++ r).map z60) /\ z2x p = true := by
 have hk : ((l ++ p :: r).map z60).Nodup ↔ ((l ++ r).map z60).Nodup /\ z60 p ∉ (l ++ r).map z60 := by
  rw [List.map_append, List.map_cons, ztb, List.map_append]
 rw [z53]
 show (z4b (t.setKids (l ++ p :: r)) && (((l ++ p :: r).all fun k => z20 t.kind k.kind) && ((l ++ p :: r).all z2x && decide (((l ++ p :: r).map z60).Nodup)))) = true ↔ _
 rw [zp6 t (l := l ++ p :: r) (m := l ++ t :: r) (by simp)]
 simp only [Bool.and_eq_true, decide_eq_true_eq, List.all_eq_true, hk]
 constructor
 ·rintro ⟨h1, h2, h3, h4, h5⟩
  refine ⟨⟨h1, fun y hy => ?_, h2 p (by simp), h4, h5⟩, h3 p (by simp)⟩
  have : y ∈ l ++ p :: r := by
   rcases List.mem_append.1 hy with h | h
   ·exact List.mem_append_left _ h
   ·exact List.mem_append_right _ (List.mem_cons_of_mem _ h)
  exact ⟨h2 y this, h3 y this⟩
 ·rintro ⟨⟨h1, h2, h3, h4, h5⟩, h6⟩
  have hm : ∀ y ∈ l ++ p :: r, y = p \/ y ∈ l ++ r := fun y hy => by
   rcases List.mem_append.1 hy with h | h
   ·exact .inr (List.mem_append_left _ h)
   ·rcases List.mem_cons.1 h with h | h
    ·exact .inl h
    ·exact .inr (List.mem_append_right _ h)
  refine ⟨h1, fun y hy => ?_, fun y hy => ?_, h4, h5⟩
  ·rcases hm y hy with rfl | h
   ·exact h3
   ·exact (h2 y h).1
  ·rcases hm y hy with rfl | h
   ·exact h6
   ·exact (h2 y h).2
theorem z76 (x : T) : ∀ C, z2x (z2e C x) = true ↔ ctxR C (z60 x) /\ z2x x = true
 | .hole => by simp [z2e, ctxR]
 | .node t l c r => by
  rw [z2e, zf0, z76 x c, ctxR, <- zwi]
  exact (and_assoc).symm
theorem zf1 {id : Idv} {l r : List T} {p : T} : id ∈ (l ++ p :: r).flatMap z0c ↔ id ∈ l.flatMap z0c \/ id ∈ z0c p \/ id ∈ r.flatMap z0c := by
 rw [List.flatMap_append, List.flatMap_cons, List.mem_append, List.mem_append]
theorem zk0 (l r : List T) (p : T) : ∃ h : l.length < (l ++ p :: r).length, (l ++ p :: r)[l.length] = p := ⟨by simp, by simp⟩
theorem z9f {id : Idv} {l : List T} (h : id ∉ l.flatMap z0c) (p : T) (r : List T) : ∀ j, (hj : j < l.length) -> (hl : j < (l ++ p :: r).length) -> z1d id (l ++ p :: r)[j] = [] := fun j hj hl => by
 rw [List.getElem_append_left hj, z4x]
 exact fun hm => h (List.mem_flatMap.2 ⟨_, List.getElem_mem hj, hm⟩)
section
variable {id : Idv} {t p : T} {l r : List T}
theorem zzo (h0 : ¬ t.id = id) (hl : id ∉ l.flatMap z0c) (hp : id ∈ z0c p) : z1d id (t.setKids (l ++ p :: r)) = t.setKids (l ++ p :: r) :: z1d id p := by
 obtain ⟨h1, h2⟩ := zk0 l r p
 have := z3f (id := id) (t := t.setKids (l ++ p :: r)) (i := l.length) h0 h1 (z9f hl p r) (by
  show z1d id (l ++ p :: r)[l.length] ≠ []
  rw [h2]; exact z3g.2 hp)
 refine this.trans ?_
 show _ :: z1d id (l ++ p :: r)[l.length] = _
 rw [h2]
theorem zhq (h0 : ¬ t.id = id) (hl : id ∉ l.flatMap z0c) (hp : id ∈ z0c p) : z07 id (t.setKids (l ++ p :: r)) = z07 id p :=
 z2n (zzo h0 hl hp) (z3g.2 hp)
theorem ztc (h0 : ¬ t.id = id) (hl : id ∉ l.flatMap z0c) (hp : id ∈ z0c p) : z5f id (t.setKids (l ++ p :: r)) = z5f id p ++ [t.id] := by
 obtain ⟨h1, h2⟩ := zk0 l r p
 have := znc (id := id) (t := t.setKids (l ++ p :: r)) (i := l.length) h0 h1 (z9f hl p r) (by
  show z1d id (l ++ p :: r)[l.length] ≠ []
  rw [h2]; exact z3g.2 hp)
 refine this.trans ?_
 show z5f id (l ++ p :: r)[l.length] ++ _ = _
 rw [h2]; rfl
theorem zn0 (h0 : ¬ t.id = id) (hl : id ∉ l.flatMap z0c) (hp : p.id = id) : z2u id (t.setKids (l ++ p :: r)) = (t.id, (l.length : Int), true) := by
 obtain ⟨h1, h2⟩ := zk0 l r p
 exact zf9 (id := id) (t := t.setKids (l ++ p :: r)) (i := l.length) h0 h1 (z9f hl p r) (by
  show (l ++ p :: r)[l.length].id = id
  rw [h2]; exact hp)
theorem zzp (h0 : ¬ t.id = id) (hl : id ∉ l.flatMap z0c) (hp : ¬ p.id = id) (hm : id ∈ z0c p) : z2u id (t.setKids (l ++ p :: r)) = z2u id p := by
 obtain ⟨h1, h2⟩ := zk0 l r p
 have := zlq (id := id) (t := t.setKids (l ++ p :: r)) (i := l.length) h0 h1 (z9f hl p r) (by
  show ¬ (l ++ p :: r)[l.length].id = id
  rw [h2]; exact hp) (by
  show z1d id (l ++ p :: r)[l.length] ≠ []
  rw [h2]; exact z3g.2 hm)
 refine this.trans ?_
 show z2u id (l ++ p :: r)[l.length] = _
 rw [h2]
end
theorem z16 (x : T) : x.id ∈ z0c x := by rw [z1g]; exact List.mem_cons_self
theorem z3q {id : Idv} {t : T} {l r : List T} {c : Ctx} (h : id ∉ z70 (.node t l c r)) : ¬ t.id = id /\ id ∉ l.flatMap z0c /\ id ∉ z70 c := by
 rw [z70, List.mem_cons, List.mem_append] at h
 exact ⟨fun e => h (.inl e.symm), fun e => h (.inr (.inl e)), fun e => h (.inr (.inr e))⟩
theorem zf2 {id : Idv} {t : T} {l r : List T} {c : Ctx} (h : id ∉ z4k (.node t l c r)) : id ∉ z4k c /\ id ∉ r.flatMap z0c := by
 rw [z4k, List.mem_append] at h
 exact ⟨fun e => h (.inl e), fun e => h (.inr e)⟩
theorem z7v {id : Idv} (C : Ctx) {x : T} (h : id ∈ z0c x) : id ∈ z0c (z2e C x) := by
 rw [z2t]; exact List.mem_append_right _ (List.mem_append_left _ h)
theorem z5b {id : Idv} {x : T} (hx : id ∈ z0c x) : ∀ C, id ∉ z70 C -> z07 id (z2e C x) = z07 id x
 | .hole, _ => rfl
 | .node t l c r, h => by
  obtain ⟨h1, h2, h3⟩ := z3q h
  rw [z2e, zhq h1 h2 (z7v c hx), z5b hx c h3]
theorem zn1 {id : Idv} {x : T} (hx : id ∈ z0c x) : ∀ C, id ∉ z70 C -> z5f id (z2e C x) = z5f id x ++ zgp C
 | .hole, _ => by simp [z2e, zgp]
 | .node t l c r, h => by
  obtain ⟨h1, h2, h3⟩ := z3q h
  rw [z2e, ztc h1 h2 (z7v c hx), zn1 hx c h3, zgp, List.append_assoc]
theorem zhr {id : Idv} {x : T} (hx : id ∈ z0c x) (hn : ¬ x.id = id) : ∀ C, id ∉ z70 C -> z2u id (z2e C x) = z2u id x
 | .hole, _ => rfl
 | .node t l c r, h => by
  obtain ⟨h1, h2, h3⟩ := z3q h
  have h4 : ¬ (z2e c x).id = id := by
   cases c with
   | hole => exact hn
   | node t' l' c' r' => exact (z3q h3).1
  rw [z2e, zzp h1 h2 h4 (z7v c hx), zhr hx hn c h3]
theorem focus (id : Idv) : ∀ u : T, id ∈ z0c u -> ∃ C, u = z2e C (z07 id u).1 /\ (z07 id u).1.id = id /\ id ∉ z70 C /\ (z07 id u).2 = true := by
 refine z3u fun u ih hm => ?_
 by_cases h0 : u.id = id
 ·rw [z1o h0]
  exact ⟨.hole, rfl, h0, by simp [z70], rfl⟩
 ·obtain ⟨i, hi, h1, h2, h3⟩ := z5d h0 (z3g.2 hm)
  rw [z2n h3 h2]
  obtain ⟨C, g1, g2, g3, g4⟩ := ih _ (List.getElem_mem hi) (z3g.1 h2)
  refine ⟨.node u (u.kids.take i) C (u.kids.drop (i + 1)), ?_, g2, ?_, g4⟩
  ·rw [z2e, <- g1, <- List.drop_eq_getElem_cons hi, List.take_append_drop, z6n]
  ·rw [z70, List.mem_cons, List.mem_append]
   rintro (h | h | h)
   ·exact h0 h.symm
   ·obtain ⟨k, hk, hki⟩ := List.mem_flatMap.1 h
    obtain ⟨j, hj, rfl⟩ := List.getElem_of_mem hk
    rw [List.getElem_take] at hki
    rw [List.length_take] at hj
    have := h1 j (by omega) (by omega)
    rw [z4x] at this
    exact this hki
   ·exact g3 h
theorem ztd {id : Idv} {u : T} (h : id ∉ z0c u) : z07 id u = (T.zero, false) := z9h ((z4x id u).2 h)
theorem z36 {id : Idv} {u : T} : (z07 id u).2 = decide (id ∈ z0c u) := by
 by_cases h : id ∈ z0c u
 ·obtain ⟨_, _, _, _, h4⟩ := focus id u h
  rw [h4, decide_eq_true h]
 ·rw [ztd h, decide_eq_false h]
theorem zn2 {id : Idv} {u : T} (h0 : ¬ u.id = id) (hm : id ∈ z0c u) : ∃ (C : Ctx) (q : T) (l : List T) (x : T) (r : List T), u = z2e C (q.setKids (l ++ x :: r)) /\ x.id = id /\ ¬ q.id = id /\ id ∉ z70 C /\ id ∉ l.flatMap z0c /\ z07 id u = (x, true) /\ z2u id u = (q.id, (l.length : Int), true) := by
 obtain ⟨C, h1, h2, h3, h4⟩ := focus id u hm
 -- the last frame of C
 have last : ∀ C : Ctx, ∀ x : T, ¬ (z2e C x).id = id -> x.id = id -> id ∉ z70 C -> ∃ (C' : Ctx) (q : T) (l r : List T), z2e C x = z2e C' (q.setKids (l ++ x :: r)) /\ ¬ q.id = id /\ id ∉ z70 C' /\ id ∉ l.flatMap z0c := by
  intro C x
  induction C with
  | hole => intro h hx _; exact (h hx).elim
  | node t l c r ih =>
   intro h hx hn
   obtain ⟨n1, n2, n3⟩ := z3q hn
   by_cases hc : (z2e c x).id = id
   ·cases c with
    | hole => exact ⟨.hole, t, l, r, rfl, n1, by simp [z70], n2⟩
    | node t' l' c' r' => exact ((z3q n3).1 hc).elim
   ·obtain ⟨C', q, l', r', e, g1, g2, g3⟩ := ih hc hx n3
    refine ⟨.node t l C' r, q, l', r', ?_, g1, ?_, g3⟩
    ·rw [z2e, e, z2e]
    ·rw [z70, List.mem_cons, List.mem_append]
     rintro (h | h | h)
     ·exact n1 h.symm
     ·exact n2 h
     ·exact g2 h
 generalize hx : (z07 id u).1 = x at h1 h2
 obtain ⟨C', q, l, r, e, g1, g2, g3⟩ := last C x (by rw [<- h1]; exact h0) h2 h3
 refine ⟨C', q, l, x, r, h1.trans e, h2, g1, g2, g3, ?_, ?_⟩
 ·rw [<- hx, <- h4]
 ·rw [h1, e, zhr (x := q.setKids (l ++ x :: r)) (by rw [z1g, List.mem_cons]; exact .inr (zf1.2 (.inr (.inl (h2 ▸ z16 x))))) g1 C' g2, zn0 g1 g3 h2]
end Tr
end
section
open Abs Facts Tr
namespace Tr
def z2k (id : Idv) (f : T -> T) (t : T) : T := zca (fun t l => if t.id = id then f t else t.setKids l) t
theorem z9g (id : Idv) (f : T -> T) (t : T) : z2k id f t = if t.id = id then f t else t.setKids (t.kids.map (z2k id f)) := by
 unfold z2k; rw [z2r]
def atR (id : Idv) (f : T -> T) (t : T) : T × Bool := zca (fun t l => if t.id = id then (f t, true) else
 match l[z2h (fun q : T × Bool => q.2) l]? with
 | some q => (t.setKids (t.kids.set (z2h (fun q : T × Bool => q.2) l) q.1), true)
 | none => (t, false)) t
theorem zth (id : Idv) (f : T -> T) (t : T) : atR id f t = if t.id = id then (f t, true) else
  match (t.kids.map (atR id f))[z2h (fun q : T × Bool => q.2) (t.kids.map (atR id f))]? with
  | some q => (t.setKids (t.kids.set (z2h (fun q : T × Bool => q.2) (t.kids.map (atR id f))) q.1), true)
  | none => (t, false) := by
 unfold atR; rw [z2r]
theorem zwl {id : Idv} {f : T -> T} {t : T} (h : t.id = id) : atR id f t = (f t, true) := by rw [zth, if_pos h]
theorem zzr {id : Idv} {f : T -> T} {t : T} {i : Nat} (h0 : ¬ t.id = id) (hi : i < t.kids.length) (h1 : ∀ j, (hj : j < i) -> (h : j < t.kids.length) -> (atR id f t.kids[j]).2 = false) (h2 : (atR id f t.kids[i]).2 = true) :
  atR id f t = (t.setKids (t.kids.set i (atR id f t.kids[i]).1), true) := by
 have hf : z2h (fun q : T × Bool => q.2) (t.kids.map (atR id f)) = i := z41 (by rw [List.length_map]; omega) (fun j hj => by rw [List.getElem_map]; exact h1 j hj (by omega)) (fun h => by rw [List.getElem_map]; exact h2)
 rw [zth, if_neg h0, hf, List.getElem?_eq_getElem (by rw [List.length_map]; exact hi), List.getElem_map]
theorem zwm {id : Idv} {f : T -> T} {t : T} (h0 : ¬ t.id = id) (h1 : ∀ j, (h : j < t.kids.length) -> (atR id f t.kids[j]).2 = false) : atR id f t = (t, false) := by
 have hf : z2h (fun q : T × Bool => q.2) (t.kids.map (atR id f)) = t.kids.length := z41 (by rw [List.length_map]; omega) (fun j hj => by rw [List.getElem_map]; exact h1 j hj) (fun h => by rw [List.length_map] at h; omega)
 rw [zth, if_neg h0, hf, List.getElem?_eq_none (by rw [List.length_map]; omega)]
theorem at_no {id : Idv} (f : T -> T) : ∀ t : T, id ∉ z0c t -> atR id f t = (t, false) := by
 refine z3u fun t ih h => ?_
 rw [z1g, List.mem_cons] at h
 refine zwm (fun e => h (.inl e.symm)) fun j hj => ?_
 rw [ih _ (List.getElem_mem hj) fun hm => h (.inr (List.mem_flatMap.2 ⟨_, List.getElem_mem hj, hm⟩))]
theorem zln {id : Idv} (f : T -> T) {q : T} (hq : q.id = id) : ∀ C, id ∉ z70 C -> atR id f (z2e C q) = (z2e C (f q), true)
 | .hole, _ => zwl hq
 | .node t l c r, h => by
  obtain ⟨h1, h2, h3⟩ := z3q h
  obtain ⟨k1, k2⟩ := zk0 l r (z2e c q)
  have ih := zln f hq c h3
  have hk : (t.setKids (l ++ z2e c q :: r)).kids[l.length]'k1 = z2e c q := k2
  rw [z2e, zzr (t := t.setKids (l ++ z2e c q :: r)) (i := l.length) h1 k1 (fun j hj hl' => by
   have hl : j < (l ++ z2e c q :: r).length := hl'
   show (atR id f ((l ++ z2e c q :: r)[j]'hl)).2 = false
   rw [List.getElem_append_left hj, at_no f _ fun hm => h2 (List.mem_flatMap.2 ⟨_, List.getElem_mem hj, hm⟩)]) (by rw [hk, ih]), hk, ih, z2e]
  show (t.setKids ((l ++ z2e c q :: r).set l.length (z2e c (f q))), true) = _
  rw [List.set_append_right _ _ (Nat.le_refl _), Nat.sub_self, List.set_cons_zero]
theorem zzs {id : Idv} (f : T -> T) : ∀ t : T, id ∉ z0c t -> z2k id f t = t := by
 refine z3u fun t ih h => ?_
 rw [z1g, List.mem_cons] at h
 rw [z9g, if_neg fun e => h (.inl e.symm)]
 have : t.kids.map (z2k id f) = t.kids := by
  conv => rhs; rw [<- List.map_id t.kids]
  exact List.map_congr_left fun k hk => ih k hk fun hm => h (.inr (List.mem_flatMap.2 ⟨_, hk, hm⟩))
 rw [this, z6n]
theorem zn4 {id : Idv} (f : T -> T) {l : List T} (h : id ∉ l.flatMap z0c) : l.map (z2k id f) = l := by
 conv => rhs; rw [<- List.map_id l]
 exact List.map_congr_left fun k hk => zzs f k fun hm => h (List.mem_flatMap.2 ⟨_, hk, hm⟩)
theorem z6b {id : Idv} (f : T -> T) {q : T} (hq : q.id = id) : ∀ C, id ∉ z70 C -> id ∉ z4k C -> z2k id f (z2e C q) = z2e C (f q)
 | .hole, _, _ => by rw [z2e, z2e, z9g, if_pos hq]
 | .node t l c r, h, h' => by
  obtain ⟨h1, h2, h3⟩ := z3q h
  obtain ⟨h4, h5⟩ := zf2 h'
  rw [z2e, z9g, if_neg (show ¬ (t.setKids _).id = id from h1), z2e]
  show t.setKids ((l ++ z2e c q :: r).map (z2k id f)) = _
  rw [List.map_append, List.map_cons, z6b f hq c h3 h4, zn4 f h2, zn4 f h5]
def z6z (id : Idv) (k : T) : Bool := decide (k.id ≠ id)
theorem z8x {id : Idv} {k : T} (h : ¬ k.id = id) : z6z id k = true := decide_eq_true h
theorem zzt {id : Idv} {k : T} (h : k.id = id) : z6z id k = false := decide_eq_false fun g => g h
def z0h (id : Idv) (t : T) : T := zca (fun t l => t.setKids (((t.kids.zip l).filter fun p => z6z id p.1).map (·.2))) t
theorem zc1 (p : T -> Bool) (g : T -> T) : ∀ l : List T, ((l.zip (l.map g)).filter fun q => p q.1).map (·.2) = (l.filter p).map g
 | [] => rfl
 | x :: l => by
  rw [List.map_cons, List.zip_cons_cons, List.filter_cons, List.filter_cons]
  show (if p x = true then _ else _ : List (T × T)).map (·.2) = _
  split
  ·rw [List.map_cons, List.map_cons, zc1 p g l]
  ·rw [zc1 p g l]
theorem z3r (id : Idv) (t : T) : z0h id t = t.setKids ((t.kids.filter (z6z id)).map (z0h id)) := by
 conv => lhs; unfold z0h; rw [z2r]
 show t.setKids (((t.kids.zip (t.kids.map (z0h id))).filter fun p => z6z id p.1).map (·.2)) = _
 rw [zc1 (z6z id) (z0h id)]
theorem zti {id : Idv} : ∀ t : T, (∀ k ∈ t.kids, id ∉ z0c k) -> z0h id t = t := by
 refine z3u fun t ih h => ?_
 rw [z3r]
 have h1 : t.kids.filter (z6z id) = t.kids := List.filter_eq_self.2 fun k hk => z8x fun e => h k hk (e ▸ z16 k)
 have h2 : t.kids.map (z0h id) = t.kids := by
  conv => rhs; rw [<- List.map_id t.kids]
  exact List.map_congr_left fun k hk => ih k hk fun k' hk' hm => h k hk (by rw [z1g]; exact List.mem_cons_of_mem _ (List.mem_flatMap.2 ⟨_, hk', hm⟩))
 rw [h1, h2, z6n]
theorem zdh {id : Idv} {l : List T} (h : id ∉ l.flatMap z0c) : (l.filter (z6z id)).map (z0h id) = l := by
 have h1 : l.filter (z6z id) = l := List.filter_eq_self.2 fun k hk => z8x fun e => h (List.mem_flatMap.2 ⟨_, hk, e ▸ z16 k⟩)
 rw [h1]
 conv => rhs; rw [<- List.map_id l]
 refine List.map_congr_left fun k hk => zti k fun k' hk' hm => h (List.mem_flatMap.2 ⟨k, hk, ?_⟩)
 rw [z1g]; exact List.mem_cons_of_mem _ (List.mem_flatMap.2 ⟨_, hk', hm⟩)
theorem zk1 {id : Idv} {q x : T} {l r : List T} (hx : x.id = id) (hl : id ∉ l.flatMap z0c) (hr : id ∉ r.flatMap z0c) : z0h id (q.setKids (l ++ x :: r)) = q.setKids (l ++ r) := by
 rw [z3r]
 show q.setKids (((l ++ x :: r).filter (z6z id)).map (z0h id)) = _
 rw [List.filter_append, List.filter_cons, if_neg (by rw [zzt hx]; simp), List.map_append, zdh hl, zdh hr]
theorem zb6 {id : Idv} {q x : T} {l r : List T} (hq : ¬ q.id = id) (hx : x.id = id) (hl : id ∉ l.flatMap z0c) (hr : id ∉ r.flatMap z0c) : ∀ C, id ∉ z70 C -> id ∉ z4k C -> z0h id (z2e C (q.setKids (l ++ x :: r))) = z2e C (q.setKids (l ++ r))
 | .hole, _, _ => zk1 hx hl hr
 | .node t a c b, h, h' => by
  obtain ⟨h1, h2, h3⟩ := z3q h
  obtain ⟨h4, h5⟩ := zf2 h'
  have hc : ¬ (z2e c (q.setKids (l ++ x :: r))).id = id := by
   cases c with
   | hole => exact hq
   | node t' l' c' r' => exact (z3q h3).1
  rw [z2e, z3r]
  show t.setKids (((a ++ z2e c (q.setKids (l ++ x :: r)) :: b).filter (z6z id)).map (z0h id)) = _
  rw [List.filter_append, List.filter_cons, if_pos (z8x hc), List.map_append, List.map_cons, zdh h2, zdh h5, zb6 hq hx hl hr c h3 h4, z2e]
def z5l (i : Nat) (x : T) (p : T) : T := p.setKids (p.kids.take i ++ x :: p.kids.drop i)
def ztj (i : Nat) (p : T) : T := p.setKids (p.kids.eraseIdx i)
theorem zn5 (q x : T) (l r : List T) : z5l l.length x (q.setKids (l ++ r)) = q.setKids (l ++ x :: r) := by
 unfold z5l
 show q.setKids ((l ++ r).take l.length ++ x :: (l ++ r).drop l.length) = _
 rw [List.take_left, List.drop_left]
theorem zwn (q x : T) (l r : List T) : ztj l.length (q.setKids (l ++ x :: r)) = q.setKids (l ++ r) := by
 unfold ztj
 show q.setKids ((l ++ x :: r).eraseIdx l.length) = _
 rw [List.eraseIdx_append_of_length_le (Nat.le_refl _), Nat.sub_self, List.eraseIdx_cons_zero]
theorem z2m {C : Ctx} {x : T} (h : (z0c (z2e C x)).Nodup) {id : Idv} (hid : id ∈ z0c x) : id ∉ z70 C /\ id ∉ z4k C := by
 rw [z2t, List.nodup_append] at h
 obtain ⟨_, h2, h3⟩ := h
 rw [List.nodup_append] at h2
 exact ⟨fun hm => h3 id hm id (List.mem_append_left _ hid) rfl, fun hm => h2.2.2 id hid id hm rfl⟩
theorem zc2 {C : Ctx} {x : T} (h : (z0c (z2e C x)).Nodup) : (z0c x).Nodup := by
 rw [z2t, List.nodup_append] at h
 exact (List.nodup_append.1 h.2.1).1
theorem z2f (t : T) (l : List T) : z0c (t.setKids l) = t.id :: l.flatMap z0c := z1g _
theorem zf3 {q x : T} {l r : List T} (h : (z0c (q.setKids (l ++ x :: r))).Nodup) : (∀ i ∈ z0c x, i ≠ q.id /\ i ∉ l.flatMap z0c /\ i ∉ r.flatMap z0c) /\ (z0c x).Nodup /\ (z0c (q.setKids (l ++ r))).Nodup := by
 rw [z2f, List.flatMap_append, List.flatMap_cons] at h
 rw [z2f, List.flatMap_append]
 rw [List.nodup_cons, List.nodup_append, List.nodup_append] at h
 obtain ⟨h0, h1, ⟨h2, h3, h4⟩, h5⟩ := h
 refine ⟨fun i hi => ⟨fun e => h0 ?_, fun hm => h5 i hm i (List.mem_append_left _ hi) rfl, fun hm => h4 i hi i hm rfl⟩, h2, ?_⟩
 ·rw [<- e]; exact List.mem_append_right _ (List.mem_append_left _ hi)
 ·rw [List.nodup_cons, List.nodup_append]
  refine ⟨fun hm => h0 ?_, h1, h3, fun a ha b hb => h5 a ha b (List.mem_append_right _ hb)⟩
  rcases List.mem_append.1 hm with h | h
  ·exact List.mem_append_left _ h
  ·exact List.mem_append_right _ (List.mem_append_right _ h)
theorem ztk {id : Idv} (f : T -> T) {u : T} (hn : (z0c u).Nodup) (hm : id ∈ z0c u) : atR id f u = (z2k id f u, true) := by
 obtain ⟨C, h1, h2, h3, _⟩ := focus id u hm
 generalize (z07 id u).1 = x at h1 h2
 subst h1
 rw [zln f h2 C h3, z6b f h2 C h3 (z2m hn (h2 ▸ z16 x)).2]
theorem zzu {id : Idv} {u : T} (hn : (z0c u).Nodup) (h0 : ¬ u.id = id) (hm : id ∈ z0c u) : ∃ i : Nat, (z2u id u).2.1 = i /\ (z2u id u).2.2 = true /\ atR (z2u id u).1 (ztj i) u = (z0h id u, true) /\ (∃ q, z07 (z2u id u).1 u = (q, true) /\ i < q.kids.length /\ q ∈ z09 u) := by
 obtain ⟨C, q, l, x, r, e, hx, hq, n1, n2, hf, hp⟩ := zn2 h0 hm
 rw [hp]
 refine ⟨l.length, rfl, rfl, ?_⟩
 subst e
 obtain ⟨m1, m2⟩ := z2m hn (id := q.id) (by rw [z2f]; exact List.mem_cons_self)
 have hxm : id ∈ z0c (q.setKids (l ++ x :: r)) := by rw [z2f]; exact List.mem_cons_of_mem _ (zf1.2 (.inr (.inl (hx ▸ z16 x))))
 obtain ⟨k1, k2⟩ := z2m hn hxm
 have ns := (zf3 (zc2 hn)).1 id (hx ▸ z16 x)
 refine ⟨?_, q.setKids (l ++ x :: r), ?_, by show _ < (l ++ x :: r).length; simp, ?_⟩
 ·show atR q.id (ztj l.length) _ = _
  rw [zln (id := q.id) (ztj l.length) (q := q.setKids (l ++ x :: r)) rfl C m1, zwn, zb6 hq hx n2 ns.2.2 C k1 k2]
 ·rw [z5b (by rw [z2f]; exact List.mem_cons_self) C m1]; exact z1o rfl
 ·clear hf hp hn hm h0 n1 m1 m2 hxm k1 k2 ns
  induction C with
  | hole => exact z2b _
  | node t a c b ih => exact z3m (t := z2e (.node t a c b) _) (k := z2e c _) (by show _ ∈ a ++ _ :: b; simp) ih
end Tr
end
section
open Abs Facts Tr
attribute [local irreducible] awp
namespace Tr
def z45 (l : List T) (kind : Int) (name : ByteArray) : Bool := l.any fun k => decide (k.kind = kind) && decide (k.label = name)
def z0z (u : T) : Bool := z71 u && !((if u.kind = 0 then (z0c u).drop 1 else z0c u).any fun x => decide (x = Idv.zero))
end Tr
end
section
open Abs Facts Tr
namespace Tr
theorem nest0 (p : Int) : z20 p 0 = false := by
 by_cases h : 0 <= p /\ p < 8
 ·rcases zq2 h with rfl | rfl | rfl | rfl | rfl | rfl | rfl | rfl <;> decide
 ·exact if_neg h
def zjt (t : T) : Bool := zca (fun t l => (decide (t.kind = 0) || decide (t.id ≠ Idv.zero)) && l.all id) t
theorem zt6 (t : T) : zjt t = ((decide (t.kind = 0) || decide (t.id ≠ Idv.zero)) && t.kids.all zjt) := by
 unfold zjt; rw [z2r, List.all_map]; rfl
theorem z69 {t : T} (h : z2x t = true) : ∀ k ∈ t.kids, z20 t.kind k.kind = true /\ z2x k = true := fun k hk => by
 rw [z53] at h
 simp only [Bool.and_eq_true, List.all_eq_true] at h
 exact ⟨h.2.1 k hk, h.2.2.1 k hk⟩
theorem zt7 {t : T} (h : z2x t = true) : ∀ k ∈ t.kids, k.kind ≠ 0 := fun k hk e => by
 have := (z69 h k hk).1
 rw [e, nest0] at this; cases this
theorem zab : ∀ t : T, z2x t = true -> (zjt t = true ↔ (t.kind = 0 \/ t.id ≠ Idv.zero) /\ Idv.zero ∉ t.kids.flatMap z0c) := by
 refine z3u fun t ih h => ?_
 rw [zt6]
 simp only [Bool.and_eq_true, Bool.or_eq_true, decide_eq_true_eq, List.all_eq_true]
 refine and_congr_right fun _ => ?_
 constructor
 ·intro hk hm
  obtain ⟨k, hkm, hz⟩ := List.mem_flatMap.1 hm
  obtain ⟨g1, g2⟩ := (ih k hkm (z69 h k hkm).2).1 (hk k hkm)
  rw [z1g, List.mem_cons] at hz
  rcases hz with hz | hz
  ·rcases g1 with g1 | g1
   ·exact zt7 h k hkm g1
   ·exact g1 hz.symm
  ·exact g2 hz
 ·intro hz k hkm
  refine (ih k hkm (z69 h k hkm).2).2 ⟨.inr fun e => hz (List.mem_flatMap.2 ⟨k, hkm, e ▸ z16 k⟩), fun hm => hz (List.mem_flatMap.2 ⟨k, hkm, ?_⟩)⟩
  rw [z1g]; exact List.mem_cons_of_mem _ hm
theorem zwh (l : List Idv) : (l.any fun x => decide (x = Idv.zero)) = decide (Idv.zero ∈ l) := by
 rw [Bool.eq_iff_iff, List.any_eq_true, decide_eq_true_eq]
 constructor
 ·rintro ⟨x, hx, h⟩; rw [decide_eq_true_eq] at h; exact h ▸ hx
 ·exact fun h => ⟨_, h, decide_eq_true rfl⟩
theorem zmx (t : T) : (z0c t).drop 1 = t.kids.flatMap z0c := by rw [z1g]; rfl
theorem zju (t : T) : z0z t = (z71 t && zjt t) := by
 unfold z0z
 by_cases hv : z71 t = true
 ·have hr : z2x t = true := by unfold z71 at hv; simp only [Bool.and_eq_true] at hv; exact hv.1
  rw [hv, Bool.true_and, Bool.true_and, zwh, Bool.eq_iff_iff, zab t hr]
  simp only [Bool.not_eq_true', decide_eq_false_iff_not]
  by_cases h0 : t.kind = 0
  ·rw [if_pos h0, zmx]
   exact ⟨fun h => ⟨.inl h0, h⟩, fun h => h.2⟩
  ·rw [if_neg h0, z1g, List.mem_cons]
   exact ⟨fun h => ⟨.inr fun e => h (.inl e.symm), fun hm => h (.inr hm)⟩, fun ⟨h1, h2⟩ hm => by
    rcases hm with hm | hm
    ·rcases h1 with h1 | h1
     ·exact h0 h1
     ·exact h1 hm.symm
    ·exact h2 hm⟩
 ·rw [Bool.not_eq_true] at hv; rw [hv]; rfl
theorem z1f (t : T) : z0z t = true ↔ z2x t = true /\ depT t <= 8 /\ cntT t <= 1024 /\ (z0c t).Nodup /\ (t.id = Idv.zero ↔ t.kind = 0) /\ Idv.zero ∉ t.kids.flatMap z0c := by
 rw [zju, Bool.and_eq_true]
 unfold z71 zxb
 simp only [Bool.and_eq_true, decide_eq_true_eq, Bool.or_eq_true]
 constructor
 ·rintro ⟨⟨h1, h2, h3, h4⟩, h5⟩
  rw [zab t h1] at h5
  refine ⟨h1, h2, h3, ?_⟩
  rcases h4 with h4 | ⟨h4, h4'⟩
  ·have ha : ∀ i ∈ z0c t, i = Idv.zero := fun i hi => by simpa using List.all_eq_true.1 h4 i hi
   have h0 : t.id = Idv.zero := ha _ (z16 t)
   have hk : t.kind = 0 := by
    rcases h5.1 with h | h
    ·exact h
    ·exact (h h0).elim
   have hn : t.kids.flatMap z0c = [] := by
    cases hl : t.kids.flatMap z0c with
    | nil => rfl
    | cons i l =>
     exfalso
     refine h5.2 ?_
     have : i = Idv.zero := ha i (by rw [z1g, hl]; simp)
     rw [hl, this]; exact List.mem_cons_self
   rw [z1g, hn]
   exact ⟨by simp, ⟨fun _ => hk, fun _ => h0⟩, by simp⟩
  ·exact ⟨h4', h4, h5.2⟩
 ·rintro ⟨h1, h2, h3, h4, h5, h6⟩
  refine ⟨⟨h1, h2, h3, .inr ⟨h5, h4⟩⟩, (zab t h1).2 ⟨?_, h6⟩⟩
  by_cases h0 : t.kind = 0
  ·exact .inl h0
  ·exact .inr fun e => h0 (h5.1 e)
theorem zjv {t : T} (h : z4b t = true) {m : List T} (hm : m.length <= 64) : z4b (t.setKids m) = true := by
 unfold z4b at h ⊢
 simp only [Bool.and_eq_true, decide_eq_true_eq] at h ⊢
 exact ⟨h.1, hm, h.2.2⟩
theorem zex {t : T} (h : z2x t = true) : z4b t = true /\ t.kids.length <= 64 := by
 rw [z53] at h
 simp only [Bool.and_eq_true] at h
 refine ⟨h.1, ?_⟩
 have := h.1
 unfold z4b at this
 simp only [Bool.and_eq_true, decide_eq_true_eq] at this
 exact this.2.1
theorem zdd {l : List T} {x : T} : z45 l x.kind x.label = false ↔ z60 x ∉ l.map z60 := by
 unfold z45
 rw [List.any_eq_false]
 simp only [Bool.and_eq_true, decide_eq_true_eq, List.mem_map, not_exists, not_and]
 constructor
 ·intro h k hk e
  exact h k hk (congrArg Prod.fst e) (congrArg Prod.snd e)
 ·intro h k hk e1 e2
  exact h k hk (by unfold z60; rw [e1, e2])
theorem zt8 (q x : T) (l r : List T) : depT (q.setKids (l ++ x :: r)) = max (depT (q.setKids (l ++ r))) (1 + depT x) := by
 rw [z42, z42 (q.setKids (l ++ r))]
 show z9n ((l ++ x :: r).map depT) = max (z9n ((l ++ r).map depT)) _
 rw [List.map_append, List.map_cons, z4w, z75, List.map_append, z4w]; omega
theorem zho (q x : T) (l r : List T) : cntT (q.setKids (l ++ x :: r)) = cntT (q.setKids (l ++ r)) + cntT x := by
 rw [<- z6g, <- z6g, <- z6g, z2f, z2f, List.flatMap_append, List.flatMap_cons, List.flatMap_append]
 simp only [List.length_cons, List.length_append]; omega
theorem zjw (C : Ctx) {x y : T} (h1 : x.id = y.id) (h2 : x.kind = y.kind) : (z2e C x).id = (z2e C y).id /\ (z2e C x).kind = (z2e C y).kind := by
 cases C with
 | hole => exact ⟨h1, h2⟩
 | node t l c r => exact ⟨rfl, rfl⟩
theorem zde (C : Ctx) (x : T) : (z2e C x).kids.flatMap z0c = (z70 C ++ (z0c x ++ z4k C)).drop 1 := by rw [<- zmx, z2t]
theorem zp2 {C : Ctx} {q x : T} {l r : List T} (hu : z0z (z2e C (q.setKids (l ++ r))) = true) (hx : z0z x = true) (hk : x.kind ≠ 0) (hn : z20 q.kind x.kind = true) (ht : z45 (l ++ r) x.kind x.label = false)
  (h64 : (l ++ r).length < 64) (hd : zp5 C + 1 + depT x <= 8) (hc : cntT (z2e C (q.setKids (l ++ r))) + cntT x <= 1024) (hs : ∀ i ∈ z0c x, i ∉ z0c (z2e C (q.setKids (l ++ r)))) : z0z (z2e C (q.setKids (l ++ x :: r))) = true := by
 rw [z1f] at hu hx ⊢
 obtain ⟨u1, u2, u3, u4, u5, u6⟩ := hu
 obtain ⟨x1, x2, x3, x4, x5, x6⟩ := hx
 rw [z76] at u1
 obtain ⟨hr, hp⟩ := zjw C (x := q.setKids (l ++ x :: r)) (y := q.setKids (l ++ r)) rfl rfl
 have hids : z0c (q.setKids (l ++ x :: r)) = q.id :: (l.flatMap z0c ++ (z0c x ++ r.flatMap z0c)) := by rw [z2f, List.flatMap_append, List.flatMap_cons]
 have hids0 : z0c (q.setKids (l ++ r)) = q.id :: (l.flatMap z0c ++ r.flatMap z0c) := by rw [z2f, List.flatMap_append]
 refine ⟨?_, ?_, ?_, ?_, ?_, ?_⟩
 ·rw [z76]
  refine ⟨u1.1, ?_⟩
  obtain ⟨a1, _⟩ := zex u1.2
  have hkd := z69 u1.2
  have hnd : ((l ++ r).map z60).Nodup := by
   have := u1.2
   rw [z53] at this
   simp only [Bool.and_eq_true, decide_eq_true_eq] at this
   exact this.2.2.2
  rw [zf0]
  refine ⟨⟨?_, hkd, hn, hnd, zdd.1 ht⟩, x1⟩
  exact zjv (t := q.setKids (l ++ r)) a1 (m := l ++ q :: r) (by simp at h64 ⊢; omega)
 ·rw [zdf] at u2 ⊢
  rw [zt8]; omega
 ·rw [z6o] at u3 hc ⊢
  rw [zho]; omega
 ·rw [z2t, hids]
  rw [z2t, hids0] at u4 hs
  have hp : (z70 C ++ (q.id :: (l.flatMap z0c ++ (z0c x ++ r.flatMap z0c)) ++ z4k C)).Perm (z0c x ++ (z70 C ++ (q.id :: (l.flatMap z0c ++ r.flatMap z0c) ++ z4k C))) := by
   simp only [List.cons_append, List.append_assoc]
   have e1 : (z70 C ++ q.id :: (l.flatMap z0c ++ (z0c x ++ (r.flatMap z0c ++ z4k C)))) = (z70 C ++ q.id :: l.flatMap z0c) ++ (z0c x ++ (r.flatMap z0c ++ z4k C)) := by simp
   have e2 : (z70 C ++ q.id :: (l.flatMap z0c ++ (r.flatMap z0c ++ z4k C))) = (z70 C ++ q.id :: l.flatMap z0c) ++ (r.flatMap z0c ++ z4k C) := by simp
   rw [e1, e2]
   exact List.perm_append_comm_assoc _ _ _
  rw [hp.nodup_iff, List.nodup_append]
  exact ⟨x4, u4, fun a ha b hb e => hs a ha (e ▸ hb)⟩
 ·rw [hr, hp]; exact u5
 ·intro hm
  have hz : Idv.zero ∉ z0c x := by
   rw [z1g, List.mem_cons]
   rintro (h | h)
   ·exact hk (x5.1 h.symm)
   ·exact x6 h
  rw [zde, hids] at hm
  rw [zde, hids0] at u6
  cases hC : z70 C with
  | nil =>
   rw [hC] at hm u6
   simp only [List.nil_append, List.cons_append, List.drop_succ_cons, List.drop_zero, List.mem_append, List.append_assoc] at hm u6
   rcases hm with h | h | h | h
   ·exact u6 (.inl h)
   ·exact hz h
   ·exact u6 (.inr (.inl h))
   ·exact u6 (.inr (.inr h))
  | cons i p =>
   rw [hC] at hm u6
   simp only [List.cons_append, List.drop_succ_cons, List.drop_zero, List.mem_append, List.mem_cons, List.append_assoc] at hm u6
   rcases hm with h | h | h | h | h | h
   ·exact u6 (.inl h)
   ·exact u6 (.inr (.inl h))
   ·exact u6 (.inr (.inr (.inl h)))
   ·exact hz h
   ·exact u6 (.inr (.inr (.inr (.inl h))))
   ·exact u6 (.inr (.inr (.inr (.inr h))))
theorem zp3 {C : Ctx} {q x : T} {l r : List T} (hu : z0z (z2e C (q.setKids (l ++ x :: r))) = true) : z0z (z2e C (q.setKids (l ++ r))) = true /\ z0z x = true /\ x.kind ≠ 0 /\ z20 q.kind x.kind = true /\ z45 (l ++ r) x.kind x.label = false /\
  (l ++ r).length < 64 /\ zp5 C + 1 + depT x <= 8 /\ cntT (z2e C (q.setKids (l ++ r))) + cntT x <= 1024 /\ (∀ i ∈ z0c x, i ∉ z0c (z2e C (q.setKids (l ++ r)))) := by
 rw [z1f] at hu
 obtain ⟨u1, u2, u3, u4, u5, u6⟩ := hu
 rw [z76, zf0] at u1
 obtain ⟨uC, ⟨a1, a2, a3, a4, a5⟩, uX⟩ := u1
 obtain ⟨hr, hp⟩ := zjw C (x := q.setKids (l ++ x :: r)) (y := q.setKids (l ++ r)) rfl rfl
 have hids : z0c (q.setKids (l ++ x :: r)) = q.id :: (l.flatMap z0c ++ (z0c x ++ r.flatMap z0c)) := by rw [z2f, List.flatMap_append, List.flatMap_cons]
 have hids0 : z0c (q.setKids (l ++ r)) = q.id :: (l.flatMap z0c ++ r.flatMap z0c) := by rw [z2f, List.flatMap_append]
 rw [zdf, zt8] at u2
 rw [z6o, zho] at u3
 have h65 : (l ++ q :: r).length <= 64 := by
  have := a1
  unfold z4b at this
  simp only [Bool.and_eq_true, decide_eq_true_eq] at this
  exact this.2.1
 have hp2 : (z70 C ++ (q.id :: (l.flatMap z0c ++ (z0c x ++ r.flatMap z0c)) ++ z4k C)).Perm (z0c x ++ (z70 C ++ (q.id :: (l.flatMap z0c ++ r.flatMap z0c) ++ z4k C))) := by
  simp only [List.cons_append, List.append_assoc]
  have e1 : (z70 C ++ q.id :: (l.flatMap z0c ++ (z0c x ++ (r.flatMap z0c ++ z4k C)))) = (z70 C ++ q.id :: l.flatMap z0c) ++ (z0c x ++ (r.flatMap z0c ++ z4k C)) := by simp
  have e2 : (z70 C ++ q.id :: (l.flatMap z0c ++ (r.flatMap z0c ++ z4k C))) = (z70 C ++ q.id :: l.flatMap z0c) ++ (r.flatMap z0c ++ z4k C) := by simp
  rw [e1, e2]
  exact List.perm_append_comm_assoc _ _ _
 rw [z2t, hids, hp2.nodup_iff, List.nodup_append] at u4
 obtain ⟨n1, n2, n3⟩ := u4
 have hz6 : Idv.zero ∉ z0c x /\ Idv.zero ∉ (z70 C ++ (q.id :: (l.flatMap z0c ++ r.flatMap z0c) ++ z4k C)).drop 1 := by
  rw [zde, hids] at u6
  cases hC : z70 C with
  | nil =>
   rw [hC] at u6
   simp only [List.nil_append, List.cons_append, List.drop_succ_cons, List.drop_zero, List.mem_append, List.append_assoc] at u6 ⊢
   exact ⟨fun h => u6 (.inr (.inl h)), fun h => by
    rcases h with h | h | h
    ·exact u6 (.inl h)
    ·exact u6 (.inr (.inr (.inl h)))
    ·exact u6 (.inr (.inr (.inr h)))⟩
  | cons i p =>
   rw [hC] at u6
   simp only [List.cons_append, List.drop_succ_cons, List.drop_zero, List.mem_append, List.mem_cons, List.append_assoc] at u6 ⊢
   exact ⟨fun h => u6 (.inr (.inr (.inr (.inl h)))), fun h => by
    rcases h with h | h | h | h | h
    ·exact u6 (.inl h)
    ·exact u6 (.inr (.inl h))
    ·exact u6 (.inr (.inr (.inl h)))
    ·exact u6 (.inr (.inr (.inr (.inr (.inl h)))))
    ·exact u6 (.inr (.inr (.inr (.inr (.inr h)))))⟩
 have hk0 : x.kind ≠ 0 := fun e => by rw [e, nest0] at a3; cases a3
 refine ⟨?_, ?_, hk0, a3, zdd.2 a5, by simp at h65 ⊢; omega, by omega, by rw [z6o]; omega, fun i hi hm => ?_⟩
 ·rw [z1f]
  refine ⟨?_, by rw [zdf]; omega, by rw [z6o]; omega, ?_, by rw [<- hr, <- hp]; exact u5, ?_⟩
  ·rw [z76]
   refine ⟨uC, ?_⟩
   rw [z53]
   show (z4b (q.setKids (l ++ r)) && (((l ++ r).all fun k => z20 q.kind k.kind) && ((l ++ r).all z2x && decide (((l ++ r).map z60).Nodup)))) = true
   simp only [Bool.and_eq_true, List.all_eq_true, decide_eq_true_eq]
   exact ⟨zjv (t := q.setKids (l ++ q :: r)) a1 (m := l ++ r) (by simp at h65 ⊢; omega), fun y hy => (a2 y hy).1, fun y hy => (a2 y hy).2, a4⟩
  ·rw [z2t, hids0]; exact n2
  ·rw [zde, hids0]; exact hz6.2
 ·rw [z1f]
  refine ⟨uX, by omega, by omega, n1, ⟨fun h => (hz6.1 (h ▸ z16 x)).elim, fun h => (hk0 h).elim⟩, fun h => hz6.1 ?_⟩
  rw [z1g]; exact List.mem_cons_of_mem _ h
 ·rw [z2t, hids0] at hm
  exact n3 i hi i hm rfl
theorem zt9 {t : T} (h : szB t = true) {l : List T} (hl : l.length <= 1000000) (hk : ∀ k ∈ l, szB k = true) : szB (t.setKids l) = true := by
 obtain ⟨h0, h1, h2, h3, h4, _, _⟩ := (z1l t).1 h
 exact (z1l _).2 ⟨h0, h1, h2, h3, h4, hl, hk⟩
theorem z6a {t : T} (h : szB t = true) : t.kids.length <= 1000000 /\ ∀ k ∈ t.kids, szB k = true := by
 obtain ⟨_, _, _, _, _, h5, h6⟩ := (z1l t).1 h
 exact ⟨h5, h6⟩
theorem zzm {q x : T} {i : Nat} (hq : szB q = true) (hx : szB x = true) (hl : q.kids.length < 1000000) : szB (z5l i x q) = true := by
 obtain ⟨h1, h2⟩ := z6a hq
 refine zt9 hq (by simp; omega) fun k hk => ?_
 rcases List.mem_append.1 hk with hk | hk
 ·exact h2 k (List.mem_of_mem_take hk)
 ·rcases List.mem_cons.1 hk with rfl | hk
  ·exact hx
  ·exact h2 k (List.mem_of_mem_drop hk)
theorem zzn {id : Idv} {f : T -> T} (hf : ∀ q, szB q = true -> q.id = id -> szB (f q) = true) : ∀ u : T, szB u = true -> szB (z2k id f u) = true := by
 refine z3u fun u ih h => ?_
 rw [z9g]
 split
 ·exact hf u h ‹_›
 ·obtain ⟨h1, h2⟩ := z6a h
  refine zt9 h (by rw [List.length_map]; exact h1) fun k hk => ?_
  obtain ⟨k', hk', rfl⟩ := List.mem_map.1 hk
  exact ih k' hk' (h2 k' hk')
theorem zll {id : Idv} : ∀ u : T, szB u = true -> szB (z0h id u) = true := by
 refine z3u fun u ih h => ?_
 rw [z3r]
 obtain ⟨h1, h2⟩ := z6a h
 refine zt9 h (by rw [List.length_map]; have := List.length_filter_le (z6z id) u.kids; omega) fun k hk => ?_
 obtain ⟨k', hk', rfl⟩ := List.mem_map.1 hk
 exact ih k' (List.mem_filter.1 hk').1 (h2 k' (List.mem_filter.1 hk').1)
end Tr
end
section
open Abs Facts Tr
attribute [local irreducible] awp
namespace Tr
theorem zze {α : Type} {f : α -> Bool} {l : List α} {i : Nat} (h : i < l.length) (hf : f l[i] = true) : l.any f = true := List.any_eq_true.2 ⟨_, List.getElem_mem h, hf⟩
theorem z7m {α : Type} {f : α -> Bool} {l : List α} {i : Nat} (hi : i < l.length) (h : (l.take i).any f = false) (hf : f l[i] = false) : (l.take (i + 1)).any f = false := by
 rw [List.take_succ_eq_append_getElem hi, List.any_append, h]; simp [hf]
theorem zw6 {α : Type} {f : α -> Bool} {l : List α} {i : Nat} (hi : ¬ i < l.length) (h : (l.take i).any f = false) : l.any f = false := by
 rw [List.take_of_length_le (by omega)] at h; exact h
end Tr
end
section
open Abs Facts Go.Lib
variable {P : Program}
end
section
open Abs Facts Go.Lib Go.Shelf Go.RowKit
end
section
open Abs Facts Go.Lib Go.RowKit
end
section
open Abs Facts Tr
attribute [local irreducible] awp
namespace Abs
theorem z1c {P : Program} {own : List Nat} {c : Code} {Q : Exit -> St -> Prop} {st : St} (I : St -> Prop) (h0 : I st) (h : ∀ st, I st -> awp P own c Q st) : awp P own c Q st := h st h0
end Abs
theorem zgy {P : Program} {H : HM} (k : Nat) {t : T} {d : D} (hd : z39 P H (k + 1) d = some (z0e t.kids)) (hp : pureD d = false) :
  z39 P H (k + 2) (.agg [.int .i64 t.id.act, .int .i64 t.id.item, .int .i64 t.id.n, .int .i64 t.kind, .str t.label, z0q t.head, z0q t.words, d]) = some (z17 t) := by
 rw [z17, z10]
 refine zeg (k + 1) ?_ (z0o (z0p k rfl) (z0o (z0p k rfl) (z0o (z0p k rfl) (z0o (z0p k rfl) (z0o (z0p k rfl) (z0o (z0p k (z0x _)) (z0o (z0p k (z0x _)) (z0o hd z6j))))))))
 simp only [pureD.pureL, hp, Bool.and_false, Bool.false_and]
def zjx (t : T) : List D := [.int .i64 t.id.act, .int .i64 t.id.item, .int .i64 t.id.n, .int .i64 t.kind, .str t.label, z0q t.head, z0q t.words, z0e t.kids]

namespace Tr
def zc9 (u : T) (parent : Idv) (i : Int) (x : T) : Int :=
 if z0z u = false \/ z0z x = false \/ x.kind = 0 then 1 else
 if (z07 parent u).2 = false then 4 else
 if z20 (z07 parent u).1.kind x.kind = false then 9 else
 if i < 0 \/ ((z07 parent u).1.kids.length : Int) < i then 3 else
 if z45 (z07 parent u).1.kids x.kind x.label = true then 10 else
 if 64 <= (z07 parent u).1.kids.length \/ 8 < (z5f parent u).length + 1 + depT x \/ 1024 < cntT u + cntT x then 6 else
 if ((z0c x).any fun i => (z07 i u).2) = true then 5 else 0
theorem z51 {id : Idv} {u : T} (h : (z07 id u).2 = true) : (z07 id u).1 ∈ z09 u := by
 have hm := z5x.1 h
 unfold z07
 rw [zd5 _ hm]
 exact z9y id u _ (List.getElem_mem _)
theorem zac {id : Idv} {u q : T} (hn : (z0c u).Nodup) (hq : q ∈ z09 u) (hid : q.id = id) : z07 id u = (q, true) := by
 have key : ∀ u : T, (z0c u).Nodup -> q ∈ z09 u -> z07 id u = (q, true) := by
  refine z3u fun u ih hn hq => ?_
  rw [z1x, List.mem_cons] at hq
  rcases hq with rfl | hq
  ·exact z1o hid
  ·obtain ⟨k, hk, hqk⟩ := List.mem_flatMap.1 hq
   obtain ⟨i, hi, rfl⟩ := List.getElem_of_mem hk
   obtain ⟨g1, g2, g3⟩ := z9i hn
   have hin : id ∈ z0c u.kids[i] := List.mem_map.2 ⟨q, hqk, hid⟩
   have h2 := ih _ hk (g2 _ hk) hqk
   have hw : z1d id u.kids[i] ≠ [] := z3g.2 hin
   rw [z2n (z3f (fun e => g1 _ hk (e ▸ hin)) hi (fun j hj h => (z4x id _).2 (g3 i j hi h (by omega) id hin)) hw) hw, h2]
 exact key u hn hq
def takeE (u : T) (id : Idv) : Int := if z0z u = false then 1 else if (z07 id u).2 = false then 4 else if u.id = id then 9 else 0
theorem zh0 {u x : T} {parent : Idv} {i : Int} (h : zc9 u parent i x = 0) : (z0z u = true /\ z0z x = true /\ x.kind ≠ 0 /\ (z07 parent u).2 = true /\ z20 (z07 parent u).1.kind x.kind = true /\ z45 (z07 parent u).1.kids x.kind x.label = false /\ (z07 parent u).1.kids.length < 64 /\ (z5f parent u).length + 1 + depT x <= 8 /\ cntT u + cntT x <= 1024 /\ ((z0c x).any fun i => (z07 i u).2) = false) /\
  parent ∈ z0c u /\ ∃ n : Nat, i = n /\ ∀ q ∈ z09 u, q.id = parent -> n <= q.kids.length := by
 unfold zc9 at h
 split at h
 ·cases h
 rename_i h1
 split at h
 ·cases h
 rename_i h2
 split at h
 ·cases h
 rename_i h3
 split at h
 ·cases h
 rename_i h4
 split at h
 ·cases h
 rename_i h5
 split at h
 ·cases h
 rename_i h6
 split at h
 ·cases h
 rename_i h7
 simp only [not_or, Bool.not_eq_false, Bool.not_eq_true] at h1 h2 h3 h5 h7
 refine ⟨⟨h1.1, h1.2.1, h1.2.2, h2, h3, h5, by omega, by omega, by omega, h7⟩, ?_, i.toNat, by omega, fun q hq hid => ?_⟩
 ·rw [z36, decide_eq_true_eq] at h2; exact h2
 ·rw [zac ((z1f u).1 h1.1).2.2.2.1 hq hid] at h4
  simp only at h4
  omega
end Tr
namespace Abs
end Abs
end
section
open Abs Facts Tr
namespace Tr
theorem zbt {u x : T} {parent : Idv} {n : Nat} (h1 : z0z u = true) (h2 : z0z x = true) (h3 : x.kind ≠ 0) (h4 : parent ∈ z0c u) (h5 : z20 (z07 parent u).1.kind x.kind = true) (h6 : n <= (z07 parent u).1.kids.length)
  (h7 : z45 (z07 parent u).1.kids x.kind x.label = false) (h8 : (z07 parent u).1.kids.length < 64) (h9 : (z5f parent u).length + 1 + depT x <= 8) (h10 : cntT u + cntT x <= 1024) (h11 : ∀ i ∈ z0c x, i ∉ z0c u) : zc9 u parent n x = 0 := by
 unfold zc9
 rw [if_neg (by rw [h1, h2]; simp [h3]), if_neg (by rw [z36, decide_eq_true h4]; simp), if_neg (by rw [h5]; simp), if_neg (by omega), if_neg (by rw [h7]; simp), if_neg (by omega), if_neg]
 rw [List.any_eq_true]
 rintro ⟨i, hi, hf⟩
 rw [z36, decide_eq_true_eq] at hf
 exact h11 i hi hf
theorem zeb {C : Ctx} {q : T} {id : Idv} (hq : q.id = id) (h : id ∉ z70 C) : (z5f id (z2e C q)).length = zp5 C := by
 rw [zn1 (hq ▸ z16 q) C h, zfa hq, List.nil_append, zjy]
theorem z4y {t : T} (h : z0z t = true) : (z0c t).Nodup := ((z1f t).1 h).2.2.2.1
theorem zec {u x : T} {parent : Idv} {n : Nat} (h : zc9 u parent n x = 0) : ∃ (C : Ctx) (q : T) (l r : List T), u = z2e C (q.setKids (l ++ r)) /\ l.length = n /\ q.id = parent /\ z2k parent (z5l n x) u = z2e C (q.setKids (l ++ x :: r)) /\
  z0z (z2k parent (z5l n x) u) = true /\ z0h x.id (z2k parent (z5l n x) u) = u /\ z07 x.id (z2k parent (z5l n x) u) = (x, true) /\ z2u x.id (z2k parent (z5l n x) u) = (parent, (n : Int), true) /\ ¬ (z2k parent (z5l n x) u).id = x.id /\
  (atR parent (z5l n x) u).1 = z2k parent (z5l n x) u /\ (∀ i ∈ z0c x, i ∉ z0c u) /\ cntT (z2k parent (z5l n x) u) = cntT u + cntT x := by
 obtain ⟨⟨h1, h2, h3, h4, h5, h7, h8, h9, h10, h11⟩, hm, n', hn, hle⟩ := zh0 h
 obtain rfl : n = n' := by omega
 have hdis : ∀ i ∈ z0c x, i ∉ z0c u := fun i hi hm => by
  have := List.any_eq_false.1 h11 i hi
  rw [z36, decide_eq_true hm] at this
  exact this rfl
 have hnd := z4y h1
 obtain ⟨C, e, hq, hpre, _⟩ := focus parent u hm
 have hqn := z51 h4
 have hk := hle _ hqn hq
 generalize hq0 : (z07 parent u).1 = q at *
 have e2 : q = q.setKids (q.kids.take n ++ q.kids.drop n) := by rw [List.take_append_drop, z6n]
 generalize hl : q.kids.take n = l at *
 generalize hr : q.kids.drop n = r at *
 have hln : l.length = n := by rw [<- hl, List.length_take]; omega
 have hkr : q.kids = l ++ r := by rw [<- hl, <- hr, List.take_append_drop]
 have hue : u = z2e C (q.setKids (l ++ r)) := e.trans (congrArg (z2e C) e2)
 have hxu := hdis x.id (z16 x)
 have hmx : x.id ∈ z0c (q.setKids (l ++ x :: r)) := by rw [z2f]; exact List.mem_cons_of_mem _ (zf1.2 (.inr (.inl (z16 x))))
 rw [hue, z2t, z2f, List.flatMap_append] at hxu
 simp only [List.mem_append, List.mem_cons, not_or] at hxu
 obtain ⟨k1, ⟨k2, k3, k4⟩, k5⟩ := hxu
 have hpost : parent ∉ z4k C := (z2m (x := q) (by rw [<- e]; exact hnd) (hq ▸ z16 q)).2
 have hed : z2k parent (z5l n x) u = z2e C (q.setKids (l ++ x :: r)) := by
  rw [e, z6b (z5l n x) hq C hpre hpost]
  rw [e2, <- hln, zn5]
  rfl
 have hst : z0z (z2e C (q.setKids (l ++ x :: r))) = true := by
  refine zp2 (by rw [<- hue]; exact h1) h2 h3 h5 (by rw [<- hkr]; exact h7) (by rw [<- hkr]; exact h8) ?_ (by rw [<- hue]; exact h10) (by rw [<- hue]; exact hdis)
  have := zeb hq hpre
  rw [<- e] at this
  omega
 rw [hed]
 refine ⟨C, q, l, r, hue, hln, hq, rfl, hst, ?_, ?_, ?_, ?_, ?_, hdis, ?_⟩
 ·rw [zb6 (fun e => k2 e.symm) rfl k3 k4 C k1 k5, hue]
 ·rw [z5b hmx C k1, zhq (fun e => k2 e.symm) k3 (z16 x), z1o rfl]
 ·rw [zhr hmx (fun e => k2 e.symm) C k1, zn0 (fun e => k2 e.symm) k3 rfl, hq, hln]
 ·intro hid
  cases C with
  | hole => exact k2 hid.symm
  | node t a c b => exact (z3q k1).1 hid
 ·rw [ztk (z5l n x) hnd hm, hed]
 ·rw [hue, z6o, z6o, zho]; omega
theorem z59 {u : T} {id : Idv} (hs : z0z u = true) (h0 : ¬ u.id = id) (hm : id ∈ z0c u) : ∃ (under : Idv) (n : Nat) (x : T), z2u id u = (under, (n : Int), true) /\ z07 id u = (x, true) /\ x.id = id /\ z0z (z0h id u) = true /\ z0z x = true /\ x.kind ≠ 0 /\
  zc9 (z0h id u) under n x = 0 /\ z2k under (z5l n x) (z0h id u) = u /\ (∀ i ∈ z0c x, i ∉ z0c (z0h id u)) /\ under ∈ z0c (z0h id u) /\ cntT (z0h id u) + cntT x = cntT u /\ (∀ i ∈ z0c u, i ∈ z0c x \/ i ∈ z0c (z0h id u)) := by
 obtain ⟨C, q, l, x, r, e, hx, hq, n1, n2, hf, hp⟩ := zn2 h0 hm
 have hnd := z4y hs
 subst e
 have hxm : id ∈ z0c (q.setKids (l ++ x :: r)) := by rw [z2f]; exact List.mem_cons_of_mem _ (zf1.2 (.inr (.inl (hx ▸ z16 x))))
 obtain ⟨k1, k2⟩ := z2m hnd hxm
 have ns := (zf3 (zc2 hnd)).1 id (hx ▸ z16 x)
 have hw := zb6 hq hx n2 ns.2.2 C k1 k2
 obtain ⟨d1, d2, d3, d4, d5, d6, d7, d8, d9⟩ := zp3 hs
 rw [hw]
 have hnd2 := z4y d1
 have hqs : q.id ∈ z0c (q.setKids (l ++ r)) := by rw [z2f]; exact List.mem_cons_self
 obtain ⟨m1, m2⟩ := z2m hnd2 hqs
 have hfq : z07 q.id (z2e C (q.setKids (l ++ r))) = (q.setKids (l ++ r), true) := by rw [z5b hqs C m1]; exact z1o rfl
 refine ⟨q.id, l.length, x, hp, hf, hx, d1, d2, d3, ?_, ?_, d9, z7v C hqs, ?_, fun i hi => ?_⟩
 ·refine zbt d1 d2 d3 (z7v C hqs) (by rw [hfq]; exact d4) ?_ (by rw [hfq]; exact d5) (by rw [hfq]; exact d6) ?_ d8 d9
  ·rw [hfq]; show l.length <= (l ++ r).length; simp
  ·rw [zeb (id := q.id) (q := q.setKids (l ++ r)) rfl m1]; exact d7
 ·rw [z6b (id := q.id) (z5l l.length x) (q := q.setKids (l ++ r)) rfl C m1 m2, zn5]
 ·rw [z6o, z6o, zho]; omega
 ·rw [z2t, z2f, List.flatMap_append, List.flatMap_cons] at hi
  rw [z2t, z2f, List.flatMap_append]
  simp only [List.mem_append, List.mem_cons] at hi ⊢
  rcases hi with h | (h | h | h | h) | h
  ·exact .inr (.inl h)
  ·exact .inr (.inr (.inl (.inl h)))
  ·exact .inr (.inr (.inl (.inr (.inl h))))
  ·exact .inl h
  ·exact .inr (.inr (.inl (.inr (.inr h))))
  ·exact .inr (.inr (.inr h))
theorem zhg {id : Idv} {t : T} (h : id ∉ z0c t) : z0h id t = t := zti t fun k hk hm => h (by rw [z1g]; exact List.mem_cons_of_mem _ (List.mem_flatMap.2 ⟨k, hk, hm⟩))
theorem z4u (id : Idv) (t : T) : (z0h id t).id = t.id /\ (z0h id t).kind = t.kind /\ (z0h id t).label = t.label /\ (z0h id t).head = t.head /\ (z0h id t).words = t.words := by
 rw [z3r]; exact ⟨rfl, rfl, rfl, rfl, rfl⟩
theorem zhh (id : Idv) : ∀ t : T, ∀ i ∈ z0c (z0h id t), i ∈ z0c t := by
 refine z3u fun t ih i hi => ?_
 rw [z3r, z2f, List.mem_cons, List.mem_flatMap] at hi
 rw [z1g, List.mem_cons, List.mem_flatMap]
 rcases hi with h | ⟨k, hk, h⟩
 ·exact .inl h
 ·obtain ⟨k', hk', rfl⟩ := List.mem_map.1 hk
  exact .inr ⟨k', (List.mem_filter.1 hk').1, ih k' (List.mem_filter.1 hk').1 i h⟩
theorem zw3 {k : Idv} {u : T} : ∀ i ∈ z0c (z07 k u).1, (z07 k u).2 = true -> i ∈ z0c u := fun i hi hf => by
 have hm : k ∈ z0c u := by rw [z36, decide_eq_true_eq] at hf; exact hf
 obtain ⟨C, e, _, _, _⟩ := focus k u hm
 rw [e]
 exact z7v C hi
theorem zw4 {id : Idv} : ∀ u : T, depT (z0h id u) <= depT u := by
 have key : ∀ (l : List T) (g : T -> T) (p : T -> Bool), (∀ k ∈ l, depT (g k) <= depT k) -> z9n (((l.filter p).map g).map depT) <= z9n (l.map depT) := by
  intro l g p h
  induction l with
  | nil => simp
  | cons k l ih =>
   have h1 := h k (by simp)
   have h2 := ih fun k hk => h k (List.mem_cons_of_mem _ hk)
   rw [List.filter_cons, List.map_cons, z75]
   split
   ·rw [List.map_cons, List.map_cons, z75]; omega
   ·omega
 refine z3u fun u ih => ?_
 rw [z3r, z42, z42 u]
 exact key u.kids (z0h id) (z6z id) ih
theorem z8m {id k : Idv} : ∀ u : T, (z0c u).Nodup -> ¬ u.id = id -> k ∈ z0c u -> (∀ y, z07 id u = (y, true) -> k ∉ z0c y) -> z07 k (z0h id u) = (z0h id (z07 k u).1, true) := by
 refine z3u fun u ih hn h0 hk hy => ?_
 by_cases hid : id ∉ z0c u
 ·rw [zhg hid]
  have hf : (z07 k u).2 = true := by rw [z36, decide_eq_true hk]
  have := zhg (id := id) (t := (z07 k u).1) fun hm => hid (zw3 id hm hf)
  rw [this, <- hf]
 rw [Classical.not_not] at hid
 by_cases hku : u.id = k
 ·rw [z1o hku]
  exact z1o (by rw [(z4u id u).1]; exact hku)
 ·obtain ⟨i, hi, h1, h2, h3⟩ := z5d hku (z3g.2 hk)
  have hkm := z3g.1 h2
  rw [z2n h3 h2]
  obtain ⟨g1, g2, g3⟩ := z9i hn
  have hki := List.getElem_mem hi
  have hkeep : ¬ u.kids[i].id = id := fun e => by
   refine hy u.kids[i] ?_ hkm
   have hw : z1d id u.kids[i] = [u.kids[i]] := z2w e
   have hne : z1d id u.kids[i] ≠ [] := by rw [hw]; simp
   rw [z2n (z3f h0 hi (fun j hj h => (z4x id _).2 (g3 i j hi h (by omega) id (e ▸ z16 _))) hne) hne]
   exact z1o e
  have hin := ih _ hki (g2 _ hki) hkeep hkm (fun y hf => hy y (by
   have hne : z1d id u.kids[i] ≠ [] := z5x.1 (by rw [hf])
   rw [z2n (z3f h0 hi (fun j hj h => (z4x id _).2 (g3 i j hi h (by omega) id (z3g.1 hne))) hne) hne]
   exact hf))
  have hsp : u.kids = u.kids.take i ++ u.kids[i] :: u.kids.drop (i + 1) := by rw [<- List.drop_eq_getElem_cons hi, List.take_append_drop]
  have hwk : k ∈ z0c (z0h id u.kids[i]) := by
   have : (z07 k (z0h id u.kids[i])).2 = true := by rw [hin]
   rw [z36, decide_eq_true_eq] at this; exact this
  rw [z3r]
  have e : (u.kids.filter (z6z id)).map (z0h id) = ((u.kids.take i).filter (z6z id)).map (z0h id) ++ z0h id u.kids[i] :: ((u.kids.drop (i + 1)).filter (z6z id)).map (z0h id) := by
   conv => lhs; rw [hsp]
   rw [List.filter_append, List.filter_cons, if_pos (z8x hkeep), List.map_append, List.map_cons]
  rw [e, zhq hku ?_ hwk, hin]
  intro hm
  obtain ⟨y, hym, hyk⟩ := List.mem_flatMap.1 hm
  obtain ⟨y', hy', rfl⟩ := List.mem_map.1 hym
  have hmem := (List.mem_filter.1 hy').1
  obtain ⟨j, hj, rfl⟩ := List.getElem_of_mem hmem
  rw [List.length_take] at hj
  have := zhh id _ k hyk
  rw [List.getElem_take] at this
  exact g3 i j hi (by omega) (by omega) k hkm this
end Tr
end
section
open Abs Facts Tr
attribute [local irreducible] awp
namespace Tr
end Tr
namespace Tr
end Tr
namespace Tr
end Tr
namespace Tr
end Tr
namespace Tr
end Tr
namespace Tr
def zzw (rest p : T) (parent : Idv) (x : T) : Bool := decide (64 <= p.kids.length \/ 8 < (z5f parent rest).length + 1 + depT x)
def zfq (u : T) (id parent : Idv) (i : Int) : Int :=
 if z0z u = false then 1 else
 if (z07 id u).2 = false \/ (z07 parent u).2 = false then 4 else
 if u.id = id \/ (z07 parent (z07 id u).1).2 = true then 9 else
 if z20 (z07 parent (z0h id u)).1.kind (z07 id u).1.kind = false then 9 else
 if i < 0 \/ ((z07 parent (z0h id u)).1.kids.length : Int) < i then 3 else
 if z45 (z07 parent (z0h id u)).1.kids (z07 id u).1.kind (z07 id u).1.label = true then 10 else
 if zzw (z0h id u) (z07 parent (z0h id u)).1 parent (z07 id u).1 = true then 6 else 0
theorem zf6 {u : T} {id parent : Idv} {i : Int} (h : zfq u id parent i = 0) : z0z u = true /\ id ∈ z0c u /\ parent ∈ z0c u /\ ¬ u.id = id /\ parent ∉ z0c (z07 id u).1 /\ zc9 (z0h id u) parent i (z07 id u).1 = 0 := by
 unfold zfq at h
 split at h
 ·cases h
 rename_i h1
 split at h
 ·cases h
 rename_i h2
 split at h
 ·cases h
 rename_i h3
 split at h
 ·cases h
 rename_i h4
 split at h
 ·cases h
 rename_i h5
 split at h
 ·cases h
 rename_i h6
 split at h
 ·cases h
 rename_i h7
 simp only [not_or, Bool.not_eq_false, Bool.not_eq_true] at h1 h2 h3 h4 h6 h7
 obtain ⟨h2a, h2b⟩ := h2
 obtain ⟨h3a, h3b⟩ := h3
 rw [z36, decide_eq_true_eq] at h2a h2b
 rw [z36, decide_eq_false_iff_not] at h3b
 obtain ⟨under, n, x, d1, d2, d3, d4, d5, d6, d7, d8, d9, d10, d11, d12⟩ := z59 h1 h3a h2a
 rw [d2] at h3b h4 h6 h7 ⊢
 simp only at h3b h4 h6 h7 ⊢
 have hpr : parent ∈ z0c (z0h id u) := (d12 parent h2b).resolve_left h3b
 have hc : cntT u <= 1024 := ((z1f u).1 h1).2.2.1
 unfold zzw at h7
 rw [decide_eq_false_iff_not] at h7
 refine ⟨h1, h2a, h2b, h3a, h3b, ?_⟩
 obtain ⟨m, rfl⟩ := Int.eq_ofNat_of_zero_le (show 0 <= i by omega)
 exact zbt d4 d5 d6 hpr h4 (by omega) h6 (by omega) (by omega) (by omega) d9
theorem zf7 {u x : T} {id parent : Idv} {i : Int} (h1 : z0z u = true) (h2 : z07 id u = (x, true)) (h3 : parent ∈ z0c u) (h4 : ¬ u.id = id) (h5 : parent ∉ z0c x) (h6 : zc9 (z0h id u) parent i x = 0) : zfq u id parent i = 0 := by
 obtain ⟨⟨w1, w2, w3, w4, w5, w6, w7, w8, w9, w10⟩, w11, n, rfl, w12⟩ := zh0 h6
 have hk := w12 _ (z51 w4)
 have hq : (z07 parent (z0h id u)).1.id = parent := by
  obtain ⟨_, _, e, _, _⟩ := focus parent _ w11
  exact e
 have hk := hk hq
 unfold zfq
 rw [if_neg (by rw [h1]; simp), h2]
 simp only
 rw [ if_neg (by rw [z36, decide_eq_true h3]; simp), if_neg (by rw [z36, decide_eq_false h5]; simp [h4]), if_neg (by rw [w5]; simp), if_neg (by omega), if_neg (by rw [w6]; simp), if_neg]
 unfold zzw
 rw [decide_eq_true_eq]; omega
end Tr
namespace Tr
theorem take_zero {u x : T} {id : Idv} (h1 : z0z u = true) (h2 : z07 id u = (x, true)) (h3 : ¬ u.id = id) : takeE u id = 0 := by
 unfold takeE; rw [if_neg (by rw [h1]; simp), if_neg (by rw [h2]; simp), if_neg h3]
theorem zpp {u : T} {id parent : Idv} {m : Nat} (h : zfq u id parent m = 0) : ∃ (under : Idv) (n : Nat), z2u id u = (under, (n : Int), true) /\
  z2u id (z2k parent (z5l m (z07 id u).1) (z0h id u)) = (parent, (m : Int), true) /\ zfq (z2k parent (z5l m (z07 id u).1) (z0h id u)) id under n = 0 /\
  z2k under (z5l n (z07 id (z2k parent (z5l m (z07 id u).1) (z0h id u))).1) (z0h id (z2k parent (z5l m (z07 id u).1) (z0h id u))) = u /\
  z0z (z2k parent (z5l m (z07 id u).1) (z0h id u)) = true /\ cntT (z2k parent (z5l m (z07 id u).1) (z0h id u)) = cntT u := by
 obtain ⟨h1, h2, h3, h4, h5, hw⟩ := zf6 h
 obtain ⟨under, n, x, d1, d2, d3, d4, d5, d6, d7, d8, d9, d10, d11, d12⟩ := z59 h1 h4 h2
 rw [d2] at hw h5 ⊢
 simp only at hw h5 ⊢
 obtain ⟨C, q, l, r, _, _, _, _, f1, f2, f3, f4, f5, _, f7, f8⟩ := zec hw
 rw [d3] at f2 f3 f4 f5
 refine ⟨under, n, d1, f4, ?_, by rw [f3, f2]; exact d8, f1, by omega⟩
 refine zf7 f1 f3 ?_ f5 (fun hm => d9 under hm d10) (by rw [f2]; exact d7)
 -- the old parent is still there
 have hu : under ∈ z0c (z0h id u) := d10
 obtain ⟨C', q', l', r', e1, _, _, e2, _⟩ := zec hw
 rw [e2, z2t, z2f, List.flatMap_append, List.flatMap_cons]
 rw [e1, z2t, z2f, List.flatMap_append] at hu
 simp only [List.mem_append, List.mem_cons] at hu ⊢
 rcases hu with h | (h | h | h) | h
 ·exact .inl h
 ·exact .inr (.inl (.inl h))
 ·exact .inr (.inl (.inr (.inl h)))
 ·exact .inr (.inl (.inr (.inr (.inr h))))
 ·exact .inr (.inr h)
end Tr
end
section
open Abs Facts Tr
namespace Tr
theorem z8z : ∀ u x : T, x ∈ z09 u -> ∀ y ∈ z09 x, y ∈ z09 u := by
 refine fun u => z3u (p := fun u => ∀ x : T, x ∈ z09 u -> ∀ y ∈ z09 x, y ∈ z09 u) (fun u ih x hx y hy => ?_) u
 rw [z1x, List.mem_cons] at hx
 rcases hx with rfl | hx
 ·exact hy
 ·obtain ⟨k, hk, hxk⟩ := List.mem_flatMap.1 hx
  exact z3m hk (ih k hk x hxk y hy)
theorem zc3 : ∀ t : T, (z0c t).Nodup -> ∀ p ∈ z09 t, ∀ y ∈ p.kids, (z2u y.id t).1 = p.id := by
 refine z3u fun t ih hn p hp y hy => ?_
 obtain ⟨g1, g2, g3⟩ := z9i hn
 rw [z1x, List.mem_cons] at hp
 rcases hp with rfl | hp
 ·obtain ⟨i, hi, rfl⟩ := List.getElem_of_mem hy
  rw [zf9 (id := p.kids[i].id) (t := p) (i := i) (fun e => g1 _ hy (e ▸ z16 _)) hi (fun j hj h => (z4x _ _).2 (g3 i j hi h (by omega) _ (z16 _))) rfl]
 ·obtain ⟨k, hk, hpk⟩ := List.mem_flatMap.1 hp
  obtain ⟨i, hi, rfl⟩ := List.getElem_of_mem hk
  have hyi : y.id ∈ z0c t.kids[i] := List.mem_map.2 ⟨y, z8z _ p hpk y (z3m hy (z2b y)), rfl⟩
  have hne : ¬ t.kids[i].id = y.id := by
   intro e
   have hn2 := g2 _ hk
   have key : ∀ t : T, (z0c t).Nodup -> ∀ p ∈ z09 t, ∀ y ∈ p.kids, t.id ≠ y.id := by
    intro t hn p hp y hy e
    rw [z1g, List.nodup_cons] at hn
    refine hn.1 ?_
    rw [e]
    rw [z1x, List.mem_cons] at hp
    rcases hp with rfl | hp
    ·exact List.mem_flatMap.2 ⟨y, hy, z16 y⟩
    ·obtain ⟨k, hk, hpk⟩ := List.mem_flatMap.1 hp
     refine List.mem_flatMap.2 ⟨k, hk, List.mem_map.2 ⟨y, ?_, rfl⟩⟩
     exact z8z k p hpk y (z3m hy (z2b y))
   exact key _ hn2 p hpk y hy e
  rw [zlq (id := y.id) (t := t) (i := i) (fun e => g1 _ hk (e ▸ hyi)) hi (fun j hj h => (z4x _ _).2 (g3 i j hi h (by omega) _ hyi)) hne (z3g.2 hyi)]
  exact ih _ hk (g2 _ hk) p hpk y hy
theorem ztw (C : Ctx) {x y : T} (h : y ∈ z09 x) : y ∈ z09 (z2e C x) := by
 induction C with
 | hole => exact h
 | node t l c r ih => exact z3m (t := z2e (.node t l c r) x) (k := z2e c x) (by show _ ∈ l ++ _ :: r; simp) ih
end Tr
namespace Tr
def zd3 (s : Stp) : Bool := decide (s.kind = 0) && decide (s.label = z1j)
def ze7 (s : Stp) : Bool := decide (1 <= s.kind /\ s.kind <= 7) && z3j s.label
def okS (i : Nat) (s : Stp) : Bool := (decide (i = 0) && zd3 s) || ze7 s
def z5e (p : List Stp) : Bool := decide (p.length <= 9) && decide (∀ i, (h : i < p.length) -> okS i p[i] = true)
theorem znh {p : List Stp} {i : Nat} (h : i < p.length) (h2 : okS i p[i] = false) : z5e p = false := by
 unfold z5e
 rw [decide_eq_false (p := ∀ i, (h : i < p.length) -> okS i p[i] = true) (fun g => by rw [g i h] at h2; cases h2), Bool.and_false]
theorem zni {p : List Stp} (hl : p.length <= 9) (h : ∀ i, (h : i < p.length) -> okS i p[i] = true) : z5e p = true := by
 unfold z5e
 rw [decide_eq_true hl, decide_eq_true h]; rfl
theorem zu2 {p : List Stp} (hl : ¬ p.length <= 9) : z5e p = false := by unfold z5e; rw [decide_eq_false hl]; rfl
theorem zu3 {p : List Stp} (h : z5e p = true) : p.length <= 9 /\ ∀ i, (h : i < p.length) -> okS i p[i] = true := by
 unfold z5e at h
 simp only [Bool.and_eq_true, decide_eq_true_eq] at h
 exact h
def atB (s : Stp) (u : T) : Bool := decide (u.kind = s.kind) && decide (u.label = s.label)
def z1u (now : List T) (s : Stp) : List T := now.flatMap fun x => x.kids.filter (atB s)
def z15 (u : T) (s : Stp) : List T := if zd3 s = true then [u] else (z09 u).filter (atB s)
def goT (u : T) : List Stp -> List T
 | [] => [u]
 | s :: r => r.foldl z1u (z15 u s)
def z2j (u : T) (p : List Stp) : List T := if z5e p = true then goT u p else []
def z40 (u : T) (p : List Stp) : List Idv := (z2j u p).map T.id
def oneL : List Idv -> Idv × Int
 | [] => (Idv.zero, 7)
 | [i] => (i, 0)
 | _ :: _ :: _ => (Idv.zero, 8)
def z24 (u : T) (p : List Stp) : Idv × Int := oneL (z40 u p)
theorem zu4 {u : T} {p : List Stp} (h : z40 u p = []) : z24 u p = (Idv.zero, 7) := by unfold z24; rw [h]; rfl
theorem zx0 : ∀ (l : List Idv) (h : l.length = 1), oneL l = (l[0]'(by omega), 0)
 | [_], _ => rfl
theorem zx1 : ∀ (l : List Idv), 1 < l.length -> oneL l = (Idv.zero, 8)
 | _ :: _ :: _, _ => rfl
theorem zu5 {u : T} {p : List Stp} (h : (z40 u p).length = 1) : z24 u p = ((z40 u p)[0]'(by omega), 0) := zx0 _ h
theorem zu6 {u : T} {p : List Stp} (h : 1 < (z40 u p).length) : z24 u p = (Idv.zero, 8) := zx1 _ h
def z91 (l : List T) : Nat := (l.map cntT).sum
theorem z44 (a b : List T) : z91 (a ++ b) = z91 a + z91 b := by unfold z91; rw [List.map_append, List.sum_append_nat]
theorem z5t (l : List T) : l.length <= z91 l := by
 induction l with
 | nil => simp [z91]
 | cons x l ih =>
  have h1 := z44 [x] l
  have h2 := zh6 x
  have h3 : z91 [x] = cntT x := by simp [z91]
  rw [List.singleton_append] at h1
  simp only [List.length_cons]; omega
theorem zfe (f : T -> Bool) (l : List T) : z91 (l.filter f) <= z91 l := by
 induction l with
 | nil => simp [z91]
 | cons x l ih =>
  have h1 := z44 [x] l
  have h2 := z44 [x] (l.filter f)
  rw [List.singleton_append] at h1 h2
  rw [List.filter_cons]
  split <;> omega
theorem zu7 (x : T) : z91 x.kids <= cntT x := by
 rw [z3w]
 have : ∀ l : List T, z91 l = (l.flatMap z09).length := fun l => by
  induction l with
  | nil => simp [z91]
  | cons y l ih =>
   have h1 := z44 [y] l
   have h3 : z91 [y] = cntT y := by simp [z91]
   rw [List.singleton_append] at h1
   rw [List.flatMap_cons, List.length_append, <- ih, h1, h3]; rfl
 rw [this]; omega
theorem z92 (now : List T) (s : Stp) : z91 (z1u now s) <= z91 now := by
 unfold z1u
 induction now with
 | nil => simp [z91]
 | cons x l ih =>
  have h1 := z44 [x] l
  have h3 : z91 [x] = cntT x := by simp [z91]
  rw [List.singleton_append] at h1
  rw [List.flatMap_cons, z44]
  have h4 := zfe (atB s) x.kids
  have h5 := zu7 x
  omega
theorem zx2 : ∀ t : T, ∀ x ∈ z09 t, cntT x <= cntT t := by
 refine z3u fun t ih x hx => ?_
 rw [z1x] at hx
 rcases List.mem_cons.1 hx with rfl | hx
 ·exact Nat.le_refl _
 ·obtain ⟨k, hk, hx⟩ := List.mem_flatMap.1 hx
  have := ih k hk x hx
  have := z88 hk
  omega
theorem z007 {l : List T} {m : Nat} (h : ∀ x ∈ l, cntT x <= m) : z91 l <= l.length * m := by
 induction l with
 | nil => simp [z91]
 | cons x l ih =>
  have h1 := z44 [x] l
  have h3 : z91 [x] = cntT x := by simp [z91]
  rw [List.singleton_append] at h1
  have h4 := h x (by simp)
  have h5 := ih fun y hy => h y (List.mem_cons_of_mem _ hy)
  rw [List.length_cons, Nat.add_mul]; omega
theorem z78 {u : T} {s : Stp} {m : Nat} (hc : cntT u <= m) : z91 (z15 u s) <= m * m := by
 have h1 := zh6 u
 unfold z15
 split
 ·have h3 : z91 [u] = cntT u := by simp [z91]
  rw [h3]
  exact Nat.le_trans hc (Nat.le_mul_of_pos_left _ (by omega))
 ·refine Nat.le_trans (zfe _ _) (Nat.le_trans (z007 (m := m) fun x hx => Nat.le_trans (zx2 u x hx) hc) ?_)
  exact Nat.mul_le_mul_right _ hc
theorem z79 {m : Nat} : ∀ (r : List Stp) (now : List T), z91 now <= m -> z91 (r.foldl z1u now) <= m
 | [], now, h => h
 | s :: r, now, h => z79 r (z1u now s) (Nat.le_trans (z92 now s) h)
theorem zkf {u : T} {p : List Stp} {m : Nat} (hc : cntT u <= m) : (z2j u p).length <= m * m + 1 := by
 unfold z2j
 split
 ·cases p with
  | nil => simp [goT]
  | cons s r =>
   have := z5t (goT u (s :: r))
   have h2 : z91 (goT u (s :: r)) <= m * m := z79 r _ (z78 hc)
   omega
 ·simp
theorem zx3 {now : List T} {s : Stp} {u : T} (h : ∀ x ∈ now, x ∈ z09 u) : ∀ x ∈ z1u now s, x ∈ z09 u := fun x hx => by
 unfold z1u at hx
 obtain ⟨y, hy, hx⟩ := List.mem_flatMap.1 hx
 have hk := (List.mem_filter.1 hx).1
 exact z8z u y (h y hy) x (z3m hk (z2b x))
theorem z93 {s : Stp} {u : T} : ∀ x ∈ z15 u s, x ∈ z09 u := fun x hx => by
 unfold z15 at hx
 split at hx
 ·rw [List.mem_singleton.1 hx]; exact z2b u
 ·exact (List.mem_filter.1 hx).1
theorem z9j {u : T} : ∀ (r : List Stp) (now : List T), (∀ x ∈ now, x ∈ z09 u) -> ∀ x ∈ r.foldl z1u now, x ∈ z09 u
 | [], _, h => h
 | _ :: r, _, h => z9j r _ (zx3 h)
end Tr
namespace Tr
def zff (t : T) : Bool :=
 if t.kind = 0 then decide (t.label = z1j) && (decide (t.head.length = 0) && decide (t.words.length = 0))
 else decide (0 < t.kind /\ t.kind <= 7) && (z3j t.label && (zn3 t.head && zn3 t.words))
def zxv (t : T) (l : List (Nat -> Bool)) (d : Nat) : Bool :=
 !(decide (8 < d) || (decide (0 < d) && decide (t.kind = 0)) || !zff t || decide (64 < t.kids.length)) && ((t.kids.all fun k => z20 t.kind k.kind) && (l.all (fun f => f (d + 1)) && decide ((t.kids.map z60).Nodup)))
def zbf (t : T) (d : Nat) : Bool := zca zxv t d
theorem zu8 (t : T) (d : Nat) : zbf t d = (!(decide (8 < d) || (decide (0 < d) && decide (t.kind = 0)) || !zff t || decide (64 < t.kids.length)) && ((t.kids.all fun k => z20 t.kind k.kind) && ((t.kids.all fun k => zbf k (d + 1)) && decide ((t.kids.map z60).Nodup)))) := by
 unfold zbf
 rw [z2r, zxv, List.all_map]; rfl
def b1 (n : UInt8) : ByteArray := ⟨#[n]⟩
def zxw (s : ByteArray) : ByteArray := if (bl s).headD 0 = 124 \/ (bl s).headD 0 = 92 then b1 92 ++ s else s
def zpo (l : List Wd) : ByteArray := l.foldl (fun s w => s ++ b1 32 ++ zxw w.text) ByteArray.empty
def twoX : Nat -> ByteArray
 | 0 => ByteArray.empty
 | n + 1 => twoX n ++ ⟨#[32, 32]⟩
def zd4 (t : T) (d : Nat) : ByteArray :=
 if zff t = false \/ 8 < d then ByteArray.empty else
 let s := twoX d ++ znn t.kind
 let s := if t.kind = 0 then s else s ++ b1 32 ++ t.label
 let s := if 0 < t.head.length then s ++ b1 58 ++ zpo t.head else s
 if 0 < t.words.length then s ++ ⟨#[32, 124]⟩ ++ zpo t.words else s
def zxx (t : T) (l : List (Nat -> List ByteArray)) (d : Nat) : List ByteArray := zd4 t d :: l.flatMap fun f => f (d + 1)
def z4m (t : T) (d : Nat) : List ByteArray := zca zxx t d
theorem zfg (t : T) (d : Nat) : z4m t d = zd4 t d :: t.kids.flatMap fun k => z4m k (d + 1) := by
 unfold z4m
 rw [z2r, zxx, List.flatMap_map]
def zkg (t : T) : Bool := zbf t 0 && decide (cntT t <= 1024)
def zkh (l : List ByteArray) : ByteArray := l.foldl (fun s w => s ++ w ++ b1 10) ByteArray.empty
def zu9 (t : T) : ByteArray × Int := if zkg t = false then (ByteArray.empty, 1) else if 16384 < (zkh (z4m t 0)).size then (ByteArray.empty, 6) else (zkh (z4m t 0), 0)
def zua (b : UInt8) : Bool := decide (97 <= b.toNat /\ b.toNat <= 122)
def zm2 (b : UInt8) : Bool := zua b || (dig b || decide (b.toNat = 45))
def zfh (s : ByteArray) : Bool := decide (1 <= s.size /\ s.size <= 16) && (zua ((bl s).headD 0) && (bl s).all zm2)
def zub (k d : Int) (e : ByteArray) : Bool :=
 if k = 1 then decide (0 <= d /\ d <= 1048576) && decide (e = z1j)
 else if k = 3 then decide (d = 0) && zfh e
 else if k = 0 \/ k = 2 then decide (d = 0) && decide (e = z1j) else false
def zhz (x : It) : It :=
 let m := decide (x.kind <= 6)
 let k := x.kind
 .mk k (if m then x.at_ else []) (if k = 6 then x.to else []) (if k = 0 \/ k = 6 then x.wh else 0) (if k = 2 \/ k = 3 then x.nth else 0) (if k = 0 then x.unit else T.zero)
  (if k = 2 \/ k = 3 then x.old else []) (if k = 2 \/ k = 3 \/ k = 4 then x.new else []) (if k = 5 then x.label else z1j) (if m then x.for_ else z1j) (if m then x.sk else 0) (if m then x.sd else 0) (if m then x.se else z1j)
  (if k = 7 \/ k = 8 \/ k = 9 \/ k = 11 then x.act else 0) (if k = 7 \/ k = 8 \/ k = 9 \/ k = 11 then x.item else 0) (if m \/ k = 11 then 0 else x.day) (if k = 10 then x.event else z1j) (if k = 11 then x.by_ else [])
noncomputable instance : DecidableEq It := fun _ _ => Classical.propDecidable _
def inB (n a b : Int) : Bool := decide (a <= n /\ n <= b)
def z4p (x : It) (l : List Bool) : Bool :=
 if x.kind = 0 then inB x.wh 0 3 && (z71 x.unit && decide (x.unit = z6p x.unit) && (!decide (x.unit.kind = 0) && decide ((zu9 x.unit).2 = 0)))
 else if x.kind = 2 then zfi x.old && decide (1 <= x.old.length) && (zfi x.new && inB x.nth 0 256)
 else if x.kind = 3 then zfi x.old && (zfi x.new && decide (1 <= x.new.length) && (inB x.nth 0 256 && (decide (0 < x.old.length) || decide (x.nth = 0))))
 else if x.kind = 4 then zfi x.new
 else if x.kind = 5 then z3j x.label
 else if x.kind = 6 then inB x.wh 0 3 && z5e x.to
 else if x.kind = 7 \/ x.kind = 8 \/ x.kind = 9 then inB x.act 1 1048576 && (inB x.item (-1) 31 && inB x.day 0 1048576)
 else if x.kind = 10 then zfh x.event && inB x.day 0 1048576
 else if x.kind = 11 then inB x.act 1 1048576 && (inB x.item 0 31 && (decide (x.by_.length = 1) && ((x.by_.all fun y => inB y.kind 0 6) && l.all id)))
 else true
noncomputable def mayF (x : It) (l : List Bool) : Bool :=
 (inB x.kind 0 11 && decide (x = zhz x)) && ((decide (6 < x.kind) || (z5e x.at_ && ((decide (x.for_ = z1j) || zfh x.for_) && zub x.sk x.sd x.se))) && z4p x l)
noncomputable def zc8 (x : It) : Bool := ztz mayF x
theorem zm3 (x : It) : zc8 x = mayF x (x.by_.map zc8) := by unfold zc8; rw [zc4]
end Tr
namespace Tr
def z52 (l : List ByteArray) (a i : Int) (k : Nat) : List Wd := (l.zipIdx k).map fun p => ⟨p.1, ⟨a, i, (p.2 : Int)⟩⟩
theorem z85 (l : List ByteArray) (a i : Int) (k : Nat) : (z52 l a i k).length = l.length := by unfold z52; rw [List.length_map, List.length_zipIdx]
theorem zno (l : List ByteArray) (w : ByteArray) (a i : Int) (k : Nat) : z52 (l ++ [w]) a i k = z52 l a i k ++ [⟨w, ⟨a, i, ((k + l.length : Nat) : Int)⟩⟩] := by
 unfold z52
 rw [List.zipIdx_append, List.map_append]; rfl
theorem znp (l : List ByteArray) (a i : Int) (k : Nat) : (z52 l a i k).map (·.text) = l := by
 unfold z52
 rw [List.map_map]
 show (l.zipIdx k).map Prod.fst = l
 exact List.zipIdx_map_fst k l
def za0 : List (Nat -> Nat -> T × Nat × Nat) -> Nat -> Nat -> List T × Nat × Nat
 | [], n, m => ([], n, m)
 | f :: fs, n, m => ((f n m).1 :: (za0 fs (f n m).2.1 (f n m).2.2).1, (za0 fs (f n m).2.1 (f n m).2.2).2)
theorem zic (f : Nat -> Nat -> T × Nat × Nat) : ∀ (l : List (Nat -> Nat -> T × Nat × Nat)) (n m : Nat), za0 (l ++ [f]) n m = ((za0 l n m).1 ++ [(f (za0 l n m).2.1 (za0 l n m).2.2).1], (f (za0 l n m).2.1 (za0 l n m).2.2).2)
 | [], n, m => rfl
 | g :: l, n, m => by simp only [List.cons_append, za0, zic f l]
def zq5 (a i : Int) (t : T) (l : List (Nat -> Nat -> T × Nat × Nat)) (n m : Nat) : T × Nat × Nat :=
 (.mk ⟨a, i, (n : Int)⟩ t.kind t.label (z52 (t.head.map (·.text)) a i m) (z52 (t.words.map (·.text)) a i (m + t.head.length)) (za0 l (n + 1) (m + t.head.length + t.words.length)).1, (za0 l (n + 1) (m + t.head.length + t.words.length)).2)
def z28 (a i : Int) (t : T) : Nat -> Nat -> T × Nat × Nat := zca (zq5 a i) t
theorem z86 (a i : Int) (t : T) (n m : Nat) : z28 a i t n m = zq5 a i t (t.kids.map (z28 a i)) n m := by unfold z28; rw [z2r]
def z6f (a i : Int) (t : T) : T := (z28 a i t 1 0).1
def wcF (t : T) (l : List Nat) : Nat := t.head.length + t.words.length + l.sum
def wcT (t : T) : Nat := zca wcF t
theorem zq6 (t : T) : wcT t = t.head.length + t.words.length + (t.kids.map wcT).sum := by unfold wcT; rw [z2r]; rfl
theorem zq7 (a i : Int) : ∀ t : T, ∀ n m : Nat, (z28 a i t n m).2 = (n + cntT t, m + wcT t) := by
 refine z3u fun t ih n m => ?_
 rw [z86]
 show (za0 (t.kids.map (z28 a i)) (n + 1) (m + t.head.length + t.words.length)).2 = _
 have key : ∀ l : List T, (∀ k ∈ l, ∀ n m : Nat, (z28 a i k n m).2 = (n + cntT k, m + wcT k)) -> ∀ n m : Nat, (za0 (l.map (z28 a i)) n m).2 = (n + (l.flatMap z09).length, m + (l.map wcT).sum) := by
  intro l
  induction l with
  | nil => intro _ n m; simp [za0]
  | cons k l ih2 =>
   intro h n m
   simp only [List.map_cons, za0]
   rw [ih2 (fun k hk => h k (List.mem_cons_of_mem _ hk)), h k (by simp)]
   simp only [List.flatMap_cons, List.length_append, List.sum_cons]
   rw [Prod.mk.injEq]
   refine ⟨?_, ?_⟩
   ·show n + cntT k + _ = n + ((z09 k).length + _); unfold cntT; omega
   ·omega
 rw [key t.kids ih, z3w, zq6, Prod.mk.injEq]
 exact ⟨by omega, by omega⟩
theorem z95 (a i : Int) (P : T -> T -> Prop) : ∀ (l : List T), (∀ k ∈ l, ∀ n m : Nat, P k (z28 a i k n m).1) -> ∀ n m : Nat, (za0 (l.map (z28 a i)) n m).1.length = l.length /\ ∀ j (h : j < l.length) (h2 : j < (za0 (l.map (z28 a i)) n m).1.length), P l[j] ((za0 (l.map (z28 a i)) n m).1[j]) := by
 intro l
 induction l with
 | nil => intro _ n m; exact ⟨rfl, fun j h => by simp at h⟩
 | cons k l ih =>
  intro h n m
  simp only [List.map_cons, za0]
  obtain ⟨h1, h2⟩ := ih (fun k hk => h k (List.mem_cons_of_mem _ hk)) (z28 a i k n m).2.1 (z28 a i k n m).2.2
  refine ⟨by simp only [List.length_cons, h1], fun j hj hj2 => ?_⟩
  cases j with
  | zero => exact h k (by simp) n m
  | succ j => simp only [List.getElem_cons_succ]; exact h2 j (by simpa using hj) _
theorem zkl {l m : List T} (hl : m.length = l.length) (h : ∀ j (h : j < l.length) (h2 : j < m.length), depT m[j] = depT l[j]) : z9n (m.map depT) = z9n (l.map depT) := by
 congr 1
 refine List.ext_getElem (by simp [hl]) fun j h1 h2 => ?_
 simp only [List.length_map] at h1 h2
 simp only [List.getElem_map]
 exact h j h2 h1
theorem zid (a i : Int) : ∀ t : T, ∀ n m : Nat, depT (z28 a i t n m).1 = depT t := by
 refine z3u fun t ih n m => ?_
 rw [z86]
 obtain ⟨h1, h2⟩ := z95 a i (fun k k' => depT k' = depT k) t.kids ih (n + 1) (m + t.head.length + t.words.length)
 rw [z42, z42 t]
 exact zkl h1 h2
theorem zuw {l m : List T} (hl : m.length = l.length) (h : ∀ j (h : j < l.length) (h2 : j < m.length), cntT m[j] = cntT l[j]) : (m.flatMap z09).length = (l.flatMap z09).length := by
 have key : ∀ l : List T, (l.flatMap z09).length = (l.map cntT).sum := fun l => by
  induction l with
  | nil => rfl
  | cons k l ih => rw [List.flatMap_cons, List.length_append, ih, List.map_cons, List.sum_cons]; rfl
 rw [key, key]
 congr 1
 refine List.ext_getElem (by simp [hl]) fun j h1 h2 => ?_
 simp only [List.length_map] at h1 h2
 simp only [List.getElem_map]
 exact h j h2 h1
theorem zq8 (a i : Int) : ∀ t : T, ∀ n m : Nat, cntT (z28 a i t n m).1 = cntT t := by
 refine z3u fun t ih n m => ?_
 rw [z86]
 obtain ⟨h1, h2⟩ := z95 a i (fun k k' => cntT k' = cntT k) t.kids ih (n + 1) (m + t.head.length + t.words.length)
 rw [z3w, z3w t]
 have := zuw h1 h2
 show 1 + ((za0 _ _ _).1.flatMap z09).length = _
 rw [this]
theorem zm8 (a i : Int) : ∀ t : T, szB t = true -> ∀ n m : Nat, szB (z28 a i t n m).1 = true := by
 refine z3u fun t ih hs n m => ?_
 obtain ⟨h0, h1, g1, h2, g2, h3, h4⟩ := (z1l t).1 hs
 rw [z86]
 obtain ⟨q1, q2⟩ := z95 a i (fun k k' => szB k = true -> szB k' = true) t.kids (fun k hk n m hz => ih k hk hz n m) (n + 1) (m + t.head.length + t.words.length)
 have hmk : ∀ (l : List Wd) (k : Nat), (∀ w ∈ l, w.text.size <= 1000000) -> ∀ w ∈ z52 (l.map (·.text)) a i k, w.text.size <= 1000000 := fun l k hl w hw => by
  have : w.text ∈ (z52 (l.map (·.text)) a i k).map (·.text) := List.mem_map.2 ⟨w, hw, rfl⟩
  rw [znp] at this
  obtain ⟨v, hv, e⟩ := List.mem_map.1 this
  rw [<- e]; exact hl v hv
 refine (z1l _).2 ⟨h0, ?_, hmk _ _ g1, ?_, hmk _ _ g2, ?_, fun k hk => ?_⟩
 ·show (z52 _ _ _ _).length <= _
  rw [z85, List.length_map]; exact h1
 ·show (z52 _ _ _ _).length <= _
  rw [z85, List.length_map]; exact h2
 ·show (za0 _ _ _).1.length <= _
  rw [q1]; exact h3
 ·obtain ⟨j, hj, rfl⟩ := List.getElem_of_mem hk
  have hj' : j < t.kids.length := by rw [<- q1]; exact hj
  exact q2 j hj' hj (h4 _ (List.getElem_mem hj'))
end Tr
namespace Tr
def z4v (id : Idv) (t : T) : T × Int × Int := zca (fun t l => if z2h (fun k => decide (k.id = id)) t.kids < t.kids.length then (t, 0, (z2h (fun k => decide (k.id = id)) t.kids : Int)) else match l.find? (fun r => decide (0 <= r.2.2)) with
 | some r => (r.1, r.2.1 + 1, r.2.2)
 | none => (T.zero, 0, -1)) t
theorem z7u (id : Idv) (t : T) : z4v id t = if z2h (fun k => decide (k.id = id)) t.kids < t.kids.length then (t, 0, (z2h (fun k => decide (k.id = id)) t.kids : Int)) else match (t.kids.map (z4v id)).find? (fun r => decide (0 <= r.2.2)) with
  | some r => (r.1, r.2.1 + 1, r.2.2)
  | none => (T.zero, 0, -1) := by unfold z4v; rw [z2r]
theorem z8u {α : Type} {f : α -> Bool} {l : List α} (h : ∀ x ∈ l, f x = false) : z2h f l = l.length := z41 (Nat.le_refl _) (fun j hj => h _ (List.getElem_mem _)) (fun h => absurd h (Nat.lt_irrefl _))
theorem zey {α : Type} {f : α -> Bool} {l r : List α} {x : α} (h : ∀ y ∈ l, f y = false) (hx : f x = true) : z2h f (l ++ x :: r) = l.length :=
 z41 (by simp) (fun j hj => by rw [List.getElem_append_left hj]; exact h _ (List.getElem_mem _)) (fun hl => by simpa using hx)
theorem z5j {l : List T} {id : Idv} (h : id ∉ l.flatMap z0c) : ∀ k ∈ l, id ∉ z0c k := fun k hk hm => h (List.mem_flatMap.2 ⟨k, hk, hm⟩)
theorem z9w {k : T} {id : Idv} (h : id ∉ z0c k) : ¬ k.id = id := fun e => h (e ▸ z16 k)
theorem zta {id : Idv} : ∀ t : T, id ∉ t.kids.flatMap z0c -> z4v id t = (T.zero, 0, -1) := by
 refine z3u fun t ih h => ?_
 rw [z7u, z8u (fun k hk => decide_eq_false (z9w (z5j h k hk))), if_neg (Nat.lt_irrefl _)]
 have : (t.kids.map (z4v id)).find? (fun r => decide (0 <= r.2.2)) = none := by
  rw [List.find?_eq_none]
  intro r hr
  obtain ⟨k, hk, rfl⟩ := List.mem_map.1 hr
  have hk2 := z5j h k hk
  rw [ih k hk (fun hm => hk2 (by rw [z1g]; exact List.mem_cons_of_mem _ hm))]
  decide
 rw [this]
theorem zgo {id : Idv} {q x : T} {l r : List T} (hx : x.id = id) (hq : ¬ q.id = id) (hl : id ∉ l.flatMap z0c) : ∀ C, id ∉ z70 C -> id ∉ z4k C -> z4v id (z2e C (q.setKids (l ++ x :: r))) = (q.setKids (l ++ x :: r), (zp5 C : Int), (l.length : Int))
 | .hole, _, _ => by
  have hf : z2h (fun k => decide (k.id = id)) (l ++ x :: r) = l.length := zey (fun k hk => decide_eq_false (z9w (z5j hl k hk))) (decide_eq_true hx)
  rw [z2e, z7u]
  show (if z2h _ (l ++ x :: r) < (l ++ x :: r).length then _ else _) = _
  rw [hf, if_pos (by simp)]
  show (_, _, ((z2h _ (l ++ x :: r) : Nat) : Int)) = _
  rw [hf]; rfl
 | .node t l' c r', h1, h2 => by
  obtain ⟨n1, n2, n3⟩ := z3q h1
  obtain ⟨m1, m2⟩ := zf2 h2
  have ih := zgo (r := r) hx hq hl c n3 m1
  have hroot : ¬ (z2e c (q.setKids (l ++ x :: r))).id = id := by
   cases c with
   | hole => exact hq
   | node t2 l2 c2 r2 => exact (z3q n3).1
  rw [z2e, z7u]
  have hno : ∀ k ∈ l' ++ z2e c (q.setKids (l ++ x :: r)) :: r', decide (k.id = id) = false := fun k hk => by
   rw [List.mem_append, List.mem_cons] at hk
   rcases hk with hk | rfl | hk
   ·exact decide_eq_false (z9w (z5j n2 k hk))
   ·exact decide_eq_false hroot
   ·exact decide_eq_false (z9w (z5j m2 k hk))
  show (if z2h _ (l' ++ z2e c (q.setKids (l ++ x :: r)) :: r') < (l' ++ z2e c (q.setKids (l ++ x :: r)) :: r').length then _ else match ((l' ++ z2e c (q.setKids (l ++ x :: r)) :: r').map (z4v id)).find? _ with | some r => _ | none => _) = _
  rw [z8u hno, if_neg (Nat.lt_irrefl _), List.map_append, List.map_cons, List.find?_append]
  have hz : (l'.map (z4v id)).find? (fun r => decide (0 <= r.2.2)) = none := by
   rw [List.find?_eq_none]
   intro r hr
   obtain ⟨k, hk, rfl⟩ := List.mem_map.1 hr
   have hk2 := z5j n2 k hk
   rw [zta k (fun hm => hk2 (by rw [z1g]; exact List.mem_cons_of_mem _ hm))]
   decide
  rw [hz, Option.none_or, List.find?_cons, ih]
  simp only [Int.natCast_nonneg, decide_true]
  show (_, ((zp5 c : Nat) : Int) + 1, _) = (_, ((zp5 c + 1 : Nat) : Int), _)
  rw [Int.natCast_add]; rfl
theorem zhp {id : Idv} {u : T} (hn : (z0c u).Nodup) (h0 : ¬ u.id = id) (hm : id ∈ z0c u) : z4v id u = ((z07 (z2u id u).1 u).1, ((z5f (z2u id u).1 u).length : Int), (z2u id u).2.1) := by
 obtain ⟨C, q, l, x, r, e, hx, hq, n1, n2, hf, hp⟩ := zn2 h0 hm
 rw [hp]
 have hxm : id ∈ z0c (q.setKids (l ++ x :: r)) := by rw [z2f]; exact List.mem_cons_of_mem _ (zf1.2 (.inr (.inl (hx ▸ z16 x))))
 subst e
 obtain ⟨k1, k2⟩ := z2m hn hxm
 have hqs : q.id ∈ z0c (q.setKids (l ++ x :: r)) := by rw [z2f]; exact List.mem_cons_self
 obtain ⟨m1, m2⟩ := z2m hn hqs
 have e1 : z07 q.id (q.setKids (l ++ x :: r)) = (q.setKids (l ++ x :: r), true) := z1o rfl
 have e2 : (z5f q.id (z2e C (q.setKids (l ++ x :: r)))).length = zp5 C := zeb rfl m1
 rw [zgo hx hq n2 C k1 k2, z5b hqs C m1, e1]
 show _ = (_, ((z5f q.id (z2e C (q.setKids (l ++ x :: r)))).length : Int), _)
 rw [e2]
theorem zmy {id k : Idv} : ∀ u : T, (z0c u).Nodup -> ¬ u.id = id -> k ∈ z0c u -> (∀ y, z07 id u = (y, true) -> k ∉ z0c y) -> z5f k (z0h id u) = z5f k u := by
 refine z3u fun u ih hn h0 hk hy => ?_
 by_cases hid : id ∉ z0c u
 ·rw [zhg hid]
 rw [Classical.not_not] at hid
 by_cases hku : u.id = k
 ·rw [zfa hku]
  exact zfa (by rw [(z4u id u).1]; exact hku)
 ·obtain ⟨i, hi, h1, h2, h3⟩ := z5d hku (z3g.2 hk)
  have hkm := z3g.1 h2
  obtain ⟨g1, g2, g3⟩ := z9i hn
  have hki := List.getElem_mem hi
  have hkeep : ¬ u.kids[i].id = id := fun e => by
   refine hy u.kids[i] ?_ hkm
   have hw : z1d id u.kids[i] = [u.kids[i]] := z2w e
   have hne : z1d id u.kids[i] ≠ [] := by rw [hw]; simp
   rw [z2n (z3f h0 hi (fun j hj h => (z4x id _).2 (g3 i j hi h (by omega) id (e ▸ z16 _))) hne) hne]
   exact z1o e
  have hyk : ∀ y, z07 id u.kids[i] = (y, true) -> k ∉ z0c y := fun y hf => hy y (by
   have hne : z1d id u.kids[i] ≠ [] := z5x.1 (by rw [hf])
   rw [z2n (z3f h0 hi (fun j hj h => (z4x id _).2 (g3 i j hi h (by omega) id (z3g.1 hne))) hne) hne]
   exact hf)
  have hin := ih _ hki (g2 _ hki) hkeep hkm hyk
  have hfw := z8m u.kids[i] (g2 _ hki) hkeep hkm hyk
  have hsp : u.kids = u.kids.take i ++ u.kids[i] :: u.kids.drop (i + 1) := by rw [<- List.drop_eq_getElem_cons hi, List.take_append_drop]
  have hwk : k ∈ z0c (z0h id u.kids[i]) := by
   have : (z07 k (z0h id u.kids[i])).2 = true := by rw [hfw]
   rw [z36, decide_eq_true_eq] at this; exact this
  rw [znc hku hi h1 h2, z3r]
  have e : (u.kids.filter (z6z id)).map (z0h id) = ((u.kids.take i).filter (z6z id)).map (z0h id) ++ z0h id u.kids[i] :: ((u.kids.drop (i + 1)).filter (z6z id)).map (z0h id) := by
   conv => lhs; rw [hsp]
   rw [List.filter_append, List.filter_cons, if_pos (z8x hkeep), List.map_append, List.map_cons]
  rw [e, ztc hku ?_ hwk, hin]
  intro hm
  obtain ⟨y, hym, hyk⟩ := List.mem_flatMap.1 hm
  obtain ⟨y', hy', rfl⟩ := List.mem_map.1 hym
  have hmem := (List.mem_filter.1 hy').1
  obtain ⟨j, hj, rfl⟩ := List.getElem_of_mem hmem
  rw [List.length_take] at hj
  rw [List.getElem_take] at hyk
  have := h1 j (by omega) (by omega)
  rw [z4x] at this
  exact this (zhh id _ k hyk)
end Tr
namespace Tr
def zaa (wh : Int) : Bool := decide (wh = 2 \/ wh = 3)
def z3c (u : T) (to : Idv) (wh : Int) : Idv := if zaa wh = true then (z2u to u).1 else to
def zd0 (u : T) (id par : Idv) : List T := if (z2u id u).1 = par then (z07 par u).1.kids.eraseIdx (z2u id u).2.1.toNat else (z07 par u).1.kids
def zi1 (u : T) (id to : Idv) (wh : Int) : Nat :=
 if zaa wh = true then z2h (fun k => decide (k.id = to)) (z0h id (z07 (z3c u to wh) u).1).kids + (if wh = 2 then 1 else 0)
 else if wh = 0 then 0 else (z0h id (z07 (z3c u to wh) u).1).kids.length
def z2c (u : T) (id to : Idv) (wh : Int) : Int :=
 if u.id = id \/ (zaa wh = true /\ u.id = to) \/ (to ∈ z0c (z07 id u).1 /\ (¬ to = id \/ zaa wh = false)) then 9 else
 if z20 (z07 (z3c u to wh) u).1.kind (z07 id u).1.kind = false then 9 else
 if z45 (zd0 u id (z3c u to wh)) (z07 id u).1.kind (z07 id u).1.label = true then 10 else
 if 64 <= (zd0 u id (z3c u to wh)).length \/ 8 < (z5f (z3c u to wh) u).length + 1 + depT (z07 id u).1 then 6 else 0
def z2d (u : T) (id to : Idv) (wh : Int) : T :=
 if z2c u id to wh = 0 /\ ¬ to = id then z2k (z3c u to wh) (z5l (zi1 u id to wh) (z07 id u).1) (z0h id u) else u
theorem zd1 {u : T} {id : Idv} (hn : (z0c u).Nodup) (h0 : ¬ u.id = id) (hm : id ∈ z0c u) : ∃ (q : T) (l : List T) (x : T) (r : List T), z2u id u = (q.id, (l.length : Int), true) /\ z07 id u = (x, true) /\ x.id = id /\
  z07 q.id u = (q.setKids (l ++ x :: r), true) /\ q.setKids (l ++ x :: r) ∈ z09 u /\ id ∉ l.flatMap z0c /\ id ∉ r.flatMap z0c /\ q.id ∈ z0c u /\ (∀ i ∈ z0c x, i ≠ q.id /\ i ∉ l.flatMap z0c /\ i ∉ r.flatMap z0c) := by
 obtain ⟨C, q, l, x, r, e, hx, hq, n1, n2, hf, hp⟩ := zn2 h0 hm
 refine ⟨q, l, x, r, hp, hf, hx, ?_⟩
 subst e
 have hqs : q.id ∈ z0c (q.setKids (l ++ x :: r)) := by rw [z2f]; exact List.mem_cons_self
 obtain ⟨m1, m2⟩ := z2m hn hqs
 have ns := (zf3 (zc2 hn)).1
 refine ⟨by rw [z5b hqs C m1]; exact z1o rfl, ztw C (z2b _), n2, (ns id (hx ▸ z16 x)).2.2, z7v C hqs, ns⟩
theorem way_in {k : Idv} : ∀ t : T, ∀ z ∈ z1d k t, k ∈ z0c z := by
 refine z3u fun t ih z hz => ?_
 by_cases h0 : t.id = k
 ·rw [z2w h0, List.mem_singleton] at hz
  rw [hz, <- h0]; exact z16 t
 ·have hne : z1d k t ≠ [] := List.ne_nil_of_mem hz
  obtain ⟨i, hi, h1, h2, h3⟩ := z5d h0 hne
  rw [h3, List.mem_cons] at hz
  rcases hz with rfl | hz
  ·exact z3g.1 hne
  ·exact ih _ (List.getElem_mem hi) z hz
theorem anc_in {u : T} {id k : Idv} (hn : (z0c u).Nodup) (h : id ∈ z5f k u) : k ∈ z0c (z07 id u).1 := by
 unfold z5f at h
 rw [List.mem_reverse, List.mem_map] at h
 obtain ⟨z, hz, he⟩ := h
 have hz2 := (List.dropLast_sublist _).subset hz
 rw [zac hn (z9y k u z hz2) he]
 exact way_in u z hz2
theorem zzi {u x : T} {to : Idv} (hn : (z0c u).Nodup) (h0 : ¬ u.id = to) (hm : to ∈ z0c u) (hx : x ∈ z09 u) (h : to ∉ z0c x) : (z2u to u).1 ∈ z0c u /\ (z2u to u).1 ∉ z0c x := by
 obtain ⟨q, l, y, r, hp, hf, hy, hq, hqm, n1, n2, hqi, _⟩ := zd1 hn h0 hm
 rw [hp]
 refine ⟨hqi, fun hc => h ?_⟩
 obtain ⟨z, hz, hzi⟩ := List.mem_map.1 hc
 have e1 := zac hn (z8z u x hx z hz) hzi
 have e2 := zac hn hqm rfl
 rw [show (q.setKids (l ++ y :: r)).id = q.id from rfl] at e2
 rw [e1] at e2
 have e3 : z = q.setKids (l ++ y :: r) := (Prod.mk.inj e2).1
 have hyz : y ∈ z09 z := by rw [e3]; exact z3m (k := y) (by show y ∈ l ++ y :: r; simp) (z2b y)
 exact List.mem_map.2 ⟨y, z8z x z hz y hyz, hy⟩
theorem zt4 {id : Idv} {P : T} (h : ∀ k ∈ P.kids, ¬ k.id = id) : (z0h id P).kids = P.kids.map (z0h id) := by
 rw [z3r]
 show (P.kids.filter (z6z id)).map (z0h id) = _
 rw [List.filter_eq_self.2 fun k hk => z8x (h k hk)]
theorem zt5 {α β : Type} {f : β -> Bool} {g : α -> β} {l : List α} : z2h f (l.map g) = z2h (fun x => f (g x)) l := by
 unfold z2h
 rw [List.takeWhile_map, List.length_map]; rfl
theorem zeu {u : T} {id par : Idv} (hn : (z0c u).Nodup) (h0 : ¬ u.id = id) (hm : id ∈ z0c u) (hp : par ∈ z0c u) :
    (z0h id (z07 par u).1).kids.map z60 = (zd0 u id par).map z60 /\ (z0h id (z07 par u).1).kids.length = (zd0 u id par).length /\
    (((z2u id u).1 = par /\ ∃ l x r, (z07 par u).1.kids = l ++ x :: r /\ x.id = id /\ (z2u id u).2.1 = (l.length : Int) /\ (z0h id (z07 par u).1).kids = l ++ r) \/
     (¬ (z2u id u).1 = par /\ (z0h id (z07 par u).1).kids = (z07 par u).1.kids.map (z0h id))) := by
  obtain ⟨q, l, x, r, hpr, hf, hx, hq, hqm, n1, n2, hqi, hxs⟩ := zd1 hn h0 hm
  have hq0 : ¬ q.id = id := fun e => (hxs id (hx ▸ z16 x)).1 e.symm
  by_cases he : (z2u id u).1 = par
  · have hqp : q.id = par := by rw [hpr] at he; exact he
    have hfp : z07 par u = (q.setKids (l ++ x :: r), true) := hqp ▸ hq
    have hw : (z0h id (q.setKids (l ++ x :: r))).kids = l ++ r := by rw [zk1 hx n1 n2]; rfl
    have hk : zd0 u id par = l ++ r := by
      unfold zd0
      rw [if_pos he, hfp, hpr]
      show (l ++ x :: r).eraseIdx (Int.toNat (l.length : Int)) = _
      rw [Int.toNat_natCast, List.eraseIdx_append_of_length_le (Nat.le_refl _), Nat.sub_self]; rfl
    rw [hfp, hk, hw]
    exact ⟨rfl, rfl, .inl ⟨he, l, x, r, rfl, hx, by rw [hpr], rfl⟩⟩
  · have hk : zd0 u id par = (z07 par u).1.kids := by unfold zd0; rw [if_neg he]
    have hno : ∀ k ∈ (z07 par u).1.kids, ¬ k.id = id := fun k hk e => he (by
      have h1 := zc3 u hn _ (z51 (id := par) (u := u) (by rw [z36, decide_eq_true hp])) k hk
      rw [e] at h1
      rw [h1]
      obtain ⟨_, _, h2, _⟩ := focus par u hp
      exact h2)
    have hw := zt4 hno
    rw [hk, hw]
    refine ⟨?_, by rw [List.length_map], .inr ⟨he, rfl⟩⟩
    rw [List.map_map]
    refine List.map_congr_left fun k _ => ?_
    show z60 (z0h id k) = z60 k
    unfold z60
    rw [(z4u id k).2.1, (z4u id k).2.2.1]
theorem zgn {l m : List T} (h : l.map z60 = m.map z60) (x : T) : z45 l x.kind x.label = z45 m x.kind x.label := by
 have h1 := zdd (l := l) (x := x)
 have h2 := zdd (l := m) (x := x)
 rw [h] at h1
 cases ha : z45 l x.kind x.label with
 | false => exact (h2.2 (h1.1 ha)).symm
 | true => cases hb : z45 m x.kind x.label with
  | true => rfl
  | false => rw [h1.2 (h2.1 hb)] at ha; cases ha
theorem z8t {u : T} {id to : Idv} {wh : Int} (hs : z0z u = true) (hm : id ∈ z0c u) (ht : to ∈ z0c u) (h : z2c u id to wh = 0) : ¬ u.id = id /\ (zaa wh = true -> ¬ u.id = to) /\
  (¬ to = id -> z3c u to wh ∈ z0c u /\ z3c u to wh ∉ z0c (z07 id u).1 /\ zfq u id (z3c u to wh) (zi1 u id to wh) = 0) := by
 unfold z2c at h
 split at h
 ·cases h
 rename_i h1
 split at h
 ·cases h
 rename_i h2
 split at h
 ·cases h
 rename_i h3
 split at h
 ·cases h
 rename_i h4
 simp only [not_or, not_and, Classical.not_not, Bool.not_eq_false, Bool.not_eq_true] at h1 h2 h3 h4
 obtain ⟨a1, a2, a3⟩ := h1
 refine ⟨a1, a2, fun hne => ?_⟩
 have hn := z4y hs
 have hxn := z51 (id := id) (u := u) (by rw [z36, decide_eq_true hm])
 have hto : to ∉ z0c (z07 id u).1 := fun hc => hne (a3 hc).1
 have hpar : z3c u to wh ∈ z0c u /\ z3c u to wh ∉ z0c (z07 id u).1 := by
  unfold z3c
  split
  ·rename_i hb
   exact zzi hn (a2 hb) ht hxn hto
  ·exact ⟨ht, hto⟩
 refine ⟨hpar.1, hpar.2, ?_⟩
 obtain ⟨under, n, x, d1, d2, d3, d4, d5, d6, d7, d8, d9, d10, d11, d12⟩ := z59 hs a1 hm
 obtain ⟨k1, k2, k3⟩ := zeu hn a1 hm hpar.1
 have hyo : ∀ y, z07 id u = (y, true) -> z3c u to wh ∉ z0c y := fun y hy => by have := hpar.2; rw [hy] at this; exact this
 have hfw := z8m u hn a1 hpar.1 hyo
 have haw := zmy u hn a1 hpar.1 hyo
 rw [d2] at h2 h3 h4 hpar
 simp only at h2 h3 h4 hpar
 have hpw : z3c u to wh ∈ z0c (z0h id u) := (d12 _ hpar.1).resolve_left hpar.2
 refine zf7 hs d2 hpar.1 a1 hpar.2 ?_
 refine zbt d4 d5 d6 hpw ?_ ?_ ?_ ?_ ?_ ?_ d9
 ·rw [hfw]; show z20 (z0h id _).kind _ = true; rw [(z4u id _).2.1]; exact h2
 ·rw [hfw]
  show zi1 u id to wh <= (z0h id (z07 (z3c u to wh) u).1).kids.length
  unfold zi1
  split
  ·rename_i hb
   -- the unit beside is there
   obtain ⟨q, l, y, r, hp, hf, hy, hq, hqm, _⟩ := zd1 hn (a2 hb) ht
   have hpm : z3c u to wh = q.id := by unfold z3c; rw [if_pos hb, hp]
   have hlt : z2h (fun k => decide (k.id = to)) (z0h id (z07 (z3c u to wh) u).1).kids < (z0h id (z07 (z3c u to wh) u).1).kids.length := by
    have := zhu (fun k : T => decide (k.id = to)) (z0h id (z07 (z3c u to wh) u).1).kids
    have hany : (z0h id (z07 (z3c u to wh) u).1).kids.any (fun k => decide (k.id = to)) = true := by
     rw [z3r]
     show ((List.filter _ _).map _).any _ = true
     rw [List.any_map, List.any_eq_true]
     refine ⟨y, List.mem_filter.2 ⟨?_, z8x (by rw [hy]; exact hne)⟩, ?_⟩
     ·rw [hpm, hq]; show y ∈ l ++ y :: r; simp
     ·show decide ((z0h id y).id = to) = true
      rw [(z4u id y).1, decide_eq_true hy]
    rw [hany] at this
    exact of_decide_eq_true this
   split <;> omega
  ·split
   ·exact Nat.zero_le _
   ·exact Nat.le_refl _
 ·rw [hfw]; show z45 (z0h id _).kids _ _ = false; rw [zgn k1]; exact h3
 ·rw [hfw]; show (z0h id _).kids.length < 64; rw [k2]; omega
 ·rw [haw]; omega
 ·have := ((z1f u).1 hs).2.2.1; omega
theorem zlk {u : T} {id to : Idv} {wh : Int} (hm : id ∈ z0c u) (hne : ¬ to = id) (hb : zaa wh = true -> ¬ u.id = to) (hto : to ∉ z0c (z07 id u).1) (h : zfq u id (z3c u to wh) (zi1 u id to wh) = 0) : z2c u id to wh = 0 := by
 obtain ⟨hs, _, hpar, a1, hpo, hw⟩ := zf6 h
 have hn := z4y hs
 obtain ⟨under, n, x, d1, d2, d3, d4, d5, d6, d7, d8, d9, d10, d11, d12⟩ := z59 hs a1 hm
 obtain ⟨k1, k2, k3⟩ := zeu hn a1 hm hpar
 have hyo : ∀ y, z07 id u = (y, true) -> z3c u to wh ∉ z0c y := fun y hy => by have := hpo; rw [hy] at this; exact this
 have hfw := z8m u hn a1 hpar hyo
 have haw := zmy u hn a1 hpar hyo
 obtain ⟨⟨w1, w2, w3, w4, w5, w6, w7, w8, w9, w10⟩, w11, m, hm2, w12⟩ := zh0 hw
 rw [hfw] at w5 w6 w7
 rw [haw] at w8
 simp only at w5 w6 w7
 rw [(z4u id _).2.1] at w5
 rw [zgn k1] at w6
 rw [k2] at w7
 unfold z2c
 rw [if_neg (by
  rintro (g | ⟨g1, g2⟩ | ⟨g1, _⟩)
  ·exact a1 g
  ·exact hb g1 g2
  ·exact hto g1), if_neg (by rw [w5]; simp), if_neg (by rw [w6]; simp), if_neg (by omega)]
def z4o (u : T) (to : Idv) (wh : Int) : (Idv × Int) × Int :=
 if wh = 0 then ((to, 0), 0) else if wh = 1 then ((to, ((z07 to u).1.kids.length : Int)), 0) else
 if (z2u to u).2.2 = true then (((z2u to u).1, (z2u to u).2.1 + (if wh = 2 then 1 else 0)), 0) else ((Idv.zero, 0), 9)
def zev (u : T) (id to : Idv) (wh : Int) : (Idv × Int) × Int :=
 if (z2u id u).2.2 = false \/ (¬ to = id /\ id ∈ z5f to u) \/ (to = id /\ zaa wh = false) then ((Idv.zero, 0), 9) else
 if to = id then (((z2u id u).1, (z2u id u).2.1), 0) else
 if (z4o u to wh).2 = 0 /\ (z4o u to wh).1.1 = (z2u id u).1 /\ (z2u id u).2.1 < (z4o u to wh).1.2 then (((z4o u to wh).1.1, (z4o u to wh).1.2 - 1), (z4o u to wh).2) else z4o u to wh
theorem wh4 {wh : Int} (h : 0 <= wh /\ wh <= 3) : wh = 0 \/ wh = 1 \/ wh = 2 \/ wh = 3 := by omega
theorem zzj {u : T} {id to : Idv} {wh : Int} (hs : z0z u = true) (hm : id ∈ z0c u) (ht : to ∈ z0c u) (hw : 0 <= wh /\ wh <= 3) (h : z2c u id to wh = 0) :
  zev u id to wh = (if to = id then ((z2u id u).1, (z2u id u).2.1) else (z3c u to wh, (zi1 u id to wh : Int)), 0) := by
 obtain ⟨a1, a2, a3⟩ := z8t hs hm ht h
 have hn := z4y hs
 obtain ⟨q, l, x, r, hp, hf, hx, hq, hqm, n1, n2, hqi, hxs⟩ := zd1 hn a1 hm
 have h9 : ¬ (u.id = id \/ (zaa wh = true /\ u.id = to) \/ (to ∈ z0c (z07 id u).1 /\ (¬ to = id \/ zaa wh = false))) := fun g => by
  unfold z2c at h; rw [if_pos g] at h; cases h
 simp only [not_or, not_and, Classical.not_not] at h9
 obtain ⟨_, _, h93⟩ := h9
 have hok : (z2u id u).2.2 = true := by rw [hp]
 have g1 : ¬ ((z2u id u).2.2 = false \/ (¬ to = id /\ id ∈ z5f to u) \/ (to = id /\ zaa wh = false)) := by
  rintro (g | ⟨g1, g2⟩ | ⟨g1, g2⟩)
  ·rw [hok] at g; cases g
  ·exact g1 (h93 (anc_in hn g2)).1
  ·have := (h93 (by rw [g1]; exact (by rw [hf]; exact hx ▸ z16 x))).2
   exact this g2
 unfold zev
 rw [if_neg g1]
 by_cases hne : to = id
 ·rw [if_pos hne, if_pos hne]
 rw [if_neg hne, if_neg hne]
 obtain ⟨hpu, hpo, _⟩ := a3 hne
 obtain ⟨k1, k2, k3⟩ := zeu hn a1 hm hpu
 -- the place that leads gives, and the place among the kids that are left
 have main : ∃ z : Int, z4o u to wh = ((z3c u to wh, z), 0) /\ (zi1 u id to wh : Int) = if z3c u to wh = (z2u id u).1 /\ (z2u id u).2.1 < z then z - 1 else z := by
  by_cases hb : zaa wh = true
  ·obtain ⟨q2, l2, y, r2, hp2, hf2, hy, hq2, hqm2, m1, m2, hqi2, hys⟩ := zd1 hn (a2 hb) ht
   have hpm : z3c u to wh = q2.id := by unfold z3c; rw [if_pos hb, hp2]
   have hb2 : wh = 2 \/ wh = 3 := of_decide_eq_true hb
   refine ⟨(l2.length : Int) + (if wh = 2 then 1 else 0), ?_, ?_⟩
   ·unfold z4o
    rw [if_neg (by omega), if_neg (by omega), hp2, if_pos rfl, hpm]
   ·unfold zi1
    rw [if_pos hb]
    have hfk : (z07 (z3c u to wh) u).1.kids = l2 ++ y :: r2 := by rw [hpm, hq2]; rfl
    rcases k3 with ⟨e1, l3, x3, r3, e2, e3, e4, e5⟩ | ⟨e1, e5⟩
    ·rw [e5]
     rw [hfk] at e2
     have hl3 : ∀ k ∈ l2, ¬ k.id = to := fun k hk => z9w (z5j m1 k hk)
     have hr3 : ∀ k ∈ r2, ¬ k.id = to := fun k hk => z9w (z5j m2 k hk)
     have hcase : l2.length < l3.length \/ l3.length < l2.length := by
      rcases Nat.lt_trichotomy l2.length l3.length with g | g | g
      ·exact .inl g
      ·obtain ⟨_, g2⟩ := List.append_inj e2 g
       exact (hne (by rw [<- hy, <- e3]; exact congrArg T.id (List.cons.inj g2).1)).elim
      ·exact .inr g
     have hg2 : ∀ j, (hj : j < (l2 ++ y :: r2).length) -> ((l2 ++ y :: r2)[j]).id = to -> j = l2.length := fun j hj hid => by
      rcases Nat.lt_trichotomy j l2.length with g | g | g
      ·rw [List.getElem_append_left g] at hid
       exact (hl3 _ (List.getElem_mem _) hid).elim
      ·exact g
      ·have hj2 : j - l2.length - 1 < r2.length := by simp at hj; omega
       have : (l2 ++ y :: r2)[j] = r2[j - l2.length - 1] := by
        rw [List.getElem_append_right (by omega)]
        rw [List.getElem_cons, dif_neg (by omega)]
       rw [this] at hid
       exact (hr3 _ (List.getElem_mem _) hid).elim
     have hfn : z2h (fun k => decide (k.id = to)) (l3 ++ r3) = if l3.length < l2.length then l2.length - 1 else l2.length := by
      have hlen : (l2 ++ y :: r2).length = (l3 ++ x3 :: r3).length := by rw [e2]
      simp only [List.length_append, List.length_cons] at hlen
      have at3 : ∀ j, (hj : j < (l3 ++ r3).length) -> (l3 ++ r3)[j] = (l2 ++ y :: r2)[if j < l3.length then j else j + 1]'(by simp only [List.length_append, List.length_cons] at hj ⊢; split <;> omega) := fun j hj => by
       have : ∀ i (hi : i < (l2 ++ y :: r2).length) (hi3 : i < (l3 ++ x3 :: r3).length), (l2 ++ y :: r2)[i] = (l3 ++ x3 :: r3)[i] := fun i hi hi3 => by simp only [e2]
       simp only [List.length_append] at hj
       by_cases g : j < l3.length
       ·rw [List.getElem_append_left g]
        simp only [if_pos g]
        rw [this j (by simp only [List.length_append, List.length_cons]; omega) (by simp only [List.length_append, List.length_cons]; omega), List.getElem_append_left g]
       ·rw [List.getElem_append_right (by omega)]
        simp only [if_neg g]
        rw [this (j + 1) (by simp only [List.length_append, List.length_cons]; omega) (by simp only [List.length_append, List.length_cons]; omega), List.getElem_append_right (by omega), List.getElem_cons, dif_neg (by omega)]
        congr 1; omega
      refine z41 ?_ (fun j hj => ?_) (fun hlt => ?_)
      ·simp only [List.length_append]; split <;> omega
      ·rw [at3]
       refine decide_eq_false fun hid => ?_
       have := hg2 _ (by simp only [List.length_append, List.length_cons]; split at hj <;> split <;> omega) hid
       split at hj <;> split at this <;> omega
      ·rw [at3]
       refine decide_eq_true ?_
       have hix : (if (if l3.length < l2.length then l2.length - 1 else l2.length) < l3.length then (if l3.length < l2.length then l2.length - 1 else l2.length) else (if l3.length < l2.length then l2.length - 1 else l2.length) + 1) = l2.length := by
        split <;> split <;> omega
       simp only [hix]
       rw [List.getElem_append_right (Nat.le_refl _)]
       simp only [Nat.sub_self, List.getElem_cons_zero, hy]
     rw [hfn, e4]
     have hpe : z3c u to wh = (z2u id u).1 := e1.symm
     simp only [hpe, true_and]
     rcases hb2 with rfl | rfl
     ·simp only [if_true]; split <;> split <;> omega
     ·simp only [show ¬ ((3 : Int) = 2) from by decide, if_false]; split <;> split <;> omega
    ·rw [e5, hfk, zt5]
     have hff : z2h (fun x => decide ((z0h id x).id = to)) (l2 ++ y :: r2) = l2.length := zey (fun k hk => decide_eq_false (by rw [(z4u id k).1]; exact z9w (z5j m1 k hk))) (decide_eq_true (by rw [(z4u id y).1]; exact hy))
     rw [hff, if_neg (c := z3c u to wh = (z2u id u).1 /\ _) (fun g => e1 g.1.symm)]
     split <;> rfl
  ·have hpm : z3c u to wh = to := by unfold z3c; rw [if_neg hb]
   have hb2 : wh = 0 \/ wh = 1 := by
    have : ¬ (wh = 2 \/ wh = 3) := fun g => hb (decide_eq_true g)
    omega
   have hpos := (z2u id u).2.1
   rcases hb2 with rfl | rfl
   ·refine ⟨0, by unfold z4o; rw [if_pos rfl, hpm], ?_⟩
    have h0 : zi1 u id to 0 = 0 := by unfold zi1; rw [if_neg hb, if_pos rfl]
    rw [h0, hp]
    rw [if_neg (by rintro ⟨_, g⟩; simp only at g; omega)]; rfl
   ·refine ⟨((z07 to u).1.kids.length : Int), by unfold z4o; rw [if_neg (by decide), if_pos rfl, hpm], ?_⟩
    have h0 : zi1 u id to 1 = (z0h id (z07 (z3c u to 1) u).1).kids.length := by unfold zi1; rw [if_neg hb, if_neg (by decide)]
    rw [h0]
    rcases k3 with ⟨e1, l3, x3, r3, e2, e3, e4, e5⟩ | ⟨e1, e5⟩
    ·rw [e5, e4]
     rw [hpm] at e2 e1
     rw [e2, hpm, if_pos ⟨e1.symm, by simp only [List.length_append, List.length_cons]; omega⟩]
     simp only [List.length_append, List.length_cons]; omega
    ·rw [e5, List.length_map, hpm, if_neg]
     rintro ⟨g, _⟩
     rw [hpm] at e1
     exact e1 g.symm
 obtain ⟨z, hz1, hz2⟩ := main
 rw [hz1]
 simp only [true_and]
 rw [hz2]
 split <;> rfl
end Tr
namespace Tr
def zfu (t : T) : Stp := ⟨t.kind, t.label⟩
def z3v (id : Idv) (t : T) : List Stp := ((z1d id t).drop 1).map zfu
def z49 (id : Idv) (u : T) : List Stp := ⟨0, z1j⟩ :: z3v id u
theorem zud {id : Idv} {t : T} (h : id ∈ z0c t) : z1d id t = t :: (z1d id t).drop 1 := by
 by_cases h0 : t.id = id
 ·rw [z2w h0]; rfl
 ·obtain ⟨i, hi, _, _, h3⟩ := z5d h0 (z3g.2 h)
  rw [h3]; rfl
theorem zpq {l : List T} {k : T} (h : (l.map z60).Nodup) (hk : k ∈ l) : l.filter (atB (zfu k)) = [k] := by
 induction l with
 | nil => cases hk
 | cons y l ih =>
  rw [List.map_cons, List.nodup_cons] at h
  rw [List.filter_cons]
  have hat : ∀ z : T, atB (zfu k) z = true ↔ z60 z = z60 k := fun z => by
   unfold atB zfu z60
   simp only [Bool.and_eq_true, decide_eq_true_eq, Prod.mk.injEq]
  by_cases hy : z60 y = z60 k
  ·rw [if_pos ((hat y).2 hy)]
   have hyk : y = k := by
    rcases List.mem_cons.1 hk with e | hk
    ·exact e.symm
    ·exact (h.1 (List.mem_map.2 ⟨k, hk, hy.symm⟩)).elim
   subst hyk
   congr 1
   rw [List.filter_eq_nil_iff]
   intro z hz hz2
   exact h.1 (List.mem_map.2 ⟨z, hz, (hat z).1 hz2⟩)
  ·rw [if_neg (fun g => hy ((hat y).1 g))]
   rcases List.mem_cons.1 hk with e | hk
   ·exact (hy (by rw [e])).elim
   ·exact ih h.2 hk
theorem zpr {id : Idv} : ∀ t : T, z2x t = true -> id ∈ z0c t -> (z3v id t).foldl z1u [t] = [(z07 id t).1] := by
 refine z3u fun t ih hr hm => ?_
 unfold z3v
 by_cases h0 : t.id = id
 ·rw [z2w h0, z1o h0]; rfl
 ·obtain ⟨i, hi, h1, h2, h3⟩ := z5d h0 (z3g.2 hm)
  have hk := List.getElem_mem hi
  have hkm := z3g.1 h2
  have hkey : (t.kids.map z60).Nodup := by
   rw [z53] at hr
   simp only [Bool.and_eq_true, decide_eq_true_eq] at hr
   exact hr.2.2.2
  rw [z2n h3 h2, h3, List.drop_succ_cons, List.drop_zero, zud hkm, List.map_cons, List.foldl_cons]
  have hn : z1u [t] (zfu t.kids[i]) = [t.kids[i]] := by
   unfold z1u
   rw [List.flatMap_cons, List.flatMap_nil, List.append_nil, zpq hkey hk]
  rw [hn]
  exact ih _ hk (z69 hr _ hk).2 hkm
theorem zx7 {id : Idv} : ∀ t : T, z2x t = true -> id ∈ z0c t -> ∀ s ∈ z3v id t, ze7 s = true := by
 refine z3u fun t ih hr hm s hs => ?_
 unfold z3v at hs
 by_cases h0 : t.id = id
 ·rw [z2w h0] at hs; cases hs
 ·obtain ⟨i, hi, h1, h2, h3⟩ := z5d h0 (z3g.2 hm)
  have hk := List.getElem_mem hi
  have hkm := z3g.1 h2
  rw [h3, List.drop_succ_cons, List.drop_zero, zud hkm, List.map_cons, List.mem_cons] at hs
  rcases hs with rfl | hs
  ·have hrk := (z69 hr _ hk).2
   have hz := zt7 hr _ hk
   have ha := (zex hrk).1
   unfold z4b at ha
   simp only [Bool.and_eq_true, decide_eq_true_eq] at ha
   obtain ⟨b1, _, _, _, b5⟩ := ha
   rw [if_neg hz] at b5
   unfold ze7 zfu
   rw [decide_eq_true (by simp only; omega)]
   exact b5
  ·exact ih _ hk (z69 hr _ hk).2 hkm s hs
theorem zue {id : Idv} {u : T} (hd : depT u <= 8) : (z49 id u).length <= 9 := by
 have := z50 id u
 unfold z49 z3v
 simp only [List.length_cons, List.length_map, List.length_drop]; omega
theorem zi0 {id : Idv} {u : T} (hs : z0z u = true) (hm : id ∈ z0c u) : z5e (z49 id u) = true := by
 obtain ⟨hr, hd, _⟩ := (z1f u).1 hs
 refine zni (zue hd) fun i hi => ?_
 unfold okS
 match i, hi with
 | 0, _ => rfl
 | i + 1, hi =>
  have : (z49 id u)[i + 1] = (z3v id u)[i]'(by unfold z49 at hi; simpa using hi) := rfl
  rw [this, zx7 u hr hm _ (List.getElem_mem _), Bool.or_true]
theorem zkj {id : Idv} {u : T} (hs : z0z u = true) (hm : id ∈ z0c u) : z24 u (z49 id u) = (id, 0) := by
 obtain ⟨hr, hd, _⟩ := (z1f u).1 hs
 have hf : z40 u (z49 id u) = [id] := by
  unfold z40 z2j
  rw [if_pos (zi0 hs hm)]
  have : z15 u ⟨0, z1j⟩ = [u] := if_pos rfl
  show List.map T.id ((z3v id u).foldl z1u (z15 u ⟨0, z1j⟩)) = _
  rw [this, zpr u hr hm]
  obtain ⟨_, _, e, _⟩ := focus id u hm
  rw [List.map_cons, e]; rfl
 unfold z24; rw [hf]; rfl
theorem zgz {u : T} {p : List Stp} {id : Idv} {e : Int} (h : z24 u p = (id, e)) (he : e = 0) : id ∈ z0c u := by
 subst he
 have hall : ∀ i ∈ z40 u p, i ∈ z0c u := fun i hi => by
  unfold z40 z2j at hi
  split at hi
  ·obtain ⟨x, hx, rfl⟩ := List.mem_map.1 hi
   refine List.mem_map.2 ⟨x, ?_, rfl⟩
   cases p with
   | nil => rw [goT, List.mem_singleton] at hx; rw [hx]; exact z2b u
   | cons s r => exact z9j r _ z93 x hx
  ·cases hi
 unfold z24 at h
 generalize z40 u p = l at h hall
 match l, h with
 | [], h => cases h
 | [i], h => rw [<- (Prod.mk.inj h).1]; exact hall i (by simp)
 | _ :: _ :: _, h => cases h
theorem z9k {u P : T} {par : Idv} {f : T -> T} (hn : (z0c u).Nodup) (hP : z07 par u = (P, true)) : z2k par (fun _ => f P) u = z2k par f u := by
 have hm : par ∈ z0c u := by have := congrArg Prod.snd hP; rw [z36, decide_eq_true_eq] at this; exact this
 obtain ⟨C, e, hq, hpre, _⟩ := focus par u hm
 rw [hP] at e hq
 simp only at e hq
 have hpost : par ∉ z4k C := (z2m (x := P) (by rw [<- e]; exact hn) (hq ▸ z16 P)).2
 rw [e, z6b _ hq C hpre hpost, z6b _ hq C hpre hpost]
def z6q (u : T) (id : Idv) (wh : Int) (x : T) : Int :=
 if zaa wh = true /\ u.id = id then 9 else
 if z20 (z07 (z3c u id wh) u).1.kind x.kind = false then 9 else
 if z45 (z07 (z3c u id wh) u).1.kids x.kind x.label = true then 10 else
 if 64 <= (z07 (z3c u id wh) u).1.kids.length \/ 8 < (z5f (z3c u id wh) u).length + 1 + depT x \/ 1024 < cntT u + cntT x then 6 else
 if ((z0c x).any fun i => (z07 i u).2) = true then 5 else 0
def zct (u : T) (id : Idv) (wh : Int) : Nat :=
 if zaa wh = true then (z2u id u).2.1.toNat + (if wh = 2 then 1 else 0) else if wh = 0 then 0 else (z07 (z3c u id wh) u).1.kids.length
def zcu (u : T) (id : Idv) (wh : Int) (x : T) : T := if z6q u id wh x = 0 then z2k (z3c u id wh) (z5l (zct u id wh) x) u else u
theorem znj {u x : T} {id : Idv} {wh : Int} (hn : (z0c u).Nodup) (hm : id ∈ z0c u) (hw : 0 <= wh /\ wh <= 3) (h : z6q u id wh x = 0) : z4o u id wh = ((z3c u id wh, (zct u id wh : Int)), 0) /\ z3c u id wh ∈ z0c u /\ zct u id wh <= (z07 (z3c u id wh) u).1.kids.length := by
 have h0 : ¬ (zaa wh = true /\ u.id = id) := fun g => by unfold z6q at h; rw [if_pos g] at h; cases h
 unfold z4o z3c zct
 by_cases hb : zaa wh = true
 ·have h1 : ¬ u.id = id := fun g => h0 ⟨hb, g⟩
  obtain ⟨q, l, x, r, hp, hf, hx, hq, hqm, n1, n2, hqi, hxs⟩ := zd1 hn h1 hm
  have hb2 : wh = 2 \/ wh = 3 := of_decide_eq_true hb
  rw [if_neg (by omega), if_neg (by omega), hp, if_pos rfl, if_pos hb, if_pos hb]
  simp only [Int.toNat_natCast]
  refine ⟨?_, hqi, ?_⟩
  ·split <;> rfl
  ·rw [hq]
   show _ <= (l ++ x :: r).length
   simp only [List.length_append, List.length_cons]
   split <;> omega
 ·have hb2 : wh = 0 \/ wh = 1 := by
   have : ¬ (wh = 2 \/ wh = 3) := fun g => hb (decide_eq_true g)
   omega
  rw [if_neg hb, if_neg hb]
  rcases hb2 with rfl | rfl
  ·exact ⟨rfl, hm, Nat.zero_le _⟩
  ·refine ⟨?_, hm, ?_⟩
   ·rw [if_neg (by decide), if_pos rfl, if_neg (by decide)]; unfold z3c; rw [if_neg hb]
   ·rw [if_neg (by decide)]; unfold z3c; rw [if_neg hb]; exact Nat.le_refl _
theorem ins_at {u x : T} {par : Idv} {n : Nat} (hn : (z0c u).Nodup) (hm : par ∈ z0c u) (hl : n <= (z07 par u).1.kids.length) :
  z07 par (z2k par (z5l n x) u) = (z5l n x (z07 par u).1, true) /\ n < (z5l n x (z07 par u).1).kids.length /\ ∀ h : n < (z5l n x (z07 par u).1).kids.length, (z5l n x (z07 par u).1).kids[n] = x := by
 obtain ⟨C, e, hq, hpre, _⟩ := focus par u hm
 generalize (z07 par u).1 = P at *
 have hpost : par ∉ z4k C := (z2m (x := P) (by rw [<- e]; exact hn) (hq ▸ z16 P)).2
 have hk : (z5l n x P).kids = P.kids.take n ++ x :: P.kids.drop n := rfl
 have hid : (z5l n x P).id = par := hq
 refine ⟨?_, ?_, fun h => ?_⟩
 ·rw [e, z6b _ hq C hpre hpost, z5b (hid ▸ z16 _) C hpre]
  exact z1o hid
 ·rw [hk]; simp only [List.length_append, List.length_cons, List.length_take, List.length_drop]; omega
 ·simp only [hk]
  rw [List.getElem_append_right (by rw [List.length_take]; omega)]
  simp only [List.length_take, Nat.min_eq_left hl, Nat.sub_self, List.getElem_cons_zero]
end Tr
end
section
open Abs Facts Tr
attribute [local irreducible] awp
set_option maxRecDepth 100000
namespace Tr
def z5n (id : Idv) (t : T) : Int := ((z1d id t).length : Int) - 1
theorem zdm {id : Idv} {t : T} (h : t.id = id) : z5n id t = 0 := by unfold z5n; rw [z2w h]; rfl
theorem zii {id : Idv} {t : T} (h : z1d id t = []) : z5n id t = -1 := by unfold z5n; rw [h]; rfl
theorem zme {id : Idv} {t : T} (h : id ∉ z0c t) : z5n id t = -1 := zii ((z4x id t).2 h)
theorem zmf {id : Idv} {t k : T} (h : z1d id t = t :: z1d id k) : z5n id t = z5n id k + 1 := by
 unfold z5n; rw [h, List.length_cons, Int.natCast_add]; omega
theorem zh8 {id : Idv} {t : T} : 0 <= z5n id t ↔ z1d id t ≠ [] := by
 unfold z5n
 cases z1d id t with
 | nil => simp
 | cons a l => simp only [List.length_cons, Int.natCast_add, ne_eq, reduceCtorEq, not_false_eq_true, iff_true]; omega
theorem zrf {id : Idv} {t : T} (h : id ∈ z0c t) : z5n id t = ((z5f id t).length : Int) := by
 have h1 := z3g.2 h
 unfold z5n z5f
 rw [List.length_reverse, List.length_map, List.length_dropLast]
 have := List.length_pos_iff.2 h1
 omega
theorem znw {id : Idv} {t : T} {i : Nat} (hi : i < t.kids.length) (h1 : ∀ j, (hj : j < i) -> (h : j < t.kids.length) -> ¬ t.kids[j].id = id) (h2 : t.kids[i].id = id) : z4v id t = (t, 0, (i : Int)) := by
 have hf : z2h (fun k => decide (k.id = id)) t.kids = i := z41 (by omega) (fun j hj => decide_eq_false (h1 j hj (by omega))) (fun _ => decide_eq_true h2)
 rw [z7u, hf, if_pos hi]
theorem zva {id : Idv} {t : T} {i : Nat} (hno : ∀ j, (h : j < t.kids.length) -> ¬ t.kids[j].id = id) (hi : i < t.kids.length) (h1 : ∀ j, (hj : j < i) -> (h : j < t.kids.length) -> ¬ 0 <= (z4v id t.kids[j]).2.2) (h2 : 0 <= (z4v id t.kids[i]).2.2) : z4v id t = ((z4v id t.kids[i]).1, (z4v id t.kids[i]).2.1 + 1, (z4v id t.kids[i]).2.2) := by
 have hf : z2h (fun k => decide (k.id = id)) t.kids = t.kids.length := z8u fun k hk => by
  obtain ⟨j, hj, rfl⟩ := List.getElem_of_mem hk
  exact decide_eq_false (hno j hj)
 have hs : (t.kids.map (z4v id)).find? (fun r => decide (0 <= r.2.2)) = some (z4v id t.kids[i]) := by
  rw [List.find?_eq_some_iff_getElem]
  refine ⟨decide_eq_true h2, i, by rw [List.length_map]; exact hi, by rw [List.getElem_map], fun j hj => ?_⟩
  rw [List.getElem_map]
  simp only [Bool.not_eq_true', decide_eq_false_iff_not]
  exact h1 j hj (by omega)
 rw [z7u, hf, if_neg (Nat.lt_irrefl _), hs]
theorem zvb {id : Idv} {t : T} (hno : ∀ j, (h : j < t.kids.length) -> ¬ t.kids[j].id = id) (h1 : ∀ j, (h : j < t.kids.length) -> ¬ 0 <= (z4v id t.kids[j]).2.2) : z4v id t = (T.zero, 0, -1) := by
 have hf : z2h (fun k => decide (k.id = id)) t.kids = t.kids.length := z8u fun k hk => by
  obtain ⟨j, hj, rfl⟩ := List.getElem_of_mem hk
  exact decide_eq_false (hno j hj)
 have hs : (t.kids.map (z4v id)).find? (fun r => decide (0 <= r.2.2)) = none := by
  rw [List.find?_eq_none]
  intro r hr
  obtain ⟨k, hk, rfl⟩ := List.mem_map.1 hr
  obtain ⟨j, hj, rfl⟩ := List.getElem_of_mem hk
  simp only [decide_eq_true_eq]
  exact h1 j hj
 rw [z7u, hf, if_neg (Nat.lt_irrefl _), hs]
theorem zvc (id : Idv) : ∀ t : T, 0 <= (z4v id t).2.1 /\ (z4v id t).2.1 <= depT t := by
 refine z3u fun t ih => ?_
 rw [z7u]
 split
 ·exact ⟨Int.le_refl _, Int.natCast_nonneg _⟩
 ·split
  ·rename_i r hr
   obtain ⟨k, hk, rfl⟩ := List.mem_map.1 (List.mem_of_find?_eq_some hr)
   have h1 := ih k hk
   have h2 := z3s hk
   simp only; omega
  ·exact ⟨Int.le_refl _, Int.natCast_nonneg _⟩
end Tr
theorem zae (id : Idv) : ∀ t : T, szB t = true -> depT t <= 1000000000 -> PC Tryz.prog 11 [z17 t, z3h id] (.tup [z17 (z07 id t).1, .int .i64 (z5n id t)]) := by
 refine z3u fun t ih hs hd => ?_
 obtain ⟨h0, h1, g1, h2, g2, h3, h4⟩ := (z1l t).1 hs
 refine z1y 3 (by simp only [pureD.pureL, z05]; rfl) (by simp only [pureD, pureD.pureL, z05, Bool.and_self]) (z1w [3000023, 3000025, 3000026, 3000027, 5000028] Tryz.func11 rfl (by decide +kernel) z0j (by decide +kernel) (by simp [Tryz.ntmps11]) ?_)
 show awp _ _ (Code.seq _ _) _ _
 rw [show Tryz.f11.results.toList = [.cell 4 27, .tmp 5] from rfl]
 repeat' (first | refine zqj ?_ | ((refine zqh fun K J => ?_); (simp (disch := omega) only [go_sem, Nat.reduceBEq, ↓reduceIte, reduceCtorEq, Nat.reduceAdd, Nat.reduceLeDiff])) | ((refine zqd _ rfl (fun hc => ?_) (fun hc => ?_)) <;> (((try simp only [z03] at hc); (try (exfalso; omega))))) | refine zqa ?_ | refine zqb ?_ | refine zqg ?_ | refine zqu (by (simp (disch := omega) only [go_sem, Nat.reduceBEq, ↓reduceIte, Nat.reduceLeDiff]); rfl) rfl ?_ | (refine J _ ?_; clear J K))
 ·rw [z1o (by assumption), zdm (by assumption)]
  exact z02 (by simp only [pureD, pureD.pureL, z0d, Bool.and_self]) (Le.refl _)
 ·have hne : ¬ t.id = id := by assumption
  (refine z37 (fun U st => ∃ (i : _), U = t.kids.length - i /\ st.t 2 = .ptr 0 0 /\ st.t 3 = .ptr 1 0 /\ st.t 4 = .ptr 2 0 /\ st.t 6 = .int .i64 i /\ st.H 0 = some (.box 27 (z06 t)) /\ st.H 1 = some (.box 23 (z04 id)) /\ st.H 2 = some (.box 27 [.int .i64 0, .int .i64 0, .int .i64 0, .int .i64 0, .str ByteArray.empty, .nil, .nil, .nil]) /\ (i <= t.kids.length) /\ (3 <= st.nx) /\ (∀ j, (hj : j < i) -> (h : j < t.kids.length) -> z1d id t.kids[j] = [])) ?_ ?_); rotate_left; (rintro U st ⟨i, rfl, q2, q3, q4, q6, qH0, qH1, qH2, qp0, qp1, qp2⟩); rotate_left
  ·(refine ⟨_, 0, rfl, ?_⟩); (simp (disch := omega) only [go_sem, Nat.reduceBEq, Nat.reduceLeDiff, true_and, Int.natCast_zero, z04])
   (repeat' (omega))
  by_cases hi : i < t.kids.length
  ·have hdk := z3s (List.getElem_mem hi)
   have hin := ih t.kids[i] (List.getElem_mem hi) (h4 _ (List.getElem_mem hi)) (by omega)
   have hlen := z50 id t.kids[i]
   have hdi : z5n id t.kids[i] <= 1000000000 := by unfold z5n; omega
   repeat' (first | refine zqj ?_ | ((first | refine zqh fun K J => ?_ | refine zqe (by decide +kernel) fun K J => ?_ | refine zqr fun K J => ?_ | refine zqt (hin) ?_); (simp (disch := omega) only [go_sem, Nat.reduceBEq, Nat.reduceEqDiff, ↓reduceIte, reduceCtorEq, Nat.reduceAdd, Nat.reduceLeDiff, q2, q3, q4, q6, qH0, qH1, qH2, z0e, z04])) | ((first | refine zqd _ rfl (fun hc => ?_) (fun hc => ?_) | refine zqm _ rfl (fun hc => ?_) (fun hc => ?_)) <;> (((try simp only [z03] at hc); (try (exfalso; omega))))) | refine zqa ?_ | refine zqb ?_ | refine zqk ?_ | refine zqn ?_ | refine zqv ?_ | refine zqx ?_ | refine zqy ?_ | refine z4a ?_ | refine zqo ?_ | refine zqu (by (simp (disch := omega) only [go_sem, Nat.reduceBEq, ↓reduceIte, Nat.reduceLeDiff, q4, qH2]); rfl) rfl ?_ | (refine J _ ?_; clear J K))
   ·have hf := zh8.1 ‹0 <= z5n id t.kids[i]›
    rw [z2n (z3f hne hi qp2 hf) hf, zmf (z3f hne hi qp2 hf)]
    refine z02 (by simp only [pureD, pureD.pureL, z0d, Bool.and_self]) ?_
    exact Le.refl _
   ·have hf : z1d id t.kids[i] = [] := Classical.byContradiction fun g => by have := zh8.2 g; omega
    (refine Exists.intro _ (And.intro ?_ ⟨i + 1, rfl, ?_⟩)); rotate_left; (simp (disch := omega) only [go_sem, Nat.reduceBEq, Nat.reduceLeDiff, q2, q3, q4, q6, qH0, qH1, qH2, true_and, Int.natCast_add, Int.natCast_one, z04]); rotate_left
    ·omega
    ·refine ⟨by omega, by omega, fun j hj h => ?_⟩
     by_cases e : j = i
     ·subst e; exact hf
     ·exact qp2 j (by omega) h
  ·repeat' (first | refine zqj ?_ | ((refine zqh fun K J => ?_); (simp (disch := omega) only [go_sem, Nat.reduceBEq, ↓reduceIte, reduceCtorEq, Nat.reduceAdd, Nat.reduceLeDiff, q2, q4, q6, qH0, qH2, z0e])) | ((refine zqd _ rfl (fun hc => ?_) (fun hc => ?_)) <;> (((try simp only [z03] at hc); (try (exfalso; omega))))) | refine zqc ?_ | refine zqn ?_ | refine zqv ?_ | refine zqz ?_ | refine zqp ?_ | refine zqu (by (simp (disch := omega) only [go_sem, Nat.reduceBEq, ↓reduceIte, Nat.reduceAdd, Nat.reduceLeDiff, q4, qH2]); rfl) rfl ?_ | (refine J _ ?_; clear J K))
   rw [z9h (z6c hne (by omega) qp2), zii (z6c hne (by omega) qp2)]
   exact z02 (by simp only [pureD, pureD.pureL, Bool.and_self]) (Le.tup ⟨zd6, Le.refl _, trivial⟩)
theorem zdn (id : Idv) : ∀ t : T, szB t = true -> depT t <= 1000000000 -> PC Tryz.prog 36 [z17 t, z3h id] (.tup [z17 (z4v id t).1, .int .i64 (z4v id t).2.1, .int .i64 (z4v id t).2.2]) := by
 refine z3u fun t ih hs hd => ?_
 obtain ⟨h0, h1, g1, h2, g2, h3, h4⟩ := (z1l t).1 hs
 refine z1y 3 (by simp only [pureD.pureL, z05]; rfl) (by simp only [pureD, pureD.pureL, z05, Bool.and_self]) (z1w [3000038, 3000040, 3000041, 3000042, 5000043] Tryz.func36 rfl (by decide +kernel) z0j (by decide +kernel) (by simp [Tryz.ntmps36]) ?_)
 show awp _ _ (Code.seq _ _) _ _
 rw [show Tryz.f36.results.toList = [.cell 4 27, .tmp 5, .tmp 6] from rfl]
 repeat' (first | refine zqj ?_ | ((refine zqh fun K J => ?_); (simp (disch := omega) only [go_sem, Nat.reduceBEq, Nat.reduceAdd])) | refine zqa ?_ | (refine J _ ?_; clear J K))
 (refine z37 (fun U st => ∃ (i : _), U = t.kids.length - i /\ st.t 2 = .ptr 0 0 /\ st.t 3 = .ptr 1 0 /\ st.t 4 = .ptr 2 0 /\ st.t 7 = .int .i64 i /\ st.H 0 = some (.box 27 (z06 t)) /\ st.H 1 = some (.box 23 (z04 id)) /\ st.H 2 = some (.box 27 [.int .i64 0, .int .i64 0, .int .i64 0, .int .i64 0, .str ByteArray.empty, .nil, .nil, .nil]) /\ (i <= t.kids.length) /\ (3 <= st.nx) /\ (∀ j, (hj : j < i) -> (h : j < t.kids.length) -> ¬ t.kids[j].id = id)) ?_ ?_); rotate_left; (rintro U st ⟨i, rfl, q2, q3, q4, q7, qH0, qH1, qH2, qp0, qp1, qp2⟩); rotate_left
 ·(refine ⟨_, 0, rfl, ?_⟩); (simp (disch := omega) only [go_sem, Nat.reduceBEq, Nat.reduceLeDiff, true_and, Int.natCast_zero, z04])
  (repeat' (omega))
  all_goals intro j hj; omega
 by_cases hi : i < t.kids.length
 ·repeat' (first | refine zqj ?_ | ((first | refine zqh fun K J => ?_ | refine zqe (by decide +kernel) fun K J => ?_ | refine zqr fun K J => ?_); (simp (disch := omega) only [go_sem, Nat.reduceBEq, Nat.reduceEqDiff, ↓reduceIte, reduceCtorEq, Nat.reduceAdd, Nat.reduceLeDiff, q2, q3, q4, q7, qH0, qH1, qH2, z0e, z04])) | ((first | refine zqd _ rfl (fun hc => ?_) (fun hc => ?_) | refine zqm _ rfl (fun hc => ?_) (fun hc => ?_)) <;> (((try simp only [z03] at hc); (try (exfalso; omega))))) | refine zqa ?_ | refine zqb ?_ | refine zqk ?_ | refine zqn ?_ | refine zqv ?_ | refine zqx ?_ | refine zqy ?_ | refine z4a ?_ | refine zqo ?_ | refine zqu (by (simp (disch := omega) only [go_sem, Nat.reduceBEq, ↓reduceIte, Nat.reduceLeDiff, q4, qH2]); rfl) rfl ?_ | (refine J _ ?_; clear J K))
  ·rw [znw hi qp2 (by assumption)]
   exact z02 (by simp only [pureD, pureD.pureL, z0d, Bool.and_self]) (Le.refl _)
  ·(refine Exists.intro _ (And.intro ?_ ⟨i + 1, rfl, ?_⟩)); rotate_left; (simp (disch := omega) only [go_sem, Nat.reduceBEq, q2, q3, q4, q7, qH0, qH1, qH2, true_and, Int.natCast_add, Int.natCast_one, z04]); rotate_left
   ·omega
   ·refine ⟨by omega, by omega, fun j hj h => ?_⟩
    by_cases e : j = i
    ·subst e; assumption
    ·exact qp2 j (by omega) h
 ·repeat' (first | refine zqj ?_ | ((refine zqh fun K J => ?_); (simp (disch := omega) only [go_sem, Nat.reduceBEq, ↓reduceIte, reduceCtorEq, Nat.reduceAdd, q2, q7, qH0, z0e])) | ((refine zqd _ rfl (fun hc => ?_) (fun hc => ?_)) <;> (((try simp only [z03] at hc); (try (exfalso; omega))))) | refine zqa ?_ | refine zqc ?_ | refine zqv ?_ | refine zqz ?_ | refine zqp ?_ | (refine J _ ?_; clear J K))
  have hno : ∀ j, (h : j < t.kids.length) -> ¬ t.kids[j].id = id := fun j h => qp2 j (by omega) h
  (refine z37 (fun U st => ∃ (k : _), U = t.kids.length - k /\ st.t 2 = .ptr 0 0 /\ st.t 3 = .ptr 1 0 /\ st.t 4 = .ptr 2 0 /\ st.t 8 = .int .i64 k /\ st.H 0 = some (.box 27 (z06 t)) /\ st.H 1 = some (.box 23 (z04 id)) /\ st.H 2 = some (.box 27 [.int .i64 0, .int .i64 0, .int .i64 0, .int .i64 0, .str ByteArray.empty, .nil, .nil, .nil]) /\ (k <= t.kids.length) /\ (3 <= st.nx) /\ (∀ j, (hj : j < k) -> (h : j < t.kids.length) -> ¬ 0 <= (z4v id t.kids[j]).2.2)) ?_ ?_); rotate_left; (rintro U st ⟨k, rfl, r2, r3, r4, r8, rH0, rH1, rH2, rp0, rp1, rp2⟩); rotate_left
  ·(refine ⟨_, 0, rfl, ?_⟩); (simp (disch := omega) only [go_sem, Nat.reduceBEq, q2, q3, q4, qH0, qH1, qH2, true_and, Int.natCast_zero, z04])
   (repeat' (first | omega | refine And.intro ?_ ?_))
   all_goals first | omega | (intro j hj; omega)
  by_cases hk : k < t.kids.length
  ·have hdk := z3s (List.getElem_mem hk)
   have hin := ih t.kids[k] (List.getElem_mem hk) (h4 _ (List.getElem_mem hk)) (by omega)
   have hle := zvc id t.kids[k]
   repeat' (first | refine zqj ?_ | ((first | refine zqh fun K J => ?_ | refine zqe (by decide +kernel) fun K J => ?_ | refine zqr fun K J => ?_ | refine zqt (hin) ?_); (simp (disch := omega) only [go_sem, Nat.reduceBEq, Nat.reduceEqDiff, ↓reduceIte, reduceCtorEq, Nat.reduceAdd, Nat.reduceLeDiff, r2, r3, r4, r8, rH0, rH1, rH2, z0e, z04])) | ((first | refine zqd _ rfl (fun hc => ?_) (fun hc => ?_) | refine zqm _ rfl (fun hc => ?_) (fun hc => ?_)) <;> (((try simp only [z03] at hc); (try (exfalso; omega))))) | refine zqa ?_ | refine zqb ?_ | refine zqk ?_ | refine zqn ?_ | refine zqv ?_ | refine zqx ?_ | refine zqy ?_ | refine z4a ?_ | refine zqo ?_ | refine zqu (by (simp (disch := omega) only [go_sem, Nat.reduceBEq, ↓reduceIte, Nat.reduceLeDiff, r4, rH2]); rfl) rfl ?_ | (refine J _ ?_; clear J K))
   ·rw [zva hno hk rp2 (by assumption)]
    refine z02 (by simp only [pureD, pureD.pureL, z0d, Bool.and_self]) ?_
    exact Le.refl _
   ·(refine Exists.intro _ (And.intro ?_ ⟨k + 1, rfl, ?_⟩)); rotate_left; (simp (disch := omega) only [go_sem, Nat.reduceBEq, Nat.reduceLeDiff, r2, r3, r4, r8, rH0, rH1, rH2, true_and, Int.natCast_add, Int.natCast_one, z04]); rotate_left
    ·omega
    ·refine ⟨by omega, by omega, fun j hj h => ?_⟩
     by_cases e : j = k
     ·subst e; omega
     ·exact rp2 j (by omega) h
  ·repeat' (first | refine zqj ?_ | ((refine zqh fun K J => ?_); (simp (disch := omega) only [go_sem, Nat.reduceBEq, ↓reduceIte, reduceCtorEq, Nat.reduceAdd, Nat.reduceLeDiff, r2, r4, r8, rH0, rH2, z0e])) | ((refine zqd _ rfl (fun hc => ?_) (fun hc => ?_)) <;> (((try simp only [z03] at hc); (try (exfalso; omega))))) | refine zqc ?_ | refine zqn ?_ | refine zqv ?_ | refine zqz ?_ | refine zqp ?_ | refine zqu (by (simp (disch := omega) only [go_sem, Nat.reduceBEq, ↓reduceIte, Nat.reduceAdd, Nat.reduceLeDiff, r4, rH2]); rfl) rfl ?_ | (refine J _ ?_; clear J K))
   rw [zvb hno fun j h => rp2 j (by omega) h]
   exact z02 (by simp only [pureD, pureD.pureL, Bool.and_self]) (Le.tup ⟨zd6, Le.refl _, Le.refl _, trivial⟩)
theorem zfd (x : T) : ∀ t : T, szB t = true -> PC Tryz.prog 38 [z17 t, z17 x] (z17 (z2k x.id (fun _ => x) t)) := by
 refine z3u fun t ih hs => ?_
 obtain ⟨h0, h1, g1, h2, g2, h3, h4⟩ := (z1l t).1 hs
 refine z1y 4 (by simp only [pureD.pureL, z05, Bool.and_self]) (z05 _) (z1w [13, 3000016, 3000023, 3000025, 3000026, 3000027] Tryz.func38 rfl (by decide +kernel) z0j (by decide +kernel) (by simp [Tryz.ntmps38]) ?_)
 show awp _ _ (Code.seq _ _) _ _
 rw [show Tryz.f38.results.toList = [.cell 4 27] from rfl]
 rw [show z17 t = .agg _ from by rw [z17, z10], z9g]
 by_cases hid : t.id = x.id
 ·have hidd : decide (t.id = x.id) = true := decide_eq_true hid
  rw [if_pos hid]
  rw [show z17 x = .agg _ from by rw [z17, z10]]
  repeat' (first | refine zqj ?_ | ((refine zqh fun K J => ?_); (simp (disch := omega) only [go_sem, Nat.reduceBEq, ↓reduceIte, reduceCtorEq, Nat.reduceAdd, Nat.reduceLeDiff, hidd, z0e, List.set_cons_succ, List.set_cons_zero])) | ((refine zqd _ rfl (fun hc => ?_) (fun hc => ?_)) <;> (first | (cases hc; done) | ((try simp only [] at hc); (try (exfalso; omega))))) | refine zqg ?_ | refine zqu (by (simp (disch := omega) only [go_sem, Nat.reduceBEq, ↓reduceIte, Nat.reduceAdd, Nat.reduceLeDiff]); rfl) rfl ?_ | (refine J _ ?_; clear J K))
  exact z02 (by simp only [pureD, pureD.pureL, z0x, znm, Bool.and_self]) (Le.refl _)
 ·have hidd : decide (t.id = x.id) = false := decide_eq_false hid
  rw [if_neg hid]
  repeat' (first | refine zqj ?_ | ((refine zqh fun K J => ?_); (simp (disch := omega) only [go_sem, Nat.reduceBEq, ↓reduceIte, reduceCtorEq, Nat.reduceAdd, Nat.reduceMul, Nat.reduceLeDiff, hidd])) | ((refine zqd _ rfl (fun hc => ?_) (fun hc => ?_)) <;> (first | (cases hc; done) | ((try simp only [] at hc); (try (exfalso; omega))))) | refine zqa ?_ | refine zqb ?_ | (refine J _ ?_; clear J K))
  (refine z37 (fun U st => ∃ (i : _), U = t.kids.length - i /\ st.t 2 = .ptr 0 0 /\ st.t 3 = .ptr 1 0 /\ st.t 4 = .ptr 2 0 /\ st.t 5 = .osl 3 i /\ st.t 6 = .int .i64 i /\ st.H 0 = some (.box 27 (zjx t)) /\ st.H 1 = some (.box 27 (z06 x)) /\ st.H 2 = some (.box 27 [.int .i64 0, .int .i64 0, .int .i64 0, .int .i64 0, .str ByteArray.empty, .nil, .nil, .nil]) /\ st.H 3 = some (.row 27 i (((t.kids.take i).map (z2k x.id (fun _ => x))).flatMap z06)) /\ (i <= t.kids.length) /\ (4 <= st.nx)) ?_ ?_); rotate_left; (rintro U st ⟨i, rfl, q2, q3, q4, q5, q6, qH0, qH1, qH2, qH3, qp0, qp1⟩); rotate_left
  ·(refine ⟨_, 0, rfl, ?_⟩); (simp (disch := omega) only [go_sem, Nat.reduceBEq, Nat.reduceLeDiff, and_self, Int.natCast_zero, List.flatMap_nil, List.map_nil, zjx])
   try exact ⟨rfl, rfl⟩
  by_cases hi : i < t.kids.length
  ·have hin := ih t.kids[i] (List.getElem_mem hi) (h4 _ (List.getElem_mem hi))
   have htk := List.take_succ_eq_append_getElem hi
   repeat' (first | refine zqj ?_ | ((first | refine zqh fun K J => ?_ | refine zqr fun K J => ?_ | refine zqq (by decide +kernel) fun K J => ?_ | refine zqt (hin) ?_); (simp (disch := omega) only [go_sem, Nat.reduceBEq, Nat.reduceEqDiff, ↓reduceIte, reduceCtorEq, Nat.reduceAdd, Nat.reduceMul, Nat.reduceLeDiff, q2, q3, q5, q6, qH0, qH1, qH3, zjx, z0e])) | ((refine zqd _ rfl (fun hc => ?_) (fun hc => ?_)) <;> (((try simp only [z03] at hc); (try (exfalso; omega))))) | refine zqa ?_ | refine zqb ?_ | refine zqv ?_ | refine zqy ?_ | (refine J _ ?_; clear J K))
   (refine Exists.intro _ (And.intro ?_ ⟨i + 1, rfl, ?_⟩)); rotate_left; (simp (disch := omega) only [go_sem, Nat.reduceBEq, q2, q3, q4, q5, q6, qH0, qH1, qH2, qH3, true_and, Int.natCast_add, Int.natCast_one, List.flatMap_append, List.flatMap_cons, List.flatMap_nil, List.map_append, List.map_cons, List.map_nil, List.append_nil, htk, zjx]); rotate_left
   ·omega
   ·omega
  ·repeat' (first | refine zqj ?_ | ((refine zqh fun K J => ?_); (simp (disch := omega) only [go_sem, Nat.reduceBEq, ↓reduceIte, reduceCtorEq, Nat.reduceAdd, Nat.reduceLeDiff, Nat.reduceLT, q2, q4, q5, q6, qH0, qH2, z0e, zjx, List.set_cons_succ, List.set_cons_zero])) | ((refine zqd _ rfl (fun hc => ?_) (fun hc => ?_)) <;> (((try simp only [z03] at hc); (try (exfalso; omega))))) | refine zqc ?_ | refine zqn ?_ | refine zqv ?_ | refine zqz ?_ | refine zqp ?_ | refine zqu (by (simp (disch := omega) only [go_sem, Nat.reduceBEq, ↓reduceIte, Nat.reduceAdd, Nat.reduceLeDiff, q4, qH2]); rfl) rfl ?_ | (refine J _ ?_; clear J K))
   have hi2 : i = t.kids.length := by omega
   subst hi2
   rw [List.take_length] at qH3
   refine z4h (zgy 2 (t := t.setKids (t.kids.map (z2k x.id (fun _ => x)))) (z35 (f := z06) (l := t.kids.map (z2k x.id (fun _ => x))) 1 ?_ ?_ z5m z7c z0m z0d) rfl)
   ·rw [List.length_map]
   ·(simp (disch := omega) only [go_sem, Nat.reduceBEq, qH3])
theorem zu1 (l : List T) (hl : l.length <= 1000000) (i : Nat) (hi : i <= l.length) (x : T) : PC Tryz.prog 69 [z0e l, .int .i64 i, z17 x] (z0e (l.take i ++ x :: l.drop i)) := by
 refine z1y 3 (by simp only [pureD.pureL, z1e, z05, pureD, Bool.and_self]) (z1e _) (z1w [7, 3000012] Tryz.func69 rfl (by decide +kernel) z0j (by decide +kernel) (by simp [Tryz.ntmps69]) ?_)
 show awp _ _ (Code.seq _ _) _ _
 repeat' (first | ((first | refine zqh fun K J => ?_ | refine zqe (by decide +kernel) fun K J => ?_); (simp (disch := omega) only [go_sem, Nat.reduceBEq, Nat.reduceEqDiff, ↓reduceIte, reduceCtorEq, Nat.reduceAdd, Nat.reduceMul, Nat.reduceLeDiff, z0e, z4l])) | refine zqn ?_ | refine zqu (by (simp (disch := omega) only [go_sem]); rfl) rfl ?_ | (refine J _ ?_; clear J K))
 refine z4h (z35 (f := z06) (l := l.take i ++ x :: l.drop i) 1 ?_ ?_ z5m z7c z0m z0d)
 ·simp; omega
 ·(simp (disch := omega) only [go_sem, Nat.reduceBEq, List.flatMap_append, List.flatMap_cons, List.append_assoc])
theorem zwz (l : List T) (hl : l.length <= 1000000) (i : Nat) (hi : i < l.length) : PC Tryz.prog 37 [z0e l, .int .i64 i] (z0e (l.eraseIdx i)) := by
 refine z1y 3 (by simp only [pureD.pureL, z1e, pureD, Bool.and_self]) (z1e _) (z1w [5] Tryz.func37 rfl (by decide +kernel) z0j (by decide +kernel) (by simp [Tryz.ntmps37]) ?_)
 show awp _ _ (Code.seq _ _) _ _
 have hn : ((i : Int) + 1).toNat = i + 1 := by omega
 have hw : IntKind.i64.wrap ((i : Int) + 1) = i + 1 := zed (by omega)
 repeat' (first | ((first | refine zqh fun K J => ?_ | refine zqe (by decide +kernel) fun K J => ?_); (simp (disch := omega) only [go_sem, Nat.reduceBEq, ↓reduceIte, reduceCtorEq, Nat.reduceAdd, Nat.reduceMul, z0e, z4l, hn, hw])) | refine zqn ?_ | refine zqu (by (simp (disch := omega) only [go_sem]); rfl) rfl ?_ | (refine J _ ?_; clear J K))
 rw [List.eraseIdx_eq_take_drop_succ]
 refine z4h (z35 (f := z06) (l := l.take i ++ l.drop (i + 1)) 1 ?_ ?_ z5m z7c z0m z0d)
 ·simp
 ·(simp (disch := omega) only [go_sem, List.flatMap_append])
def atI (id : Idv) (l : List T) : Int := if z2h (fun k => decide (k.id = id)) l < l.length then (z2h (fun k => decide (k.id = id)) l : Int) else -1
theorem z006 (l : List T) (hl : l.length <= 1000000) (id : Idv) : PC Tryz.prog 70 [z0e l, z3h id] (.int .i64 (atI id l)) := by
 refine z1y 1 (by simp only [pureD.pureL, z1e]; rfl) rfl (z1w [] Tryz.func70 rfl (by decide +kernel) z0j (by decide +kernel) (by simp [Tryz.ntmps70]) ?_)
 show awp _ _ (Code.seq _ _) _ _
 repeat' (first | refine zqj ?_ | ((refine zqh fun K J => ?_); (simp (disch := omega) only [go_sem, z0e])) | refine zqa ?_ | (refine J _ ?_; clear J K))
 (refine z37 (fun U st => ∃ (i : _), U = l.length - i /\ st.t 0 = z0e l /\ st.t 3 = .ptr 0 0 /\ st.t 5 = .int .i64 i /\ st.H 0 = some (.box 23 (z04 id)) /\ (i <= l.length) /\ (1 <= st.nx) /\ (∀ j, (hj : j < i) -> (h : j < l.length) -> ¬ l[j].id = id)) ?_ ?_); rotate_left; (rintro U st ⟨i, rfl, q0, q3, q5, qH0, qp0, qp1, qp2⟩); rotate_left
 ·(refine ⟨_, 0, rfl, ?_⟩); (simp (disch := omega) only [go_sem, Nat.reduceBEq, Nat.reduceLeDiff, true_and, Int.natCast_zero, z04, z0e])
  (repeat' (omega))
  all_goals intro j hj; omega
 by_cases hi : i < l.length
 ·repeat' (first | refine zqj ?_ | ((first | refine zqh fun K J => ?_ | refine zqe (by decide +kernel) fun K J => ?_ | refine zqr fun K J => ?_); (simp (disch := omega) only [go_sem, Nat.reduceBEq, ↓reduceIte, reduceCtorEq, Nat.reduceAdd, Nat.reduceLeDiff, q0, q3, q5, qH0, z0e, z04])) | ((first | refine zqd _ rfl (fun hc => ?_) (fun hc => ?_) | refine zqm _ rfl (fun hc => ?_) (fun hc => ?_)) <;> (((try simp only [z03] at hc); (try (exfalso; omega))))) | refine zqa ?_ | refine zqb ?_ | refine zqk ?_ | refine zqn ?_ | refine zqv ?_ | refine zqx ?_ | refine zqy ?_ | refine z4a ?_ | refine zqo ?_ | refine zqu (by (simp (disch := omega) only [go_sem]); rfl) rfl ?_ | (refine J _ ?_; clear J K))
  ·refine z33 ?_
   have hf : z2h (fun k => decide (k.id = id)) l = i := z41 (by omega) (fun j hj => decide_eq_false (qp2 j hj (by omega))) (fun _ => decide_eq_true (by assumption))
   unfold atI
   rw [hf, if_pos hi]
  ·(refine Exists.intro _ (And.intro ?_ ⟨i + 1, rfl, ?_⟩)); rotate_left; (simp (disch := omega) only [go_sem, Nat.reduceBEq, q0, q3, q5, qH0, true_and, Int.natCast_add, Int.natCast_one, z04]); rotate_left
   ·omega
   ·refine ⟨by omega, by omega, fun j hj h => ?_⟩
    by_cases e : j = i
    ·subst e; assumption
    ·exact qp2 j (by omega) h
 ·repeat' (first | refine zqj ?_ | ((refine zqh fun K J => ?_); (simp (disch := omega) only [go_sem, Nat.reduceBEq, ↓reduceIte, q0, q5, z0e])) | ((refine zqd _ rfl (fun hc => ?_) (fun hc => ?_)) <;> (((try simp only [z03] at hc); (try (exfalso; omega))))) | refine zqc ?_ | refine zqn ?_ | refine zqv ?_ | refine zqz ?_ | refine zqp ?_ | refine zqu (by (simp (disch := omega) only [go_sem]); rfl) rfl ?_ | (refine J _ ?_; clear J K))
  refine z33 ?_
  have hf : z2h (fun k => decide (k.id = id)) l = l.length := z8u fun k hk => by
   obtain ⟨j, hj, rfl⟩ := List.getElem_of_mem hk
   exact decide_eq_false (qp2 j (by omega) hj)
  unfold atI
  rw [hf, if_neg (Nat.lt_irrefl _)]
theorem zgx (l : List T) (hl : l.length <= 1000000) (kind : Int) (name : ByteArray) : PC Tryz.prog 41 [z0e l, .int .i64 kind, .str name] (.bool (z45 l kind name)) := by
 refine z1y 1 (by simp only [pureD.pureL, z1e, pureD, Bool.and_self]) rfl (z1w [] Tryz.func41 rfl (by decide +kernel) z0j (by decide +kernel) (by simp [Tryz.ntmps41]) ?_)
 show awp _ _ (Code.seq _ _) _ _
 repeat' (first | refine zqj ?_ | ((refine zqh fun K J => ?_); (simp (disch := omega) only [go_sem, z0e])) | refine zqa ?_ | (refine J _ ?_; clear J K))
 (refine z37 (fun U st => ∃ (i : _), U = l.length - i /\ st.t 0 = z0e l /\ st.t 1 = .int .i64 kind /\ st.t 2 = .str name /\ st.t 7 = .int .i64 i /\ (i <= l.length) /\ ((l.take i).any (fun k => decide (k.kind = kind) && decide (k.label = name)) = false)) ?_ ?_); rotate_left; (rintro U st ⟨i, rfl, q0, q1, q2, q7, qp0, qp1⟩); rotate_left
 ·(refine ⟨_, 0, rfl, ?_⟩); (simp (disch := omega) only [go_sem, Nat.reduceBEq, and_self, Int.natCast_zero, z0e])
  try simp
 by_cases hi : i < l.length
 ·repeat' (first | refine zqj ?_ | ((first | refine zqh fun K J => ?_ | refine zqr fun K J => ?_); (simp (disch := omega) only [go_sem, Nat.reduceBEq, ↓reduceIte, reduceCtorEq, Nat.reduceAdd, q0, q1, q7, z0e])) | ((first | refine zqd _ rfl (fun hc => ?_) (fun hc => ?_) | refine zqm _ rfl (fun hc => ?_) (fun hc => ?_)) <;> (first | (cases hc; done) | ((try simp only [z03] at hc); (try (exfalso; omega))))) | refine zqa ?_ | refine zqb ?_ | refine zqk ?_ | refine zqn ?_ | refine zqv ?_ | refine zqx ?_ | refine zqy ?_ | refine z4a ?_ | refine zqo ?_ | refine zqu (by (simp (disch := omega) only [go_sem]); rfl) rfl ?_ | (refine J _ ?_; clear J K) | (refine zqf (fun hb => ?_) (fun hb => ?_) <;> (have hb2 := hb; try simp only [z03] at hb2) <;> ((first | have F := eq_false hb2 | have F := eq_true hb2); (simp (disch := omega) only [go_sem, Nat.reduceBEq, ↓reduceIte, reduceCtorEq, Nat.reduceAdd, F, q0, q2, q7, z0e]); clear hb F; (try (exfalso; omega)))))
  ·exact z00 (zze (f := fun k : T => decide (k.kind = kind) && decide (k.label = name)) (i := i) hi (by simp_all)).symm
  all_goals
   (refine Exists.intro _ (And.intro ?_ ⟨i + 1, rfl, ?_⟩)); rotate_left; (simp (disch := omega) only [go_sem, Nat.reduceBEq, q0, q1, q2, q7, true_and, Int.natCast_add, Int.natCast_one]); rotate_left
   ·omega
   ·exact ⟨by omega, z7m (f := fun k : T => decide (k.kind = kind) && decide (k.label = name)) hi qp1 (by simp_all)⟩
 ·repeat' (first | refine zqj ?_ | ((refine zqh fun K J => ?_); (simp (disch := omega) only [go_sem, Nat.reduceBEq, ↓reduceIte, q0, q7, z0e])) | ((refine zqd _ rfl (fun hc => ?_) (fun hc => ?_)) <;> (((try simp only [z03] at hc); (try (exfalso; omega))))) | refine zqc ?_ | refine zqn ?_ | refine zqv ?_ | refine zqz ?_ | refine zqp ?_ | refine zqu (by (simp (disch := omega) only [go_sem]); rfl) rfl ?_ | (refine J _ ?_; clear J K))
  exact z00 (zw6 (f := fun k : T => decide (k.kind = kind) && decide (k.label = name)) (i := i) (by omega) qp1).symm
theorem zke : ∀ t : T, szB t = true -> depT t <= 1000000000 -> PC Tryz.prog 66 [z17 t] (.int .i64 (depT t)) := by
 refine z3u fun t ih hs hd => ?_
 obtain ⟨h0, h1, g1, h2, g2, h3, h4⟩ := (z1l t).1 hs
 refine z1y 1 (by simp only [pureD.pureL, z05, Bool.and_self]) rfl (z1w [] Tryz.func66 rfl (by decide +kernel) z0j (by decide +kernel) (by simp [Tryz.ntmps66]) ?_)
 show awp _ _ (Code.seq _ _) _ _
 repeat' (first | refine zqj ?_ | ((refine zqh fun K J => ?_); (simp (disch := omega) only [go_sem])) | refine zqa ?_ | (refine J _ ?_; clear J K))
 (refine z37 (fun U st => ∃ (i : _), U = t.kids.length - i /\ st.t 1 = .ptr 0 0 /\ st.t 3 = .int .i64 (z9n ((t.kids.take i).map depT) : Nat) /\ st.t 4 = .int .i64 i /\ st.H 0 = some (.box 27 (z06 t)) /\ (i <= t.kids.length) /\ (1 <= st.nx)) ?_ ?_); rotate_left; (rintro U st ⟨i, rfl, q1, q3, q4, qH0, qp0, qp1⟩); rotate_left
 ·(refine ⟨_, 0, rfl, ?_⟩); (simp (disch := omega) only [go_sem, Nat.reduceBEq, Nat.reduceLeDiff, true_and, and_true, and_self, Int.natCast_zero, List.map_nil])
  rfl
 by_cases hi : i < t.kids.length
 ·have hk := z3s (t := t) (List.getElem_mem hi)
  have hin := ih t.kids[i] (List.getElem_mem hi) (h4 _ (List.getElem_mem hi)) (by omega)
  have hsn : z9n ((t.kids.take (i + 1)).map depT) = max (z9n ((t.kids.take i).map depT)) (1 + depT t.kids[i]) := by
   rw [List.take_succ_eq_append_getElem hi, List.map_append, List.map_cons, List.map_nil, zk2]
  have hw : IntKind.i64.wrap (1 + (depT t.kids[i] : Int)) = 1 + depT t.kids[i] := zed (by omega)
  repeat' (first | refine zqj ?_ | ((first | refine zqh fun K J => ?_ | refine zqr fun K J => ?_ | refine zqs (hin) ?_); (simp (disch := omega) only [go_sem, Nat.reduceBEq, ↓reduceIte, reduceCtorEq, Nat.reduceAdd, q1, q3, q4, qH0, z0e, hw])) | ((first | refine zqd _ rfl (fun hc => ?_) (fun hc => ?_) | refine zqm _ rfl (fun hc => ?_) (fun hc => ?_)) <;> (((try simp only [z03] at hc); (try (exfalso; omega))))) | refine zqa ?_ | refine zqb ?_ | refine zqk ?_ | refine zqv ?_ | refine zqy ?_ | (refine J _ ?_; clear J K))
  all_goals
   (refine Exists.intro _ (And.intro ?_ ⟨i + 1, rfl, ?_⟩)); rotate_left; (simp (disch := omega) only [go_sem, Nat.reduceBEq, q1, q3, q4, qH0, true_and, Int.natCast_add, Int.natCast_one, hsn]); rotate_left
   ·omega
   ·refine ⟨?_, by omega⟩
    omega
 ·repeat' (first | refine zqj ?_ | ((refine zqh fun K J => ?_); (simp (disch := omega) only [go_sem, Nat.reduceBEq, ↓reduceIte, reduceCtorEq, Nat.reduceAdd, q1, q3, q4, qH0, z0e])) | ((refine zqd _ rfl (fun hc => ?_) (fun hc => ?_)) <;> (((try simp only [z03] at hc); (try (exfalso; omega))))) | refine zqc ?_ | refine zqn ?_ | refine zqv ?_ | refine zqz ?_ | refine zqp ?_ | refine zqu (by (simp (disch := omega) only [go_sem]); rfl) rfl ?_ | (refine J _ ?_; clear J K))
  refine z33 ?_
  have hi2 : i = t.kids.length := by omega
  subst hi2
  rw [List.take_length, <- z42]
theorem zc6 (p k : Int) : PC Tryz.prog 65 [.int .i64 p, .int .i64 k] (.bool (z20 p k)) := by
 refine z1y 1 rfl rfl (z1w [] Tryz.func65 rfl (by decide +kernel) z0j (by decide +kernel) (by simp [Tryz.ntmps65]) ?_)
 show awp _ _ (Code.seq _ _) _ _
 by_cases hk : 0 <= p /\ p < 8
 ·rcases zq2 hk with rfl | rfl | rfl | rfl | rfl | rfl | rfl | rfl
  all_goals clear hk
  all_goals (repeat' (first | refine zqj ?_ | ((refine zqh fun K J => ?_); (simp (disch := omega) only [go_sem, Nat.reduceBEq, ↓reduceIte, Int.reduceEq])) | ((refine zqm _ rfl (fun hc => ?_) (fun hc => ?_)) <;> (first | (cases hc; done) | ((try simp only [] at hc); (try (exfalso; omega))))) | refine zqa ?_ | refine zqk ?_ | refine zqn ?_ | refine zqv ?_ | refine zqx ?_ | refine zqy ?_ | refine z4a ?_ | refine zqu (by (simp (disch := omega) only [go_sem]); rfl) rfl ?_ | (refine J _ ?_; clear J K) | (refine zqf (fun hb => ?_) (fun hb => ?_) <;> (have hb2 := hb; try simp only [z03] at hb2) <;> ((first | have F := eq_false hb2 | have F := eq_true hb2); (simp (disch := omega) only [go_sem, Nat.reduceBEq, ↓reduceIte, F]); clear hb F; (try (exfalso; omega))))))
  all_goals refine z00 ?_
  all_goals (simp_all [z20, belowL]; done)
 ·rw [show z20 p k = false from if_neg hk]
  repeat' (first | refine zqj ?_ | ((refine zqh fun K J => ?_); (simp (disch := omega) only [go_sem, Nat.reduceBEq, ↓reduceIte])) | ((refine zqm _ rfl (fun hc => ?_) (fun hc => ?_)) <;> (((try simp only [z03] at hc); (try (exfalso; omega))))) | refine zqa ?_ | refine zqk ?_ | refine zqn ?_ | refine zqv ?_ | refine zqy ?_ | refine zqu (by (simp (disch := omega) only [go_sem]); rfl) rfl ?_ | (refine J _ ?_; clear J K))
  all_goals exact z00 rfl
theorem zu0 (s : ByteArray) (hs : s.size <= maxLen) : PC Tryz.prog 113 [.str s] (.bool (z8w s)) := by
 unfold maxLen at hs
 refine z1y 1 (by simp only [pureD.pureL, pureD, Bool.and_self]) rfl (z1w [] Tryz.func113 rfl (by decide +kernel) z0j (by decide +kernel) (by simp [Tryz.ntmps113]) ?_)
 show awp _ _ (Code.seq _ _) _ _
 have hbl := z1b s
 repeat' (first | refine zqj ?_ | ((refine zqh fun K J => ?_); (simp (disch := omega) only [go_sem])) | refine zqa ?_ | (refine J _ ?_; clear J K))
 (refine z37 (fun U st => ∃ (k : _), U = s.size - k /\ st.t 0 = .str s /\ st.t 3 = .int .i64 k /\ (k <= s.size) /\ (((bl s).take k).all ink = true)) ?_ ?_); rotate_left; (rintro U st ⟨k, rfl, q0, q3, qp0, qp1⟩); rotate_left
 ·(refine ⟨_, 0, rfl, ?_⟩); (simp (disch := omega) only [go_sem, Nat.reduceBEq, true_and, Int.natCast_zero])
  simp
 have hno : ∀ h : k < s.size, ink ((bl s)[k]'h) = false -> z8w s = false := fun h hi => by
  unfold z8w; rw [z3y (l := bl s) (k := k) h hi, Bool.and_false]
 by_cases hk : k < s.size
 ·repeat' (first | refine zqj ?_ | ((first | refine zqh fun K J => ?_ | refine zqr fun K J => ?_); (simp (disch := omega) only [go_sem, Nat.reduceBEq, ↓reduceIte, q0, q3, zlm])) | ((first | refine zqd _ rfl (fun hc => ?_) (fun hc => ?_) | refine zqm _ rfl (fun hc => ?_) (fun hc => ?_)) <;> (first | (cases hc; done) | ((try simp only [z03] at hc); (try (exfalso; omega))))) | refine zqa ?_ | refine zqb ?_ | refine zqk ?_ | refine zqn ?_ | refine zqv ?_ | refine zqx ?_ | refine zqy ?_ | refine z4a ?_ | refine zqo ?_ | refine zqu (by (simp (disch := omega) only [go_sem]); rfl) rfl ?_ | (refine J _ ?_; clear J K) | (refine zqf (fun hb => ?_) (fun hb => ?_) <;> (have hb2 := hb; try simp only [z03] at hb2) <;> ((first | have F := eq_false hb2 | have F := eq_true hb2); (simp (disch := omega) only [go_sem, Nat.reduceBEq, ↓reduceIte, F, q0, q3, zlm]); clear hb F; (try (exfalso; omega)))))
  ·exact z00 (hno hk (by unfold ink; exact decide_eq_false (by omega))).symm
  ·(refine Exists.intro _ (And.intro ?_ ⟨k + 1, rfl, ?_⟩)); rotate_left; (simp (disch := omega) only [go_sem, Nat.reduceBEq, q0, q3, true_and, Int.natCast_add, Int.natCast_one]); rotate_left
   ·omega
   ·exact ⟨by omega, z2g (by omega) qp1 (by unfold ink; exact decide_eq_true (by omega))⟩
  ·exact z00 (hno hk (by unfold ink; exact decide_eq_false (by omega))).symm
 ·have hall : (bl s).all ink = true := z2o (k := k) (by omega) qp1
  repeat' (first | refine zqj ?_ | ((refine zqh fun K J => ?_); (simp (disch := omega) only [go_sem, Nat.reduceBEq, ↓reduceIte, q0, q3])) | ((refine zqd _ rfl (fun hc => ?_) (fun hc => ?_)) <;> (((try simp only [z03] at hc); (try (exfalso; omega))))) | refine zqc ?_ | refine zqn ?_ | refine zqv ?_ | refine zqz ?_ | refine zqp ?_ | refine zqu (by (simp (disch := omega) only [go_sem]); rfl) rfl ?_ | (refine J _ ?_; clear J K) | (refine zqf (fun hb => ?_) (fun hb => ?_) <;> (have hb2 := hb; try simp only [z03] at hb2) <;> ((first | have F := eq_false hb2 | have F := eq_true hb2); (simp (disch := omega) only [go_sem, Nat.reduceBEq, ↓reduceIte, F, q0]); clear hb F; (try (exfalso; omega)))))
  all_goals first
   | exact z00 (by unfold z8w; rw [hall, Bool.and_true, decide_eq_decide]; omega)
   | exact z00 (by unfold z8w; rw [decide_eq_false (by omega)]; rfl)
theorem zng (l : List Wd) (hl : l.length <= maxLen) (hs : ∀ w ∈ l, w.text.size <= maxLen) : PC Tryz.prog 108 [z0q l] (.bool (zn3 l)) := by
 unfold maxLen at hl
 refine z1y 1 (by simp only [pureD.pureL, z0x, Bool.and_self]) rfl (z1w [] Tryz.func108 rfl (by decide +kernel) z0j (by decide +kernel) (by simp [Tryz.ntmps108]) ?_)
 show awp _ _ (Code.seq _ _) _ _
 have hw := fun (i : Nat) (h : i < l.length) => zu0 l[i].text (hs _ (List.getElem_mem h))
 repeat' (first | refine zqj ?_ | ((refine zqh fun K J => ?_); (simp (disch := omega) only [go_sem, z0q])) | refine zqa ?_ | (refine J _ ?_; clear J K))
 (refine z37 (fun U st => ∃ (k : _), U = l.length - k /\ st.t 0 = z0q l /\ st.t 3 = .int .i64 k /\ (k <= l.length) /\ ((l.take k).all (fun w => z8w w.text) = true)) ?_ ?_); rotate_left; (rintro U st ⟨k, rfl, s0, s3, sp0, sp1⟩); rotate_left
 ·(refine ⟨_, 0, rfl, ?_⟩); (simp (disch := omega) only [go_sem, Nat.reduceBEq, true_and, Int.natCast_zero, z0q])
  simp
 by_cases hk : k < l.length
 ·repeat' (first | refine zqj ?_ | ((first | refine zqh fun K J => ?_ | refine zqr fun K J => ?_ | refine zqs (hw k hk) ?_); (simp (disch := omega) only [go_sem, Nat.reduceBEq, ↓reduceIte, reduceCtorEq, Nat.reduceAdd, s0, s3, z0q])) | ((first | refine zqd _ rfl (fun hc => ?_) (fun hc => ?_) | refine zqm _ rfl (fun hc => ?_) (fun hc => ?_)) <;> (((try simp only [z03] at hc); (try (exfalso; omega))))) | refine zqa ?_ | refine zqb ?_ | refine zqk ?_ | refine zqn ?_ | refine zqv ?_ | refine zqx ?_ | refine zqy ?_ | refine z4a ?_ | refine zqo ?_ | refine zqu (by (simp (disch := omega) only [go_sem]); rfl) rfl ?_ | (refine J _ ?_; clear J K))
  ·exact z00 (by unfold zn3; rw [z3y (f := fun w : Wd => z8w w.text) (k := k) hk (by assumption), Bool.and_false])
  ·(refine Exists.intro _ (And.intro ?_ ⟨k + 1, rfl, ?_⟩)); rotate_left; (simp (disch := omega) only [go_sem, Nat.reduceBEq, s0, s3, true_and, Int.natCast_add, Int.natCast_one]); rotate_left
   ·omega
   ·exact ⟨by omega, z2g hk sp1 (by assumption)⟩
 ·repeat' (first | refine zqj ?_ | ((refine zqh fun K J => ?_); (simp (disch := omega) only [go_sem, Nat.reduceBEq, ↓reduceIte, s0, s3, z0q])) | ((refine zqd _ rfl (fun hc => ?_) (fun hc => ?_)) <;> (((try simp only [z03] at hc); (try (exfalso; omega))))) | refine zqc ?_ | refine zqn ?_ | refine zqv ?_ | refine zqz ?_ | refine zqp ?_ | refine zqu (by (simp (disch := omega) only [go_sem]); rfl) rfl ?_ | (refine J _ ?_; clear J K))
  refine z00 ?_
  unfold zn3
  rw [z2o (by omega) sp1, Bool.and_true, decide_eq_decide]; omega
theorem zgw (t : T) (hs : szB t = true) : PC Tryz.prog 98 [z17 t] (.bool (zff t)) := by
 obtain ⟨h0, h1, g1, h2, g2, h3, _⟩ := (z1l t).1 hs
 have r1 := zng t.head (by unfold maxLen; omega) (fun w hw => by have := g1 w hw; unfold maxLen; omega)
 have r2 := zng t.words (by unfold maxLen; omega) (fun w hw => by have := g2 w hw; unfold maxLen; omega)
 have r3 := zdg t.label (by unfold maxLen; omega)
 refine z1y 1 (by simp only [pureD.pureL, z05, Bool.and_self]) rfl (z1w [] Tryz.func98 rfl (by decide +kernel) z0j (by decide +kernel) (by simp [Tryz.ntmps98]) ?_)
 show awp _ _ (Code.seq _ _) _ _
 unfold zff
 by_cases hk : t.kind = 0
 ·rw [if_pos hk]
  repeat' (first | refine zqj ?_ | ((refine zqh fun K J => ?_); (simp (disch := omega) only [go_sem, Nat.reduceBEq, ↓reduceIte, reduceCtorEq, Nat.reduceAdd, hk])) | ((refine zqd _ rfl (fun hc => ?_) (fun hc => ?_)) <;> (first | (cases hc; done) | ((try simp only [] at hc); (try (exfalso; omega))))) | refine zqg ?_ | refine zqu (by (simp (disch := omega) only [go_sem]); rfl) rfl ?_ | (refine J _ ?_; clear J K) | (refine zqf (fun hb => ?_) (fun hb => ?_) <;> (have hb2 := hb; try simp only [z03] at hb2) <;> ((first | have F := eq_false hb2 | have F := eq_true hb2); (simp (disch := omega) only [go_sem, Nat.reduceBEq, ↓reduceIte, reduceCtorEq, Nat.reduceAdd, F, z0q]); clear hb F; (try (exfalso; omega)))))
  all_goals
   refine z00 ?_
   unfold z1j
   first
    | (rw [decide_eq_true (p := t.label = _) (by assumption), decide_eq_true (show t.head.length = 0 by omega)]; simp only [Bool.true_and, decide_eq_decide]; omega)
    | (rw [decide_eq_true (p := t.label = _) (by assumption), decide_eq_false (show ¬ t.head.length = 0 by omega)]; rfl)
    | (rw [decide_eq_false (p := t.label = _) (by assumption)]; rfl)
 ·rw [if_neg hk]
  repeat' (first | refine zqj ?_ | ((first | refine zqh fun K J => ?_ | refine zqs (r1) ?_ | refine zqs (r2) ?_ | refine zqs (r3) ?_); (simp (disch := omega) only [go_sem, Nat.reduceBEq, ↓reduceIte, reduceCtorEq, Nat.reduceAdd])) | ((refine zqd _ rfl (fun hc => ?_) (fun hc => ?_)) <;> (((try simp only [z03] at hc); (try (exfalso; omega))))) | refine zqb ?_ | refine zqn ?_ | refine zqu (by (simp (disch := omega) only [go_sem]); rfl) rfl ?_ | (refine J _ ?_; clear J K) | (refine zqf (fun hb => ?_) (fun hb => ?_) <;> (have hb2 := hb; try simp only [z03] at hb2) <;> ((first | have F : (_ : Bool) = _ := hb2 | have F := eq_false hb2 | have F := eq_true hb2); (simp (disch := omega) only [go_sem, Nat.reduceBEq, ↓reduceIte, reduceCtorEq, Nat.reduceAdd, hb, F, z0q]); clear hb F; (try (exfalso; omega)))))
  all_goals
   refine z00 ?_
   first
    | (rw [decide_eq_false (p := 0 < t.kind /\ t.kind <= 7) (by omega)]; rfl)
    | (rw [decide_eq_true (p := 0 < t.kind /\ t.kind <= 7) (by omega)]; simp_all; done)
theorem zc7 : ∀ t : T, szB t = true -> cntT t <= 1000000000 -> PC Tryz.prog 67 [z17 t] (.int .i64 (cntT t)) := by
 refine z3u fun t ih hs hc => ?_
 obtain ⟨h0, h1, g1, h2, g2, h3, h4⟩ := (z1l t).1 hs
 have hce := z3w t
 refine z1y 1 (by simp only [pureD.pureL, z05, Bool.and_self]) rfl (z1w [] Tryz.func67 rfl (by decide +kernel) z0j (by decide +kernel) (by simp [Tryz.ntmps67]) ?_)
 show awp _ _ (Code.seq _ _) _ _
 repeat' (first | refine zqj ?_ | ((refine zqh fun K J => ?_); (simp (disch := omega) only [go_sem])) | refine zqa ?_ | (refine J _ ?_; clear J K))
 (refine z37 (fun U st => ∃ (i : _), U = t.kids.length - i /\ st.t 1 = .ptr 0 0 /\ st.t 3 = .int .i64 (1 + ((t.kids.take i).flatMap z09).length : Nat) /\ st.t 4 = .int .i64 i /\ st.H 0 = some (.box 27 (z06 t)) /\ (i <= t.kids.length) /\ (1 <= st.nx)) ?_ ?_); rotate_left; (rintro U st ⟨i, rfl, q1, q3, q4, qH0, qp0, qp1⟩); rotate_left
 ·(refine ⟨_, 0, rfl, ?_⟩); (simp (disch := omega) only [go_sem, Nat.reduceBEq, Nat.reduceLeDiff, and_self, Int.natCast_one, Int.natCast_zero, List.flatMap_nil])
  try simp
 have hin := fun (h : i < t.kids.length) => ih t.kids[i] (List.getElem_mem h) (h4 _ (List.getElem_mem h)) (by have := z88 (List.getElem_mem h); omega)
 have hb := z2z t.kids (i + 1)
 have hsu := fun (h : i < t.kids.length) => z4c t.kids i h
 repeat' (first | refine zqj ?_ | ((first | refine zqh fun K J => ?_ | refine zqr fun K J => ?_ | refine zqs (hin (by omega)) ?_); (simp (disch := omega) only [go_sem, Nat.reduceBEq, ↓reduceIte, reduceCtorEq, Nat.reduceAdd, q1, q3, q4, qH0, z0e])) | ((refine zqd _ rfl (fun hc => ?_) (fun hc => ?_)) <;> (((try simp only [z03] at hc); (try (exfalso; omega))))) | refine zqa ?_ | refine zqb ?_ | refine zqc ?_ | refine zqn ?_ | refine zqv ?_ | refine zqy ?_ | refine zqz ?_ | refine zqp ?_ | refine zqu (by (simp (disch := omega) only [go_sem]); rfl) rfl ?_ | (refine J _ ?_; clear J K))
 ·have hsu := hsu (by omega)
  (refine Exists.intro _ (And.intro ?_ ⟨i + 1, rfl, ?_⟩)); rotate_left; (simp (disch := omega) only [go_sem, Nat.reduceBEq, q1, q3, q4, qH0, true_and, Int.natCast_add, Int.natCast_one, hsu]); rotate_left
  ·omega
  ·exact ⟨by omega, by omega, by omega⟩
 ·have hi : i = t.kids.length := by omega
  subst hi
  refine z33 ?_
  rw [List.take_length, hce]
theorem zpn : ∀ t : T, szB t = true -> ∀ d : Nat, d <= 100 -> PC Tryz.prog 77 [z17 t, .int .i64 d] (.bool (zbf t d)) := by
 refine z3u fun t ih hs d hd => ?_
 have ha := zgw t hs
 obtain ⟨h0, h1, g1, h2, g2, h3, h4⟩ := (z1l t).1 hs
 rw [zu8]
 refine z1y 1 (by simp only [pureD.pureL, z05, pureD, Bool.and_self]) rfl (z1w [] Tryz.func77 rfl (by decide +kernel) z0j (by decide +kernel) (by simp [Tryz.ntmps77]) ?_)
 show awp _ _ (Code.seq _ _) _ _
 by_cases hb : (decide (8 < d) || (decide (0 < d) && decide (t.kind = 0)) || !zff t || decide (64 < t.kids.length)) = true
 ·rw [hb]
  simp only [z03] at hb
  repeat' (first | refine zqj ?_ | ((first | refine z01 (N := 3) rfl fun K J => ?_ | refine zqs (ha) ?_); (simp (disch := omega) only [go_sem, Nat.reduceBEq, ↓reduceIte])) | ((refine zqd _ rfl (fun hc => ?_) (fun hc => ?_)) <;> (first | (cases hc; done) | ((try simp only [z03] at hc); (try (exfalso; omega))))) | refine zqb ?_ | refine zqg ?_ | refine zqu (by (simp (disch := omega) only [go_sem]); rfl) rfl ?_ | (refine J _ ?_; clear J K) | (refine zqf (fun hb => ?_) (fun hb => ?_) <;> (have hb2 := hb; try simp only [z03] at hb2) <;> ((first | have F : (_ : Bool) = _ := hb2 | have F := eq_false hb2 | have F := eq_true hb2); (simp (disch := omega) only [go_sem, Nat.reduceBEq, ↓reduceIte, reduceCtorEq, Nat.reduceAdd, Nat.reduceLeDiff, F, z0e]); clear hb F; (try (exfalso; omega)))))
  all_goals first
   | exact z00 rfl
   | (exfalso; simp_all; done)
   | (exfalso; simp_all; omega)
 ·rw [Bool.not_eq_true] at hb
  rw [hb]
  simp only [Bool.or_eq_false_iff, Bool.and_eq_false_iff, decide_eq_false_iff_not, Bool.not_eq_false'] at hb
  obtain ⟨⟨⟨b1, b2⟩, b3⟩, b4⟩ := hb
  rw [b3] at ha
  repeat' (first | refine zqj ?_ | ((first | refine z01 (N := 3) rfl fun K J => ?_ | refine zqs (ha) ?_); (simp (disch := omega) only [go_sem, Nat.reduceBEq, ↓reduceIte, reduceCtorEq, Nat.reduceAdd, z0e])) | ((refine zqd _ rfl (fun hc => ?_) (fun hc => ?_)) <;> (((try simp only [z03] at hc); (try (exfalso; omega))))) | refine zqb ?_ | (refine J _ ?_; clear J K) | (refine zqf (fun hb => ?_) (fun hb => ?_) <;> (have hb2 := hb; try simp only [z03] at hb2) <;> ((first | have F := eq_false hb2 | have F := eq_true hb2); (simp (disch := omega) only [go_sem, Nat.reduceBEq, ↓reduceIte, reduceCtorEq, Nat.reduceAdd, Nat.reduceLeDiff, F]); clear hb F; (try (exfalso; omega)))))
  all_goals
   clear b2
   (refine z1c (fun st => st.t 1 = .int .i64 d /\ st.t 2 = .ptr 0 0 /\ st.H 0 = some (.box 27 (z06 t)) /\ (1 <= st.nx)) ?_ ?_); rotate_left; (rintro st ⟨p1, p2, pH0, pp0⟩); rotate_left
   ·(simp (disch := omega) only [go_sem, Nat.reduceBEq, Nat.reduceLeDiff, and_self])
   repeat' (first | ((refine zqh fun K J => ?_); (simp (disch := omega) only [go_sem])) | refine zqa ?_ | (refine J _ ?_; clear J K))
   (refine z37 (fun U st => ∃ (i : _), U = t.kids.length - i /\ st.t 1 = .int .i64 d /\ st.t 2 = .ptr 0 0 /\ st.t 5 = .int .i64 i /\ st.H 0 = some (.box 27 (z06 t)) /\ (i <= t.kids.length) /\ (1 <= st.nx) /\ ((t.kids.take i).all (fun k => z20 t.kind k.kind) = true) /\ ((t.kids.take i).all (fun k => zbf k (d + 1)) = true) /\ (((t.kids.take i).map z60).Nodup)) ?_ ?_); rotate_left; (rintro U st ⟨i, rfl, q1, q2, q5, qH0, qp0, qp1, qp2, qp3, qp4⟩); rotate_left
   ·(refine ⟨_, 0, rfl, ?_⟩); (simp (disch := omega) only [go_sem, Nat.reduceBEq, p1, p2, pH0, true_and, Int.natCast_zero, List.map_nil])
    simp only [List.all_nil, List.nodup_nil, and_true]
    omega
   by_cases hi : i < t.kids.length
   ·have hin := ih t.kids[i] (List.getElem_mem hi) (h4 _ (List.getElem_mem hi)) (d + 1) (by omega)
    have hn := zc6 t.kind t.kids[i].kind
    have hd1 : IntKind.i64.wrap ((d : Int) + 1) = ((d + 1 : Nat) : Int) := by rw [zed (by omega)]; rfl
    repeat' (first | refine zqj ?_ | ((first | refine zqh fun K J => ?_ | refine zqs (hn) ?_ | refine zqs (hin) ?_); (simp (disch := omega) only [go_sem, Nat.reduceBEq, ↓reduceIte, reduceCtorEq, Nat.reduceAdd, Nat.reduceLeDiff, q2, q5, qH0, z0e])) | ((refine zqd _ rfl (fun hc => ?_) (fun hc => ?_)) <;> (first | (cases hc; done) | ((try simp only [z03] at hc); (try (exfalso; omega))))) | refine zqa ?_ | refine zqi ?_ | refine zqb ?_ | refine zqg ?_ | refine zqx ?_ | refine z4a ?_ | refine zqo ?_ | refine zqu (by (simp (disch := omega) only [go_sem]); rfl) rfl ?_ | (refine J _ ?_; clear J K) | (refine zqf (fun hb => ?_) (fun hb => ?_) <;> (have hb2 := hb; try simp only [z03] at hb2) <;> ((have F : (_ : Bool) = _ := hb2); (simp (disch := omega) only [go_sem, Nat.reduceBEq, ↓reduceIte, Nat.reduceAdd, Nat.reduceLeDiff, F, q1, hd1]); clear hb F; (try (exfalso; omega)))))
    ·exact z00 (by rw [z3y (f := fun k : T => zbf k (d + 1)) (k := i) hi (by assumption), Bool.false_and, Bool.and_false, Bool.and_false])
    ·(refine z37 (fun U st => ∃ (k : _) (m : Nat), U = i - k /\ st.t 1 = .int .i64 d /\ st.t 2 = .ptr 0 0 /\ st.t 5 = .int .i64 i /\ st.t 6 = .ptr m 0 /\ st.t 7 = .int .i64 k /\ st.H 0 = some (.box 27 (z06 t)) /\ st.H (m) = some (.box 27 (z06 t.kids[i])) /\ (k <= i) /\ (0 < m) /\ (m < st.nx) /\ (∀ j, (hj : j < k) -> (h : j < t.kids.length) -> z60 t.kids[j] ≠ z60 t.kids[i])) ?_ ?_); rotate_left; (rintro U st ⟨k, m, rfl, r1, r2, r5, r6, r7, rH0, rHm, rp0, rp1, rp2, rp3⟩); rotate_left
     ·(refine ⟨_, 0, st.nx, rfl, ?_⟩); (simp (disch := omega) only [go_sem, Nat.reduceBEq, q1, q2, q5, qH0, true_and, Int.natCast_add, Int.natCast_one, Int.natCast_zero])
      exact ⟨by omega, by omega, fun j hj => by omega⟩
     by_cases hk : k < i
     ·repeat' (first | refine zqj ?_ | ((first | refine zqh fun K J => ?_ | refine zqe (by decide +kernel) fun K J => ?_ | refine zqr fun K J => ?_); (simp (disch := omega) only [go_sem, Nat.reduceBEq, ↓reduceIte, reduceCtorEq, Nat.reduceAdd, r2, r5, r6, r7, rH0, rHm, z0e])) | ((first | refine zqd _ rfl (fun hc => ?_) (fun hc => ?_) | refine zqm _ rfl (fun hc => ?_) (fun hc => ?_)) <;> (first | (cases hc; done) | ((try simp only [z03] at hc); (try (exfalso; omega))))) | refine zqa ?_ | refine zqb ?_ | refine zqk ?_ | refine zqn ?_ | refine zqv ?_ | refine zqx ?_ | refine zqy ?_ | refine z4a ?_ | refine zqo ?_ | refine zqu (by (simp (disch := omega) only [go_sem]); rfl) rfl ?_ | (refine J _ ?_; clear J K) | (refine zqf (fun hb => ?_) (fun hb => ?_) <;> (have hb2 := hb; try simp only [z03] at hb2) <;> ((first | have F := eq_false hb2 | have F := eq_true hb2); (simp (disch := omega) only [go_sem, Nat.reduceBEq, ↓reduceIte, reduceCtorEq, Nat.reduceAdd, F, r2, r6, r7, rH0, rHm, z0e]); clear hb F; (try (exfalso; omega)))))
      ·refine z00 ?_
       have hno := zh5 (f := z60) (l := t.kids) (j := k) (k := i) (by omega) hi (by unfold z60; rw [‹t.kids[k].kind = t.kids[i].kind›, ‹t.kids[k].label = t.kids[i].label›])
       rw [decide_eq_false hno, Bool.and_false, Bool.and_false, Bool.and_false]
      ·(refine Exists.intro _ (And.intro ?_ ⟨k + 1, m, rfl, ?_⟩)); rotate_left; (simp (disch := omega) only [go_sem, Nat.reduceBEq, r1, r2, r5, r6, r7, rH0, rHm, true_and, Int.natCast_add, Int.natCast_one]); rotate_left
       ·omega
       ·refine ⟨by omega, by omega, by omega, fun j hj h => ?_⟩
        by_cases e : j = k
        ·subst e; exact fun h => absurd (congrArg Prod.snd h) (by assumption)
        ·exact rp3 j (by omega) h
      ·(refine Exists.intro _ (And.intro ?_ ⟨k + 1, m, rfl, ?_⟩)); rotate_left; (simp (disch := omega) only [go_sem, Nat.reduceBEq, r1, r2, r5, r6, r7, rH0, rHm, true_and, Int.natCast_add, Int.natCast_one]); rotate_left
       ·omega
       ·refine ⟨by omega, by omega, by omega, fun j hj h => ?_⟩
        by_cases e : j = k
        ·subst e; exact fun h => absurd (congrArg Prod.fst h) (by assumption)
        ·exact rp3 j (by omega) h
     ·repeat' (first | refine zqj ?_ | ((first | refine zqh fun K J => ?_ | refine zqr fun K J => ?_); (simp (disch := omega) only [go_sem, Nat.reduceBEq, ↓reduceIte, r5, r7])) | ((refine zqd _ rfl (fun hc => ?_) (fun hc => ?_)) <;> (((try simp only [z03] at hc); (try (exfalso; omega))))) | refine zqc ?_ | refine zqv ?_ | refine zqy ?_ | refine zqz ?_ | refine zqp ?_ | (refine J _ ?_; clear J K))
      (refine Exists.intro _ (And.intro ?_ ⟨i + 1, rfl, ?_⟩)); rotate_left; (simp (disch := omega) only [go_sem, Nat.reduceBEq, true_and, Int.natCast_add, Int.natCast_one, r1, r2, r5, rH0]); rotate_left
      ·omega
      ·exact ⟨by omega, by omega, z2g hi qp2 (by assumption), z2g hi qp3 (by assumption), zbi hi qp4 (fun j hj => rp3 j (by omega) (by omega))⟩
    ·exact z00 (by rw [z3y (f := fun k : T => z20 t.kind k.kind) (k := i) hi (by assumption), Bool.false_and, Bool.and_false])
   ·skip
    repeat' (first | refine zqj ?_ | ((refine zqh fun K J => ?_); (simp (disch := omega) only [go_sem, Nat.reduceBEq, ↓reduceIte, reduceCtorEq, Nat.reduceAdd, q2, q5, qH0, z0e])) | ((refine zqd _ rfl (fun hc => ?_) (fun hc => ?_)) <;> (((try simp only [z03] at hc); (try (exfalso; omega))))) | refine zqc ?_ | refine zqn ?_ | refine zqv ?_ | refine zqz ?_ | refine zqp ?_ | refine zqu (by (simp (disch := omega) only [go_sem]); rfl) rfl ?_ | (refine J _ ?_; clear J K))
    refine z00 ?_
    rw [z2o (by omega) qp2, z2o (by omega) qp3]
    rw [List.take_of_length_le (by omega)] at qp4
    rw [decide_eq_true qp4]; rfl
theorem zgf (t : T) (hs : szB t = true) (hc : cntT t <= 1000000000) : PC Tryz.prog 54 [z17 t] (.bool (zkg t)) := by
 have c1 := zpn t hs 0 (by omega)
 have c2 := zc7 t hs hc
 refine z1y 1 (by simp only [pureD.pureL, z05, Bool.and_self]) rfl (z1w [] Tryz.func54 rfl (by decide +kernel) z0j (by decide +kernel) (by simp [Tryz.ntmps54]) ?_)
 show awp _ _ (Code.seq _ _) _ _
 unfold zkg
 have hz : ((0 : Nat) : Int) = 0 := rfl
 rw [hz] at c1
 repeat' (first | ((first | refine zqh fun K J => ?_ | refine zqs (c1) ?_ | refine zqs (c2) ?_); (simp (disch := omega) only [go_sem, Nat.reduceBEq, ↓reduceIte, Nat.reduceAdd, Nat.reduceLeDiff])) | refine zqn ?_ | refine zqu (by (simp (disch := omega) only [go_sem]); rfl) rfl ?_ | (refine J _ ?_; clear J K) | (refine zqf (fun hb => ?_) (fun hb => ?_) <;> (have hb2 := hb; try simp only [z03] at hb2) <;> ((have F : (_ : Bool) = _ := hb2); (simp (disch := omega) only [go_sem, Nat.reduceBEq, ↓reduceIte, Nat.reduceAdd, Nat.reduceLeDiff, hb]); clear hb F; (try (exfalso; omega)))))
 ·refine z00 ?_
  rw [‹zbf t 0 = true›, Bool.true_and, decide_eq_decide]; omega
 ·exact z00 (by rw [‹zbf t 0 = false›]; rfl)
namespace Tr
theorem zau (l : List Wd) (w : Wd) : zpo (l ++ [w]) = zpo l ++ b1 32 ++ zxw w.text := by unfold zpo; rw [List.foldl_append]; rfl
theorem z4t (a b : ByteArray) : (a ++ b).size = a.size + b.size := ByteArray.size_append
theorem zw2 (s : ByteArray) : (zxw s).size <= s.size + 1 := by
 unfold zxw
 split
 ·rw [z4t]; show (b1 92).size + _ <= _; rw [show (b1 92).size = 1 from rfl]; omega
 ·omega
theorem zj9 {l : List Wd} {m : Nat} (h : ∀ w ∈ l, w.text.size <= m) : (zpo l).size <= l.length * (m + 2) := by
 have key : ∀ (n : Nat), n <= l.length -> (zpo (l.take n)).size <= n * (m + 2) := fun n => by
  induction n with
  | zero => intro _; show ByteArray.empty.size <= _; simp
  | succ n ih =>
   intro hn
   rw [List.take_succ_eq_append_getElem (by omega), zau, z4t, z4t]
   have h1 := ih (by omega)
   have h2 := zw2 l[n].text
   have h3 := h _ (List.getElem_mem (l := l) (n := n) (by omega))
   have h4 : (b1 32).size = 1 := rfl
   rw [Nat.add_mul]; omega
 have := key l.length (Nat.le_refl _)
 rwa [List.take_length] at this
theorem ze9 : ∀ n, (twoX n).size = 2 * n
 | 0 => rfl
 | n + 1 => by rw [twoX, z4t, ze9 n]; show _ + 2 = _; omega
theorem zgg {t : T} (h : zff t = true) : t.kind = 0 \/ ((0 < t.kind /\ t.kind <= 7) /\ zn3 t.head = true /\ zn3 t.words = true) := by
 unfold zff at h
 split at h
 ·exact .inl (by assumption)
 ·simp only [Bool.and_eq_true, decide_eq_true_eq] at h
  exact .inr ⟨h.1, h.2.2.1, h.2.2.2⟩
theorem zse {s : ByteArray} (h : 0 < (bl s).length) (h2 : (((bl s)[0]'h).toNat : Int) = 124 \/ (((bl s)[0]'h).toNat : Int) = 92) : zxw s = b1 92 ++ s := by
 have e : (bl s).headD 0 = (bl s)[0]'h := (zte (s := s) h).symm
 unfold zxw
 rw [e, if_pos]
 rcases h2 with h2 | h2
 ·exact .inl (UInt8.toNat.inj (by show _ = 124; omega))
 ·exact .inr (UInt8.toNat.inj (by show _ = 92; omega))
theorem zzc {s : ByteArray} (h : 0 < (bl s).length) (h1 : ¬ (((bl s)[0]'h).toNat : Int) = 124) (h2 : ¬ (((bl s)[0]'h).toNat : Int) = 92) : zxw s = s := by
 have e : (bl s).headD 0 = (bl s)[0]'h := (zte (s := s) h).symm
 unfold zxw
 rw [e, if_neg]
 rintro (g | g)
 ·rw [g] at h1; exact h1 rfl
 ·rw [g] at h2; exact h2 rfl
end Tr
theorem zgh (l : List Wd) (hl : l.length <= 1000000) (hs : ∀ w ∈ l, 1 <= w.text.size /\ w.text.size <= 1000000) : PC Tryz.prog 110 [z0q l] (.str (zpo l)) := by
 refine z1y 1 (by simp only [pureD.pureL, z0x, Bool.and_self]) rfl (z1w [] Tryz.func110 rfl (by decide +kernel) z0j (by decide +kernel) (by simp [Tryz.ntmps110]) ?_)
 show awp _ _ (Code.seq _ _) _ _
 repeat' (first | refine zqj ?_ | ((refine zqh fun K J => ?_); (simp (disch := omega) only [go_sem, z0q])) | refine zqa ?_ | (refine J _ ?_; clear J K))
 (refine z37 (fun U st => ∃ (k : _), U = l.length - k /\ st.t 0 = z0q l /\ st.t 3 = .str (zpo (l.take k)) /\ st.t 4 = .int .i64 k /\ (k <= l.length)) ?_ ?_); rotate_left; (rintro U st ⟨k, rfl, q0, q3, q4, qp0⟩); rotate_left
 ·(refine ⟨_, 0, rfl, ?_⟩); (simp (disch := omega) only [go_sem, Nat.reduceBEq, true_and, and_true, and_self, Int.natCast_zero, z0q])
  try rfl
 by_cases hk : k < l.length
 ·have hw := hs _ (List.getElem_mem hk)
  have htk := List.take_succ_eq_append_getElem hk
  have hsz : (zpo (l.take k)).size <= 1000000 * 1000002 := by
   have h1 := zj9 (l := l.take k) (m := 1000000) fun w hw => (hs w (List.mem_of_mem_take hw)).2
   have h2 : (l.take k).length <= 1000000 := by rw [List.length_take]; omega
   exact Nat.le_trans h1 (Nat.mul_le_mul_right _ h2)
  have hz : Int.toNat 0 = 0 := rfl
  have e92 : (#[92] : Array UInt8).size = 1 := rfl
  have e32 : (#[32] : Array UInt8).size = 1 := rfl
  have hbl := z1b l[k].text
  have hpos : 0 < (bl l[k].text).length := by omega
  repeat' (first | refine zqj ?_ | ((first | refine zqh fun K J => ?_ | refine zqr fun K J => ?_); (simp (disch := omega) only [go_sem, Nat.reduceBEq, ↓reduceIte, reduceCtorEq, Nat.reduceAdd, Nat.reduceLeDiff, Int.reduceLE, q0, q3, q4, z0q, zlm, hz, z4t, e92, e32])) | ((refine zqd _ rfl (fun hc => ?_) (fun hc => ?_)) <;> (first | (cases hc; done) | ((try simp only [z03] at hc); (try (exfalso; omega))))) | refine zqa ?_ | refine zqb ?_ | refine zqv ?_ | refine zqy ?_ | (refine J _ ?_; clear J K) | (refine zqf (fun hb => ?_) (fun hb => ?_) <;> (have hb2 := hb; try simp only [z03] at hb2) <;> ((first | have F := eq_false hb2 | have F := eq_true hb2); (simp (disch := omega) only [go_sem, Nat.reduceBEq, ↓reduceIte, Int.reduceLE, F, zlm, hz]); clear hb F; (try (exfalso; omega)))))
  ·have he := zse hpos (.inr (by assumption))
   (refine Exists.intro _ (And.intro ?_ ⟨k + 1, rfl, ?_⟩)); rotate_left; (simp (disch := omega) only [go_sem, Nat.reduceBEq, q0, q3, q4, true_and, Int.natCast_add, Int.natCast_one, htk, zau, he]); rotate_left
   ·omega
   ·exact ⟨rfl, by omega⟩
  ·have he := zzc hpos (by assumption) (by assumption)
   (refine Exists.intro _ (And.intro ?_ ⟨k + 1, rfl, ?_⟩)); rotate_left; (simp (disch := omega) only [go_sem, Nat.reduceBEq, q0, q3, q4, true_and, Int.natCast_add, Int.natCast_one, htk, zau, he]); rotate_left
   ·omega
   ·exact ⟨rfl, by omega⟩
  ·have he := zse hpos (.inl (by assumption))
   (refine Exists.intro _ (And.intro ?_ ⟨k + 1, rfl, ?_⟩)); rotate_left; (simp (disch := omega) only [go_sem, Nat.reduceBEq, q0, q3, q4, true_and, Int.natCast_add, Int.natCast_one, htk, zau, he]); rotate_left
   ·omega
   ·exact ⟨rfl, by omega⟩
 ·repeat' (first | refine zqj ?_ | ((refine zqh fun K J => ?_); (simp (disch := omega) only [go_sem, Nat.reduceBEq, ↓reduceIte, q0, q3, q4, z0q])) | ((refine zqd _ rfl (fun hc => ?_) (fun hc => ?_)) <;> (((try simp only [z03] at hc); (try (exfalso; omega))))) | refine zqc ?_ | refine zqn ?_ | refine zqv ?_ | refine zqz ?_ | refine zqp ?_ | refine zqu (by (simp (disch := omega) only [go_sem]); rfl) rfl ?_ | (refine J _ ?_; clear J K))
  have hk2 : k = l.length := by omega
  subst hk2
  rw [List.take_length]
  exact z02 rfl (Le.refl _)
def nmsD : List D := nameL.map .str
theorem zsf : PC Tryz.prog 109 [] (.rsl true 1 nmsD) := by
 refine z1y 2 rfl rfl (z1w [] Tryz.func109 rfl (by decide +kernel) z0j (by decide +kernel) (by simp [Tryz.ntmps109]) ?_)
 show awp _ _ (Code.seq _ _) _ _
 repeat' (first | ((refine zqh fun K J => ?_); (simp (disch := omega) only [go_sem, Nat.reduceBEq, ↓reduceIte, reduceCtorEq, Nat.reduceAdd, Nat.reduceLeDiff])) | refine zqn ?_ | refine zqu (by (simp (disch := omega) only [go_sem]); rfl) rfl ?_ | (refine J _ ?_; clear J K))
 exact z02 rfl (Le.refl _)
theorem nms_at {k : Int} (h : 0 <= k /\ k < 8) : zku nmsD k = some (.str (znn k)) := by
 rcases zq2 h with rfl | rfl | rfl | rfl | rfl | rfl | rfl | rfl <;> rfl
theorem zja (k : Int) : (znn k).size <= 9 := by
 unfold znn
 split
 ·rename_i h
  rcases zq2 h with rfl | rfl | rfl | rfl | rfl | rfl | rfl | rfl <;> decide
 ·decide
namespace Tr
theorem zmo {l : List Wd} (h : zn3 l = true) : ∀ w ∈ l, 1 <= w.text.size /\ w.text.size <= 1000000 := fun w hw => by
 unfold zn3 at h
 simp only [Bool.and_eq_true, decide_eq_true_eq, List.all_eq_true] at h
 have := h.2 w hw
 unfold z8w at this
 simp only [Bool.and_eq_true, decide_eq_true_eq] at this
 omega
theorem zdb {l : List Wd} (hl : l.length <= 1000000) (h : ∀ w ∈ l, w.text.size <= 1000000) : (zpo l).size <= 1000002000000 := by
 have := zj9 h
 exact Nat.le_trans this (Nat.mul_le_mul_right _ hl)
theorem zom {t : T} (hs : szB t = true) (d : Nat) : (zd4 t d).size <= 2000010000000 := by
 obtain ⟨h0, h1, g1, h2, g2, h3, _⟩ := (z1l t).1 hs
 have a1 := zdb h1 g1
 have a2 := zdb h2 g2
 have a3 := zja t.kind
 have a4 : (b1 32).size = 1 := rfl
 have a5 : (b1 58).size = 1 := rfl
 have a6 : (⟨#[32, 124]⟩ : ByteArray).size = 2 := rfl
 unfold zd4
 split
 ·show ByteArray.empty.size <= _; decide
 ·rename_i h
  have a7 := ze9 d
  simp only
  split <;> split <;> split <;> simp only [z4t] <;> omega
end Tr
theorem zsg (t : T) (hs : szB t = true) (d : Nat) (hd : d <= 100) : PC Tryz.prog 99 [z17 t, .int .i64 d] (.str (zd4 t d)) := by
 obtain ⟨h0, h1, g1, h2, g2, h3, _⟩ := (z1l t).1 hs
 have c1 := zgw t hs
 have c2 := zsf
 refine z1y 2 (by simp only [pureD.pureL, z05, pureD, Bool.and_self]) rfl (z1w [] Tryz.func99 rfl (by decide +kernel) z0j (by decide +kernel) (by simp [Tryz.ntmps99]) ?_)
 show awp _ _ (Code.seq _ _) _ _
 by_cases hb : zff t = false \/ 8 < d
 ·have hx : zd4 t d = ByteArray.empty := by unfold zd4; rw [if_pos hb]
  rw [hx]
  rcases hb with hb | hb
  ·rw [hb] at c1
   repeat' (first | refine zqj ?_ | ((first | refine z01 (N := 3) rfl fun K J => ?_ | refine zqs (c1) ?_); (simp (disch := omega) only [go_sem, Nat.reduceBEq, ↓reduceIte])) | ((refine zqd _ rfl (fun hc => ?_) (fun hc => ?_)) <;> (first | (cases hc; done) | ((try simp only [] at hc); (try (exfalso; omega))))) | refine zqg ?_ | refine zqu (by (simp (disch := omega) only [go_sem]); rfl) rfl ?_ | (refine J _ ?_; clear J K) | (refine zqf (fun hb => ?_) (fun hb => ?_) <;> (have hb2 := hb; try simp only [z03] at hb2) <;> ((first | have F := eq_false hb2 | have F := eq_true hb2); (simp (disch := omega) only [go_sem, Nat.reduceBEq, ↓reduceIte, Nat.reduceAdd, Nat.reduceLeDiff, F]); clear hb F; (try (exfalso; omega)))))
   all_goals first
    | exact z02 rfl (Le.refl _)
    | (exfalso; omega)
  ·repeat' (first | refine zqj ?_ | ((refine z01 (N := 3) rfl fun K J => ?_); (simp (disch := omega) only [go_sem, Nat.reduceBEq, ↓reduceIte])) | ((refine zqd _ rfl (fun hc => ?_) (fun hc => ?_)) <;> (first | (cases hc; done) | ((try simp only [] at hc); (try (exfalso; omega))))) | refine zqg ?_ | refine zqu (by (simp (disch := omega) only [go_sem]); rfl) rfl ?_ | (refine J _ ?_; clear J K) | (refine zqf (fun hb => ?_) (fun hb => ?_) <;> (have hb2 := hb; try simp only [z03] at hb2) <;> ((first | have F := eq_false hb2 | have F := eq_true hb2); (simp (disch := omega) only [go_sem, Nat.reduceBEq, ↓reduceIte, Nat.reduceAdd, Nat.reduceLeDiff, F]); clear hb F; (try (exfalso; omega)))))
   all_goals first
    | exact z02 rfl (Le.refl _)
    | (exfalso; omega)
 ·simp only [not_or, Bool.not_eq_false] at hb
  obtain ⟨hb, hd8⟩ := hb
  rw [hb] at c1
  repeat' (first | refine zqj ?_ | ((first | refine z01 (N := 3) rfl fun K J => ?_ | refine zqs (c1) ?_); (simp (disch := omega) only [go_sem, Nat.reduceBEq, ↓reduceIte])) | ((refine zqd _ rfl (fun hc => ?_) (fun hc => ?_)) <;> (first | (cases hc; done) | ((try simp only [] at hc); (try (exfalso; omega))))) | refine zqb ?_ | (refine J _ ?_; clear J K) | (refine zqf (fun hb => ?_) (fun hb => ?_) <;> (have hb2 := hb; try simp only [z03] at hb2) <;> ((first | have F := eq_false hb2 | have F := eq_true hb2); (simp (disch := omega) only [go_sem, Nat.reduceBEq, ↓reduceIte, Nat.reduceAdd, Nat.reduceLeDiff, F]); clear hb F; (try (exfalso; omega)))))
  (refine z1c (fun st => st.t 1 = .int .i64 d /\ st.t 2 = .ptr 0 0 /\ st.H 0 = some (.box 27 (z06 t)) /\ st.nx = 1) ?_ ?_); rotate_left; (rintro st ⟨p1, p2, pH0, pnx⟩); rotate_left
  ·(simp (disch := omega) only [go_sem, Nat.reduceBEq, and_self])
  repeat' (first | refine zqj ?_ | ((refine zqh fun K J => ?_); (simp (disch := omega) only [go_sem, pnx])) | refine zqa ?_ | (refine J _ ?_; clear J K))
  (refine z37 (fun U st => ∃ (i : _), U = d - i /\ st.t 1 = .int .i64 d /\ st.t 2 = .ptr 0 0 /\ st.t 5 = .str (twoX i) /\ st.t 6 = .int .i64 i /\ st.H 0 = some (.box 27 (z06 t)) /\ st.nx = 1 /\ (i <= d)) ?_ ?_); rotate_left; (rintro U st ⟨i, rfl, q1, q2, q5, q6, qH0, qnx, qp0⟩); rotate_left
  ·(refine ⟨_, 0, rfl, ?_⟩); (simp (disch := omega) only [go_sem, Nat.reduceBEq, p1, p2, pH0, true_and, and_true, and_self, Int.natCast_zero])
   rfl
  have h2x := ze9 i
  have e22 : (#[32, 32] : Array UInt8).size = 2 := rfl
  by_cases hi : i < d
  ·repeat' (first | refine zqj ?_ | ((first | refine zqh fun K J => ?_ | refine zqr fun K J => ?_); (simp (disch := omega) only [go_sem, Nat.reduceBEq, ↓reduceIte, Nat.reduceLeDiff, q1, q5, q6, qnx, e22])) | ((refine zqd _ rfl (fun hc => ?_) (fun hc => ?_)) <;> (((try simp only [z03] at hc); (try (exfalso; omega))))) | refine zqa ?_ | refine zqb ?_ | refine zqv ?_ | refine zqy ?_ | (refine J _ ?_; clear J K))
   (refine Exists.intro _ (And.intro ?_ ⟨i + 1, rfl, ?_⟩)); rotate_left; (simp (disch := omega) only [go_sem, Nat.reduceBEq, q1, q2, q5, q6, qH0, true_and, Int.natCast_add, Int.natCast_one]); rotate_left
   ·omega
   ·exact ⟨rfl, by omega⟩
  ·have hk8 : 0 <= t.kind /\ t.kind < 8 := by
    rcases zgg hb with h | h <;> omega
   have hnm := nms_at hk8
   have hns := zja t.kind
   have hie : i = d := by omega
   subst hie
   have hnb : ¬ (zff t = false \/ 8 < i) := by rw [hb]; simp; omega
   have e32 : (#[32] : Array UInt8).size = 1 := rfl
   have e58 : (#[58] : Array UInt8).size = 1 := rfl
   have e2 : (#[32, 124] : Array UInt8).size = 2 := rfl
   by_cases hk : t.kind = 0
   ·have hz : t.head.length = 0 /\ t.words.length = 0 := by
     unfold zff at hb
     rw [if_pos hk] at hb
     simp only [z03] at hb
     exact ⟨hb.2.1, hb.2.2⟩
    have hlx : zd4 t i = twoX i ++ znn t.kind := by
     unfold zd4
     rw [if_neg hnb]
     simp only [if_pos hk, hz.1, hz.2, Nat.lt_irrefl, if_false]
    rw [hlx, hk]
    rw [hk] at hnm hns
    repeat' (first | refine zqj ?_ | ((first | refine zqh fun K J => ?_ | refine zqe (by decide +kernel) fun K J => ?_ | refine zqt (c2) ?_); (simp (disch := omega) only [go_sem, Nat.reduceBEq, ↓reduceIte, reduceCtorEq, Nat.reduceAdd, q1, q2, q5, q6, qH0, qnx, z0q, hnm, hk, hz.1, hz.2])) | ((refine zqd _ rfl (fun hc => ?_) (fun hc => ?_)) <;> (first | (cases hc; done) | ((try simp only [z03] at hc); (try (exfalso; omega))))) | refine zqb ?_ | refine zqc ?_ | refine zqn ?_ | refine zqv ?_ | refine zqz ?_ | refine zqp ?_ | refine zqu (by (simp (disch := omega) only [go_sem]); rfl) rfl ?_ | (refine J _ ?_; clear J K))
    exact z02 rfl (Le.refl _)
   ·obtain ⟨_, hr1, hr2⟩ := (zgg hb).resolve_left hk
    have r1 := zgh t.head h1 (zmo hr1)
    have r2 := zgh t.words h2 (zmo hr2)
    have s1 := zdb h1 g1
    have s2 := zdb h2 g2
    have hlx : zd4 t i = (let s := twoX i ++ znn t.kind ++ b1 32 ++ t.label; let s := if 0 < t.head.length then s ++ b1 58 ++ zpo t.head else s; if 0 < t.words.length then s ++ ⟨#[32, 124]⟩ ++ zpo t.words else s) := by
     unfold zd4
     rw [if_neg hnb]
     simp only [if_neg hk]
    rw [hlx]
    simp only
    by_cases hh : 0 < t.head.length
    ·rw [if_pos hh]
     by_cases hw : 0 < t.words.length
     ·rw [if_pos hw]
      repeat' (first | refine zqj ?_ | ((first | refine zqh fun K J => ?_ | refine zqe (by decide +kernel) fun K J => ?_ | refine zqt (c2) ?_ | refine zqs (r1) ?_ | refine zqs (r2) ?_); (simp (disch := omega) only [go_sem, Nat.reduceBEq, ↓reduceIte, reduceCtorEq, Nat.reduceAdd, Nat.reduceLeDiff, q1, q2, q5, q6, qH0, qnx, z0q, hnm, z4t, e32, e58, e2])) | ((refine zqd _ rfl (fun hc => ?_) (fun hc => ?_)) <;> (((try simp only [z03] at hc); (try (exfalso; omega))))) | refine zqc ?_ | refine zqn ?_ | refine zqv ?_ | refine zqz ?_ | refine zqp ?_ | refine zqu (by (simp (disch := omega) only [go_sem]); rfl) rfl ?_ | (refine J _ ?_; clear J K))
      exact z02 rfl (Le.refl _)
     ·rw [if_neg hw]
      repeat' (first | refine zqj ?_ | ((first | refine zqh fun K J => ?_ | refine zqe (by decide +kernel) fun K J => ?_ | refine zqt (c2) ?_ | refine zqs (r1) ?_); (simp (disch := omega) only [go_sem, Nat.reduceBEq, ↓reduceIte, reduceCtorEq, Nat.reduceAdd, Nat.reduceLeDiff, q1, q2, q5, q6, qH0, qnx, z0q, hnm, z4t, e32, e58])) | ((refine zqd _ rfl (fun hc => ?_) (fun hc => ?_)) <;> (((try simp only [z03] at hc); (try (exfalso; omega))))) | refine zqb ?_ | refine zqc ?_ | refine zqn ?_ | refine zqv ?_ | refine zqz ?_ | refine zqp ?_ | refine zqu (by (simp (disch := omega) only [go_sem]); rfl) rfl ?_ | (refine J _ ?_; clear J K))
      exact z02 rfl (Le.refl _)
    ·rw [if_neg hh]
     by_cases hw : 0 < t.words.length
     ·rw [if_pos hw]
      repeat' (first | refine zqj ?_ | ((first | refine zqh fun K J => ?_ | refine zqe (by decide +kernel) fun K J => ?_ | refine zqt (c2) ?_ | refine zqs (r2) ?_); (simp (disch := omega) only [go_sem, Nat.reduceBEq, ↓reduceIte, reduceCtorEq, Nat.reduceAdd, Nat.reduceLeDiff, q1, q2, q5, q6, qH0, qnx, z0q, hnm, z4t, e32, e2])) | ((refine zqd _ rfl (fun hc => ?_) (fun hc => ?_)) <;> (((try simp only [z03] at hc); (try (exfalso; omega))))) | refine zqb ?_ | refine zqc ?_ | refine zqn ?_ | refine zqv ?_ | refine zqz ?_ | refine zqp ?_ | refine zqu (by (simp (disch := omega) only [go_sem]); rfl) rfl ?_ | (refine J _ ?_; clear J K))
      exact z02 rfl (Le.refl _)
     ·rw [if_neg hw]
      repeat' (first | refine zqj ?_ | ((first | refine zqh fun K J => ?_ | refine zqe (by decide +kernel) fun K J => ?_ | refine zqt (c2) ?_); (simp (disch := omega) only [go_sem, Nat.reduceBEq, ↓reduceIte, reduceCtorEq, Nat.reduceAdd, Nat.reduceLeDiff, q1, q2, q5, q6, qH0, qnx, z0q, hnm, z4t, e32])) | ((refine zqd _ rfl (fun hc => ?_) (fun hc => ?_)) <;> (((try simp only [z03] at hc); (try (exfalso; omega))))) | refine zqb ?_ | refine zqc ?_ | refine zqn ?_ | refine zqv ?_ | refine zqz ?_ | refine zqp ?_ | refine zqu (by (simp (disch := omega) only [go_sem]); rfl) rfl ?_ | (refine J _ ?_; clear J K))
      exact z02 rfl (Le.refl _)
namespace Tr
theorem zea : ∀ t : T, ∀ d : Nat, (z4m t d).length = cntT t := by
 refine z3u fun t ih d => ?_
 rw [zfg, List.length_cons, z3w]
 have key : ∀ l : List T, (∀ k ∈ l, ∀ d : Nat, (z4m k d).length = cntT k) -> (l.flatMap fun k => z4m k (d + 1)).length = (l.flatMap z09).length := fun l => by
  induction l with
  | nil => intro _; rfl
  | cons k l ih2 =>
   intro h
   rw [List.flatMap_cons, List.flatMap_cons, List.length_append, List.length_append, h k (by simp), ih2 fun q hq => h q (List.mem_cons_of_mem _ hq)]; rfl
 rw [key t.kids ih]; omega
theorem zon : ∀ t : T, szB t = true -> ∀ d : Nat, ∀ s ∈ z4m t d, s.size <= 2000010000000 := by
 refine z3u fun t ih hs d s h => ?_
 rw [zfg, List.mem_cons] at h
 rcases h with rfl | h
 ·exact zom hs d
 ·obtain ⟨k, hk, h⟩ := List.mem_flatMap.1 h
  exact ih k hk ((z6a hs).2 k hk) (d + 1) s h
theorem zgi (l : List ByteArray) (w : ByteArray) : zkh (l ++ [w]) = zkh l ++ w ++ b1 10 := by unfold zkh; rw [List.foldl_append]; rfl
theorem zoo {l : List ByteArray} {m : Nat} (h : ∀ s ∈ l, s.size <= m) : ∀ n, n <= l.length -> (zkh (l.take n)).size <= n * (m + 1) := fun n => by
 induction n with
 | zero => intro _; show ByteArray.empty.size <= _; simp
 | succ n ih =>
  intro hn
  rw [List.take_succ_eq_append_getElem (by omega), zgi, z4t, z4t]
  have h1 := ih (by omega)
  have h3 := h _ (List.getElem_mem (l := l) (n := n) (by omega))
  have h4 : (b1 10).size = 1 := rfl
  rw [Nat.add_mul]; omega
end Tr
theorem zop : ∀ t : T, szB t = true -> cntT t <= 1000000 -> ∀ d : Nat, d + depT t <= 100 -> PC Tryz.prog 78 [z17 t, .int .i64 d] (z3i (z4m t d)) := by
 refine z3u fun t ih hs hc d hd => ?_
 obtain ⟨h0, h1, g1, h2, g2, h3, h4⟩ := (z1l t).1 hs
 have hce := z3w t
 have c1 := zsg t hs d (by omega)
 rw [zfg]
 refine z1y 2 (by simp only [pureD.pureL, z05, pureD, Bool.and_self]) (z2v _) (z1w [10] Tryz.func78 rfl (by decide +kernel) z0j (by decide +kernel) (by simp [Tryz.ntmps78]) ?_)
 show awp _ _ (Code.seq _ _) _ _
 repeat' (first | refine zqj ?_ | ((first | refine zqh fun K J => ?_ | refine zqs (c1) ?_); (simp (disch := omega) only [go_sem, Nat.reduceBEq, ↓reduceIte, reduceCtorEq, Nat.reduceAdd, Nat.reduceLeDiff])) | refine zqa ?_ | (refine J _ ?_; clear J K))
 (refine z37 (fun U st => ∃ (i : _), U = t.kids.length - i /\ st.t 1 = .int .i64 d /\ st.t 2 = .ptr 0 0 /\ st.t 5 = .osl 1 (1 + ((t.kids.take i).flatMap fun k => z4m k (d + 1)).length) /\ st.t 6 = .int .i64 i /\ st.H 0 = some (.box 27 (z06 t)) /\ st.H 1 = some (.row 9 (1 + ((t.kids.take i).flatMap fun k => z4m k (d + 1)).length) ((zd4 t d :: (t.kids.take i).flatMap fun k => z4m k (d + 1)).map .str)) /\ (i <= t.kids.length) /\ (2 <= st.nx)) ?_ ?_); rotate_left; (rintro U st ⟨i, rfl, q1, q2, q5, q6, qH0, qH1, qp0, qp1⟩); rotate_left
 ·(refine ⟨_, 0, rfl, ?_⟩); (simp (disch := omega) only [go_sem, Nat.reduceBEq, Nat.reduceLeDiff, and_self, Int.natCast_zero, List.flatMap_nil, List.map_nil])
  try simp
 have hb := z2z t.kids (i + 1)
 have key : ∀ l : List T, (l.flatMap fun k => z4m k (d + 1)).length = (l.flatMap z09).length := fun l => by
  induction l with
  | nil => rfl
  | cons k l ih2 => rw [List.flatMap_cons, List.flatMap_cons, List.length_append, List.length_append, zea, ih2]; rfl
 have hb2 := key (t.kids.take i)
 have F := z2z t.kids i
 by_cases hi : i < t.kids.length
 ·have hkd := z3s (List.getElem_mem hi)
  have hin := ih t.kids[i] (List.getElem_mem hi) (h4 _ (List.getElem_mem hi)) (by have := z88 (List.getElem_mem hi); omega) (d + 1) (by omega)
  have hck := z88 (List.getElem_mem hi)
  have hil := zea t.kids[i] (d + 1)
  have htk : (t.kids.take (i + 1)).flatMap (fun k => z4m k (d + 1)) = (t.kids.take i).flatMap (fun k => z4m k (d + 1)) ++ z4m t.kids[i] (d + 1) := by
   rw [List.take_succ_eq_append_getElem hi, List.flatMap_append]; simp
  have hd1 : IntKind.i64.wrap ((d : Int) + 1) = ((d + 1 : Nat) : Int) := by rw [zed (by omega)]; rfl
  repeat' (first | refine zqj ?_ | ((first | refine zqh fun K J => ?_ | refine zqr fun K J => ?_ | refine zqs (hin) ?_); (simp (disch := omega) only [go_sem, Nat.reduceBEq, ↓reduceIte, reduceCtorEq, Nat.reduceAdd, Nat.reduceLT, q1, q2, q5, q6, qH0, qH1, z0e, z3i, hd1])) | ((refine zqd _ rfl (fun hc => ?_) (fun hc => ?_)) <;> (((try simp only [z03] at hc); (try (exfalso; omega))))) | refine zqa ?_ | refine zqb ?_ | refine zqv ?_ | refine zqy ?_ | (refine J _ ?_; clear J K))
  (refine Exists.intro _ (And.intro ?_ ⟨i + 1, rfl, ?_⟩)); rotate_left; (simp (disch := omega) only [go_sem, Nat.reduceBEq, q1, q2, q5, q6, qH0, qH1, true_and, Int.natCast_add, Int.natCast_one, List.map_append, List.map_cons, htk, List.length_append, Nat.add_assoc]); rotate_left
  ·omega
  ·exact ⟨by omega, by omega⟩
 ·repeat' (first | refine zqj ?_ | ((refine zqh fun K J => ?_); (simp (disch := omega) only [go_sem, Nat.reduceBEq, ↓reduceIte, reduceCtorEq, Nat.reduceAdd, q2, q5, q6, qH0, z0e])) | ((refine zqd _ rfl (fun hc => ?_) (fun hc => ?_)) <;> (((try simp only [z03] at hc); (try (exfalso; omega))))) | refine zqc ?_ | refine zqn ?_ | refine zqv ?_ | refine zqz ?_ | refine zqp ?_ | refine zqu (by (simp (disch := omega) only [go_sem]); rfl) rfl ?_ | (refine J _ ?_; clear J K))
  have hi2 : i = t.kids.length := by omega
  subst hi2
  rw [List.take_length] at qH1
  rw [List.take_length]
  exact z4h (zee 0 qH1 z7b z84 (by simp; omega) (zhi _))
theorem zoq (t : T) (hs : szB t = true) (hc : cntT t <= 1000000) (hd : depT t <= 100) (hb : zkg t = true) : PC Tryz.prog 55 [z17 t] (z3i (z4m t 0)) := by
 have c1 := zgf t hs (by omega)
 have c2 := zop t hs hc 0 (by omega)
 have hz : ((0 : Nat) : Int) = 0 := rfl
 rw [hz] at c2
 rw [hb] at c1
 refine z1y 1 (by simp only [pureD.pureL, z05, Bool.and_self]) (z2v _) (z1w [] Tryz.func55 rfl (by decide +kernel) z0j (by decide +kernel) (by simp [Tryz.ntmps55]) ?_)
 show awp _ _ (Code.seq _ _) _ _
 repeat' (first | refine zqj ?_ | ((first | refine zqh fun K J => ?_ | refine zqs (c1) ?_ | refine zqs (c2) ?_); (simp (disch := omega) only [go_sem, Nat.reduceBEq, ↓reduceIte, Nat.reduceAdd, Nat.reduceLeDiff])) | ((refine zqd _ rfl (fun hc => ?_) (fun hc => ?_)) <;> (first | (cases hc; done) | ((try simp only [] at hc); (try (exfalso; omega))))) | refine zqb ?_ | refine zqn ?_ | refine zqu (by (simp (disch := omega) only [go_sem]); rfl) rfl ?_ | (refine J _ ?_; clear J K))
 exact z02 (z2v _) (Le.refl _)
theorem zsh (t : T) (hs : szB t = true) (hc : cntT t <= 1000000) (hd : depT t <= 100) : PC Tryz.prog 25 [z17 t] (.tup [.str (zu9 t).1, .int .i64 (zu9 t).2]) := by
 have c1 := zgf t hs (by omega)
 refine z1y 3 (by simp only [pureD.pureL, z05, Bool.and_self]) rfl (z1w [] Tryz.func25 rfl (by decide +kernel) z0j (by decide +kernel) (by simp [Tryz.ntmps25]) ?_)
 show awp _ _ (Code.seq _ _) _ _
 rw [show Tryz.f25.results.toList = [.tmp 2, .tmp 3] from rfl]
 unfold zu9
 cases hb : zkg t with
 | false =>
  rw [if_pos rfl]
  rw [hb] at c1
  repeat' (first | refine zqj ?_ | ((first | refine zqh fun K J => ?_ | refine zqs (c1) ?_); (simp (disch := omega) only [go_sem, Nat.reduceBEq, ↓reduceIte, Nat.reduceAdd, Nat.reduceLeDiff])) | ((refine zqd _ rfl (fun hc => ?_) (fun hc => ?_)) <;> (first | (cases hc; done) | ((try simp only [] at hc); (try (exfalso; omega))))) | refine zqg ?_ | refine zqu (by (simp (disch := omega) only [go_sem, Nat.reduceBEq]); rfl) rfl ?_ | (refine J _ ?_; clear J K))
  exact z02 rfl (Le.refl _)
 | true =>
  rw [if_neg (by simp)]
  have c2 := zoq t hs hc hd hb
  rw [hb] at c1
  have hll := zea t 0
  have hls := zon t hs 0
  generalize z4m t 0 = L at c2 hll hls ⊢
  repeat' (first | refine zqj ?_ | ((first | refine zqh fun K J => ?_ | refine zqs (c1) ?_ | refine zqs (c2) ?_); (simp (disch := omega) only [go_sem, Nat.reduceBEq, ↓reduceIte, Nat.reduceAdd, Nat.reduceLeDiff])) | ((refine zqd _ rfl (fun hc => ?_) (fun hc => ?_)) <;> (first | (cases hc; done) | ((try simp only [] at hc); (try (exfalso; omega))))) | refine zqa ?_ | refine zqb ?_ | (refine J _ ?_; clear J K))
  (refine z37 (fun U st => ∃ (k : _), U = L.length - k /\ st.t 4 = z3i L /\ st.t 5 = .str (zkh (L.take k)) /\ st.t 6 = .int .i64 k /\ (k <= L.length)) ?_ ?_); rotate_left; (rintro U st ⟨k, rfl, q4, q5, q6, qp0⟩); rotate_left
  ·(refine ⟨_, 0, rfl, ?_⟩); (simp (disch := omega) only [go_sem, Nat.reduceBEq, true_and, and_true, and_self, Int.natCast_zero, z3i])
   try rfl
  have hsz := zoo hls
  by_cases hk : k < L.length
  ·have h1 := hsz k (by omega)
   have h2 := hls _ (List.getElem_mem hk)
   have h3 : k * (2000010000000 + 1) <= 1000000 * (2000010000000 + 1) := Nat.mul_le_mul_right _ (by omega)
   have htk := List.take_succ_eq_append_getElem hk
   have e10 : (#[10] : Array UInt8).size = 1 := rfl
   repeat' (first | refine zqj ?_ | ((first | refine zqh fun K J => ?_ | refine zqr fun K J => ?_); (simp (disch := omega) only [go_sem, Nat.reduceBEq, ↓reduceIte, reduceCtorEq, Nat.reduceAdd, Nat.reduceLeDiff, q4, q5, q6, z3i, z4t, e10])) | ((refine zqd _ rfl (fun hc => ?_) (fun hc => ?_)) <;> (((try simp only [z03] at hc); (try (exfalso; omega))))) | refine zqa ?_ | refine zqb ?_ | refine zqv ?_ | refine zqy ?_ | (refine J _ ?_; clear J K))
   (refine Exists.intro _ (And.intro ?_ ⟨k + 1, rfl, ?_⟩)); rotate_left; (simp (disch := omega) only [go_sem, Nat.reduceBEq, q4, q5, q6, true_and, Int.natCast_add, Int.natCast_one, htk, zgi]); rotate_left
   ·omega
   ·exact ⟨rfl, by omega⟩
  ·have hk2 : k = L.length := by omega
   subst hk2
   rw [List.take_length] at q5
   by_cases hbig : 16384 < (zkh L).size
   ·rw [if_pos hbig]
    repeat' (first | refine zqj ?_ | ((refine zqh fun K J => ?_); (simp (disch := omega) only [go_sem, Nat.reduceBEq, ↓reduceIte, q4, q5, q6, z3i])) | ((refine zqd _ rfl (fun hc => ?_) (fun hc => ?_)) <;> (((try simp only [z03] at hc); (try (exfalso; omega))))) | refine zqg ?_ | refine zqc ?_ | refine zqv ?_ | refine zqz ?_ | refine zqp ?_ | refine zqu (by (simp (disch := omega) only [go_sem, Nat.reduceBEq]); rfl) rfl ?_ | (refine J _ ?_; clear J K))
    exact z02 rfl (Le.refl _)
   ·rw [if_neg hbig]
    repeat' (first | refine zqj ?_ | ((refine zqh fun K J => ?_); (simp (disch := omega) only [go_sem, Nat.reduceBEq, ↓reduceIte, q4, q5, q6, z3i])) | ((refine zqd _ rfl (fun hc => ?_) (fun hc => ?_)) <;> (((try simp only [z03] at hc); (try (exfalso; omega))))) | refine zqb ?_ | refine zqc ?_ | refine zqn ?_ | refine zqv ?_ | refine zqz ?_ | refine zqp ?_ | refine zqu (by (simp (disch := omega) only [go_sem, Nat.reduceBEq]); rfl) rfl ?_ | (refine J _ ?_; clear J K))
    exact z02 rfl (Le.refl _)
end
end Go.Proofs.YtppebcifiejplaaGreat
