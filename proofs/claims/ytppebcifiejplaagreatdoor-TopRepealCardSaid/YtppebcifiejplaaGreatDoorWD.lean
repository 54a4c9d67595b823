import Derived.Test.YtppebcifiejplaaGreatDoorWC
import Derived.WalkKit
import Derived.Lib.Walk
import Derived.Lib.SliceRun
import Derived.Lib.AppendZerosOnto
import Derived.Lib.Overlaps
import Derived.Laws.Externs
import Derived.Laws.NewBlocks
import Derived.Shelf.Spec.SlicesInsert
/-
 Lemmas of the claim. No condition but those that each names.
-/
set_option linter.unusedSimpArgs false
set_option linter.unusedVariables false
set_option maxRecDepth 100000
set_option maxHeartbeats 8000000
set_option linter.unusedSectionVars false
namespace Go.Proofs.YtppebcifiejplaaGreatDoor
section
open Abs Facts Tr
attribute [local irreducible] awp
namespace Tr
def szB (t : T) : Bool := zec (fun t l => decide (t.label.size <= 1000000) && (decide (t.head.length <= 1000000) && ((t.head.all fun w => decide (w.text.size <= 1000000)) && (decide (t.words.length <= 1000000) && ((t.words.all fun w => decide (w.text.size <= 1000000)) && (decide (t.kids.length <= 1000000) && l.all id)))))) t
theorem z2e (t : T) : szB t = true ↔ t.label.size <= 1000000 /\ t.head.length <= 1000000 /\ (∀ w ∈ t.head, w.text.size <= 1000000) /\ t.words.length <= 1000000 /\ (∀ w ∈ t.words, w.text.size <= 1000000) /\ t.kids.length <= 1000000 /\ ∀ k ∈ t.kids, szB k = true := by
 unfold szB
 rw [z39]
 simp only [List.all_map, Bool.and_eq_true, decide_eq_true_iff, List.all_eq_true]
 rfl
theorem zhf : ∀ t : T, szB t = true -> smB t = true := by
 refine z55 fun t ih h => ?_
 obtain ⟨_, h1, _, h2, _, h3, h4⟩ := (z2e t).1 h
 exact (zke t).2 ⟨h1, h2, h3, fun k O => ih k O (h4 k O)⟩
theorem zni (t : T) (h : szB t = true) : fitB t = true := znu t (zhf t h)
def z1c : ByteArray := ⟨#[]⟩
def z40 (t : T) : Bool := decide (0 <= t.kind /\ t.kind <= 7) && (decide (t.kids.length <= 64) && (zl7 t.head && (zl7 t.words && (if t.kind = 0 then decide (t.label = z1c) && (decide (t.head.length = 0) && decide (t.words.length = 0)) else z3c t.label))))
def z5y (t : T) : Int × ByteArray := (t.kind, t.label)
def z33 (t : T) : Bool := zec (fun t l => z40 t && ((t.kids.all fun k => z2h t.kind k.kind) && (l.all id && decide ((t.kids.map z5y).Nodup)))) t
theorem z4y (t : T) : z33 t = (z40 t && ((t.kids.all fun k => z2h t.kind k.kind) && (t.kids.all z33 && decide ((t.kids.map z5y).Nodup)))) := by
 unfold z33
 rw [z39, List.all_map]; rfl
theorem zbu {α β : Type} {f : α -> β} {l : List α} {k : Nat} (O : k < l.length) (h : ((l.take k).map f).Nodup) (h2 : ∀ j, (hj : j < k) -> f (l[j]'(by omega)) ≠ f l[k]) : ((l.take (k + 1)).map f).Nodup := by
 rw [List.take_succ_eq_append_getElem O, List.map_append, List.nodup_append]
 refine ⟨h, by simp, fun a ha b hb => ?_⟩
 simp only [List.map_cons, List.map_nil, List.mem_singleton] at hb
 subst hb
 obtain ⟨x, hx, rfl⟩ := List.mem_map.1 ha
 obtain ⟨j, hj, rfl⟩ := List.getElem_of_mem hx
 rw [List.length_take] at hj
 rw [List.getElem_take]
 exact h2 j (by omega)
theorem zhg {α β : Type} {f : α -> β} {l : List α} {j k : Nat} (hj : j < k) (O : k < l.length) (h : f (l[j]'(by omega)) = f l[k]) : ¬ (l.map f).Nodup := fun hn => by
 have h2 := (List.pairwise_iff_getElem.1 hn) j k (by simp; omega) (by simpa using O) hj
 simp only [List.getElem_map] at h2
 exact h2 h
end Tr
theorem zxq (p k : Int) : PC Tryz.prog 134 [.int .i64 p, .int .i64 k] (.bool (z2h p k)) := by
 refine z1y 1 rfl rfl (z1v [] Tryz.func134 rfl (by decide +kernel) z0i (by decide +kernel) (by simp [Tryz.ntmps134]) ?_)
 show awp _ _ (Code.seq _ _) _ _
 by_cases O : 0 <= p /\ p < 8
 ·rcases zvf O with rfl | rfl | rfl | rfl | rfl | rfl | rfl | rfl
  all_goals clear O
  all_goals (repeat' (first | refine zqj ?_ | ((refine zqh fun K J => ?_); (simp (disch := omega) only [go_sem, Nat.reduceBEq, ↓reduceIte, Int.reduceEq])) | ((first | refine zqd _ rfl (fun hc => ?_) (fun hc => ?_) | refine zqm _ rfl (fun hc => ?_) (fun hc => ?_)) <;> (first | (cases hc; done) | ((try simp only [] at hc); (try (exfalso; omega))))) | refine zqa ?_ | refine zqb ?_ | refine zqk ?_ | refine zqn ?_ | refine zqv ?_ | refine zqx ?_ | refine zqy ?_ | refine z23 ?_ | refine zqu (by (simp (disch := omega) only [go_sem]); rfl) rfl ?_ | (refine J _ ?_; clear J K) | (refine zqf (fun hb => ?_) (fun hb => ?_) <;> (have hb2 := hb; try simp only [z01] at hb2) <;> ((first | have F := eq_false hb2 | have F := eq_true hb2); (simp (disch := omega) only [go_sem, Nat.reduceBEq, ↓reduceIte, F]); clear hb F; (try (exfalso; omega))))))
  all_goals refine z00 ?_
  all_goals (simp_all [z2h, belowL]; done)
 ·rw [show z2h p k = false from if_neg O]
  repeat' (first | refine zqj ?_ | ((refine zqh fun K J => ?_); (simp (disch := omega) only [go_sem, Nat.reduceBEq, ↓reduceIte])) | ((first | refine zqd _ rfl (fun hc => ?_) (fun hc => ?_) | refine zqm _ rfl (fun hc => ?_) (fun hc => ?_)) <;> (((try simp only [z01] at hc); (try (exfalso; omega))))) | refine zqa ?_ | refine zqk ?_ | refine zqn ?_ | refine zqv ?_ | refine zqy ?_ | refine zqu (by (simp (disch := omega) only [go_sem]); rfl) rfl ?_ | (refine J _ ?_; clear J K))
  all_goals exact z00 rfl
theorem ztx (t : T) (hs : szB t = true) : PC Tryz.prog 133 [z25 t] (.bool (z40 t)) := by
 obtain ⟨h0, h1, g1, h2, g2, h3, _⟩ := (z2e t).1 hs
 have r1 := zrk t.head h1 (fun w hw => by have := g1 w hw; unfold maxLen; omega)
 have r2 := zrk t.words h2 (fun w hw => by have := g2 w hw; unfold maxLen; omega)
 have r3 := zd5 t.label (by unfold maxLen; omega)
 refine z1y 1 (by simp only [pureD.pureL, z05, Bool.and_self]) rfl (z1v [] Tryz.func133 rfl (by decide +kernel) z0i (by decide +kernel) (by simp [Tryz.ntmps133]) ?_)
 show awp _ _ (Code.seq _ _) _ _
 repeat' (first | refine zqj ?_ | ((first | refine zqh fun K J => ?_ | refine zqs (r1) ?_ | refine zqs (r2) ?_ | refine zqs (r3) ?_); (simp (disch := omega) only [go_sem, Nat.reduceBEq, ↓reduceIte, reduceCtorEq, Nat.reduceAdd])) | ((refine zqd _ rfl (fun hc => ?_) (fun hc => ?_)) <;> (first | (cases hc; done) | ((try simp only [z01] at hc); (try (exfalso; omega))))) | refine zqb ?_ | refine zqg ?_ | refine zqn ?_ | refine zqu (by (simp (disch := omega) only [go_sem]); rfl) rfl ?_ | (refine J _ ?_; clear J K) | (refine zqf (fun hb => ?_) (fun hb => ?_) <;> (have hb2 := hb; try simp only [z01] at hb2) <;> ((first | have F : (_ : Bool) = _ := hb2 | have F := eq_false hb2 | have F := eq_true hb2); (simp (disch := omega) only [go_sem, Nat.reduceBEq, ↓reduceIte, reduceCtorEq, Nat.reduceAdd, F, z0s, z10]); clear hb F; (try (exfalso; omega)))))
 all_goals refine z00 ?_
 all_goals unfold z40
 all_goals first
  | (rw [decide_eq_false (by omega)]; rfl)
  | (rw [decide_eq_true (by omega), decide_eq_false (by omega)]; rfl)
  | (rw [decide_eq_true (by omega), decide_eq_true (by omega)]; simp_all [z1c]; done)
  | (rw [decide_eq_true (show 0 <= t.kind /\ t.kind <= 7 by omega), decide_eq_true (show t.kids.length <= 64 by omega)]; simp_all [z1c]; done)
  | skip
theorem zxr : ∀ t : T, szB t = true -> PC Tryz.prog 69 [z25 t] (.bool (z33 t)) := by
 refine z55 fun t ih hs => ?_
 have ha := ztx t hs
 obtain ⟨h0, h1, g1, h2, g2, h3, h4⟩ := (z2e t).1 hs
 rw [z4y]
 refine z1y 1 (by simp only [pureD.pureL, z05, Bool.and_self]) rfl (z1v [] Tryz.func69 rfl (by decide +kernel) z0i (by decide +kernel) (by simp [Tryz.ntmps69]) ?_)
 show awp _ _ (Code.seq _ _) _ _
 repeat' (first | refine zqj ?_ | ((first | refine zqh fun K J => ?_ | refine zqs (ha) ?_); (simp (disch := omega) only [go_sem, Nat.reduceBEq, ↓reduceIte, Nat.reduceAdd, Nat.reduceLeDiff])) | ((refine zqd _ rfl (fun hc => ?_) (fun hc => ?_)) <;> (((try simp only [z01] at hc); (try (exfalso; omega))))) | refine zqa ?_ | refine zqb ?_ | refine zqg ?_ | refine zqu (by (simp (disch := omega) only [go_sem]); rfl) rfl ?_ | (refine J _ ?_; clear J K))
 ·exact z00 (by simp_all)
 rw [‹z40 t = true›, Bool.true_and]
 (refine z3h (fun U st => ∃ (i : _), U = t.kids.length - i /\ st.t 1 = .ptr 0 0 /\ st.t 3 = .int .i64 i /\ st.H 0 = some (.box 27 (z07 t)) /\ (i <= t.kids.length) /\ (1 <= st.nx) /\ ((t.kids.take i).all (fun k => z2h t.kind k.kind) = true) /\ ((t.kids.take i).all z33 = true) /\ (((t.kids.take i).map z5y).Nodup)) ?_ ?_); rotate_left; (rintro U st ⟨i, rfl, q1, q3, qH0, qp0, qp1, qp2, qp3, qp4⟩); rotate_left
 ·(refine ⟨_, 0, rfl, ?_⟩); (simp (disch := omega) only [go_sem, Nat.reduceBEq, Nat.reduceLeDiff, true_and, Int.natCast_zero, List.map_nil])
  all_goals simp
 have hin := fun (h : i < t.kids.length) => ih t.kids[i] (List.getElem_mem h) (h4 _ (List.getElem_mem h))
 have hn := fun (h : i < t.kids.length) => zxq t.kind t.kids[i].kind
 repeat' (first | refine zqj ?_ | ((first | refine zqh fun K J => ?_ | refine zqe (by decide +kernel) fun K J => ?_ | refine zqt (hn (by omega)) ?_ | refine zqt (hin (by omega)) ?_); (simp (disch := omega) only [go_sem, Nat.reduceBEq, ↓reduceIte, reduceCtorEq, Nat.reduceAdd, q1, q3, qH0, z10])) | ((refine zqd _ rfl (fun hc => ?_) (fun hc => ?_)) <;> (first | (cases hc; done) | ((try simp only [z01] at hc); (try (exfalso; omega))))) | refine zqa ?_ | refine zqi ?_ | refine zqb ?_ | refine zqg ?_ | refine zqc ?_ | refine zqn ?_ | refine zqv ?_ | refine zqx ?_ | refine zqz ?_ | refine z23 ?_ | refine zqp ?_ | refine zqo ?_ | refine zqu (by (simp (disch := omega) only [go_sem]); rfl) rfl ?_ | (refine J _ ?_; clear J K) | (refine zqf (fun hb => ?_) (fun hb => ?_) <;> (have hb2 := hb; try simp only [z01] at hb2) <;> ((have F : (_ : Bool) = _ := hb2); (simp (disch := omega) only [go_sem, Nat.reduceBEq, ↓reduceIte, reduceCtorEq, Nat.reduceAdd, F, q1, q3, qH0, z10]); clear hb F; (try (exfalso; omega)))))
 ·exact z00 (by rw [z3r (f := z33) (k := i) (by omega) (by assumption), Bool.false_and, Bool.and_false])
 ·(refine z3h (fun U st => ∃ (k : _), U = i - k /\ st.t 1 = .ptr 0 0 /\ st.t 3 = .int .i64 i /\ st.t 4 = .int .i64 k /\ st.H 0 = some (.box 27 (z07 t)) /\ (k <= i) /\ (1 <= st.nx) /\ (∀ j, (hj : j < k) -> (h : j < t.kids.length) -> (h2 : i < t.kids.length) -> z5y t.kids[j] ≠ z5y t.kids[i])) ?_ ?_); rotate_left; (rintro U st ⟨k, rfl, r1, r3, r4, rH0, rp0, rp1, rp2⟩); rotate_left
  ·(refine ⟨_, 0, rfl, ?_⟩); (simp (disch := omega) only [go_sem, Nat.reduceBEq, q1, q3, qH0, true_and, Int.natCast_zero])
   exact ⟨by omega, fun j hj => by omega⟩
  repeat' (first | refine zqj ?_ | ((first | refine zqh fun K J => ?_ | refine zqe (by decide +kernel) fun K J => ?_ | refine zqr fun K J => ?_); (simp (disch := omega) only [go_sem, Nat.reduceBEq, ↓reduceIte, reduceCtorEq, Nat.reduceAdd, r1, r3, r4, rH0, z10])) | ((first | refine zqd _ rfl (fun hc => ?_) (fun hc => ?_) | refine zqm _ rfl (fun hc => ?_) (fun hc => ?_)) <;> (first | (cases hc; done) | ((try simp only [z01] at hc); (try (exfalso; omega))))) | refine zqa ?_ | refine zqb ?_ | refine zqc ?_ | refine zqk ?_ | refine zqn ?_ | refine zqv ?_ | refine zqx ?_ | refine zqy ?_ | refine zqz ?_ | refine z23 ?_ | refine zqp ?_ | refine zqo ?_ | refine zqu (by (simp (disch := omega) only [go_sem]); rfl) rfl ?_ | (refine J _ ?_; clear J K) | (refine zqf (fun hb => ?_) (fun hb => ?_) <;> (have hb2 := hb; try simp only [z01] at hb2) <;> ((first | have F := eq_false hb2 | have F := eq_true hb2); (simp (disch := omega) only [go_sem, Nat.reduceBEq, ↓reduceIte, reduceCtorEq, Nat.reduceAdd, F, r1, r3, r4, rH0, z10]); clear hb F; (try (exfalso; omega)))))
  ·refine z00 ?_
   have hno := zhg (f := z5y) (l := t.kids) (j := k) (k := i) (by omega) (by omega) (by unfold z5y; rw [‹t.kids[k].kind = t.kids[i].kind›, ‹t.kids[k].label = t.kids[i].label›])
   rw [decide_eq_false hno, Bool.and_false, Bool.and_false]
  ·(refine Exists.intro _ (And.intro ?_ ⟨k + 1, rfl, ?_⟩)); rotate_left; (simp (disch := omega) only [go_sem, Nat.reduceBEq, r1, r3, r4, rH0, true_and, Int.natCast_add, Int.natCast_one]); rotate_left
   ·omega
   ·refine ⟨by omega, by omega, fun j hj h h2 => ?_⟩
    by_cases e : j = k
    ·subst e; exact fun h => absurd (congrArg Prod.snd h) (by assumption)
    ·exact rp2 j (by omega) h h2
  ·(refine Exists.intro _ (And.intro ?_ ⟨k + 1, rfl, ?_⟩)); rotate_left; (simp (disch := omega) only [go_sem, Nat.reduceBEq, r1, r3, r4, rH0, true_and, Int.natCast_add, Int.natCast_one]); rotate_left
   ·omega
   ·refine ⟨by omega, by omega, fun j hj h h2 => ?_⟩
    by_cases e : j = k
    ·subst e; exact fun h => absurd (congrArg Prod.fst h) (by assumption)
    ·exact rp2 j (by omega) h h2
  ·skip
   have hi : i < t.kids.length := by omega
   (refine Exists.intro _ (And.intro ?_ ⟨i + 1, rfl, ?_⟩)); rotate_left; (simp (disch := omega) only [go_sem, Nat.reduceBEq, true_and, Int.natCast_add, Int.natCast_one, r1, r3, rH0]); rotate_left
   ·omega
   ·exact ⟨by omega, by omega, z2f (by omega) qp2 (by assumption), z2f (by omega) qp3 (by assumption), zbu hi qp4 (fun j hj => rp2 j (by omega) (by omega) hi)⟩
 ·exact z00 (by rw [z3r (f := fun k : T => z2h t.kind k.kind) (k := i) (by omega) (by assumption), Bool.false_and])
 ·refine z00 ?_
  rw [z2l (by omega) qp2, z2l (by omega) qp3]
  rw [List.take_of_length_le (by omega)] at qp4
  rw [decide_eq_true qp4]; rfl
namespace Tr
theorem z6m (t : T) : cntT t = 1 + (t.kids.flatMap z0d).length := by unfold cntT; rw [z20, List.length_cons, Nat.add_comm]
theorem z3l (l : List T) (i : Nat) : ((l.take i).flatMap z0d).length <= (l.flatMap z0d).length := by
 have : l.flatMap z0d = (l.take i).flatMap z0d ++ (l.drop i).flatMap z0d := by rw [<- List.flatMap_append, List.take_append_drop]
 rw [this, List.length_append]; omega
theorem z5k (l : List T) (i : Nat) (h : i < l.length) : ((l.take (i + 1)).flatMap z0d).length = ((l.take i).flatMap z0d).length + cntT l[i] := by
 rw [List.take_succ_eq_append_getElem h, List.flatMap_append, List.length_append]; simp [cntT]
theorem za2 {t k : T} (h : k ∈ t.kids) : 1 + cntT k <= cntT t := by
 rw [z6m t]
 obtain ⟨i, hi, rfl⟩ := List.getElem_of_mem h
 have h1 := z5k t.kids i hi
 have h2 := z3l t.kids (i + 1)
 omega
theorem zhh (t : T) : 1 <= cntT t := by rw [z6m]; omega
theorem z1z (t : T) : z0e t = t.id :: t.kids.flatMap z0e := by
 unfold z0e
 rw [z20, List.map_cons, List.map_flatMap]
theorem z5l (t : T) : (z0e t).length = cntT t := by unfold z0e cntT; rw [List.length_map]
def zze (t : T) : Bool := (z0e t).all (fun i => decide (i = Idv.zero)) || (decide ((t.id = Idv.zero) ↔ (t.kind = 0)) && decide ((z0e t).Nodup))
def z6z (t : T) : Bool := z33 t && (decide (depT t <= 8) && (decide (cntT t <= 1024) && zze t))
end Tr
theorem zty : ∀ t : T, szB t = true -> cntT t <= 1000000000 -> PC Tryz.prog 12 [z25 t] (.int .i64 (cntT t)) := by
 refine z55 fun t ih hs hc => ?_
 obtain ⟨h0, h1, g1, h2, g2, h3, h4⟩ := (z2e t).1 hs
 have hce := z6m t
 refine z1y 1 (by simp only [pureD.pureL, z05, Bool.and_self]) rfl (z1v [] Tryz.func12 rfl (by decide +kernel) z0i (by decide +kernel) (by simp [Tryz.ntmps12]) ?_)
 show awp _ _ (Code.seq _ _) _ _
 repeat' (first | refine zqj ?_ | ((refine zqh fun K J => ?_); (simp (disch := omega) only [go_sem])) | refine zqa ?_ | (refine J _ ?_; clear J K))
 (refine z3h (fun U st => ∃ (i : _), U = t.kids.length - i /\ st.t 1 = .ptr 0 0 /\ st.t 3 = .int .i64 (1 + ((t.kids.take i).flatMap z0d).length : Nat) /\ st.t 4 = .int .i64 i /\ st.H 0 = some (.box 27 (z07 t)) /\ (i <= t.kids.length) /\ (1 <= st.nx)) ?_ ?_); rotate_left; (rintro U st ⟨i, rfl, q1, q3, q4, qH0, qp0, qp1⟩); rotate_left
 ·(refine ⟨_, 0, rfl, ?_⟩); (simp (disch := omega) only [go_sem, Nat.reduceBEq, Nat.reduceLeDiff, and_self, Int.natCast_one, Int.natCast_zero, List.flatMap_nil])
  try simp
 have hin := fun (h : i < t.kids.length) => ih t.kids[i] (List.getElem_mem h) (h4 _ (List.getElem_mem h)) (by have := za2 (List.getElem_mem h); omega)
 have hb := z3l t.kids (i + 1)
 have hsu := fun (h : i < t.kids.length) => z5k t.kids i h
 repeat' (first | refine zqj ?_ | ((first | refine zqh fun K J => ?_ | refine zqr fun K J => ?_ | refine zqs (hin (by omega)) ?_); (simp (disch := omega) only [go_sem, Nat.reduceBEq, ↓reduceIte, reduceCtorEq, Nat.reduceAdd, q1, q3, q4, qH0, z10])) | ((refine zqd _ rfl (fun hc => ?_) (fun hc => ?_)) <;> (((try simp only [z01] at hc); (try (exfalso; omega))))) | refine zqa ?_ | refine zqb ?_ | refine zqc ?_ | refine zqn ?_ | refine zqv ?_ | refine zqy ?_ | refine zqz ?_ | refine zqp ?_ | refine zqu (by (simp (disch := omega) only [go_sem]); rfl) rfl ?_ | (refine J _ ?_; clear J K))
 ·have hsu := hsu (by omega)
  (refine Exists.intro _ (And.intro ?_ ⟨i + 1, rfl, ?_⟩)); rotate_left; (simp (disch := omega) only [go_sem, Nat.reduceBEq, q1, q3, q4, qH0, true_and, Int.natCast_add, Int.natCast_one, hsu]); rotate_left
  ·omega
  ·exact ⟨by omega, by omega, by omega⟩
 ·have hi : i = t.kids.length := by omega
  subst hi
  refine z56 ?_
  rw [List.take_length, hce]
theorem ztz : ∀ t : T, szB t = true -> depT t <= 1000000000 -> PC Tryz.prog 70 [z25 t] (.int .i64 (depT t)) := by
 refine z55 fun t ih hs V => ?_
 obtain ⟨h0, h1, g1, h2, g2, h3, h4⟩ := (z2e t).1 hs
 refine z1y 1 (by simp only [pureD.pureL, z05, Bool.and_self]) rfl (z1v [] Tryz.func70 rfl (by decide +kernel) z0i (by decide +kernel) (by simp [Tryz.ntmps70]) ?_)
 show awp _ _ (Code.seq _ _) _ _
 repeat' (first | refine zqj ?_ | ((refine zqh fun K J => ?_); (simp (disch := omega) only [go_sem])) | refine zqa ?_ | (refine J _ ?_; clear J K))
 (refine z3h (fun U st => ∃ (i : _), U = t.kids.length - i /\ st.t 1 = .ptr 0 0 /\ st.t 3 = .int .i64 (zfo ((t.kids.take i).map depT) : Nat) /\ st.t 4 = .int .i64 i /\ st.H 0 = some (.box 27 (z07 t)) /\ (i <= t.kids.length) /\ (1 <= st.nx)) ?_ ?_); rotate_left; (rintro U st ⟨i, rfl, q1, q3, q4, qH0, qp0, qp1⟩); rotate_left
 ·(refine ⟨_, 0, rfl, ?_⟩); (simp (disch := omega) only [go_sem, Nat.reduceBEq, Nat.reduceLeDiff, true_and, and_true, and_self, Int.natCast_zero, List.map_nil])
  rfl
 have hin := fun (h : i < t.kids.length) => ih t.kids[i] (List.getElem_mem h) (h4 _ (List.getElem_mem h)) (by have := z4e (List.getElem_mem h); omega)
 have O := fun (h : i < t.kids.length) => z4e (t := t) (List.getElem_mem h)
 have hsn : ∀ h : i < t.kids.length, zfo ((t.kids.take (i + 1)).map depT) = max (zfo ((t.kids.take i).map depT)) (1 + depT t.kids[i]) := fun h => by
  rw [List.take_succ_eq_append_getElem h, List.map_append, List.map_cons, List.map_nil, ztv]
 repeat' (first | refine zqj ?_ | ((first | refine zqh fun K J => ?_ | refine zqr fun K J => ?_ | refine zqs (hin (by omega)) ?_); (simp (disch := omega) only [go_sem, Nat.reduceBEq, ↓reduceIte, reduceCtorEq, Nat.reduceAdd, q1, q3, q4, qH0, z10])) | ((refine zqd _ rfl (fun hc => ?_) (fun hc => ?_)) <;> (((try simp only [z01] at hc); (try (exfalso; omega))))) | refine zqa ?_ | refine zqb ?_ | refine zqc ?_ | refine zqn ?_ | refine zqv ?_ | refine zqy ?_ | refine zqz ?_ | refine zqp ?_ | refine zqu (by (simp (disch := omega) only [go_sem]); rfl) rfl ?_ | (refine J _ ?_; clear J K))
 ·have hs := hsn (by omega)
  (refine Exists.intro _ (And.intro ?_ ⟨i + 1, rfl, ?_⟩)); rotate_left; (simp (disch := omega) only [go_sem, Nat.reduceBEq, q1, q3, q4, qH0, true_and, Int.natCast_add, Int.natCast_one, hs]); rotate_left
  ·omega
  ·have := O (by omega); refine ⟨?_, by omega⟩
   rw [zx1 (by omega)]; omega
 ·refine z56 ?_
  have hi : i = t.kids.length := by omega
  subst hi
  rw [List.take_length, <- zbt]
theorem z9m : ∀ l : List Idv, z1h 3 (l.map z6x) = some (l.flatMap z08)
 | [] => rfl
 | t :: w => by
  rw [List.map_cons, List.flatMap_cons]
  unfold z1h
  rw [z9m w]
  rfl
theorem pc_All : ∀ t : T, szB t = true -> cntT t <= 1000000000 -> PC Tryz.prog 135 [z25 t] (z0o (z0e t)) := by
 refine z55 fun t ih hs hc => ?_
 obtain ⟨h0, h1, g1, h2, g2, h3, h4⟩ := (z2e t).1 hs
 have hce := z6m t
 have hle0 := z5l t
 refine z1y 2 (by simp only [pureD.pureL, z05, Bool.and_self]) (z7g _) (z1v [7] Tryz.func135 rfl (by decide +kernel) z0i (by decide +kernel) (by simp [Tryz.ntmps135]) ?_)
 show awp _ _ (Code.seq _ _) _ _
 repeat' (first | refine zqj ?_ | ((refine zqh fun K J => ?_); (simp (disch := omega) only [go_sem, Nat.reduceBEq, ↓reduceIte, reduceCtorEq, Nat.reduceAdd, Nat.reduceMul, Nat.reduceLeDiff])) | refine zqa ?_ | (refine J _ ?_; clear J K))
 (refine z3h (fun U st => ∃ (i : _), U = t.kids.length - i /\ st.t 1 = .ptr 0 0 /\ st.t 3 = .osl 1 (1 + ((t.kids.take i).flatMap z0d).length) /\ st.t 4 = .int .i64 i /\ st.H 0 = some (.box 27 (z07 t)) /\ st.H 1 = some (.row 23 (1 + ((t.kids.take i).flatMap z0d).length) (([t.id] ++ (t.kids.take i).flatMap z0e).flatMap z08)) /\ (i <= t.kids.length) /\ (2 <= st.nx)) ?_ ?_); rotate_left; (rintro U st ⟨i, rfl, q1, q3, q4, qH0, qH1, qp0, qp1⟩); rotate_left
 ·(refine ⟨_, 0, rfl, ?_⟩); (simp (disch := omega) only [go_sem, Nat.reduceBEq, Nat.reduceLeDiff, true_and, and_true, and_self, Int.natCast_zero, List.flatMap_nil, List.append_nil])
  try simp [z08]
 have hin := fun (h : i < t.kids.length) => ih t.kids[i] (List.getElem_mem h) (h4 _ (List.getElem_mem h)) (by have := za2 (List.getElem_mem h); omega)
 have hb := z3l t.kids (i + 1)
 by_cases hi : i < t.kids.length
 ·have hsu := z5k t.kids i hi
  have hil := z5l t.kids[i]
  have htk : (t.kids.take (i + 1)).flatMap z0e = (t.kids.take i).flatMap z0e ++ z0e t.kids[i] := by
   rw [List.take_succ_eq_append_getElem hi, List.flatMap_append]; simp
  repeat' (first | refine zqj ?_ | ((first | refine zqh fun K J => ?_ | refine zqr fun K J => ?_ | refine zqs (hin hi) ?_); (simp (disch := omega) only [go_sem, Nat.reduceBEq, ↓reduceIte, reduceCtorEq, Nat.reduceAdd, q1, q3, q4, qH0, qH1, z10, z0o, z9m])) | ((refine zqd _ rfl (fun hc => ?_) (fun hc => ?_)) <;> (((try simp only [z01] at hc); (try (exfalso; omega))))) | refine zqa ?_ | refine zqb ?_ | refine zqv ?_ | refine zqy ?_ | (refine J _ ?_; clear J K))
  (refine Exists.intro _ (And.intro ?_ ⟨i + 1, rfl, ?_⟩)); rotate_left; (simp (disch := omega) only [go_sem, Nat.reduceBEq, q1, q3, q4, qH0, qH1, true_and, Int.natCast_add, Int.natCast_one, List.flatMap_append, List.flatMap_cons, List.cons_append, List.nil_append, hsu, htk, hil, Nat.add_assoc, List.append_assoc]); rotate_left
  ·omega
  ·omega
 ·repeat' (first | refine zqj ?_ | ((refine zqh fun K J => ?_); (simp (disch := omega) only [go_sem, Nat.reduceBEq, ↓reduceIte, reduceCtorEq, Nat.reduceAdd, q1, q3, q4, qH0, z10])) | ((refine zqd _ rfl (fun hc => ?_) (fun hc => ?_)) <;> (((try simp only [z01] at hc); (try (exfalso; omega))))) | refine zqc ?_ | refine zqn ?_ | refine zqv ?_ | refine zqz ?_ | refine zqp ?_ | refine zqu (by (simp (disch := omega) only [go_sem]); rfl) rfl ?_ | (refine J _ ?_; clear J K))
  have hi2 : i = t.kids.length := by omega
  subst hi2
  rw [List.take_length] at qH1
  have hle : 1 + (t.kids.flatMap z0d).length = (z0e t).length := by rw [hle0, hce]
  rw [hle, List.singleton_append, <- z1z] at qH1
  rw [List.take_length, hle]
  refine z6u (z2w 0 ?_ z7n zbw (fun _ => rfl) (fun _ => rfl))
  simp (disch := omega) only [go_sem, qH1]
namespace Tr
theorem zb8 {α : Type} (f : α -> Bool) {l : List α} {k : Nat} (h : k < l.length) : (l.take (k + 1)).all f = ((l.take k).all f && f l[k]) := by
 rw [List.take_succ_eq_append_getElem h, List.all_append, List.all_cons, List.all_nil, Bool.and_true]
theorem zm6 {α : Type} {l : List α} {k : Nat} (O : k < l.length) (h : (l.take k).Nodup) (h2 : ∀ j, (hj : j < k) -> l[j]'(by omega) ≠ l[k]) : (l.take (k + 1)).Nodup := by
 have := zbu (f := id) O (by simpa using h) h2
 simpa using this
theorem zvq {α : Type} {l : List α} {j k : Nat} (hj : j < k) (O : k < l.length) (h : l[j]'(by omega) = l[k]) : ¬ l.Nodup := fun hn => by
 have := zhg (f := id) hj O h
 simp at this; exact this hn
end Tr
theorem pc_IdsR (t : T) (hs : szB t = true) (hc : cntT t <= 1000000000) : PC Tryz.prog 71 [z25 t] (.bool (zze t)) := by
 have ha := pc_All t hs hc
 have hl := z5l t
 have hp := zhh t
 have hid0 : ∀ h, (z0e t)[Int.toNat 0]'h = t.id := fun h => by simp [z1z]
 refine z1y 1 (by simp only [pureD.pureL, z05, Bool.and_self]) rfl (z1v [] Tryz.func71 rfl (by decide +kernel) z0i (by decide +kernel) (by simp [Tryz.ntmps71]) ?_)
 show awp _ _ (Code.seq _ _) _ _
 repeat' (first | refine zqj ?_ | ((first | refine zqh fun K J => ?_ | refine zqs (ha) ?_); (simp (disch := omega) only [go_sem, Nat.reduceBEq, ↓reduceIte, Nat.reduceAdd, Nat.reduceLeDiff])) | refine zqa ?_ | (refine J _ ?_; clear J K))
 (refine z3h (fun U st => ∃ (i : _), U = (z0e t).length - i /\ st.t 1 = .ptr 0 0 /\ st.t 3 = z0o (z0e t) /\ st.t 4 = .bool (((z0e t).take i).all fun i => decide (i = Idv.zero)) /\ st.t 5 = .int .i64 i /\ st.H 0 = some (.box 27 (z07 t)) /\ (i <= (z0e t).length) /\ (1 <= st.nx)) ?_ ?_); rotate_left; (rintro U st ⟨i, rfl, q1, q3, q4, q5, qH0, qp0, qp1⟩); rotate_left
 ·(refine ⟨_, 0, rfl, ?_⟩); (simp (disch := omega) only [go_sem, Nat.reduceBEq, Nat.reduceLeDiff, true_and, and_true, and_self, Int.natCast_zero, z0o])
  try simp
 repeat' (first | refine zqj ?_ | ((first | refine zqh fun K J => ?_ | refine zqe (by decide +kernel) fun K J => ?_ | refine zqr fun K J => ?_); (simp (disch := omega) only [go_sem, Nat.reduceBEq, ↓reduceIte, reduceCtorEq, Nat.reduceAdd, q1, q3, q4, q5, qH0, z0o, hid0])) | ((refine zqd _ rfl (fun hc => ?_) (fun hc => ?_)) <;> (((try simp only [z01] at hc); (try (exfalso; omega))))) | refine zqa ?_ | refine zqb ?_ | refine zqg ?_ | refine zqc ?_ | refine zqv ?_ | refine zqy ?_ | refine zqz ?_ | refine zqp ?_ | refine zqu (by (simp (disch := omega) only [go_sem]); rfl) rfl ?_ | (refine J _ ?_; clear J K) | (refine zqf (fun hb => ?_) (fun hb => ?_) <;> (have hb2 := hb; try simp only [z01] at hb2) <;> ((have F : (_ : Bool) = _ := hb2); (simp (disch := omega) only [go_sem, Nat.reduceBEq, ↓reduceIte, reduceCtorEq, Nat.reduceAdd, hb, q3, q5, z0o]); clear hb F; (try (exfalso; omega)))))
 ·(refine Exists.intro _ (And.intro ?_ ⟨i + 1, rfl, ?_⟩)); rotate_left; (simp (disch := omega) only [go_sem, Nat.reduceBEq, q1, q3, q4, q5, qH0, true_and, Int.natCast_add, Int.natCast_one]); rotate_left
  ·omega
  ·rw [zb8 _ (by omega), ‹((z0e t).take i).all _ = true›]
   exact ⟨rfl, by omega, by omega⟩
 ·(refine Exists.intro _ (And.intro ?_ ⟨i + 1, rfl, ?_⟩)); rotate_left; (simp (disch := omega) only [go_sem, Nat.reduceBEq, q1, q3, q4, q5, qH0, true_and, Int.natCast_add, Int.natCast_one]); rotate_left
  ·omega
  ·rw [zb8 _ (by omega), ‹((z0e t).take i).all _ = false›]
   exact ⟨rfl, by omega, by omega⟩
 ·refine z00 ?_
  have hz : ((z0e t).all fun i => decide (i = Idv.zero)) = true := by rw [<- List.take_of_length_le (l := z0e t) (i := i) (by omega)]; assumption
  unfold zze; rw [hz]; rfl
 ·refine z00 ?_
  have hz : ((z0e t).all fun i => decide (i = Idv.zero)) = false := by rw [<- List.take_of_length_le (l := z0e t) (i := i) (by omega)]; assumption
  have O : ¬ (t.id = Idv.zero ↔ t.kind = 0) := fun h => by
   have : decide (t.id = Idv.zero) = decide (t.kind = 0) := decide_eq_decide.2 h
   contradiction
  unfold zze
  rw [hz, decide_eq_false O]; rfl
 ·have hz : ((z0e t).all fun i => decide (i = Idv.zero)) = false := by rw [<- List.take_of_length_le (l := z0e t) (i := i) (by omega)]; assumption
  have hbne : ∀ {a b : Bool}, (a != b) = false -> a = b := fun {a b} h => by cases a <;> cases b <;> first | rfl | cases h
  have O : (t.id = Idv.zero ↔ t.kind = 0) := by
   have h := hbne ‹(decide (t.id = Idv.zero) != decide (t.kind = 0)) = false›
   exact decide_eq_decide.1 h
  rw [show zze t = decide ((z0e t).Nodup) from by unfold zze; rw [hz, decide_eq_true O]; rfl]
  (refine z3h (fun U st => ∃ (j : Nat), U = (z0e t).length - j /\ st.t 1 = .ptr 0 0 /\ st.t 3 = z0o (z0e t) /\ st.t 6 = .int .i64 j /\ st.H 0 = some (.box 27 (z07 t)) /\ (j <= (z0e t).length) /\ (((z0e t).take j).Nodup) /\ (1 <= st.nx)) ?_ ?_); rotate_left; (rintro U st ⟨j, rfl, r1, r3, r6, rH0, rp0, rp1, rp2⟩); rotate_left
  ·(refine ⟨_, 0, rfl, ?_⟩); (simp (disch := omega) only [go_sem, Nat.reduceBEq, true_and, Int.natCast_zero, z0o, q1, q3, qH0])
   (repeat' (first | omega | refine And.intro ?_ ?_))
   all_goals simp
  repeat' (first | refine zqj ?_ | ((refine zqh fun K J => ?_); (simp (disch := omega) only [go_sem, Nat.reduceBEq, ↓reduceIte, r3, r6, z0o])) | ((refine zqd _ rfl (fun hc => ?_) (fun hc => ?_)) <;> (((try simp only [z01] at hc); (try (exfalso; omega))))) | refine zqa ?_ | refine zqi ?_ | refine zqb ?_ | refine zqc ?_ | refine zqn ?_ | refine zqv ?_ | refine zqz ?_ | refine zqp ?_ | refine zqu (by (simp (disch := omega) only [go_sem]); rfl) rfl ?_ | (refine J _ ?_; clear J K))
  ·(refine z3h (fun U st => ∃ (k : Nat), U = j - k /\ st.t 1 = .ptr 0 0 /\ st.t 3 = z0o (z0e t) /\ st.t 6 = .int .i64 j /\ st.t 7 = .int .i64 k /\ st.H 0 = some (.box 27 (z07 t)) /\ (k <= j) /\ (1 <= st.nx) /\ (∀ m, (hm : m < k) -> (h : m < (z0e t).length) -> (h2 : j < (z0e t).length) -> (z0e t)[m] ≠ (z0e t)[j])) ?_ ?_); rotate_left; (rintro U st ⟨k, rfl, w1, w3, w6, w7, wH0, wp0, wp1, wp2⟩); rotate_left
   ·(refine ⟨_, 0, rfl, ?_⟩); (simp (disch := omega) only [go_sem, Nat.reduceBEq, r1, r3, r6, rH0, true_and, Int.natCast_zero, z0o])
    (repeat' (first | omega | refine And.intro ?_ ?_))
    all_goals exact fun m hm => by omega
   repeat' (first | refine zqj ?_ | ((first | refine zqh fun K J => ?_ | refine zqe (by decide +kernel) fun K J => ?_ | refine zqr fun K J => ?_); (simp (disch := omega) only [go_sem, Nat.reduceBEq, ↓reduceIte, reduceCtorEq, Nat.reduceAdd, w3, w6, w7, z0o])) | ((first | refine zqd _ rfl (fun hc => ?_) (fun hc => ?_) | refine zqm _ rfl (fun hc => ?_) (fun hc => ?_)) <;> (((try simp only [z01] at hc); (try (exfalso; omega))))) | refine zqa ?_ | refine zqb ?_ | refine zqc ?_ | refine zqk ?_ | refine zqn ?_ | refine zqv ?_ | refine zqx ?_ | refine zqy ?_ | refine zqz ?_ | refine z23 ?_ | refine zqp ?_ | refine zqo ?_ | refine zqu (by (simp (disch := omega) only [go_sem]); rfl) rfl ?_ | (refine J _ ?_; clear J K))
   ·exact z00 (decide_eq_false (zvq (j := k) (k := j) (by omega) (by omega) (by assumption))).symm
   ·(refine Exists.intro _ (And.intro ?_ ⟨k + 1, rfl, ?_⟩)); rotate_left; (simp (disch := omega) only [go_sem, Nat.reduceBEq, w1, w3, w6, w7, wH0, true_and, Int.natCast_add, Int.natCast_one, z0o]); rotate_left
    ·omega
    ·refine ⟨by omega, by omega, fun m hm h h2 => ?_⟩
     by_cases e : m = k
     ·subst e; assumption
     ·exact wp2 m (by omega) h h2
   ·skip
    have hj : j < (z0e t).length := by omega
    (refine Exists.intro _ (And.intro ?_ ⟨j + 1, rfl, ?_⟩)); rotate_left; (simp (disch := omega) only [go_sem, Nat.reduceBEq, true_and, Int.natCast_add, Int.natCast_one, w1, w3, wH0]); rotate_left
    ·omega
    ·exact ⟨by omega, zm6 hj rp1 (fun m hm => wp2 m (by omega) (by omega) hj), by omega⟩
  ·refine z00 ?_
   rw [List.take_of_length_le (by omega)] at rp1
   exact (decide_eq_true rp1).symm
theorem zzn (t : T) (hs : szB t = true) (hc : cntT t <= 1000000000) (V : depT t <= 1000000000) : PC Tryz.prog 23 [z25 t] (.bool (z6z t)) := by
 have h1 := zxr t hs
 have h2 := ztz t hs V
 have h3 := zty t hs hc
 have h4 := pc_IdsR t hs hc
 refine z1y 1 (by simp only [pureD.pureL, z05, Bool.and_self]) rfl (z1v [] Tryz.func23 rfl (by decide +kernel) z0i (by decide +kernel) (by simp [Tryz.ntmps23]) ?_)
 show awp _ _ (Code.seq _ _) _ _
 repeat' (first | ((first | refine zqh fun K J => ?_ | refine zqs (h1) ?_ | refine zqs (h2) ?_ | refine zqs (h3) ?_ | refine zqs (h4) ?_); (simp (disch := omega) only [go_sem, Nat.reduceBEq, ↓reduceIte, Nat.reduceAdd, Nat.reduceLeDiff])) | refine zqn ?_ | refine zqu (by (simp (disch := omega) only [go_sem]); rfl) rfl ?_ | (refine J _ ?_; clear J K) | (refine zqf (fun hb => ?_) (fun hb => ?_) <;> (have hb2 := hb; try simp only [z01] at hb2) <;> ((first | have F : (_ : Bool) = _ := hb2 | have F := eq_false hb2 | have F := eq_true hb2); (simp (disch := omega) only [go_sem, Nat.reduceBEq, ↓reduceIte, Nat.reduceAdd, Nat.reduceLeDiff, hb, F]); clear hb F; (try (exfalso; omega)))))
 all_goals refine z00 ?_
 all_goals unfold z6z
 all_goals (simp (disch := omega) only [decide_eq_true, decide_eq_false, Bool.true_and, Bool.false_and, Bool.and_false, *])
theorem zjj {P : Program} {H : HM} {id e : Nat} {cs : List D} (k : Nat) (hH : H id = some (.box e cs)) (ha : z04 P e = true) (hp : pureD.pureL cs = true) : z34 P H (k + 2) (.ptr id 0) = some (.rptr (.agg cs)) := by
 unfold z34
 simp only [pureD, Bool.false_eq_true, if_false, hH, ha, true_or, and_self, if_true, zar k cs hp, Option.map_some]
namespace Tr
theorem zng : ∀ t : T, smB t = true -> ∀ x ∈ z0d t, smB x = true := by
 refine z55 fun t ih h x hx => ?_
 rw [z20] at hx
 rcases List.mem_cons.1 hx with rfl | hx
 ·exact h
 ·obtain ⟨k, O, hx⟩ := List.mem_flatMap.1 hx
  exact ih k O ((zke t).1 h |>.2.2.2 k O) x hx
theorem zeg (id : Idv) : ∀ t : T, ∀ x ∈ z26 id t, x ∈ z0d t := by
 refine z55 fun t ih x hx => ?_
 rw [z8n] at hx
 split at hx
 ·rw [List.mem_singleton.1 hx]; exact z1j t
 ·split at hx
  ·rename_i w hw
   obtain ⟨k, O, rfl⟩ := List.mem_map.1 (List.mem_of_find?_eq_some hw)
   rcases List.mem_cons.1 hx with rfl | hx
   ·exact z1j _
   ·exact z2k O (ih k O x hx)
  ·cases hx
def T.zero : T := .mk Idv.zero 0 ByteArray.empty [] [] []
def z0c (id : Idv) (t : T) : T × Bool := match (z26 id t).getLast? with
 | some x => (x, true)
 | none => (T.zero, false)
def z5e (id : Idv) (t : T) : Idv × Int × Bool :=
 let w := z26 id t
 if h : w.length < 2 then (Idv.zero, -1, false) else
  let p := w[w.length - 2]
  let n := z89 (fun k => !(z26 id k).isEmpty) p.kids
  (p.id, if n < p.kids.length then (n : Int) else -1, true)
def zi0 (id : Idv) (t : T) : List Idv := ((z26 id t).dropLast.map T.id).reverse
end Tr
theorem zbr {w : List T} (h : w = []) : zav w = .nil := if_pos h
theorem z7j {w : List T} (h : w ≠ []) : zav w = .rsl true 8 (w.map z25) := if_neg h
theorem zdb {α : Type} : ∀ (l : List α) (h : l ≠ []), l.getLast? = some (l[l.length - 1]'(by have := List.length_pos_iff.2 h; omega))
 | l, h => by rw [List.getLast?_eq_getElem?, List.getElem?_eq_getElem (by have := List.length_pos_iff.2 h; omega)]
theorem zxl : Le (.agg [.int .i64 0, .int .i64 0, .int .i64 0, .int .i64 0, .str ByteArray.empty, .nil, .nil, .nil]) (z25 T.zero) := by
 rw [z25, z1p]
 exact Le.agg ⟨Le.refl _, Le.refl _, Le.refl _, Le.refl _, Le.refl _, Le.nil 4, Le.nil 4, Le.nil 8, trivial⟩
theorem zeh (t : T) (hs : smB t = true) (V : depT t <= 1000000000) (id : Idv) : PC Tryz.prog 16 [z25 t, z6x id] (.tup [z25 (z0c id t).1, .bool (z0c id t).2]) := by
 have hw := ztw id t (znu t hs) V
 have hl := zau id t
 refine z1y 3 (by simp only [pureD.pureL, z05]; rfl) (by simp only [pureD, pureD.pureL, z05, Bool.and_self]) (z1v [] Tryz.func16 rfl (by decide +kernel) z0i (by decide +kernel) (by simp [Tryz.ntmps16]) ?_)
 show awp _ _ (Code.seq _ _) _ _
 rw [show Tryz.f16.results.toList = [.cell 4 27, .tmp 5] from rfl]
 by_cases h0 : z26 id t = []
 ·rw [zbr h0] at hw
  have hf : z0c id t = (T.zero, false) := by unfold z0c; rw [h0]; rfl
  rw [hf]
  repeat' (first | refine zqj ?_ | ((first | refine zqh fun K J => ?_ | refine zqs (hw) ?_); (simp (disch := omega) only [go_sem, Nat.reduceBEq, ↓reduceIte, Nat.reduceAdd, Nat.reduceLeDiff])) | ((refine zqd _ rfl (fun hc => ?_) (fun hc => ?_)) <;> (first | (cases hc; done) | ((try simp only [] at hc); (try (exfalso; omega))))) | refine zqg ?_ | refine zqu (by (simp (disch := omega) only [go_sem, Nat.reduceBEq, ↓reduceIte, Nat.reduceAdd, Nat.reduceLeDiff]); rfl) rfl ?_ | (refine J _ ?_; clear J K))
  exact z09 (by simp only [pureD, pureD.pureL, Bool.and_self]) (Le.tup ⟨zxl, Le.refl _, trivial⟩)
 ·rw [z7j h0] at hw
  have hpos := List.length_pos_iff.2 h0
  have hi : (((z26 id t).length : Int) - 1).toNat = (z26 id t).length - 1 := by omega
  have hcp := zvj ((z26 id t)[(z26 id t).length - 1]'(by omega)) (zng t hs _ (zeg id t _ (List.getElem_mem _)))
  have hf : z0c id t = ((z26 id t)[(z26 id t).length - 1]'(by omega), true) := by unfold z0c; rw [zdb _ h0]
  rw [hf]
  repeat' (first | refine zqj ?_ | ((first | refine zqh fun K J => ?_ | refine zqs (hw) ?_ | refine zqs (hcp) ?_); (simp (disch := omega) only [go_sem, Nat.reduceBEq, ↓reduceIte, reduceCtorEq, Nat.reduceAdd, Nat.reduceLeDiff, hi])) | ((refine zqd _ rfl (fun hc => ?_) (fun hc => ?_)) <;> (((try simp only [z01] at hc); (try (exfalso; omega))))) | refine zqb ?_ | refine zqn ?_ | refine zqu (by (simp (disch := omega) only [go_sem, Nat.reduceBEq, ↓reduceIte, Nat.reduceLeDiff]); rfl) rfl ?_ | (refine J _ ?_; clear J K))
  exact z09 (by simp only [pureD, pureD.pureL, z1d, Bool.and_self]) (Le.refl _)
theorem zpc (t : T) (hs : smB t = true) (V : depT t <= 1000000000) (id : Idv) : PC Tryz.prog 66 [z25 t, .rptr (z6x id)] (.bool (!(z26 id t).isEmpty)) := by
 have hw := ztw id t (znu t hs) V
 refine z1y 1 (by simp only [pureD.pureL, z05, pureD]; rfl) rfl (z1v [] Tryz.func66 rfl (by decide +kernel) z0i (by decide +kernel) (by simp [Tryz.ntmps66]) ?_)
 show awp _ _ (Code.seq _ _) _ _
 by_cases h0 : z26 id t = []
 ·rw [zbr h0] at hw
  rw [h0]
  repeat' (first | ((first | refine zqh fun K J => ?_ | refine zqs (hw) ?_); (simp (disch := omega) only [go_sem, Nat.reduceBEq, ↓reduceIte, Nat.reduceAdd, Nat.reduceLeDiff])) | refine zqn ?_ | refine zqu (by (simp (disch := omega) only [go_sem]); rfl) rfl ?_ | (refine J _ ?_; clear J K))
  exact z00 rfl
 ·rw [z7j h0] at hw
  rw [show (z26 id t).isEmpty = false from by simpa using h0]
  repeat' (first | ((first | refine zqh fun K J => ?_ | refine zqs (hw) ?_); (simp (disch := omega) only [go_sem, Nat.reduceBEq, ↓reduceIte, Nat.reduceAdd, Nat.reduceLeDiff])) | refine zqn ?_ | refine zqu (by (simp (disch := omega) only [go_sem]); rfl) rfl ?_ | (refine J _ ?_; clear J K))
  exact z00 rfl
theorem ztq : ∀ t : T, ∀ x ∈ z0d t, depT x <= depT t := by
 refine z55 fun t ih x hx => ?_
 rw [z20] at hx
 rcases List.mem_cons.1 hx with rfl | hx
 ·exact Nat.le_refl _
 ·obtain ⟨k, O, hx⟩ := List.mem_flatMap.1 hx
  have := ih k O x hx
  have := z4e O
  omega
theorem zei (t : T) (hs : smB t = true) (V : depT t <= 1000000000) (id : Idv) : PC Tryz.prog 21 [z25 t, z6x id] (.tup [z6x (z5e id t).1, .int .i64 (z5e id t).2.1, .bool (z5e id t).2.2]) := by
 have hw := ztw id t (znu t hs) V
 have hl := zau id t
 refine z1y 3 (by simp only [pureD.pureL, z05]; rfl) rfl (z1v [] Tryz.func21 rfl (by decide +kernel) z0i (by decide +kernel) (by simp [Tryz.ntmps21]) ?_)
 show awp _ _ (Code.seq _ _) _ _
 rw [show Tryz.f21.results.toList = [.cell 4 23, .tmp 5, .tmp 6] from rfl]
 by_cases h2 : (z26 id t).length < 2
 ·have hp : z5e id t = (Idv.zero, -1, false) := by unfold z5e; exact dif_pos h2
  rw [hp]
  by_cases h0 : z26 id t = []
  ·rw [zbr h0] at hw
   repeat' (first | refine zqj ?_ | ((first | refine zqh fun K J => ?_ | refine zqs (hw) ?_); (simp (disch := omega) only [go_sem, Nat.reduceBEq, ↓reduceIte, Nat.reduceAdd, Nat.reduceLeDiff, Int.reduceLT])) | ((refine zqd _ rfl (fun hc => ?_) (fun hc => ?_)) <;> (first | (cases hc; done) | ((try simp only [] at hc); (try (exfalso; omega))))) | refine zqg ?_ | refine zqu (by (simp (disch := omega) only [go_sem, Nat.reduceBEq, ↓reduceIte, Nat.reduceAdd, Nat.reduceLeDiff]); rfl) rfl ?_ | (refine J _ ?_; clear J K))
   exact z09 rfl (Le.refl _)
  ·rw [z7j h0] at hw
   repeat' (first | refine zqj ?_ | ((first | refine zqh fun K J => ?_ | refine zqs (hw) ?_); (simp (disch := omega) only [go_sem, Nat.reduceBEq, ↓reduceIte, Nat.reduceAdd, Nat.reduceLeDiff])) | ((refine zqd _ rfl (fun hc => ?_) (fun hc => ?_)) <;> (((try simp only [z01] at hc); (try (exfalso; omega))))) | refine zqg ?_ | refine zqu (by (simp (disch := omega) only [go_sem, Nat.reduceBEq, ↓reduceIte, Nat.reduceAdd, Nat.reduceLeDiff]); rfl) rfl ?_ | (refine J _ ?_; clear J K))
   exact z09 rfl (Le.refl _)
 ·have h0 : z26 id t ≠ [] := fun h => by rw [h] at h2; simp at h2
  rw [z7j h0] at hw
  have hi : (((z26 id t).length : Int) - 2).toNat = (z26 id t).length - 2 := by omega
  obtain ⟨p, hpe⟩ : ∃ p, p = ((z26 id t)[(z26 id t).length - 2]'(by omega)) := ⟨_, rfl⟩
  have hpm : p ∈ z0d t := by rw [hpe]; exact zeg id t _ (List.getElem_mem _)
  have hsp := zng t hs p hpm
  have hdp := ztq t p hpm
  obtain ⟨_, _, h3, h4⟩ := (zke p).1 hsp
  have hpar : z5e id t = (p.id, (if z89 (fun k => !(z26 id k).isEmpty) p.kids < p.kids.length then (z89 (fun k => !(z26 id k).isEmpty) p.kids : Int) else -1), true) := by unfold z5e; rw [dif_neg h2, <- hpe]
  rw [hpar]
  have hix := zho false p.kids (by unfold maxLen; omega) (g := 66) (cap := [.rptr (z6x id)]) (fun k => !(z26 id k).isEmpty) rfl (fun k O => zpc k (h4 k O) (by have := z4e O; omega) id)
  repeat' (first | refine zqj ?_ | ((first | refine zqh fun K J => ?_ | refine zqs (hw) ?_); (simp (disch := omega) only [go_sem, Nat.reduceBEq, ↓reduceIte, reduceCtorEq, Nat.reduceAdd, Nat.reduceLeDiff, hi, <- hpe])) | ((refine zqd _ rfl (fun hc => ?_) (fun hc => ?_)) <;> (((try simp only [z01] at hc); (try (exfalso; omega))))) | refine zqb ?_ | (refine J _ ?_; clear J K))
  refine zye (PC.borrow hix rfl 4 (z0u (z0w 3 (z36 _)) (z0u (zx3 3 rfl (z0u (zjj (e := 23) (cs := z08 id) 1 ?_ z7n rfl) z7e)) z7e))) ?_
  ·(simp (disch := omega) only [go_sem, Nat.reduceBEq, z08])
  (try (simp (disch := omega) only [go_sem, Nat.reduceBEq])); repeat' (first | ((refine zqh fun K J => ?_); (simp (disch := omega) only [go_sem, Nat.reduceBEq, ↓reduceIte, reduceCtorEq, Nat.reduceAdd, Nat.reduceLeDiff])) | refine zqn ?_ | refine zqu (by (simp (disch := omega) only [go_sem, Nat.reduceBEq, ↓reduceIte, Nat.reduceAdd, Nat.reduceLeDiff]); rfl) rfl ?_ | (refine J _ ?_; clear J K))
  exact z09 rfl (Le.refl _)
end
section
open Abs Facts Tr
theorem z7b {α : Type} [DecidableEq α] (enc : α -> D) (v : α -> D) (k : α) (x : D) : ∀ l : List α, l.Nodup -> k ∈ l -> z8y (l.map fun a => (enc a, v a)) (l.idxOf k) x = l.map fun a => (enc a, if a = k then x else v a)
 | [], _, h => by cases h
 | a :: l, hn, h => by
  simp only [List.map_cons, List.idxOf_cons]
  by_cases e : a = k
  ·subst e
   simp only [beq_self_eq_true, cond_true, z8y, if_true, List.cons.injEq, true_and]
   refine List.map_congr_left fun b hb => ?_
   have : b ≠ a := fun e => by subst e; exact (List.nodup_cons.1 hn).1 hb
   rw [if_neg this]
  ·rw [show (a == k) = false from by simpa using e]
   simp only [cond_false, z8y, if_neg e, List.cons.injEq, true_and]
   refine z7b enc v k x l (List.nodup_cons.1 hn).2 ?_
   rcases List.mem_cons.1 h with h | h
   ·exact (e h.symm).elim
   ·exact h
namespace Tr
end Tr
end
section
open Abs Facts Tr
attribute [local irreducible] awp
namespace Tr
theorem zdc : ∀ t : T, szB t = true -> ∀ x ∈ z0d t, szB x = true := by
 refine z55 fun t ih h x hx => ?_
 rw [z20] at hx
 rcases List.mem_cons.1 hx with rfl | hx
 ·exact h
 ·obtain ⟨k, O, hx⟩ := List.mem_flatMap.1 hx
  obtain ⟨_, _, _, _, _, _, h4⟩ := (z2e t).1 h
  exact ih k O (h4 k O) x hx
end Tr
namespace Tr
instance : DecidableEq ByteArray := inferInstance
def zii : List (T -> Bool) -> List T -> Bool
 | [], [] => true
 | f :: fs, t :: ts => f t && zii fs ts
 | _, _ => false
def zoo (a : T) : T -> Bool := zec (fun a l b => decide (a.id = b.id) && (decide (a.kind = b.kind) && (decide (a.label = b.label) && (decide (a.head = b.head) && (decide (a.words = b.words) && (decide (a.kids.length = b.kids.length) && zii l b.kids)))))) a
theorem zwx (a b : T) : zoo a b = (decide (a.id = b.id) && (decide (a.kind = b.kind) && (decide (a.label = b.label) && (decide (a.head = b.head) && (decide (a.words = b.words) && (decide (a.kids.length = b.kids.length) && zii (a.kids.map zoo) b.kids)))))) := by
 unfold zoo; rw [z39]
theorem zij : ∀ (l m : List T), (∀ k ∈ l, ∀ b, zoo k b = true ↔ k = b) -> (zii (l.map zoo) m = true ↔ l = m)
 | [], [], _ => by simp [zii]
 | [], _ :: _, _ => by simp [zii]
 | _ :: _, [], _ => by simp [zii]
 | a :: l, b :: m, h => by
  simp only [List.map_cons, zii, Bool.and_eq_true, List.cons.injEq]
  rw [h a (by simp) b, zij l m (fun k O => h k (List.mem_cons_of_mem _ O))]
theorem zs7 : ∀ a b : T, zoo a b = true ↔ a = b := by
 refine z55 fun a ih b => ?_
 rw [zwx]
 simp only [Bool.and_eq_true, decide_eq_true_eq]
 rw [zij a.kids b.kids ih]
 constructor
 ·rintro ⟨h1, h2, h3, h4, h5, _, h6⟩
  rw [<- T.eta a, <- T.eta b, h1, h2, h3, h4, h5, h6]
 ·rintro rfl; exact ⟨rfl, rfl, rfl, rfl, rfl, rfl, rfl⟩
instance : DecidableEq T := fun a b => decidable_of_iff _ (zs7 a b)
theorem z5h {α : Type} {a b : List α} {k : Nat} (O : k < a.length) (hl : a.length = b.length) (h : a.take k = b.take k) (h2 : a[k] = b[k]'(by omega)) : a.take (k + 1) = b.take (k + 1) := by
 rw [List.take_succ_eq_append_getElem O, List.take_succ_eq_append_getElem (show k < b.length by omega), h, h2]
theorem zik {α : Type} {a b : List α} {k : Nat} (O : k < a.length) (hl : a.length = b.length) (h2 : ¬ a[k] = b[k]'(by omega)) : ¬ a = b := fun h => by subst h; exact h2 rfl
theorem z7d {α : Type} {a b : List α} {k : Nat} (O : a.length <= k) (hl : a.length = b.length) (h : a.take k = b.take k) : a = b := by
 rwa [List.take_of_length_le O, List.take_of_length_le (by omega)] at h
end Tr
theorem zmw (a b : List Wd) (ha : a.length <= maxLen) (hb : b.length <= maxLen) : PC Tryz.prog 245 [z0s a, z0s b] (.bool (decide (a = b))) := by
 unfold maxLen at ha hb
 refine z1y 1 (by simp only [pureD.pureL, z13, Bool.and_self]) rfl (z1v [] Tryz.func245 rfl (by decide +kernel) z0i (by decide +kernel) (by simp [Tryz.ntmps245]) ?_)
 show awp _ _ (Code.seq _ _) _ _
 repeat' (first | refine zqj ?_ | ((refine zqh fun K J => ?_); (simp (disch := omega) only [go_sem, Nat.reduceBEq, ↓reduceIte, z0s])) | ((refine zqd _ rfl (fun hc => ?_) (fun hc => ?_)) <;> (((try simp only [z01] at hc); (try (exfalso; omega))))) | refine zqa ?_ | refine zqb ?_ | refine zqg ?_ | refine zqu (by (simp (disch := omega) only [go_sem]); rfl) rfl ?_ | (refine J _ ?_; clear J K))
 ·exact z00 (decide_eq_false (fun h => by subst h; contradiction)).symm
 ·have hl : a.length = b.length := by omega
  (refine z3h (fun U st => ∃ (k : _), U = a.length - k /\ st.t 0 = z0s a /\ st.t 1 = z0s b /\ st.t 5 = .int .i64 k /\ (k <= a.length) /\ (a.take k = b.take k)) ?_ ?_); rotate_left; (rintro U st ⟨k, rfl, q0, q1, q5, qp0, qp1⟩); rotate_left
  ·(refine ⟨_, 0, rfl, ?_⟩); (simp (disch := omega) only [go_sem, Nat.reduceBEq, and_self, Int.natCast_zero, z0s])
   try simp
  repeat' (first | refine zqj ?_ | ((first | refine zqh fun K J => ?_ | refine zqe (by decide +kernel) fun K J => ?_ | refine zqr fun K J => ?_); (simp (disch := omega) only [go_sem, Nat.reduceBEq, ↓reduceIte, reduceCtorEq, Nat.reduceAdd, q0, q1, q5, z0s])) | ((first | refine zqd _ rfl (fun hc => ?_) (fun hc => ?_) | refine zqm _ rfl (fun hc => ?_) (fun hc => ?_)) <;> (((try simp only [z01] at hc); (try (exfalso; omega))))) | refine zqa ?_ | refine zqb ?_ | refine zqc ?_ | refine zqk ?_ | refine zqn ?_ | refine zqv ?_ | refine zqx ?_ | refine zqy ?_ | refine zqz ?_ | refine z23 ?_ | refine zqp ?_ | refine zqo ?_ | refine zqu (by (simp (disch := omega) only [go_sem]); rfl) rfl ?_ | (refine J _ ?_; clear J K))
  ·exact z00 (decide_eq_false (zik (k := k) (by omega) hl (by assumption))).symm
  ·(refine Exists.intro _ (And.intro ?_ ⟨k + 1, rfl, ?_⟩)); rotate_left; (simp (disch := omega) only [go_sem, Nat.reduceBEq, q0, q1, q5, true_and, Int.natCast_add, Int.natCast_one, z0s]); rotate_left
   ·omega
   ·exact ⟨by omega, z5h (by omega) hl qp1 (by assumption)⟩
  ·exact z00 (decide_eq_true (z7d (by omega) hl qp1)).symm
theorem zs8 : ∀ a : T, szB a = true -> ∀ b : T, szB b = true -> PC Tryz.prog 154 [z25 a, z25 b] (.bool (decide (a = b))) := by
 refine z55 fun a ih hs b hb => ?_
 obtain ⟨a0, a1, _, a2, _, a3, a4⟩ := (z2e a).1 hs
 obtain ⟨b0, b1, _, b2, _, b3, b4⟩ := (z2e b).1 hb
 have r1 := zmw a.head b.head (by unfold maxLen; omega) (by unfold maxLen; omega)
 have r2 := zmw a.words b.words (by unfold maxLen; omega) (by unfold maxLen; omega)
 refine z1y 1 (by simp only [pureD.pureL, z05, Bool.and_self]) rfl (z1v [] Tryz.func154 rfl (by decide +kernel) z0i (by decide +kernel) (by simp [Tryz.ntmps154]) ?_)
 show awp _ _ (Code.seq _ _) _ _
 repeat' (first | refine zqj ?_ | ((first | refine zqh fun K J => ?_ | refine zqs (r1) ?_ | refine zqs (r2) ?_); (simp (disch := omega) only [go_sem, Nat.reduceBEq, ↓reduceIte, reduceCtorEq, Nat.reduceAdd, Nat.reduceLeDiff])) | ((refine zqd _ rfl (fun hc => ?_) (fun hc => ?_)) <;> (first | (cases hc; done) | ((try simp only [z01] at hc); (try (exfalso; omega))))) | refine zqa ?_ | refine zqb ?_ | refine zqg ?_ | refine zqu (by (simp (disch := omega) only [go_sem]); rfl) rfl ?_ | (refine J _ ?_; clear J K) | (refine zqf (fun hb => ?_) (fun hb => ?_) <;> (have hb2 := hb; try simp only [z01] at hb2) <;> ((first | have F := eq_false hb2 | have F := eq_true hb2); (simp (disch := omega) only [go_sem, Nat.reduceBEq, ↓reduceIte, reduceCtorEq, Nat.reduceAdd, F, z10]); clear hb F; (try (exfalso; omega)))))
 rotate_left
 rotate_left
 all_goals first | exact z00 (decide_eq_false (fun h => by subst h; contradiction)).symm | skip
 have hl : a.kids.length = b.kids.length := by omega
 (refine z3h (fun U st => ∃ (k : _), U = a.kids.length - k /\ st.t 2 = .ptr 0 0 /\ st.t 3 = .ptr 1 0 /\ st.t 5 = .int .i64 k /\ st.H 0 = some (.box 27 (z07 a)) /\ st.H 1 = some (.box 27 (z07 b)) /\ (k <= a.kids.length) /\ (2 <= st.nx) /\ (a.kids.take k = b.kids.take k)) ?_ ?_); rotate_left; (rintro U st ⟨k, rfl, q2, q3, q5, qH0, qH1, qp0, qp1, qp2⟩); rotate_left
 ·(refine ⟨_, 0, rfl, ?_⟩); (simp (disch := omega) only [go_sem, Nat.reduceBEq, Nat.reduceLeDiff, and_self, Int.natCast_zero])
  try simp
 by_cases O : k < a.kids.length
 ·have hin := ih a.kids[k] (List.getElem_mem O) (a4 _ (List.getElem_mem O)) b.kids[k] (b4 _ (List.getElem_mem (by omega)))
  repeat' (first | refine zqj ?_ | ((first | refine zqh fun K J => ?_ | refine zqe (by decide +kernel) fun K J => ?_ | refine zqr fun K J => ?_ | refine zqt (hin) ?_); (simp (disch := omega) only [go_sem, Nat.reduceBEq, ↓reduceIte, reduceCtorEq, Nat.reduceAdd, q2, q3, q5, qH0, qH1, z10])) | ((first | refine zqd _ rfl (fun hc => ?_) (fun hc => ?_) | refine zqm _ rfl (fun hc => ?_) (fun hc => ?_)) <;> (((try simp only [z01] at hc); (try (exfalso; omega))))) | refine zqa ?_ | refine zqb ?_ | refine zqk ?_ | refine zqn ?_ | refine zqv ?_ | refine zqx ?_ | refine zqy ?_ | refine z23 ?_ | refine zqo ?_ | refine zqu (by (simp (disch := omega) only [go_sem]); rfl) rfl ?_ | (refine J _ ?_; clear J K))
  ·exact z00 (decide_eq_false (fun h => zik O hl (by assumption) (congrArg T.kids h))).symm
  ·(refine Exists.intro _ (And.intro ?_ ⟨k + 1, rfl, ?_⟩)); rotate_left; (simp (disch := omega) only [go_sem, Nat.reduceBEq, q2, q3, q5, qH0, qH1, true_and, Int.natCast_add, Int.natCast_one]); rotate_left
   ·omega
   ·exact ⟨by omega, by omega, z5h O hl qp2 (by assumption)⟩
 ·repeat' (first | refine zqj ?_ | ((refine zqh fun K J => ?_); (simp (disch := omega) only [go_sem, Nat.reduceBEq, ↓reduceIte, reduceCtorEq, Nat.reduceAdd, q2, q5, qH0, z10])) | ((refine zqd _ rfl (fun hc => ?_) (fun hc => ?_)) <;> (((try simp only [z01] at hc); (try (exfalso; omega))))) | refine zqc ?_ | refine zqn ?_ | refine zqv ?_ | refine zqz ?_ | refine zqp ?_ | refine zqu (by (simp (disch := omega) only [go_sem]); rfl) rfl ?_ | (refine J _ ?_; clear J K))
  refine z00 (decide_eq_true ?_).symm
  have hkk := z7d (by omega) hl qp2
  rw [<- T.eta a, <- T.eta b, ‹a.id = b.id›, ‹a.kind = b.kind›, ‹a.label = b.label›, ‹a.head = b.head›, ‹a.words = b.words›, hkk]
theorem zmx (l : List Wd) (hl : l.length <= 1000000) : PC Tryz.prog 248 [z0s l] (z0s (l.map fun w => ⟨w.text, Idv.zero⟩)) := by
 refine z1y 2 (by simp only [pureD.pureL, z13, Bool.and_self]) (z13 _) (z1v [5] Tryz.func248 rfl (by decide +kernel) z0i (by decide +kernel) (by simp [Tryz.ntmps248]) ?_)
 show awp _ _ (Code.seq _ _) _ _
 repeat' (first | refine zqj ?_ | ((refine zqh fun K J => ?_); (simp (disch := omega) only [go_sem, Nat.reduceBEq, ↓reduceIte, reduceCtorEq, Nat.reduceMul, z0s])) | refine zqa ?_ | (refine J _ ?_; clear J K))
 (refine z3h (fun U st => ∃ (k : _), U = l.length - k /\ st.t 0 = z0s l /\ st.t 3 = .osl 0 k /\ st.t 4 = .int .i64 k /\ st.H 0 = some (.row 122 k (((l.take k).map fun w => (⟨w.text, Idv.zero⟩ : Wd)).flatMap z7f)) /\ (k <= l.length)) ?_ ?_); rotate_left; (rintro U st ⟨k, rfl, q0, q3, q4, qH0, qp0⟩); rotate_left
 ·(refine ⟨_, 0, rfl, ?_⟩); (simp (disch := omega) only [go_sem, Nat.reduceBEq, and_self, Int.natCast_zero, List.flatMap_nil, List.map_nil, z0s])
 by_cases O : k < l.length
 ·have htk := List.take_succ_eq_append_getElem O
  repeat' (first | refine zqj ?_ | ((first | refine zqh fun K J => ?_ | refine zqr fun K J => ?_); (simp (disch := omega) only [go_sem, Nat.reduceBEq, ↓reduceIte, reduceCtorEq, Nat.reduceAdd, Nat.reduceMul, Nat.reduceLeDiff, q0, q3, q4, qH0, z0s])) | ((refine zqd _ rfl (fun hc => ?_) (fun hc => ?_)) <;> (((try simp only [z01] at hc); (try (exfalso; omega))))) | refine zqa ?_ | refine zqb ?_ | refine zqv ?_ | refine zqy ?_ | (refine J _ ?_; clear J K))
  (refine Exists.intro _ (And.intro ?_ ⟨k + 1, rfl, ?_⟩)); rotate_left; (simp (disch := omega) only [go_sem, Nat.reduceBEq, q0, q3, q4, qH0, true_and, Int.natCast_add, Int.natCast_one, List.flatMap_append, List.flatMap_cons, List.flatMap_nil, List.map_append, List.map_cons, List.map_nil, List.append_nil, htk, z7f, Idv.zero]); rotate_left
  ·omega
  ·omega
 ·repeat' (first | refine zqj ?_ | ((refine zqh fun K J => ?_); (simp (disch := omega) only [go_sem, Nat.reduceBEq, ↓reduceIte, q0, q3, q4, z0s])) | ((refine zqd _ rfl (fun hc => ?_) (fun hc => ?_)) <;> (((try simp only [z01] at hc); (try (exfalso; omega))))) | refine zqc ?_ | refine zqn ?_ | refine zqv ?_ | refine zqz ?_ | refine zqp ?_ | refine zqu (by (simp (disch := omega) only [go_sem]); rfl) rfl ?_ | (refine J _ ?_; clear J K))
  have hk2 : k = l.length := by omega
  subst hk2
  rw [List.take_length] at qH0
  have hlen : l.length = (l.map fun w => (⟨w.text, Idv.zero⟩ : Wd)).length := by simp
  rw [hlen] at qH0 ⊢
  refine z6u (z2w 0 ?_ zjv zno (fun _ => rfl) (fun _ => rfl))
  (simp (disch := omega) only [go_sem, qH0])
namespace Tr
theorem z3d {id : Idv} {t : T} (h : t.id = id) : z26 id t = [t] := by rw [z8n, if_pos h]
theorem z48 {id : Idv} {t : T} {i : Nat} (h0 : ¬ t.id = id) (hi : i < t.kids.length) (h1 : ∀ j, (hj : j < i) -> (h : j < t.kids.length) -> z26 id t.kids[j] = []) (h2 : z26 id t.kids[i] ≠ []) : z26 id t = t :: z26 id t.kids[i] := by
 rw [z8n, if_neg h0, zek (z26 id) hi h1 h2]
theorem ze1 {id : Idv} {t : T} {i : Nat} (h0 : ¬ t.id = id) (hi : t.kids.length <= i) (h1 : ∀ j, (hj : j < i) -> (h : j < t.kids.length) -> z26 id t.kids[j] = []) : z26 id t = [] := by
 rw [z8n, if_neg h0, zej (z26 id) h1 hi]
theorem zwy {id : Idv} {t : T} (h : z26 id t ≠ []) : (z0c id t).2 = true := by unfold z0c; rw [zdb _ h]
theorem zd6 {id : Idv} {t : T} (h : z26 id t = []) : z0c id t = (T.zero, false) := by unfold z0c; rw [h]; rfl
theorem zil {id : Idv} {t : T} : (z0c id t).2 = false ↔ z26 id t = [] := by
 constructor
 ·intro h
  by_cases h2 : z26 id t = []
  ·exact h2
  ·rw [zwy h2] at h; cases h
 ·intro h; rw [zd6 h]
theorem z9a {id : Idv} {t : T} : (z0c id t).2 = true ↔ z26 id t ≠ [] := by
 rw [<- Bool.not_eq_false, zil]
theorem z2j {id : Idv} {t : T} (h : t.id = id) : z0c id t = (t, true) := by unfold z0c; rw [z3d h]; rfl
theorem z35 {id : Idv} {t k : T} (h : z26 id t = t :: z26 id k) (h2 : z26 id k ≠ []) : z0c id t = z0c id k := by
 unfold z0c
 rw [h, List.getLast?_cons_of_ne_nil h2]
end Tr
namespace Tr
theorem zop {id : Idv} {t : T} (h : (z26 id t).length < 2) : z5e id t = (Idv.zero, -1, false) := by unfold z5e; exact dif_pos h
theorem zim {id : Idv} {t : T} (h : t.id = id) : z5e id t = (Idv.zero, -1, false) := zop (by rw [z3d h]; simp)
theorem zin {id : Idv} {t : T} {i : Nat} (h0 : ¬ t.id = id) (hi : i < t.kids.length) (h1 : ∀ j, (hj : j < i) -> (h : j < t.kids.length) -> z26 id t.kids[j] = []) (h2 : t.kids[i].id = id) : z5e id t = (t.id, (i : Int), true) := by
 have hw := z3d h2
 have hw2 := z48 h0 hi h1 (by rw [hw]; simp)
 rw [hw] at hw2
 have hn : z89 (fun k => !(z26 id k).isEmpty) t.kids = i := zb7 (by omega) (fun j hj => by rw [h1 j hj (by omega)]; rfl) (fun h => by rw [hw]; rfl)
 unfold z5e
 simp only [hw2, List.length_cons, List.length_nil]
 rw [dif_neg (by omega)]
 simp only [show 0 + 1 + 1 - 2 = 0 from rfl, List.getElem_cons_zero, hn, hi, if_true]
theorem zs9 {id : Idv} {t : T} {i : Nat} (h0 : ¬ t.id = id) (hi : i < t.kids.length) (h1 : ∀ j, (hj : j < i) -> (h : j < t.kids.length) -> z26 id t.kids[j] = []) (h2 : ¬ t.kids[i].id = id) (h3 : z26 id t.kids[i] ≠ []) : z5e id t = z5e id t.kids[i] := by
 have hw2 := z48 h0 hi h1 h3
 have hl : 2 <= (z26 id t.kids[i]).length := by
  rw [z8n, if_neg h2] at h3 ⊢
  split
  ·rename_i w hw
   have := List.find?_some hw
   cases w with
   | nil => simp at this
   | cons a w => simp
  ·rename_i hw; rw [hw] at h3; exact (h3 rfl).elim
 unfold z5e
 simp only [hw2, List.length_cons]
 rw [dif_neg (by omega), dif_neg (by omega)]
 have e : (z26 id t.kids[i]).length + 1 - 2 = (z26 id t.kids[i]).length - 2 + 1 := by omega
 simp only [e, List.getElem_cons_succ]
theorem ze2 {id : Idv} {t : T} (h : t.id = id) : zi0 id t = [] := by unfold zi0; rw [z3d h]; rfl
theorem zmy {id : Idv} {t : T} {i : Nat} (h0 : ¬ t.id = id) (hi : i < t.kids.length) (h1 : ∀ j, (hj : j < i) -> (h : j < t.kids.length) -> z26 id t.kids[j] = []) (h3 : z26 id t.kids[i] ≠ []) : zi0 id t = zi0 id t.kids[i] ++ [t.id] := by
 unfold zi0
 rw [z48 h0 hi h1 h3, List.dropLast_cons_of_ne_nil h3, List.map_cons, List.reverse_cons]
end Tr
theorem zi2 (a b : List Wd) (ha : a.length <= maxLen) (hb : b.length <= maxLen) : PC Tryz.prog 292 [z0s a, z0s b] (.bool (decide (a = b))) := by
 unfold maxLen at ha hb
 refine z1y 1 (by simp only [pureD.pureL, z13, Bool.and_self]) rfl (z1v [] Tryz.func292 rfl (by decide +kernel) z0i (by decide +kernel) (by simp [Tryz.ntmps292]) ?_)
 show awp _ _ (Code.seq _ _) _ _
 repeat' (first | refine zqj ?_ | ((refine zqh fun K J => ?_); (simp (disch := omega) only [go_sem, Nat.reduceBEq, ↓reduceIte, z0s])) | ((refine zqd _ rfl (fun hc => ?_) (fun hc => ?_)) <;> (((try simp only [z01] at hc); (try (exfalso; omega))))) | refine zqa ?_ | refine zqb ?_ | refine zqg ?_ | refine zqu (by (simp (disch := omega) only [go_sem]); rfl) rfl ?_ | (refine J _ ?_; clear J K))
 ·exact z00 (decide_eq_false (fun h => by subst h; contradiction)).symm
 ·have hl : a.length = b.length := by omega
  (refine z3h (fun U st => ∃ (k : _), U = a.length - k /\ st.t 0 = z0s a /\ st.t 1 = z0s b /\ st.t 11 = z0s a /\ st.t 12 = .int .i64 a.length /\ st.t 13 = .int .i64 k /\ (k <= a.length) /\ (a.take k = b.take k)) ?_ ?_); rotate_left; (rintro U st ⟨k, rfl, q0, q1, q11, q12, q13, qp0, qp1⟩); rotate_left
  ·(refine ⟨_, 0, rfl, ?_⟩); (simp (disch := omega) only [go_sem, Nat.reduceBEq, and_self, Int.natCast_zero, z0s])
   try simp
  repeat' (first | ((first | refine zqh fun K J => ?_ | refine zqe (by decide +kernel) fun K J => ?_ | refine zqr fun K J => ?_); (simp (disch := omega) only [go_sem, Nat.reduceBEq, ↓reduceIte, reduceCtorEq, Nat.reduceAdd, q0, q1, q12, q13, z0s])) | ((first | refine zqd _ rfl (fun hc => ?_) (fun hc => ?_) | refine zqm _ rfl (fun hc => ?_) (fun hc => ?_)) <;> (((try simp only [z01] at hc); (try (exfalso; omega))))) | refine zqa ?_ | refine zqb ?_ | refine zqc ?_ | refine zqk ?_ | refine zqn ?_ | refine zqv ?_ | refine zqx ?_ | refine zqy ?_ | refine zqz ?_ | refine z23 ?_ | refine zqp ?_ | refine zqo ?_ | refine zqu (by (simp (disch := omega) only [go_sem]); rfl) rfl ?_ | (refine J _ ?_; clear J K))
  ·exact z00 (decide_eq_false (zik (k := k) (by omega) hl (by assumption))).symm
  ·(refine Exists.intro _ (And.intro ?_ ⟨k + 1, rfl, ?_⟩)); rotate_left; (simp (disch := omega) only [go_sem, Nat.reduceBEq, q0, q1, q11, q12, q13, true_and, Int.natCast_add, Int.natCast_one, z0s]); rotate_left
   ·omega
   ·exact ⟨by omega, z5h (by omega) hl qp1 (by assumption)⟩
  ·exact z00 (decide_eq_true (z7d (by omega) hl qp1)).symm
theorem zgw (a b : List T) (ha : a.length <= maxLen) (hb : b.length <= maxLen) {g : FuncId} {cap : List D} (hc : pureD.pureL cap = true) (hp : ∀ x ∈ a, ∀ y ∈ b, PC Tryz.prog g (z25 x :: z25 y :: cap) (.bool (decide (x = y)))) :
  PC Tryz.prog 293 [z10 a, z10 b, .fn g cap] (.bool (decide (a = b))) := by
 unfold maxLen at ha hb
 refine z1y 1 (by simp only [pureD.pureL, pureD, z36, hc, Bool.and_self]) rfl (z1v [] Tryz.func293 rfl (by decide +kernel) z0i (by decide +kernel) (by simp [Tryz.ntmps293]) ?_)
 show awp _ _ (Code.seq _ _) _ _
 repeat' (first | refine zqj ?_ | ((refine zqh fun K J => ?_); (simp (disch := omega) only [go_sem, Nat.reduceBEq, ↓reduceIte, z10])) | ((refine zqd _ rfl (fun hc => ?_) (fun hc => ?_)) <;> (((try simp only [z01] at hc); (try (exfalso; omega))))) | refine zqa ?_ | refine zqb ?_ | refine zqg ?_ | refine zqu (by (simp (disch := omega) only [go_sem]); rfl) rfl ?_ | (refine J _ ?_; clear J K))
 ·exact z00 (decide_eq_false (fun h => by subst h; contradiction)).symm
 ·have hl : a.length = b.length := by omega
  (refine z3h (fun U st => ∃ (k : _), U = a.length - k /\ st.t 0 = z10 a /\ st.t 1 = z10 b /\ st.t 2 = .fn g cap /\ st.t 15 = z10 a /\ st.t 16 = .int .i64 a.length /\ st.t 17 = .int .i64 k /\ (k <= a.length) /\ (a.take k = b.take k)) ?_ ?_); rotate_left; (rintro U st ⟨k, rfl, q0, q1, q2, q15, q16, q17, qp0, qp1⟩); rotate_left
  ·(refine ⟨_, 0, rfl, ?_⟩); (simp (disch := omega) only [go_sem, Nat.reduceBEq, and_self, Int.natCast_zero, z10])
   try simp
  by_cases O : k < a.length
  ·have hp := hp a[k] (List.getElem_mem O) b[k] (List.getElem_mem (by omega))
   repeat' (first | ((first | refine zqh fun K J => ?_ | refine zqr fun K J => ?_ | refine zqs (hp) ?_); (simp (disch := omega) only [go_sem, Nat.reduceBEq, ↓reduceIte, reduceCtorEq, Nat.reduceAdd, Nat.reduceLeDiff, q1, q2, q15, q16, q17, z10])) | ((first | refine zqd _ rfl (fun hc => ?_) (fun hc => ?_) | refine zqm _ rfl (fun hc => ?_) (fun hc => ?_)) <;> (((try simp only [z01] at hc); (try (exfalso; omega))))) | refine zqa ?_ | refine zqb ?_ | refine zqk ?_ | refine zqn ?_ | refine zqv ?_ | refine zqx ?_ | refine zqy ?_ | refine z23 ?_ | refine zqo ?_ | refine zqu (by (simp (disch := omega) only [go_sem]); rfl) rfl ?_ | (refine J _ ?_; clear J K))
   ·exact z00 (decide_eq_false (zik (k := k) (by omega) hl (by assumption))).symm
   ·(refine Exists.intro _ (And.intro ?_ ⟨k + 1, rfl, ?_⟩)); rotate_left; (simp (disch := omega) only [go_sem, Nat.reduceBEq, q0, q1, q2, q15, q16, q17, true_and, Int.natCast_add, Int.natCast_one, z10]); rotate_left
    ·omega
    ·exact ⟨by omega, z5h (by omega) hl qp1 (by assumption)⟩
  ·repeat' (first | ((refine zqh fun K J => ?_); (simp (disch := omega) only [go_sem, ↓reduceIte, q16, q17])) | ((refine zqd _ rfl (fun hc => ?_) (fun hc => ?_)) <;> (((try simp only [z01] at hc); (try (exfalso; omega))))) | refine zqc ?_ | refine zqn ?_ | refine zqv ?_ | refine zqz ?_ | refine zqp ?_ | refine zqu (by (simp (disch := omega) only [go_sem]); rfl) rfl ?_ | (refine J _ ?_; clear J K))
   exact z00 (decide_eq_true (z7d (by omega) hl qp1)).symm
theorem zwh : ∀ a : T, szB a = true -> ∀ b : T, szB b = true -> PC Tryz.prog 235 [z25 a, z25 b] (.bool (decide (a = b))) := by
 refine z55 fun a ih hs b hb => ?_
 obtain ⟨a0, a1, _, a2, _, a3, a4⟩ := (z2e a).1 hs
 obtain ⟨b0, b1, _, b2, _, b3, b4⟩ := (z2e b).1 hb
 have r1 := zi2 a.head b.head (by unfold maxLen; omega) (by unfold maxLen; omega)
 have r2 := zi2 a.words b.words (by unfold maxLen; omega) (by unfold maxLen; omega)
 have r3 := zgw a.kids b.kids (by unfold maxLen; omega) (by unfold maxLen; omega) (g := 235) (cap := []) rfl (fun x hx y hy => ih x hx (a4 x hx) y (b4 y hy))
 refine z1y 1 (by simp only [pureD.pureL, z05, Bool.and_self]) rfl (z1v [] Tryz.func235 rfl (by decide +kernel) z0i (by decide +kernel) (by simp [Tryz.ntmps235]) ?_)
 show awp _ _ (Code.seq _ _) _ _
 repeat' (first | ((first | refine zqh fun K J => ?_ | refine zqs (r1) ?_ | refine zqs (r2) ?_ | refine zqs (r3) ?_); (simp (disch := omega) only [go_sem, Nat.reduceBEq, ↓reduceIte, reduceCtorEq, Nat.reduceAdd, Nat.reduceLeDiff])) | refine zqn ?_ | refine zqu (by (simp (disch := omega) only [go_sem]); rfl) rfl ?_ | (refine J _ ?_; clear J K) | (refine zqf (fun hb => ?_) (fun hb => ?_) <;> (have hb2 := hb; try simp only [z01] at hb2) <;> ((first | have F := eq_false hb2 | have F := eq_true hb2); (simp (disch := omega) only [go_sem, Nat.reduceBEq, ↓reduceIte, reduceCtorEq, Nat.reduceAdd, F]); clear hb F; (try (exfalso; omega)))))
 all_goals first | exact z00 (decide_eq_false (fun h => by subst h; contradiction)).symm | skip
 refine z00 (decide_eq_decide.2 ⟨fun O => ?_, fun h => congrArg T.kids h⟩)
 rw [<- T.eta a, <- T.eta b, ‹a.id = b.id›, ‹a.kind = b.kind›, ‹a.label = b.label›, ‹a.head = b.head›, ‹a.words = b.words›, O]
end
section
open Abs Facts Tr Go.RowKit
namespace Abs
theorem ze9 : ∀ (vs a b : List D) (off : Nat), off + vs.length <= a.length -> z11 (a ++ b) off vs = z11 a off vs ++ b
 | [], a, b, off, _ => rfl
 | v :: vs, a, b, off, h => by
  simp only [List.length_cons] at h
  unfold z11
  rw [List.set_append_left _ _ (by omega), ze9 vs (a.set off v) b (off + 1) (by rw [List.length_set]; omega)]
theorem za0 : ∀ (vs a b : List D) (off : Nat), z11 (a ++ b) (a.length + off) vs = a ++ z11 b off vs
 | [], a, b, off => rfl
 | v :: vs, a, b, off => by
  unfold z11
  rw [List.set_append_right _ _ (by omega), show a.length + off - a.length = off from by omega, Nat.add_assoc, za0 vs a (b.set off v) (off + 1)]
section
variable {α : Type} {f : α -> List D} {sz : Nat}
theorem z9c (h : ∀ x, (f x).length = sz) : ∀ l : List α, (l.flatMap f).length = l.length * sz
 | [] => by simp
 | x :: l => by rw [List.flatMap_cons, List.length_append, h, z9c h l, List.length_cons, Nat.add_mul]; omega
theorem zea (h : ∀ x, (f x).length = sz) : ∀ (l : List α) (i : Nat), (l.flatMap f).drop (i * sz) = (l.drop i).flatMap f
 | l, 0 => by simp
 | [], i + 1 => by simp
 | x :: l, i + 1 => by
  rw [List.flatMap_cons, List.drop_succ_cons, <- zea h l i, Nat.add_mul, Nat.one_mul, Nat.add_comm, <- List.drop_drop]
  congr 1
  rw [List.drop_append_of_le_length (by rw [h]; omega), List.drop_of_length_le (by rw [h]; omega), List.nil_append]
theorem zt9 (h : ∀ x, (f x).length = sz) {l : List α} {i : Nat} (hi : i < l.length) : ((l.flatMap f).drop (i * sz)).take sz = f l[i] := by
 rw [zea h, List.drop_eq_getElem_cons hi, List.flatMap_cons, List.take_append_of_le_length (by rw [h]; omega), List.take_of_length_le (by rw [h]; omega)]
theorem zeb (h : ∀ x, (f x).length = sz) {y : α} {vs : List D} {o : Nat} : ∀ {l : List α} {i : Nat} (hi : i < l.length), o + vs.length <= sz -> z11 (f l[i]) o vs = f y -> z11 (l.flatMap f) (i * sz + o) vs = (l.set i y).flatMap f
 | x :: l, 0, _, ho, hs => by
  rw [Nat.zero_mul, Nat.zero_add, List.flatMap_cons, ze9 _ _ _ _ (by rw [h]; exact ho), List.set_cons_zero, List.flatMap_cons]
  simp only [List.getElem_cons_zero] at hs
  rw [hs]
 | x :: l, i + 1, hi, ho, hs => by
  rw [List.flatMap_cons, show (i + 1) * sz + o = (f x).length + (i * sz + o) from by rw [h, Nat.add_mul]; omega, za0, List.set_cons_succ, List.flatMap_cons]
  rw [zeb h (l := l) (i := i) (by simpa using hi) ho (by simpa using hs)]
theorem z24 : ∀ (vs cs : List D), vs.length = cs.length -> z11 cs 0 vs = vs := by
 intro vs cs h
 rw [z94 vs cs 0 (by omega)]
 simp [<- h]
theorem zj7 (h : ∀ x, (f x).length = sz) {y : α} {l : List α} {i : Nat} (hi : i < l.length) : z11 (l.flatMap f) (i * sz) (f y) = (l.set i y).flatMap f := by
 have := zeb h (y := y) (vs := f y) (o := 0) hi (by rw [h]; omega) (z24 _ _ (by rw [h, h]))
 simpa using this
end
variable {P : Program}
theorem z4b {α : Type} {P : Program} {H : HM} {id e sz n : Nat} {f : α -> List D} {l : List α} (k : Nat) (hn : l.length = n) (hH : H id = some (.row e n (l.flatMap f))) (ha : z04 P e = true) (hs : z02 P e = sz) (h : ∀ x, (f x).length = sz) (hp : ∀ x, pureD.pureL (f x) = true) :
  z34 P H (k + 2) (.osl id n) = some (.rsl false sz (l.map fun x => .agg (f x))) := by
 subst hn
 exact z2w k hH ha hs h hp
theorem zta {f : FuncId} {ds : List D} {H : HM} {nx : Nat} {K : D -> HM -> Nat -> Prop} (e : TypeId) (h : AC P f ds H nx fun r H' nx' => r = .nil /\ K (.osl nx' 0) (z1f H' nx' (some (.row e 0 []))) (nx' + 1)) : AC P f ds H nx K := by
 refine ⟨h.1, fun s w vs h1 h2 h3 h4 => (h.2 s w vs h1 h2 h3 h4).mono fun x w' ⟨v, r, s', he, ⟨hr, J⟩, hstep, hRH, hrel⟩ => ?_⟩
 subst hr
 simp only [rel] at hrel
 subst hrel
 obtain ⟨g1, g2⟩ := z5b hRH (Grew.refl w') (.row e 0 []) (.slice none 0 0) (fun b hb => by cases hb) ⟨[], ⟨by simp, .inl ⟨rfl, rfl⟩⟩, z0q, by intro v hv; cases hv⟩
 refine ⟨.slice none 0 0, .osl s'.nx 0, s'.add (.slice none 0 0) (.row e 0 []), he, J, hstep.trans g1, g2, ?_⟩
 simp only [rel]
 refine ⟨Nat.lt_succ_self _, ⟨none, 0, rfl⟩, fun e' k cs hH => ?_⟩
 simp only [RS.add, z1f, if_true, Option.some.injEq, HObj.row.injEq] at hH
 obtain ⟨_, rfl, _⟩ := hH
 exact ⟨Nat.le_refl _, fun _ => by simp [RS.add]⟩
theorem zoy {st : St} {b off : Nat} {e : TypeId} {cs : List D} (e' : TypeId) (hb : st.H b = some (.box e cs)) (hoff : cs[off]? = some .nil) :
  SealTo P st { st with H := z1f (z1f st.H st.nx (some (.row e' 0 []))) b (some (.box e (cs.set off (.osl st.nx 0)))), nx := st.nx + 1 } := by
 intro N s a w hf
 have hHb : s.H b = some (.box e cs) := by rw [hf.H]; exact hb
 have hne : b ≠ s.nx := by have := (hf.heap.obj b _ hHb).1; omega
 obtain ⟨g1, g2⟩ := z5b hf.heap (Grew.refl w) (.row e' 0 []) (.slice none 0 0) (fun b hb => by cases hb) ⟨[], ⟨by simp, .inl ⟨rfl, rfl⟩⟩, z0q, by intro v hv; cases hv⟩
 have hb2 : (s.add (.slice none 0 0) (.row e' 0 [])).H b = some (.box e cs) := by simp [RS.add, z1f, hne, hHb]
 obtain ⟨_, q2⟩ := g2.obj b _ hb2
 obtain ⟨g3, g4⟩ := zab (w' := w) g2 b _ (.box e (cs.set off (.osl s.nx 0))) ((s.add (.slice none 0 0) (.row e' 0 [])).κ b) hb2 rfl rfl rfl (Nat.le_refl _) (fun _ _ _ => rfl) (.inr ⟨_, rfl, rfl⟩) (fun b hb => .inl hb) (fun hl => by
  obtain ⟨b', vs, u1, u2, u3, u4⟩ := q2
  refine ⟨b', vs, u1, u2, ?_, u4⟩
  have hlen := z06 u3
  refine z4j (by rw [List.length_set]; exact hlen) fun i d v V hv => ?_
  rw [List.getElem?_set] at V
  split at V
  ·rename_i hio
   subst hio
   split at V
   ·cases V
    obtain ⟨v', hv', hr⟩ := z29 u3 _ _ hoff
    rw [hv'] at hv
    cases hv
    simp only [rel] at hr ⊢
    subst hr
    refine ⟨by simp [RS.set, RS.add], ⟨_, _, rfl⟩, fun e2 k cs hH => ⟨Nat.zero_le _, fun _ => ?_⟩⟩
    simp only [RS.set, RS.add]
    rw [if_neg (fun h => hne h.symm)]
    simp
   ·cases V
  ·obtain ⟨v', hv', hr⟩ := z29 u3 _ _ V
   rw [hv'] at hv
   cases hv
   exact rel.later hl _ _ hr)
 refine ⟨_, ⟨?_, ?_, hf.size, hf.defers, fun i => rel.later (g1.trans g3).later _ _ (hf.tmps i), g4⟩, g1.trans g3⟩
 ·simp only [RS.set, RS.add, hf.H, hf.nx]
 ·simp only [RS.set, RS.add, hf.nx]
theorem z03 {N id : Nat} {l : List Oper} {b : Code} {own : List Nat} {Q : Exit -> St -> Prop} {st : St} (_hid : (id == N) = false) (h : ∀ K : St -> Prop, (∀ st, awp P own b Q st -> K st) -> z2b P own (l.map (·.dst)) l K st) : awp P own (.seq (.region id l.toArray false) b) Q st := zqh h
theorem z12 {N id : Nat} {l : List Oper} {b : Code} {own : List Nat} {Q : Exit -> St -> Prop} {st : St} (_hid : (id == N) = false) (h0 : zgl own l.toArray = true) (h : ∀ K : St -> Prop, (∀ st, awp P own b Q st -> K st) -> z2s P own (l.map (·.dst)) l K st) : awp P own (.seq (.region id l.toArray true) b) Q st := zqe h0 h
end Abs
end
section
open Abs Facts Tr
attribute [local irreducible] awp
namespace Tr
def zfl (w : Wd) : Wd := ⟨w.text, Idv.zero⟩
def z6b (t : T) : T := zec (fun t l => .mk Idv.zero t.kind t.label (t.head.map zfl) (t.words.map zfl) l) t
theorem zir (t : T) : z6b t = .mk Idv.zero t.kind t.label (t.head.map zfl) (t.words.map zfl) (t.kids.map z6b) := by unfold z6b; rw [z39]
theorem zx0 : ∀ t : T, szB t = true -> szB (z6b t) = true := by
 refine z55 fun t ih h => ?_
 obtain ⟨h0, h1, h2, h3, h4, h5, h6⟩ := (z2e t).1 h
 rw [zir, z2e]
 refine ⟨h0, (show (t.head.map zfl).length <= _ by simpa using h1), fun w hw => ?_, (show (t.words.map zfl).length <= _ by simpa using h3), fun w hw => ?_, (show (t.kids.map z6b).length <= _ by simpa using h5), fun k O => ?_⟩
 ·obtain ⟨x, hx, rfl⟩ := List.mem_map.1 hw; exact h2 x hx
 ·obtain ⟨x, hx, rfl⟩ := List.mem_map.1 hw; exact h4 x hx
 ·obtain ⟨x, hx, rfl⟩ := List.mem_map.1 O; exact ih x hx (h6 x hx)
end Tr
theorem zsh : ∀ t : T, szB t = true -> PC Tryz.prog 158 [z25 t] (z25 (z6b t)) := by
 refine z55 fun t ih hs => ?_
 obtain ⟨h0, h1, g1, h2, g2, h3, h4⟩ := (z2e t).1 hs
 have b1 : PC Tryz.prog 248 [z0s t.head] (z0s (t.head.map zfl)) := zmx t.head h1
 have b2 : PC Tryz.prog 248 [z0s t.words] (z0s (t.words.map zfl)) := zmx t.words h2
 rw [zir]
 refine z1y 4 (by simp only [pureD.pureL, z05, Bool.and_self]) (z05 _) (z1v [3000006, 3000008, 3000010, 5000011, 3000013, 5000014] Tryz.func158 rfl (by decide +kernel) z0i (by decide +kernel) (by simp [Tryz.ntmps158]) ?_)
 show awp _ _ (Code.seq _ _) _ _
 rw [show Tryz.f158.results.toList = [.cell 2 27] from rfl]
 repeat' (first | refine zqj ?_ | ((first | refine z03 (N := 2) rfl fun K J => ?_ | refine z12 (N := 2) rfl (by decide +kernel) fun K J => ?_ | refine zqt (b1) ?_ | refine zqt (b2) ?_); (simp (disch := omega) only [go_sem, Nat.reduceBEq, Nat.reduceEqDiff, ↓reduceIte, reduceCtorEq, Nat.reduceAdd, Nat.reduceLeDiff, z0s])) | (refine J _ ?_; clear J K))
 refine z3g fun K J => ?_
 (simp (disch := omega) only [go_sem])
 refine J _ _ (zoy (b := 2) (off := 7) (e := 27) 27 (by (simp (disch := omega) only [go_sem, Nat.reduceBEq]); rfl) rfl) ?_
 clear J K
 repeat' (refine zqa ?_)
 (refine z3h (fun U st => ∃ (i : _), U = t.kids.length - i /\ st.t 1 = .ptr 0 0 /\ st.t 2 = .ptr 1 0 /\ st.t 3 = .ptr 2 0 /\ st.t 4 = .int .i64 i /\ st.H 0 = some (.box 27 (z07 t)) /\ st.H 1 = some (.box 27 [.int .i64 0, .int .i64 0, .int .i64 0, .int .i64 0, .str ByteArray.empty, .nil, .nil, .nil]) /\ st.H 2 = some (.box 27 [.int .i64 0, .int .i64 0, .int .i64 0, .int .i64 t.kind, .str t.label, z0s (t.head.map zfl), z0s (t.words.map zfl), .osl 3 i]) /\ st.H 3 = some (.row 27 i (((t.kids.take i).map z6b).flatMap z07)) /\ (i <= t.kids.length) /\ (4 <= st.nx)) ?_ ?_); rotate_left; (rintro U st ⟨i, rfl, q1, q2, q3, q4, qH0, qH1, qH2, qH3, qp0, qp1⟩); rotate_left
 ·(refine ⟨_, 0, rfl, ?_⟩); (simp (disch := omega) only [go_sem, Nat.reduceBEq, Nat.reduceAdd, Nat.reduceLeDiff, and_self, Int.natCast_zero, List.flatMap_nil, List.map_nil, z0s, List.set_cons_succ, List.set_cons_zero])
 by_cases hi : i < t.kids.length
 ·have hin := ih t.kids[i] (List.getElem_mem hi) (h4 _ (List.getElem_mem hi))
  have htk := List.take_succ_eq_append_getElem hi
  repeat' (first | refine zqj ?_ | ((first | refine zqh fun K J => ?_ | refine zqr fun K J => ?_ | refine zqq (by decide +kernel) fun K J => ?_ | refine zqt (hin) ?_); (simp (disch := omega) only [go_sem, Nat.reduceBEq, Nat.reduceEqDiff, ↓reduceIte, reduceCtorEq, Nat.reduceAdd, Nat.reduceMul, Nat.reduceLeDiff, Nat.reduceLT, q1, q3, q4, qH0, qH2, qH3, z10])) | ((refine zqd _ rfl (fun hc => ?_) (fun hc => ?_)) <;> (((try simp only [z01] at hc); (try (exfalso; omega))))) | refine zqa ?_ | refine zqb ?_ | refine zqv ?_ | refine zqy ?_ | (refine J _ ?_; clear J K))
  (refine Exists.intro _ (And.intro ?_ ⟨i + 1, rfl, ?_⟩)); rotate_left; (simp (disch := omega) only [go_sem, Nat.reduceBEq, q1, q2, q3, q4, qH0, qH1, qH2, qH3, true_and, Int.natCast_add, Int.natCast_one, List.flatMap_append, List.flatMap_cons, List.flatMap_nil, List.map_append, List.map_cons, List.map_nil, List.append_nil, htk]); rotate_left
  ·omega
  ·omega
 ·repeat' (first | refine zqj ?_ | ((refine zqh fun K J => ?_); (simp (disch := omega) only [go_sem, Nat.reduceBEq, ↓reduceIte, reduceCtorEq, Nat.reduceAdd, Nat.reduceLeDiff, q1, q2, q3, q4, qH0, qH1, qH2, z10])) | ((refine zqd _ rfl (fun hc => ?_) (fun hc => ?_)) <;> (((try simp only [z01] at hc); (try (exfalso; omega))))) | refine zqc ?_ | refine zqn ?_ | refine zqv ?_ | refine zqz ?_ | refine zqp ?_ | refine zqu (by (simp (disch := omega) only [go_sem, Nat.reduceBEq, ↓reduceIte, Nat.reduceAdd, Nat.reduceLeDiff, q2, qH1]); rfl) rfl ?_ | (refine J _ ?_; clear J K))
  have hi2 : i = t.kids.length := by omega
  subst hi2
  rw [List.take_length] at qH3
  rw [z25, z1p]
  have hlen : t.kids.length = (t.kids.map z6b).length := by simp
  refine z6u (ze6 (k := 3) (by simp [pureD.pureL, pureD]) ?_)
  refine z0u (z0w 2 rfl) (z0u (z0w 2 rfl) (z0u (z0w 2 rfl) (z0u (z0w 2 rfl) (z0u (z0w 2 rfl) (z0u (z0w 2 (z13 _)) (z0u (z0w 2 (z13 _)) (z0u ?_ z7e)))))))
  rw [hlen]
  refine z2w (f := z07) (l := t.kids.map z6b) 1 ?_ z7o z6p z0v z1d
  (simp (disch := omega) only [go_sem, Nat.reduceBEq, qH3])
theorem z00h (t : T) (hs : szB t = true) (hc : cntT t <= 1000000000) (V : depT t <= 1000000000) : PC Tryz.prog 81 [z25 t] (.bool (z6z t && decide (t = z6b t))) := by
 have h1 := zzn t hs hc V
 have h2 := zsh t hs
 have h3 := zs8 t hs (z6b t) (zx0 t hs)
 refine z1y 1 (by simp only [pureD.pureL, z05, Bool.and_self]) rfl (z1v [] Tryz.func81 rfl (by decide +kernel) z0i (by decide +kernel) (by simp [Tryz.ntmps81]) ?_)
 show awp _ _ (Code.seq _ _) _ _
 repeat' (first | ((first | refine zqh fun K J => ?_ | refine zqe (by decide +kernel) fun K J => ?_ | refine zqt (h1) ?_ | refine zqt (h2) ?_ | refine zqt (h3) ?_); (simp (disch := omega) only [go_sem, Nat.reduceBEq, ↓reduceIte, Nat.reduceAdd, Nat.reduceLeDiff])) | refine zqn ?_ | refine zqu (by (simp (disch := omega) only [go_sem]); rfl) rfl ?_ | (refine J _ ?_; clear J K) | (refine zqf (fun hb => ?_) (fun hb => ?_) <;> (have hb2 := hb; try simp only [z01] at hb2) <;> ((have F : (_ : Bool) = _ := hb2); (simp (disch := omega) only [go_sem, Nat.reduceBEq, ↓reduceIte, Nat.reduceAdd, Nat.reduceLeDiff, hb]); clear hb F; (try (exfalso; omega)))))
 all_goals refine z00 ?_
 all_goals (simp (disch := omega) only [Bool.true_and, Bool.false_and, *])
namespace Tr
end Tr
end
section
open Abs Facts Tr
namespace Tr
structure Stp where
 kind : Int
 label : ByteArray
instance : DecidableEq Stp := fun a b => decidable_of_iff (a.kind = b.kind /\ a.label = b.label) ⟨fun ⟨h1, h2⟩ => by cases a; cases b; simp_all, fun h => by subst h; exact ⟨rfl, rfl⟩⟩
inductive It where
 | mk (kind : Int) (at_ to : List Stp) (wh nth : Int) (unit : T) (old new : List ByteArray) (label for_ : ByteArray) (sk sd : Int) (se : ByteArray) (act item day : Int) (event : ByteArray) (by_ : List It)
namespace It
def kind : It -> Int | .mk k _ _ _ _ _ _ _ _ _ _ _ _ _ _ _ _ _ => k
def at_ : It -> List Stp | .mk _ a _ _ _ _ _ _ _ _ _ _ _ _ _ _ _ _ => a
def to : It -> List Stp | .mk _ _ a _ _ _ _ _ _ _ _ _ _ _ _ _ _ _ => a
def wh : It -> Int | .mk _ _ _ a _ _ _ _ _ _ _ _ _ _ _ _ _ _ => a
def nth : It -> Int | .mk _ _ _ _ a _ _ _ _ _ _ _ _ _ _ _ _ _ => a
def unit : It -> T | .mk _ _ _ _ _ a _ _ _ _ _ _ _ _ _ _ _ _ => a
def old : It -> List ByteArray | .mk _ _ _ _ _ _ a _ _ _ _ _ _ _ _ _ _ _ => a
def new : It -> List ByteArray | .mk _ _ _ _ _ _ _ a _ _ _ _ _ _ _ _ _ _ => a
def label : It -> ByteArray | .mk _ _ _ _ _ _ _ _ a _ _ _ _ _ _ _ _ _ => a
def for_ : It -> ByteArray | .mk _ _ _ _ _ _ _ _ _ a _ _ _ _ _ _ _ _ => a
def sk : It -> Int | .mk _ _ _ _ _ _ _ _ _ _ a _ _ _ _ _ _ _ => a
def sd : It -> Int | .mk _ _ _ _ _ _ _ _ _ _ _ a _ _ _ _ _ _ => a
def se : It -> ByteArray | .mk _ _ _ _ _ _ _ _ _ _ _ _ a _ _ _ _ _ => a
def act : It -> Int | .mk _ _ _ _ _ _ _ _ _ _ _ _ _ a _ _ _ _ => a
def item : It -> Int | .mk _ _ _ _ _ _ _ _ _ _ _ _ _ _ a _ _ _ => a
def day : It -> Int | .mk _ _ _ _ _ _ _ _ _ _ _ _ _ _ _ a _ _ => a
def event : It -> ByteArray | .mk _ _ _ _ _ _ _ _ _ _ _ _ _ _ _ _ a _ => a
def by_ : It -> List It | .mk _ _ _ _ _ _ _ _ _ _ _ _ _ _ _ _ _ a => a
end It
mutual
theorem zm7 {p : It -> Prop} (h : ∀ t, (∀ k ∈ t.by_, p k) -> p t) : ∀ t, p t
 | .mk a0 a1 a2 a3 a4 a5 a6 a7 a8 a9 a10 a11 a12 a13 a14 a15 a16 ks => h (.mk a0 a1 a2 a3 a4 a5 a6 a7 a8 a9 a10 a11 a12 a13 a14 a15 a16 ks) (ind2I h ks)
theorem ind2I {p : It -> Prop} (h : ∀ t, (∀ k ∈ t.by_, p k) -> p t) : ∀ (ks : List It), ∀ k ∈ ks, p k
 | [], k, O => by cases O
 | t :: ts, k, O => by
  rcases List.mem_cons.1 O with e | O
  ·rw [e]; exact zm7 h t
  ·exact ind2I h ts k O
end
mutual
def zvr {β : Type} (f : It -> List β -> β) : It -> β
 | .mk a0 a1 a2 a3 a4 a5 a6 a7 a8 a9 a10 a11 a12 a13 a14 a15 a16 ks => f (.mk a0 a1 a2 a3 a4 a5 a6 a7 a8 a9 a10 a11 a12 a13 a14 a15 a16 ks) (zyo f ks)
def zyo {β : Type} (f : It -> List β -> β) : List It -> List β
 | [] => []
 | t :: ts => zvr f t :: zyo f ts
end
theorem znv {β : Type} (f : It -> List β -> β) : ∀ ks, zyo f ks = ks.map (zvr f)
 | [] => rfl
 | t :: ts => by simp [zyo, znv f ts]
theorem zc2 {β : Type} (f : It -> List β -> β) (t : It) : zvr f t = f t (t.by_.map (zvr f)) := by
 cases t
 rw [zvr, znv]; rfl
end Tr
namespace Abs
open Tr
def z3o (s : Stp) : List D := [.int .i64 s.kind, .str s.label]
def zc3 (s : Stp) : D := .agg (z3o s)
def z0a (l : List Stp) : D := .rsl false 2 (l.map zc3)
@[go_sem] theorem encSt_agg (s : Stp) : zc3 s = .agg [.int .i64 s.kind, .str s.label] := rfl
theorem z1e (l : List Stp) : pureD (z0a l) = true := by simp only [z0a, pureD]; exact z1l (fun _ => rfl) l
@[go_sem] theorem pureL_encSt (l : List Stp) : pureD.pureL (l.map zc3) = true := z1l (fun _ => rfl) l
def znw (x : It) (ks : List (List D)) : List D := .int .i64 x.kind :: z0a x.at_ :: z0a x.to :: .int .i64 x.wh :: .int .i64 x.nth :: (z07 x.unit ++ [z3b x.old, z3b x.new, .str x.label, .str x.for_, .int .i64 x.sk, .int .i64 x.sd, .str x.se, .int .i64 x.act, .int .i64 x.item, .int .i64 x.day, .str x.event, .rsl false 25 (ks.map .agg)])
def z0f (x : It) : List D := zvr znw x
def z8u (x : It) : D := .agg (z0f x)
def z2i (l : List It) : D := .rsl false 25 (l.map z8u)
theorem zey (x : It) : z0f x = .int .i64 x.kind :: z0a x.at_ :: z0a x.to :: .int .i64 x.wh :: .int .i64 x.nth :: (z07 x.unit ++ [z3b x.old, z3b x.new, .str x.label, .str x.for_, .int .i64 x.sk, .int .i64 x.sd, .str x.se, .int .i64 x.act, .int .i64 x.item, .int .i64 x.day, .str x.event, z2i x.by_]) := by
 unfold z0f
 rw [zc2, znw, List.map_map]; rfl
theorem z0b (x : It) : z0f x = [.int .i64 x.kind, z0a x.at_, z0a x.to, .int .i64 x.wh, .int .i64 x.nth, .int .i64 x.unit.id.act, .int .i64 x.unit.id.item, .int .i64 x.unit.id.n, .int .i64 x.unit.kind, .str x.unit.label, z0s x.unit.head, z0s x.unit.words, z10 x.unit.kids,
  z3b x.old, z3b x.new, .str x.label, .str x.for_, .int .i64 x.sk, .int .i64 x.sd, .str x.se, .int .i64 x.act, .int .i64 x.item, .int .i64 x.day, .str x.event, z2i x.by_] := by
 rw [zey, z1p]; rfl
@[go_sem] theorem encIt_agg (x : It) : z8u x = .agg (z0f x) := rfl
@[go_sem] theorem z9o (x : It) : (z0f x).length = 25 := by rw [z0b]; rfl
@[go_sem] theorem zkg (x : It) : (z0f x)[0]? = some (.int .i64 x.kind) := by rw [z0b]; rfl
@[go_sem] theorem zq4 (x : It) : (z0f x)[1]? = some (z0a x.at_) := by rw [z0b]; rfl
@[go_sem] theorem zq5 (x : It) : (z0f x)[2]? = some (z0a x.to) := by rw [z0b]; rfl
@[go_sem] theorem zq6 (x : It) : (z0f x)[3]? = some (.int .i64 x.wh) := by rw [z0b]; rfl
@[go_sem] theorem zm8 (x : It) : (z0f x)[4]? = some (.int .i64 x.nth) := by rw [z0b]; rfl
@[go_sem] theorem zm9 (x : It) : (z0f x)[13]? = some (z3b x.old) := by rw [z0b]; rfl
@[go_sem] theorem zma (x : It) : (z0f x)[14]? = some (z3b x.new) := by rw [z0b]; rfl
@[go_sem] theorem zhp (x : It) : (z0f x)[15]? = some (.str x.label) := by rw [z0b]; rfl
@[go_sem] theorem zmb (x : It) : (z0f x)[16]? = some (.str x.for_) := by rw [z0b]; rfl
@[go_sem] theorem zq7 (x : It) : (z0f x)[17]? = some (.int .i64 x.sk) := by rw [z0b]; rfl
@[go_sem] theorem zq8 (x : It) : (z0f x)[18]? = some (.int .i64 x.sd) := by rw [z0b]; rfl
@[go_sem] theorem zq9 (x : It) : (z0f x)[19]? = some (.str x.se) := by rw [z0b]; rfl
@[go_sem] theorem zmc (x : It) : (z0f x)[20]? = some (.int .i64 x.act) := by rw [z0b]; rfl
@[go_sem] theorem zkh (x : It) : (z0f x)[21]? = some (.int .i64 x.item) := by rw [z0b]; rfl
@[go_sem] theorem zmd (x : It) : (z0f x)[22]? = some (.int .i64 x.day) := by rw [z0b]; rfl
@[go_sem] theorem zhq (x : It) : (z0f x)[23]? = some (.str x.event) := by rw [z0b]; rfl
@[go_sem] theorem zr0 (x : It) : (z0f x)[24]? = some (z2i x.by_) := by rw [z0b]; rfl
@[go_sem] theorem zki (x : It) : List.take 8 (List.drop 5 (z0f x)) = z07 x.unit := by rw [z0b, z1p]; rfl
@[go_sem] theorem zyp (x : It) : List.take 3 (List.drop 17 (z0f x)) = [.int .i64 x.sk, .int .i64 x.sd, .str x.se] := by rw [z0b]; rfl
@[go_sem] theorem zkj (x : It) : List.take 25 (z0f x) = z0f x := List.take_of_length_le (by rw [z9o]; decide)
theorem z8v : ∀ x, pureD.pureL (z0f x) = true := by
 refine zm7 fun x ih => ?_
 rw [z0b]
 have O : pureD (z2i x.by_) = true := by
  simp only [z2i, pureD]
  generalize x.by_ = l at ih ⊢
  induction l with
  | nil => rfl
  | cons t l ih2 =>
   simp only [List.map_cons, pureD.pureL, Bool.and_eq_true]
   exact ⟨by simpa only [z8u, pureD] using ih t (by simp), ih2 fun k O => ih k (List.mem_cons_of_mem _ O)⟩
 simp only [pureD.pureL, pureD, z1e, z13, z36, z31, O, Bool.and_self]
theorem z2v (x : It) : pureD (z8u x) = true := z8v x
theorem zez (l : List It) : pureD (z2i l) = true := by simp only [z2i, pureD]; exact z1l z2v l
attribute [go_sem] z8v
end Abs
namespace Tr
structure EIt where
 act : Int
 item : Int
 day : Int
 it : It
end Tr
namespace Abs
def z0t (d : EIt) : List D := .int .i64 d.act :: .int .i64 d.item :: .int .i64 d.day :: z0f d.it
def zf0 (d : EIt) : D := .agg (z0t d)
@[go_sem] theorem encEi_agg (d : EIt) : zf0 d = .agg (z0t d) := rfl
@[go_sem] theorem zft (d : EIt) : (z0t d).length = 28 := by unfold z0t; simp only [List.length_cons, z9o]
@[go_sem] theorem cellsEi_act (d : EIt) : (z0t d)[0]? = some (.int .i64 d.act) := rfl
@[go_sem] theorem zzo (d : EIt) : (z0t d)[1]? = some (.int .i64 d.item) := rfl
@[go_sem] theorem cellsEi_it (d : EIt) : List.take 25 (List.drop 3 (z0t d)) = z0f d.it := by
 show List.take 25 (z0f d.it) = _
 rw [zkj]
@[go_sem] theorem zzp (d : EIt) : List.take 28 (z0t d) = z0t d := List.take_of_length_le (by rw [zft]; decide)
theorem zcp (d : EIt) : pureD.pureL (z0t d) = true := by unfold z0t; simp only [pureD.pureL, pureD, z8v, Bool.and_self]
theorem z51 (d : EIt) : pureD (zf0 d) = true := zcp d
attribute [go_sem] zcp
@[go_sem] theorem zyq (d : EIt) : (z0t d)[3]? = some (.int .i64 d.it.kind) := by unfold z0t; simp only [List.getElem?_cons_succ, zkg]
@[go_sem] theorem cellsEi_at' (d : EIt) : (z0t d)[4]? = some (z0a d.it.at_) := by unfold z0t; simp only [List.getElem?_cons_succ, zq4]
@[go_sem] theorem cellsEi_to' (d : EIt) : (z0t d)[5]? = some (z0a d.it.to) := by unfold z0t; simp only [List.getElem?_cons_succ, zq5]
@[go_sem] theorem cellsEi_wh' (d : EIt) : (z0t d)[6]? = some (.int .i64 d.it.wh) := by unfold z0t; simp only [List.getElem?_cons_succ, zq6]
@[go_sem] theorem zzq (d : EIt) : (z0t d)[7]? = some (.int .i64 d.it.nth) := by unfold z0t; simp only [List.getElem?_cons_succ, zm8]
@[go_sem] theorem zzr (d : EIt) : (z0t d)[16]? = some (z3b d.it.old) := by unfold z0t; simp only [List.getElem?_cons_succ, zm9]
@[go_sem] theorem zzs (d : EIt) : (z0t d)[17]? = some (z3b d.it.new) := by unfold z0t; simp only [List.getElem?_cons_succ, zma]
@[go_sem] theorem zwb (d : EIt) : (z0t d)[18]? = some (.str d.it.label) := by unfold z0t; simp only [List.getElem?_cons_succ, zhp]
@[go_sem] theorem zzt (d : EIt) : (z0t d)[19]? = some (.str d.it.for_) := by unfold z0t; simp only [List.getElem?_cons_succ, zmb]
@[go_sem] theorem cellsEi_sk' (d : EIt) : (z0t d)[20]? = some (.int .i64 d.it.sk) := by unfold z0t; simp only [List.getElem?_cons_succ, zq7]
@[go_sem] theorem cellsEi_sd' (d : EIt) : (z0t d)[21]? = some (.int .i64 d.it.sd) := by unfold z0t; simp only [List.getElem?_cons_succ, zq8]
@[go_sem] theorem cellsEi_se' (d : EIt) : (z0t d)[22]? = some (.str d.it.se) := by unfold z0t; simp only [List.getElem?_cons_succ, zq9]
@[go_sem] theorem zzu (d : EIt) : (z0t d)[23]? = some (.int .i64 d.it.act) := by unfold z0t; simp only [List.getElem?_cons_succ, zmc]
@[go_sem] theorem zyr (d : EIt) : (z0t d)[24]? = some (.int .i64 d.it.item) := by unfold z0t; simp only [List.getElem?_cons_succ, zkh]
@[go_sem] theorem zzv (d : EIt) : (z0t d)[25]? = some (.int .i64 d.it.day) := by unfold z0t; simp only [List.getElem?_cons_succ, zmd]
@[go_sem] theorem zwc (d : EIt) : (z0t d)[26]? = some (.str d.it.event) := by unfold z0t; simp only [List.getElem?_cons_succ, zhq]
@[go_sem] theorem cellsEi_by' (d : EIt) : (z0t d)[27]? = some (z2i d.it.by_) := by unfold z0t; simp only [List.getElem?_cons_succ, zr0]
@[go_sem] theorem zzw (d : EIt) : List.take 8 (List.drop 8 (z0t d)) = z07 d.it.unit := by
 show List.take 8 (List.drop 5 (z0f d.it)) = _
 rw [zki]
end Abs
end
section
open Abs Facts Tr
attribute [local irreducible] awp
def zpd (l : List T) : HObj := .row 27 l.length (l.flatMap z07)
namespace Tr
end Tr
namespace Abs
end Abs
namespace Tr
theorem zgo (deep most : Int) : ∀ (l : List T), (∀ k ∈ l, ∀ (d m : Int), 0 <= m -> 1 <= z3j k d m) -> ∀ n : Int, n <= z38 deep most (l.map z3j) n
 | [], _, n => by simp [z38]
 | k :: l, h, n => by
  simp only [List.map_cons, z38]
  split
  ·have h1 := h k (by simp) (deep + 1) (most - n) (by omega)
   have h2 := zgo deep most l (fun q hq => h q (List.mem_cons_of_mem _ hq)) (n + z3j k (deep + 1) (most - n))
   omega
  ·omega
theorem zew (deep most : Int) : ∀ (l : List T), (∀ k ∈ l, ∀ (m : Int), 0 <= m -> z3j k (deep + 1) m <= m -> (cntT k : Int) = z3j k (deep + 1) m /\ deep + 1 + depT k <= 20) -> ∀ n : Int, z38 deep most (l.map z3j) n <= most ->
  ((l.flatMap z0d).length : Int) + n = z38 deep most (l.map z3j) n /\ ∀ k ∈ l, deep + 1 + depT k <= 20
 | [], _, n, _ => by simp [z38]
 | k :: l, h, n, hn => by
  simp only [List.map_cons, z38] at hn ⊢
  split at hn
  ·rename_i hle
   rw [if_pos hle]
   have hm := zgo deep most l (fun q _ d m hm => (z6a q d m hm).1) (n + z3j k (deep + 1) (most - n))
   obtain ⟨h1, h2⟩ := h k (by simp) (most - n) (by omega) (by omega)
   obtain ⟨h3, h4⟩ := zew deep most l (fun q hq => h q (List.mem_cons_of_mem _ hq)) _ hn
   refine ⟨?_, fun q hq => ?_⟩
   ·rw [List.flatMap_cons, List.length_append]
    have : (z0d k).length = cntT k := rfl
    omega
   ·rcases List.mem_cons.1 hq with rfl | hq
    ·exact h2
    ·exact h4 q hq
  ·omega
theorem zq2 (l : List T) (d : Int) (b : Int) (hb : d <= b) (h : ∀ k ∈ l, d + 1 + depT k <= b) : ∀ a : Nat, d + a <= b -> d + ((l.map depT).foldl (fun d x => max d (1 + x)) a : Nat) <= b := by
 induction l with
 | nil => intro a ha; simpa using ha
 | cons k l ih =>
  intro a ha
  rw [List.map_cons, List.foldl_cons]
  have := h k (by simp)
  exact ih (fun q hq => h q (List.mem_cons_of_mem _ hq)) _ (by omega)
theorem zm5 : ∀ t : T, ∀ (deep most : Int), 0 <= most -> z3j t deep most <= most -> (cntT t : Int) = z3j t deep most /\ deep + depT t <= 20 := by
 refine z55 fun t ih deep most hm h => ?_
 rw [zh2] at h ⊢
 split at h
 ·omega
 ·rename_i V
  rw [if_neg V]
  obtain ⟨h1, h2⟩ := zew deep most t.kids (fun k O m hm h => ih k O (deep + 1) m hm h) 1 h
  refine ⟨?_, ?_⟩
  ·rw [z6m]; omega
  ·rw [zbt]
   exact zq2 t.kids deep 20 (by omega) h2 0 (by omega)
theorem zyg (t : T) : t.kids.length <= cntT t := by
 rw [z6m]
 have : ∀ l : List T, l.length <= (l.flatMap z0d).length := by
  intro l
  induction l with
  | nil => simp
  | cons k l ih =>
   rw [List.flatMap_cons, List.length_append, List.length_cons]
   have := zhh k
   unfold cntT at this
   omega
 have := this t.kids
 omega
theorem zvh (l : List Wd) : z8g l = true ↔ (∀ w ∈ l, w.text.size <= 100) /\ l.length <= 300 := by
 unfold z8g
 simp only [Bool.and_eq_true, List.all_eq_true, decide_eq_true_eq]
theorem zyh : ∀ t : T, zdw t = true -> cntT t <= 1000000 -> szB t = true := by
 refine z55 fun t ih h hc => ?_
 rw [zid] at h
 simp only [Bool.and_eq_true, decide_eq_true_eq, List.all_eq_true, zvh] at h
 obtain ⟨h1, ⟨h2, h3⟩, ⟨h4, h5⟩, h6⟩ := h
 rw [z2e]
 have O := zyg t
 refine ⟨by omega, by omega, fun w hw => ?_, by omega, fun w hw => ?_, by omega, fun k O => ih k O (h6 k O) ?_⟩
 ·have := h2 w hw; omega
 ·have := h4 w hw; omega
 ·have := za2 O; omega
theorem zzm {t : T} {most : Int} (h0 : 0 <= most) (h1 : most <= 1000) (h : zz4 t most = true) : szB t = true /\ (cntT t : Int) <= most /\ depT t <= 20 := by
 unfold zz4 at h
 simp only [Bool.and_eq_true, decide_eq_true_eq] at h
 obtain ⟨g1, g2⟩ := zm5 t 0 most h0 h.1
 exact ⟨zyh t h.2 (by omega), by omega, by omega⟩
end Tr
namespace Tr
theorem zzz : szB T.zero = true := by decide +kernel
theorem zl9 (id : Idv) (t : T) (hs : szB t = true) : szB (z0c id t).1 = true := by
 by_cases h : z26 id t = []
 ·rw [zd6 h]; exact zzz
 ·unfold z0c
  rw [zdb _ h]
  exact zdc t hs _ (zeg id t _ (List.getElem_mem _))
end Tr
end
section
open Abs Facts Tr
namespace Tr
theorem z59 (id : Idv) : ∀ t : T, z26 id t = [] ↔ id ∉ z0e t := by
 refine z55 fun t ih => ?_
 rw [z1z, List.mem_cons, List.mem_flatMap]
 by_cases h0 : t.id = id
 ·rw [z3d h0]; simp [h0]
 ·rw [z8n, if_neg h0]
  constructor
  ·intro h hm
   rcases hm with hm | ⟨k, O, hm⟩
   ·exact h0 hm.symm
   ·have hne : z26 id k ≠ [] := fun e => (ih k O).1 e hm
    split at h
    ·cases h
    ·rename_i hf
     have := List.find?_eq_none.1 hf (z26 id k) (List.mem_map.2 ⟨k, O, rfl⟩)
     simp at this
     exact hne this
  ·intro hm
   have : (t.kids.map (z26 id)).find? (fun w => !w.isEmpty) = none := by
    rw [List.find?_eq_none]
    intro w hw
    obtain ⟨k, O, rfl⟩ := List.mem_map.1 hw
    have := (ih k O).2 fun h => hm (.inr ⟨k, O, h⟩)
    rw [this]; simp
   rw [this]
theorem z42 {id : Idv} {t : T} : z26 id t ≠ [] ↔ id ∈ z0e t := by
 rw [ne_eq, z59, Classical.not_not]
theorem z76 {id : Idv} {t : T} (h0 : ¬ t.id = id) (h : z26 id t ≠ []) : ∃ i, ∃ hi : i < t.kids.length, (∀ j, (hj : j < i) -> (h : j < t.kids.length) -> z26 id t.kids[j] = []) /\ z26 id t.kids[i] ≠ [] /\ z26 id t = t :: z26 id t.kids[i] := by
 have hex : ∃ i, ∃ hi : i < t.kids.length, z26 id t.kids[i] ≠ [] := by
  rcases Classical.em (∃ i, ∃ hi : i < t.kids.length, z26 id t.kids[i] ≠ []) with h1 | h1
  ·exact h1
  ·exfalso
   refine h (ze1 h0 (Nat.le_refl _) fun j _ hj => ?_)
   rcases Classical.em (z26 id t.kids[j] = []) with h2 | h2
   ·exact h2
   ·exact (h1 ⟨j, hj, h2⟩).elim
 let p : Nat -> Prop := fun i => ∃ hi : i < t.kids.length, z26 id t.kids[i] ≠ []
 obtain ⟨i, hi, hmin⟩ : ∃ i, p i /\ ∀ j, j < i -> ¬ p j := by
  obtain ⟨i, hi⟩ := hex
  induction i using Nat.strongRecOn with
  | ind i ih =>
   rcases Classical.em (∃ j, j < i /\ p j) with ⟨j, hj, hp⟩ | h2
   ·exact ih j hj hp
   ·exact ⟨i, hi, fun j hj hp => h2 ⟨j, hj, hp⟩⟩
 obtain ⟨hl, hw⟩ := hi
 have h1 : ∀ j, (hj : j < i) -> (h : j < t.kids.length) -> z26 id t.kids[j] = [] := fun j hj h => by
  rcases Classical.em (z26 id t.kids[j] = []) with h2 | h2
  ·exact h2
  ·exact (hmin j hj ⟨h, h2⟩).elim
 exact ⟨i, hl, h1, hw, z48 h0 hl h1 hw⟩
theorem z9h {t : T} (h : (z0e t).Nodup) : (∀ k ∈ t.kids, t.id ∉ z0e k) /\ (∀ k ∈ t.kids, (z0e k).Nodup) /\ ∀ i j, (hi : i < t.kids.length) -> (hj : j < t.kids.length) -> i ≠ j -> ∀ x ∈ z0e t.kids[i], x ∉ z0e t.kids[j] := by
 rw [z1z, List.nodup_cons] at h
 obtain ⟨h1, h2⟩ := h
 refine ⟨fun k O hm => h1 (List.mem_flatMap.2 ⟨k, O, hm⟩), fun k O => ?_, fun i j hi hj hij x hx hx2 => ?_⟩
 ·exact (List.pairwise_flatMap.1 h2).1 k O
 ·have hp := (List.pairwise_flatMap.1 h2).2
  rw [List.pairwise_iff_getElem] at hp
  rcases Nat.lt_or_gt_of_ne hij with h3 | h3
  ·exact hp i j hi hj h3 x hx x hx2 rfl
  ·exact hp j i hj hi h3 x hx2 x hx rfl
end Tr
end
section
open Abs Facts Tr
namespace Tr
def T.setKids (t : T) (l : List T) : T := .mk t.id t.kind t.label t.head t.words l
theorem z6d (t : T) : t.setKids t.kids = t := T.eta t
inductive Ctx where
 | hole
 | node (t : T) (l : List T) (c : Ctx) (r : List T)
def z2p : Ctx -> T -> T
 | .hole, x => x
 | .node t l c r, x => t.setKids (l ++ z2p c x :: r)
def z6k : Ctx -> List Idv
 | .hole => []
 | .node t l c _ => t.id :: (l.flatMap z0e ++ z6k c)
def z4c : Ctx -> List Idv
 | .hole => []
 | .node _ _ c r => z4c c ++ r.flatMap z0e
def zxj : Ctx -> Nat
 | .hole => 0
 | .node _ _ c _ => zxj c + 1
def depC : Ctx -> Nat
 | .hole => 0
 | .node _ l c r => max (zfo ((l ++ r).map depT)) (1 + depC c)
def zg6 : Ctx -> List Idv
 | .hole => []
 | .node t _ c _ => zg6 c ++ [t.id]
theorem zjb : ∀ C, (zg6 C).length = zxj C
 | .hole => rfl
 | .node t l c r => by simp [zg6, zxj, zjb c]
theorem z2g (x : T) : ∀ C, z0e (z2p C x) = z6k C ++ (z0e x ++ z4c C)
 | .hole => by simp [z2p, z6k, z4c]
 | .node t l c r => by
  rw [z2p, z1z]
  show t.id :: (l ++ z2p c x :: r).flatMap z0e = _
  rw [List.flatMap_append, List.flatMap_cons, z2g x c, z6k, z4c]
  simp only [List.cons_append, List.append_assoc]
theorem z6e (C : Ctx) (x : T) : cntT (z2p C x) = (z6k C).length + cntT x + (z4c C).length := by
 rw [<- z5l, z2g, List.length_append, List.length_append, z5l]; omega
theorem zjc (l : List Nat) : ∀ a : Nat, l.foldl (fun d x => max d (1 + x)) a = max a (zfo l) := by
 unfold zfo
 induction l with
 | nil => intro a; simp
 | cons y l ih =>
  intro a
  rw [List.foldl_cons, List.foldl_cons, ih, ih (max 0 (1 + y))]; omega
theorem z7h (l r : List Nat) : zfo (l ++ r) = max (zfo l) (zfo r) := by
 conv => lhs; unfold zfo
 rw [List.foldl_append, zjc r]; rfl
theorem zjd (a : Nat) (l : List Nat) : zfo (a :: l) = max (1 + a) (zfo l) := by
 conv => lhs; unfold zfo
 rw [List.foldl_cons, zjc l]; omega
theorem zda (x : T) : ∀ C, depT (z2p C x) = max (depC C) (zxj C + depT x)
 | .hole => by simp [z2p, depC, zxj]
 | .node t l c r => by
  rw [z2p, zbt]
  show zfo ((l ++ z2p c x :: r).map depT) = _
  rw [List.map_append, List.map_cons, z7h, zjd, zda x c, depC, zxj, List.map_append, z7h]
  omega
def keyC : Ctx -> Int × ByteArray -> Int × ByteArray
 | .hole, k => k
 | .node t _ _ _, _ => z5y t
theorem zxk (C : Ctx) (x : T) : z5y (z2p C x) = keyC C (z5y x) := by cases C <;> rfl
def ctxR : Ctx -> Int × ByteArray -> Prop
 | .hole, _ => True
 | .node t l c r, k => (z40 (t.setKids (l ++ t :: r)) = true /\ (∀ y ∈ l ++ r, z2h t.kind y.kind = true /\ z33 y = true) /\ z2h t.kind (keyC c k).1 = true /\ ((l ++ r).map z5y).Nodup /\ keyC c k ∉ (l ++ r).map z5y) /\ ctxR c k
theorem zp7 (t : T) {l m : List T} (h : l.length = m.length) : z40 (t.setKids l) = z40 (t.setKids m) := by
 unfold z40
 show (_ && (decide (l.length <= 64) && _)) = (_ && (decide (m.length <= 64) && _))
 rw [h]; rfl
theorem zti {α : Type} (l r : List α) (a : α) : (l ++ a :: r).Nodup ↔ (l ++ r).Nodup /\ a ∉ l ++ r := by
 rw [List.perm_middle.nodup_iff, List.nodup_cons]; exact And.comm
theorem zee (t p : T) (l r : List T) : z33 (t.setKids (l ++ p :: r)) = true ↔
  (z40 (t.setKids (l ++ t :: r)) = true /\ (∀ y ∈ l ++ r, z2h t.kind y.kind = true /\ z33 y = true) /\ z2h t.kind p.kind = true /\ ((l ++ r).map z5y).Nodup /\ z5y p ∉ (l ++ r).map z5y) /\ z33 p = true := by
 have O : ((l ++ p :: r).map z5y).Nodup ↔ ((l ++ r).map z5y).Nodup /\ z5y p ∉ (l ++ r).map z5y := by
  rw [List.map_append, List.map_cons, zti, List.map_append]
 rw [z4y]
 show (z40 (t.setKids (l ++ p :: r)) && (((l ++ p :: r).all fun k => z2h t.kind k.kind) && ((l ++ p :: r).all z33 && decide (((l ++ p :: r).map z5y).Nodup)))) = true ↔ _
 rw [zp7 t (l := l ++ p :: r) (m := l ++ t :: r) (by simp)]
 simp only [Bool.and_eq_true, decide_eq_true_eq, List.all_eq_true, O]
 constructor
 ·rintro ⟨h1, h2, h3, h4, h5⟩
  refine ⟨⟨h1, fun y hy => ?_, h2 p (by simp), h4, h5⟩, h3 p (by simp)⟩
  have : y ∈ l ++ p :: r := by
   rcases List.mem_append.1 hy with h | h
   ·exact List.mem_append_left _ h
   ·exact List.mem_append_right _ (List.mem_cons_of_mem _ h)
  exact ⟨h2 y this, h3 y this⟩
 ·rintro ⟨⟨h1, h2, h3, h4, h5⟩, h6⟩
  have hm : ∀ y ∈ l ++ p :: r, y = p \/ y ∈ l ++ r := fun y hy => by
   rcases List.mem_append.1 hy with h | h
   ·exact .inr (List.mem_append_left _ h)
   ·rcases List.mem_cons.1 h with h | h
    ·exact .inl h
    ·exact .inr (List.mem_append_right _ h)
  refine ⟨h1, fun y hy => ?_, fun y hy => ?_, h4, h5⟩
  ·rcases hm y hy with rfl | h
   ·exact h3
   ·exact (h2 y h).1
  ·rcases hm y hy with rfl | h
   ·exact h6
   ·exact (h2 y h).2
theorem z6y (x : T) : ∀ C, z33 (z2p C x) = true ↔ ctxR C (z5y x) /\ z33 x = true
 | .hole => by simp [z2p, ctxR]
 | .node t l c r => by
  rw [z2p, zee, z6y x c, ctxR, <- zxk]
  exact (and_assoc).symm
theorem zef {id : Idv} {l r : List T} {p : T} : id ∈ (l ++ p :: r).flatMap z0e ↔ id ∈ l.flatMap z0e \/ id ∈ z0e p \/ id ∈ r.flatMap z0e := by
 rw [List.flatMap_append, List.flatMap_cons, List.mem_append, List.mem_append]
theorem zje (l r : List T) (p : T) : ∃ h : l.length < (l ++ p :: r).length, (l ++ p :: r)[l.length] = p := ⟨by simp, by simp⟩
theorem z9d {id : Idv} {l : List T} (h : id ∉ l.flatMap z0e) (p : T) (r : List T) : ∀ j, (hj : j < l.length) -> (hl : j < (l ++ p :: r).length) -> z26 id (l ++ p :: r)[j] = [] := fun j hj hl => by
 rw [List.getElem_append_left hj, z59]
 exact fun hm => h (List.mem_flatMap.2 ⟨_, List.getElem_mem hj, hm⟩)
section
variable {id : Idv} {t p : T} {l r : List T}
theorem way_mid (h0 : ¬ t.id = id) (hl : id ∉ l.flatMap z0e) (hp : id ∈ z0e p) : z26 id (t.setKids (l ++ p :: r)) = t.setKids (l ++ p :: r) :: z26 id p := by
 obtain ⟨h1, h2⟩ := zje l r p
 have := z48 (id := id) (t := t.setKids (l ++ p :: r)) (i := l.length) h0 h1 (z9d hl p r) (by
  show z26 id (l ++ p :: r)[l.length] ≠ []
  rw [h2]; exact z42.2 hp)
 refine this.trans ?_
 show _ :: z26 id (l ++ p :: r)[l.length] = _
 rw [h2]
theorem zhc (h0 : ¬ t.id = id) (hl : id ∉ l.flatMap z0e) (hp : id ∈ z0e p) : z0c id (t.setKids (l ++ p :: r)) = z0c id p :=
 z35 (way_mid h0 hl hp) (z42.2 hp)
theorem ztj (h0 : ¬ t.id = id) (hl : id ∉ l.flatMap z0e) (hp : id ∈ z0e p) : zi0 id (t.setKids (l ++ p :: r)) = zi0 id p ++ [t.id] := by
 obtain ⟨h1, h2⟩ := zje l r p
 have := zmy (id := id) (t := t.setKids (l ++ p :: r)) (i := l.length) h0 h1 (z9d hl p r) (by
  show z26 id (l ++ p :: r)[l.length] ≠ []
  rw [h2]; exact z42.2 hp)
 refine this.trans ?_
 show zi0 id (l ++ p :: r)[l.length] ++ _ = _
 rw [h2]; rfl
theorem znc (h0 : ¬ t.id = id) (hl : id ∉ l.flatMap z0e) (hp : p.id = id) : z5e id (t.setKids (l ++ p :: r)) = (t.id, (l.length : Int), true) := by
 obtain ⟨h1, h2⟩ := zje l r p
 exact zin (id := id) (t := t.setKids (l ++ p :: r)) (i := l.length) h0 h1 (z9d hl p r) (by
  show (l ++ p :: r)[l.length].id = id
  rw [h2]; exact hp)
theorem par_mid (h0 : ¬ t.id = id) (hl : id ∉ l.flatMap z0e) (hp : ¬ p.id = id) (hm : id ∈ z0e p) : z5e id (t.setKids (l ++ p :: r)) = z5e id p := by
 obtain ⟨h1, h2⟩ := zje l r p
 have := zs9 (id := id) (t := t.setKids (l ++ p :: r)) (i := l.length) h0 h1 (z9d hl p r) (by
  show ¬ (l ++ p :: r)[l.length].id = id
  rw [h2]; exact hp) (by
  show z26 id (l ++ p :: r)[l.length] ≠ []
  rw [h2]; exact z42.2 hm)
 refine this.trans ?_
 show z5e id (l ++ p :: r)[l.length] = _
 rw [h2]
end
theorem z1s (x : T) : x.id ∈ z0e x := by rw [z1z]; exact List.mem_cons_self
theorem z4d {id : Idv} {t : T} {l r : List T} {c : Ctx} (h : id ∉ z6k (.node t l c r)) : ¬ t.id = id /\ id ∉ l.flatMap z0e /\ id ∉ z6k c := by
 rw [z6k, List.mem_cons, List.mem_append] at h
 exact ⟨fun e => h (.inl e.symm), fun e => h (.inr (.inl e)), fun e => h (.inr (.inr e))⟩
theorem zjf {id : Idv} {t : T} {l r : List T} {c : Ctx} (h : id ∉ z4c (.node t l c r)) : id ∉ z4c c /\ id ∉ r.flatMap z0e := by
 rw [z4c, List.mem_append] at h
 exact ⟨fun e => h (.inl e), fun e => h (.inr e)⟩
theorem z7i {id : Idv} (C : Ctx) {x : T} (h : id ∈ z0e x) : id ∈ z0e (z2p C x) := by
 rw [z2g]; exact List.mem_append_right _ (List.mem_append_left _ h)
theorem z8k {id : Idv} {x : T} (hx : id ∈ z0e x) : ∀ C, id ∉ z6k C -> z0c id (z2p C x) = z0c id x
 | .hole, _ => rfl
 | .node t l c r, h => by
  obtain ⟨h1, h2, h3⟩ := z4d h
  rw [z2p, zhc h1 h2 (z7i c hx), z8k hx c h3]
theorem znd {id : Idv} {x : T} (hx : id ∈ z0e x) : ∀ C, id ∉ z6k C -> zi0 id (z2p C x) = zi0 id x ++ zg6 C
 | .hole, _ => by simp [z2p, zg6]
 | .node t l c r, h => by
  obtain ⟨h1, h2, h3⟩ := z4d h
  rw [z2p, ztj h1 h2 (z7i c hx), znd hx c h3, zg6, List.append_assoc]
theorem zhd {id : Idv} {x : T} (hx : id ∈ z0e x) (hn : ¬ x.id = id) : ∀ C, id ∉ z6k C -> z5e id (z2p C x) = z5e id x
 | .hole, _ => rfl
 | .node t l c r, h => by
  obtain ⟨h1, h2, h3⟩ := z4d h
  have h4 : ¬ (z2p c x).id = id := by
   cases c with
   | hole => exact hn
   | node t' l' c' r' => exact (z4d h3).1
  rw [z2p, par_mid h1 h2 h4 (z7i c hx), zhd hx hn c h3]
theorem focus (id : Idv) : ∀ u : T, id ∈ z0e u -> ∃ C, u = z2p C (z0c id u).1 /\ (z0c id u).1.id = id /\ id ∉ z6k C /\ (z0c id u).2 = true := by
 refine z55 fun u ih hm => ?_
 by_cases h0 : u.id = id
 ·rw [z2j h0]
  exact ⟨.hole, rfl, h0, by simp [z6k], rfl⟩
 ·obtain ⟨i, hi, h1, h2, h3⟩ := z76 h0 (z42.2 hm)
  rw [z35 h3 h2]
  obtain ⟨C, g1, g2, g3, g4⟩ := ih _ (List.getElem_mem hi) (z42.1 h2)
  refine ⟨.node u (u.kids.take i) C (u.kids.drop (i + 1)), ?_, g2, ?_, g4⟩
  ·rw [z2p, <- g1, <- List.drop_eq_getElem_cons hi, List.take_append_drop, z6d]
  ·rw [z6k, List.mem_cons, List.mem_append]
   rintro (h | h | h)
   ·exact h0 h.symm
   ·obtain ⟨k, O, hki⟩ := List.mem_flatMap.1 h
    obtain ⟨j, hj, rfl⟩ := List.getElem_of_mem O
    rw [List.getElem_take] at hki
    rw [List.length_take] at hj
    have := h1 j (by omega) (by omega)
    rw [z59] at this
    exact this hki
   ·exact g3 h
theorem ztk {id : Idv} {u : T} (h : id ∉ z0e u) : z0c id u = (T.zero, false) := zd6 ((z59 id u).2 h)
theorem z2q {id : Idv} {u : T} : (z0c id u).2 = decide (id ∈ z0e u) := by
 by_cases h : id ∈ z0e u
 ·obtain ⟨_, _, _, _, h4⟩ := focus id u h
  rw [h4, decide_eq_true h]
 ·rw [ztk h, decide_eq_false h]
theorem zjg {id : Idv} {u : T} (h0 : ¬ u.id = id) (hm : id ∈ z0e u) : ∃ (C : Ctx) (q : T) (l : List T) (x : T) (r : List T), u = z2p C (q.setKids (l ++ x :: r)) /\ x.id = id /\ ¬ q.id = id /\ id ∉ z6k C /\ id ∉ l.flatMap z0e /\ z0c id u = (x, true) /\ z5e id u = (q.id, (l.length : Int), true) := by
 obtain ⟨C, h1, h2, h3, h4⟩ := focus id u hm
 -- the last frame of C
 have last : ∀ C : Ctx, ∀ x : T, ¬ (z2p C x).id = id -> x.id = id -> id ∉ z6k C -> ∃ (C' : Ctx) (q : T) (l r : List T), z2p C x = z2p C' (q.setKids (l ++ x :: r)) /\ ¬ q.id = id /\ id ∉ z6k C' /\ id ∉ l.flatMap z0e := by
  intro C x
  induction C with
  | hole => intro h hx _; exact (h hx).elim
  | node t l c r ih =>
   intro h hx hn
   obtain ⟨n1, n2, n3⟩ := z4d hn
   by_cases hc : (z2p c x).id = id
   ·cases c with
    | hole => exact ⟨.hole, t, l, r, rfl, n1, by simp [z6k], n2⟩
    | node t' l' c' r' => exact ((z4d n3).1 hc).elim
   ·obtain ⟨C', q, l', r', e, g1, g2, g3⟩ := ih hc hx n3
    refine ⟨.node t l C' r, q, l', r', ?_, g1, ?_, g3⟩
    ·rw [z2p, e, z2p]
    ·rw [z6k, List.mem_cons, List.mem_append]
     rintro (h | h | h)
     ·exact n1 h.symm
     ·exact n2 h
     ·exact g2 h
 generalize hx : (z0c id u).1 = x at h1 h2
 obtain ⟨C', q, l, r, e, g1, g2, g3⟩ := last C x (by rw [<- h1]; exact h0) h2 h3
 refine ⟨C', q, l, x, r, h1.trans e, h2, g1, g2, g3, ?_, ?_⟩
 ·rw [<- hx, <- h4]
 ·rw [h1, e, zhd (x := q.setKids (l ++ x :: r)) (by rw [z1z, List.mem_cons]; exact .inr (zef.2 (.inr (.inl (h2 ▸ z1s x))))) g1 C' g2, znc g1 g3 h2]
end Tr
end
section
open Abs Facts Tr
namespace Tr
def z4n (id : Idv) (f : T -> T) (t : T) : T := zec (fun t l => if t.id = id then f t else t.setKids l) t
theorem zh4 (id : Idv) (f : T -> T) (t : T) : z4n id f t = if t.id = id then f t else t.setKids (t.kids.map (z4n id f)) := by
 unfold z4n; rw [z39]
def atR (id : Idv) (f : T -> T) (t : T) : T × Bool := zec (fun t l => if t.id = id then (f t, true) else
 match l[z89 (fun q : T × Bool => q.2) l]? with
 | some q => (t.setKids (t.kids.set (z89 (fun q : T × Bool => q.2) l) q.1), true)
 | none => (t, false)) t
theorem zse (id : Idv) (f : T -> T) (t : T) : atR id f t = if t.id = id then (f t, true) else
  match (t.kids.map (atR id f))[z89 (fun q : T × Bool => q.2) (t.kids.map (atR id f))]? with
  | some q => (t.setKids (t.kids.set (z89 (fun q : T × Bool => q.2) (t.kids.map (atR id f))) q.1), true)
  | none => (t, false) := by
 unfold atR; rw [z39]
theorem zmz {id : Idv} {f : T -> T} {t : T} (h : t.id = id) : atR id f t = (f t, true) := by rw [zse, if_pos h]
theorem zsf {id : Idv} {f : T -> T} {t : T} {i : Nat} (h0 : ¬ t.id = id) (hi : i < t.kids.length) (h1 : ∀ j, (hj : j < i) -> (h : j < t.kids.length) -> (atR id f t.kids[j]).2 = false) (h2 : (atR id f t.kids[i]).2 = true) :
  atR id f t = (t.setKids (t.kids.set i (atR id f t.kids[i]).1), true) := by
 have hf : z89 (fun q : T × Bool => q.2) (t.kids.map (atR id f)) = i := zb7 (by rw [List.length_map]; omega) (fun j hj => by rw [List.getElem_map]; exact h1 j hj (by omega)) (fun h => by rw [List.getElem_map]; exact h2)
 rw [zse, if_neg h0, hf, List.getElem?_eq_getElem (by rw [List.length_map]; exact hi), List.getElem_map]
theorem zn0 {id : Idv} {f : T -> T} {t : T} (h0 : ¬ t.id = id) (h1 : ∀ j, (h : j < t.kids.length) -> (atR id f t.kids[j]).2 = false) : atR id f t = (t, false) := by
 have hf : z89 (fun q : T × Bool => q.2) (t.kids.map (atR id f)) = t.kids.length := zb7 (by rw [List.length_map]; omega) (fun j hj => by rw [List.getElem_map]; exact h1 j hj) (fun h => by rw [List.length_map] at h; omega)
 rw [zse, if_neg h0, hf, List.getElem?_eq_none (by rw [List.length_map]; omega)]
theorem at_no {id : Idv} (f : T -> T) : ∀ t : T, id ∉ z0e t -> atR id f t = (t, false) := by
 refine z55 fun t ih h => ?_
 rw [z1z, List.mem_cons] at h
 refine zn0 (fun e => h (.inl e.symm)) fun j hj => ?_
 rw [ih _ (List.getElem_mem hj) fun hm => h (.inr (List.mem_flatMap.2 ⟨_, List.getElem_mem hj, hm⟩))]
theorem zh5 {id : Idv} (f : T -> T) {q : T} (hq : q.id = id) : ∀ C, id ∉ z6k C -> atR id f (z2p C q) = (z2p C (f q), true)
 | .hole, _ => zmz hq
 | .node t l c r, h => by
  obtain ⟨h1, h2, h3⟩ := z4d h
  obtain ⟨k1, k2⟩ := zje l r (z2p c q)
  have ih := zh5 f hq c h3
  have O : (t.setKids (l ++ z2p c q :: r)).kids[l.length]'k1 = z2p c q := k2
  rw [z2p, zsf (t := t.setKids (l ++ z2p c q :: r)) (i := l.length) h1 k1 (fun j hj hl' => by
   have hl : j < (l ++ z2p c q :: r).length := hl'
   show (atR id f ((l ++ z2p c q :: r)[j]'hl)).2 = false
   rw [List.getElem_append_left hj, at_no f _ fun hm => h2 (List.mem_flatMap.2 ⟨_, List.getElem_mem hj, hm⟩)]) (by rw [O, ih]), O, ih, z2p]
  show (t.setKids ((l ++ z2p c q :: r).set l.length (z2p c (f q))), true) = _
  rw [List.set_append_right _ _ (Nat.le_refl _), Nat.sub_self, List.set_cons_zero]
theorem z00d {id : Idv} (f : T -> T) : ∀ t : T, id ∉ z0e t -> z4n id f t = t := by
 refine z55 fun t ih h => ?_
 rw [z1z, List.mem_cons] at h
 rw [zh4, if_neg fun e => h (.inl e.symm)]
 have : t.kids.map (z4n id f) = t.kids := by
  conv => rhs; rw [<- List.map_id t.kids]
  exact List.map_congr_left fun k O => ih k O fun hm => h (.inr (List.mem_flatMap.2 ⟨_, O, hm⟩))
 rw [this, z6d]
theorem zn1 {id : Idv} (f : T -> T) {l : List T} (h : id ∉ l.flatMap z0e) : l.map (z4n id f) = l := by
 conv => rhs; rw [<- List.map_id l]
 exact List.map_congr_left fun k O => z00d f k fun hm => h (List.mem_flatMap.2 ⟨_, O, hm⟩)
theorem zao {id : Idv} (f : T -> T) {q : T} (hq : q.id = id) : ∀ C, id ∉ z6k C -> id ∉ z4c C -> z4n id f (z2p C q) = z2p C (f q)
 | .hole, _, _ => by rw [z2p, z2p, zh4, if_pos hq]
 | .node t l c r, h, h' => by
  obtain ⟨h1, h2, h3⟩ := z4d h
  obtain ⟨h4, h5⟩ := zjf h'
  rw [z2p, zh4, if_neg (show ¬ (t.setKids _).id = id from h1), z2p]
  show t.setKids ((l ++ z2p c q :: r).map (z4n id f)) = _
  rw [List.map_append, List.map_cons, zao f hq c h3 h4, zn1 f h2, zn1 f h5]
def z67 (id : Idv) (k : T) : Bool := decide (k.id ≠ id)
theorem z9z {id : Idv} {k : T} (h : ¬ k.id = id) : z67 id k = true := decide_eq_true h
theorem z00e {id : Idv} {k : T} (h : k.id = id) : z67 id k = false := decide_eq_false fun g => g h
def z0l (id : Idv) (t : T) : T := zec (fun t l => t.setKids (((t.kids.zip l).filter fun p => z67 id p.1).map (·.2))) t
theorem zbm (p : T -> Bool) (g : T -> T) : ∀ l : List T, ((l.zip (l.map g)).filter fun q => p q.1).map (·.2) = (l.filter p).map g
 | [] => rfl
 | x :: l => by
  rw [List.map_cons, List.zip_cons_cons, List.filter_cons, List.filter_cons]
  show (if p x = true then _ else _ : List (T × T)).map (·.2) = _
  split
  ·rw [List.map_cons, List.map_cons, zbm p g l]
  ·rw [zbm p g l]
theorem z3s (id : Idv) (t : T) : z0l id t = t.setKids ((t.kids.filter (z67 id)).map (z0l id)) := by
 conv => lhs; unfold z0l; rw [z39]
 show t.setKids (((t.kids.zip (t.kids.map (z0l id))).filter fun p => z67 id p.1).map (·.2)) = _
 rw [zbm (z67 id) (z0l id)]
theorem zsg {id : Idv} : ∀ t : T, (∀ k ∈ t.kids, id ∉ z0e k) -> z0l id t = t := by
 refine z55 fun t ih h => ?_
 rw [z3s]
 have h1 : t.kids.filter (z67 id) = t.kids := List.filter_eq_self.2 fun k O => z9z fun e => h k O (e ▸ z1s k)
 have h2 : t.kids.map (z0l id) = t.kids := by
  conv => rhs; rw [<- List.map_id t.kids]
  exact List.map_congr_left fun k O => ih k O fun k' hk' hm => h k O (by rw [z1z]; exact List.mem_cons_of_mem _ (List.mem_flatMap.2 ⟨_, hk', hm⟩))
 rw [h1, h2, z6d]
theorem zd7 {id : Idv} {l : List T} (h : id ∉ l.flatMap z0e) : (l.filter (z67 id)).map (z0l id) = l := by
 have h1 : l.filter (z67 id) = l := List.filter_eq_self.2 fun k O => z9z fun e => h (List.mem_flatMap.2 ⟨_, O, e ▸ z1s k⟩)
 rw [h1]
 conv => rhs; rw [<- List.map_id l]
 refine List.map_congr_left fun k O => zsg k fun k' hk' hm => h (List.mem_flatMap.2 ⟨k, O, ?_⟩)
 rw [z1z]; exact List.mem_cons_of_mem _ (List.mem_flatMap.2 ⟨_, hk', hm⟩)
theorem ziq {id : Idv} {q x : T} {l r : List T} (hx : x.id = id) (hl : id ∉ l.flatMap z0e) (hr : id ∉ r.flatMap z0e) : z0l id (q.setKids (l ++ x :: r)) = q.setKids (l ++ r) := by
 rw [z3s]
 show q.setKids (((l ++ x :: r).filter (z67 id)).map (z0l id)) = _
 rw [List.filter_append, List.filter_cons, if_neg (by rw [z00e hx]; simp), List.map_append, zd7 hl, zd7 hr]
theorem z8j {id : Idv} {q x : T} {l r : List T} (hq : ¬ q.id = id) (hx : x.id = id) (hl : id ∉ l.flatMap z0e) (hr : id ∉ r.flatMap z0e) : ∀ C, id ∉ z6k C -> id ∉ z4c C -> z0l id (z2p C (q.setKids (l ++ x :: r))) = z2p C (q.setKids (l ++ r))
 | .hole, _, _ => ziq hx hl hr
 | .node t a c b, h, h' => by
  obtain ⟨h1, h2, h3⟩ := z4d h
  obtain ⟨h4, h5⟩ := zjf h'
  have hc : ¬ (z2p c (q.setKids (l ++ x :: r))).id = id := by
   cases c with
   | hole => exact hq
   | node t' l' c' r' => exact (z4d h3).1
  rw [z2p, z3s]
  show t.setKids (((a ++ z2p c (q.setKids (l ++ x :: r)) :: b).filter (z67 id)).map (z0l id)) = _
  rw [List.filter_append, List.filter_cons, if_pos (z9z hc), List.map_append, List.map_cons, zd7 h2, zd7 h5, z8j hq hx hl hr c h3 h4, z2p]
def zcv (i : Nat) (x : T) (p : T) : T := p.setKids (p.kids.take i ++ x :: p.kids.drop i)
def zor (i : Nat) (p : T) : T := p.setKids (p.kids.eraseIdx i)
theorem zn2 (q x : T) (l r : List T) : zcv l.length x (q.setKids (l ++ r)) = q.setKids (l ++ x :: r) := by
 unfold zcv
 show q.setKids ((l ++ r).take l.length ++ x :: (l ++ r).drop l.length) = _
 rw [List.take_left, List.drop_left]
theorem zwz (q x : T) (l r : List T) : zor l.length (q.setKids (l ++ x :: r)) = q.setKids (l ++ r) := by
 unfold zor
 show q.setKids ((l ++ x :: r).eraseIdx l.length) = _
 rw [List.eraseIdx_append_of_length_le (Nat.le_refl _), Nat.sub_self, List.eraseIdx_cons_zero]
theorem z3z {C : Ctx} {x : T} (h : (z0e (z2p C x)).Nodup) {id : Idv} (hid : id ∈ z0e x) : id ∉ z6k C /\ id ∉ z4c C := by
 rw [z2g, List.nodup_append] at h
 obtain ⟨_, h2, h3⟩ := h
 rw [List.nodup_append] at h2
 exact ⟨fun hm => h3 id hm id (List.mem_append_left _ hid) rfl, fun hm => h2.2.2 id hid id hm rfl⟩
theorem z9b {C : Ctx} {x : T} (h : (z0e (z2p C x)).Nodup) : (z0e x).Nodup := by
 rw [z2g, List.nodup_append] at h
 exact (List.nodup_append.1 h.2.1).1
theorem z2c (t : T) (l : List T) : z0e (t.setKids l) = t.id :: l.flatMap z0e := z1z _
theorem zap {q x : T} {l r : List T} (h : (z0e (q.setKids (l ++ x :: r))).Nodup) : (∀ i ∈ z0e x, i ≠ q.id /\ i ∉ l.flatMap z0e /\ i ∉ r.flatMap z0e) /\ (z0e x).Nodup /\ (z0e (q.setKids (l ++ r))).Nodup := by
 rw [z2c, List.flatMap_append, List.flatMap_cons] at h
 rw [z2c, List.flatMap_append]
 rw [List.nodup_cons, List.nodup_append, List.nodup_append] at h
 obtain ⟨h0, h1, ⟨h2, h3, h4⟩, h5⟩ := h
 refine ⟨fun i hi => ⟨fun e => h0 ?_, fun hm => h5 i hm i (List.mem_append_left _ hi) rfl, fun hm => h4 i hi i hm rfl⟩, h2, ?_⟩
 ·rw [<- e]; exact List.mem_append_right _ (List.mem_append_left _ hi)
 ·rw [List.nodup_cons, List.nodup_append]
  refine ⟨fun hm => h0 ?_, h1, h3, fun a ha b hb => h5 a ha b (List.mem_append_right _ hb)⟩
  rcases List.mem_append.1 hm with h | h
  ·exact List.mem_append_left _ h
  ·exact List.mem_append_right _ (List.mem_append_right _ h)
theorem z00f {id : Idv} (f : T -> T) {u : T} (hn : (z0e u).Nodup) (hm : id ∈ z0e u) : atR id f u = (z4n id f u, true) := by
 obtain ⟨C, h1, h2, h3, _⟩ := focus id u hm
 generalize (z0c id u).1 = x at h1 h2
 subst h1
 rw [zh5 f h2 C h3, zao f h2 C h3 (z3z hn (h2 ▸ z1s x)).2]
theorem z00g {id : Idv} {u : T} (hn : (z0e u).Nodup) (h0 : ¬ u.id = id) (hm : id ∈ z0e u) : ∃ i : Nat, (z5e id u).2.1 = i /\ (z5e id u).2.2 = true /\ atR (z5e id u).1 (zor i) u = (z0l id u, true) /\ (∃ q, z0c (z5e id u).1 u = (q, true) /\ i < q.kids.length /\ q ∈ z0d u) := by
 obtain ⟨C, q, l, x, r, e, hx, hq, n1, n2, hf, hp⟩ := zjg h0 hm
 rw [hp]
 refine ⟨l.length, rfl, rfl, ?_⟩
 subst e
 obtain ⟨m1, m2⟩ := z3z hn (id := q.id) (by rw [z2c]; exact List.mem_cons_self)
 have hxm : id ∈ z0e (q.setKids (l ++ x :: r)) := by rw [z2c]; exact List.mem_cons_of_mem _ (zef.2 (.inr (.inl (hx ▸ z1s x))))
 obtain ⟨k1, k2⟩ := z3z hn hxm
 have ns := (zap (z9b hn)).1 id (hx ▸ z1s x)
 refine ⟨?_, q.setKids (l ++ x :: r), ?_, by show _ < (l ++ x :: r).length; simp, ?_⟩
 ·show atR q.id (zor l.length) _ = _
  rw [zh5 (id := q.id) (zor l.length) (q := q.setKids (l ++ x :: r)) rfl C m1, zwz, z8j hq hx n2 ns.2.2 C k1 k2]
 ·rw [z8k (by rw [z2c]; exact List.mem_cons_self) C m1]; exact z2j rfl
 ·clear hf hp hn hm h0 n1 m1 m2 hxm k1 k2 ns
  induction C with
  | hole => exact z1j _
  | node t a c b ih => exact z2k (t := z2p (.node t a c b) _) (k := z2p c _) (by show _ ∈ a ++ _ :: b; simp) ih
end Tr
end
section
open Abs Facts Tr
attribute [local irreducible] awp
namespace Tr
def z6f (l : List T) (kind : Int) (name : ByteArray) : Bool := l.any fun k => decide (k.kind = kind) && decide (k.label = name)
def z15 (u : T) : Bool := z6z u && !((if u.kind = 0 then (z0e u).drop 1 else z0e u).any fun x => decide (x = Idv.zero))
end Tr
end
section
open Abs Facts Tr
namespace Tr
theorem nest0 (p : Int) : z2h p 0 = false := by
 by_cases h : 0 <= p /\ p < 8
 ·rcases zvf h with rfl | rfl | rfl | rfl | rfl | rfl | rfl | rfl <;> decide
 ·exact if_neg h
def zkp (t : T) : Bool := zec (fun t l => (decide (t.kind = 0) || decide (t.id ≠ Idv.zero)) && l.all id) t
theorem zvw (t : T) : zkp t = ((decide (t.kind = 0) || decide (t.id ≠ Idv.zero)) && t.kids.all zkp) := by
 unfold zkp; rw [z39, List.all_map]; rfl
theorem z61 {t : T} (h : z33 t = true) : ∀ k ∈ t.kids, z2h t.kind k.kind = true /\ z33 k = true := fun k O => by
 rw [z4y] at h
 simp only [Bool.and_eq_true, List.all_eq_true] at h
 exact ⟨h.2.1 k O, h.2.2.1 k O⟩
theorem zvx {t : T} (h : z33 t = true) : ∀ k ∈ t.kids, k.kind ≠ 0 := fun k O e => by
 have := (z61 h k O).1
 rw [e, nest0] at this; cases this
theorem za8 : ∀ t : T, z33 t = true -> (zkp t = true ↔ (t.kind = 0 \/ t.id ≠ Idv.zero) /\ Idv.zero ∉ t.kids.flatMap z0e) := by
 refine z55 fun t ih h => ?_
 rw [zvw]
 simp only [Bool.and_eq_true, Bool.or_eq_true, decide_eq_true_eq, List.all_eq_true]
 refine and_congr_right fun _ => ?_
 constructor
 ·intro O hm
  obtain ⟨k, hkm, hz⟩ := List.mem_flatMap.1 hm
  obtain ⟨g1, g2⟩ := (ih k hkm (z61 h k hkm).2).1 (O k hkm)
  rw [z1z, List.mem_cons] at hz
  rcases hz with hz | hz
  ·rcases g1 with g1 | g1
   ·exact zvx h k hkm g1
   ·exact g1 hz.symm
  ·exact g2 hz
 ·intro hz k hkm
  refine (ih k hkm (z61 h k hkm).2).2 ⟨.inr fun e => hz (List.mem_flatMap.2 ⟨k, hkm, e ▸ z1s k⟩), fun hm => hz (List.mem_flatMap.2 ⟨k, hkm, ?_⟩)⟩
  rw [z1z]; exact List.mem_cons_of_mem _ hm
theorem zyv (l : List Idv) : (l.any fun x => decide (x = Idv.zero)) = decide (Idv.zero ∈ l) := by
 rw [Bool.eq_iff_iff, List.any_eq_true, decide_eq_true_eq]
 constructor
 ·rintro ⟨x, hx, h⟩; rw [decide_eq_true_eq] at h; exact h ▸ hx
 ·exact fun h => ⟨_, h, decide_eq_true rfl⟩
theorem zny (t : T) : (z0e t).drop 1 = t.kids.flatMap z0e := by rw [z1z]; rfl
theorem zkq (t : T) : z15 t = (z6z t && zkp t) := by
 unfold z15
 by_cases hv : z6z t = true
 ·have hr : z33 t = true := by unfold z6z at hv; simp only [Bool.and_eq_true] at hv; exact hv.1
  rw [hv, Bool.true_and, Bool.true_and, zyv, Bool.eq_iff_iff, za8 t hr]
  simp only [Bool.not_eq_true', decide_eq_false_iff_not]
  by_cases h0 : t.kind = 0
  ·rw [if_pos h0, zny]
   exact ⟨fun h => ⟨.inl h0, h⟩, fun h => h.2⟩
  ·rw [if_neg h0, z1z, List.mem_cons]
   exact ⟨fun h => ⟨.inr fun e => h (.inl e.symm), fun hm => h (.inr hm)⟩, fun ⟨h1, h2⟩ hm => by
    rcases hm with hm | hm
    ·rcases h1 with h1 | h1
     ·exact h0 h1
     ·exact h1 hm.symm
    ·exact h2 hm⟩
 ·rw [Bool.not_eq_true] at hv; rw [hv]; rfl
theorem z28 (t : T) : z15 t = true ↔ z33 t = true /\ depT t <= 8 /\ cntT t <= 1024 /\ (z0e t).Nodup /\ (t.id = Idv.zero ↔ t.kind = 0) /\ Idv.zero ∉ t.kids.flatMap z0e := by
 rw [zkq, Bool.and_eq_true]
 unfold z6z zze
 simp only [Bool.and_eq_true, decide_eq_true_eq, Bool.or_eq_true]
 constructor
 ·rintro ⟨⟨h1, h2, h3, h4⟩, h5⟩
  rw [za8 t h1] at h5
  refine ⟨h1, h2, h3, ?_⟩
  rcases h4 with h4 | ⟨h4, h4'⟩
  ·have ha : ∀ i ∈ z0e t, i = Idv.zero := fun i hi => by simpa using List.all_eq_true.1 h4 i hi
   have h0 : t.id = Idv.zero := ha _ (z1s t)
   have O : t.kind = 0 := by
    rcases h5.1 with h | h
    ·exact h
    ·exact (h h0).elim
   have hn : t.kids.flatMap z0e = [] := by
    cases hl : t.kids.flatMap z0e with
    | nil => rfl
    | cons i l =>
     exfalso
     refine h5.2 ?_
     have : i = Idv.zero := ha i (by rw [z1z, hl]; simp)
     rw [hl, this]; exact List.mem_cons_self
   rw [z1z, hn]
   exact ⟨by simp, ⟨fun _ => O, fun _ => h0⟩, by simp⟩
  ·exact ⟨h4', h4, h5.2⟩
 ·rintro ⟨h1, h2, h3, h4, h5, h6⟩
  refine ⟨⟨h1, h2, h3, .inr ⟨h5, h4⟩⟩, (za8 t h1).2 ⟨?_, h6⟩⟩
  by_cases h0 : t.kind = 0
  ·exact .inl h0
  ·exact .inr fun e => h0 (h5.1 e)
theorem zkr {t : T} (h : z40 t = true) {m : List T} (hm : m.length <= 64) : z40 (t.setKids m) = true := by
 unfold z40 at h ⊢
 simp only [Bool.and_eq_true, decide_eq_true_eq] at h ⊢
 exact ⟨h.1, hm, h.2.2⟩
theorem zks {t : T} (h : z33 t = true) : z40 t = true /\ t.kids.length <= 64 := by
 rw [z4y] at h
 simp only [Bool.and_eq_true] at h
 refine ⟨h.1, ?_⟩
 have := h.1
 unfold z40 at this
 simp only [Bool.and_eq_true, decide_eq_true_eq] at this
 exact this.2.1
theorem zdg {l : List T} {x : T} : z6f l x.kind x.label = false ↔ z5y x ∉ l.map z5y := by
 unfold z6f
 rw [List.any_eq_false]
 simp only [Bool.and_eq_true, decide_eq_true_eq, List.mem_map, not_exists, not_and]
 constructor
 ·intro h k O e
  exact h k O (congrArg Prod.fst e) (congrArg Prod.snd e)
 ·intro h k O e1 e2
  exact h k O (by unfold z5y; rw [e1, e2])
theorem zvy (q x : T) (l r : List T) : depT (q.setKids (l ++ x :: r)) = max (depT (q.setKids (l ++ r))) (1 + depT x) := by
 rw [zbt, zbt (q.setKids (l ++ r))]
 show zfo ((l ++ x :: r).map depT) = max (zfo ((l ++ r).map depT)) _
 rw [List.map_append, List.map_cons, z7h, zjd, List.map_append, z7h]; omega
theorem zht (q x : T) (l r : List T) : cntT (q.setKids (l ++ x :: r)) = cntT (q.setKids (l ++ r)) + cntT x := by
 rw [<- z5l, <- z5l, <- z5l, z2c, z2c, List.flatMap_append, List.flatMap_cons, List.flatMap_append]
 simp only [List.length_cons, List.length_append]; omega
theorem zkt (C : Ctx) {x y : T} (h1 : x.id = y.id) (h2 : x.kind = y.kind) : (z2p C x).id = (z2p C y).id /\ (z2p C x).kind = (z2p C y).kind := by
 cases C with
 | hole => exact ⟨h1, h2⟩
 | node t l c r => exact ⟨rfl, rfl⟩
theorem zdh (C : Ctx) (x : T) : (z2p C x).kids.flatMap z0e = (z6k C ++ (z0e x ++ z4c C)).drop 1 := by rw [<- zny, z2g]
theorem zr6 {C : Ctx} {q x : T} {l r : List T} (hu : z15 (z2p C (q.setKids (l ++ r))) = true) (hx : z15 x = true) (O : x.kind ≠ 0) (hn : z2h q.kind x.kind = true) (ht : z6f (l ++ r) x.kind x.label = false)
  (h64 : (l ++ r).length < 64) (V : zxj C + 1 + depT x <= 8) (hc : cntT (z2p C (q.setKids (l ++ r))) + cntT x <= 1024) (hs : ∀ i ∈ z0e x, i ∉ z0e (z2p C (q.setKids (l ++ r)))) : z15 (z2p C (q.setKids (l ++ x :: r))) = true := by
 rw [z28] at hu hx ⊢
 obtain ⟨u1, u2, u3, u4, u5, u6⟩ := hu
 obtain ⟨x1, x2, x3, x4, x5, x6⟩ := hx
 rw [z6y] at u1
 obtain ⟨hr, hp⟩ := zkt C (x := q.setKids (l ++ x :: r)) (y := q.setKids (l ++ r)) rfl rfl
 have hids : z0e (q.setKids (l ++ x :: r)) = q.id :: (l.flatMap z0e ++ (z0e x ++ r.flatMap z0e)) := by rw [z2c, List.flatMap_append, List.flatMap_cons]
 have hids0 : z0e (q.setKids (l ++ r)) = q.id :: (l.flatMap z0e ++ r.flatMap z0e) := by rw [z2c, List.flatMap_append]
 refine ⟨?_, ?_, ?_, ?_, ?_, ?_⟩
 ·rw [z6y]
  refine ⟨u1.1, ?_⟩
  obtain ⟨a1, _⟩ := zks u1.2
  have hkd := z61 u1.2
  have hnd : ((l ++ r).map z5y).Nodup := by
   have := u1.2
   rw [z4y] at this
   simp only [Bool.and_eq_true, decide_eq_true_eq] at this
   exact this.2.2.2
  rw [zee]
  refine ⟨⟨?_, hkd, hn, hnd, zdg.1 ht⟩, x1⟩
  exact zkr (t := q.setKids (l ++ r)) a1 (m := l ++ q :: r) (by simp at h64 ⊢; omega)
 ·rw [zda] at u2 ⊢
  rw [zvy]; omega
 ·rw [z6e] at u3 hc ⊢
  rw [zht]; omega
 ·rw [z2g, hids]
  rw [z2g, hids0] at u4 hs
  have hp : (z6k C ++ (q.id :: (l.flatMap z0e ++ (z0e x ++ r.flatMap z0e)) ++ z4c C)).Perm (z0e x ++ (z6k C ++ (q.id :: (l.flatMap z0e ++ r.flatMap z0e) ++ z4c C))) := by
   simp only [List.cons_append, List.append_assoc]
   have e1 : (z6k C ++ q.id :: (l.flatMap z0e ++ (z0e x ++ (r.flatMap z0e ++ z4c C)))) = (z6k C ++ q.id :: l.flatMap z0e) ++ (z0e x ++ (r.flatMap z0e ++ z4c C)) := by simp
   have e2 : (z6k C ++ q.id :: (l.flatMap z0e ++ (r.flatMap z0e ++ z4c C))) = (z6k C ++ q.id :: l.flatMap z0e) ++ (r.flatMap z0e ++ z4c C) := by simp
   rw [e1, e2]
   exact List.perm_append_comm_assoc _ _ _
  rw [hp.nodup_iff, List.nodup_append]
  exact ⟨x4, u4, fun a ha b hb e => hs a ha (e ▸ hb)⟩
 ·rw [hr, hp]; exact u5
 ·intro hm
  have hz : Idv.zero ∉ z0e x := by
   rw [z1z, List.mem_cons]
   rintro (h | h)
   ·exact O (x5.1 h.symm)
   ·exact x6 h
  rw [zdh, hids] at hm
  rw [zdh, hids0] at u6
  cases hC : z6k C with
  | nil =>
   rw [hC] at hm u6
   simp only [List.nil_append, List.cons_append, List.drop_succ_cons, List.drop_zero, List.mem_append, List.append_assoc] at hm u6
   rcases hm with h | h | h | h
   ·exact u6 (.inl h)
   ·exact hz h
   ·exact u6 (.inr (.inl h))
   ·exact u6 (.inr (.inr h))
  | cons i p =>
   rw [hC] at hm u6
   simp only [List.cons_append, List.drop_succ_cons, List.drop_zero, List.mem_append, List.mem_cons, List.append_assoc] at hm u6
   rcases hm with h | h | h | h | h | h
   ·exact u6 (.inl h)
   ·exact u6 (.inr (.inl h))
   ·exact u6 (.inr (.inr (.inl h)))
   ·exact hz h
   ·exact u6 (.inr (.inr (.inr (.inl h))))
   ·exact u6 (.inr (.inr (.inr (.inr h))))
theorem zr7 {C : Ctx} {q x : T} {l r : List T} (hu : z15 (z2p C (q.setKids (l ++ x :: r))) = true) : z15 (z2p C (q.setKids (l ++ r))) = true /\ z15 x = true /\ x.kind ≠ 0 /\ z2h q.kind x.kind = true /\ z6f (l ++ r) x.kind x.label = false /\
  (l ++ r).length < 64 /\ zxj C + 1 + depT x <= 8 /\ cntT (z2p C (q.setKids (l ++ r))) + cntT x <= 1024 /\ (∀ i ∈ z0e x, i ∉ z0e (z2p C (q.setKids (l ++ r)))) := by
 rw [z28] at hu
 obtain ⟨u1, u2, u3, u4, u5, u6⟩ := hu
 rw [z6y, zee] at u1
 obtain ⟨uC, ⟨a1, a2, a3, a4, a5⟩, uX⟩ := u1
 obtain ⟨hr, hp⟩ := zkt C (x := q.setKids (l ++ x :: r)) (y := q.setKids (l ++ r)) rfl rfl
 have hids : z0e (q.setKids (l ++ x :: r)) = q.id :: (l.flatMap z0e ++ (z0e x ++ r.flatMap z0e)) := by rw [z2c, List.flatMap_append, List.flatMap_cons]
 have hids0 : z0e (q.setKids (l ++ r)) = q.id :: (l.flatMap z0e ++ r.flatMap z0e) := by rw [z2c, List.flatMap_append]
 rw [zda, zvy] at u2
 rw [z6e, zht] at u3
 have h65 : (l ++ q :: r).length <= 64 := by
  have := a1
  unfold z40 at this
  simp only [Bool.and_eq_true, decide_eq_true_eq] at this
  exact this.2.1
 have hp2 : (z6k C ++ (q.id :: (l.flatMap z0e ++ (z0e x ++ r.flatMap z0e)) ++ z4c C)).Perm (z0e x ++ (z6k C ++ (q.id :: (l.flatMap z0e ++ r.flatMap z0e) ++ z4c C))) := by
  simp only [List.cons_append, List.append_assoc]
  have e1 : (z6k C ++ q.id :: (l.flatMap z0e ++ (z0e x ++ (r.flatMap z0e ++ z4c C)))) = (z6k C ++ q.id :: l.flatMap z0e) ++ (z0e x ++ (r.flatMap z0e ++ z4c C)) := by simp
  have e2 : (z6k C ++ q.id :: (l.flatMap z0e ++ (r.flatMap z0e ++ z4c C))) = (z6k C ++ q.id :: l.flatMap z0e) ++ (r.flatMap z0e ++ z4c C) := by simp
  rw [e1, e2]
  exact List.perm_append_comm_assoc _ _ _
 rw [z2g, hids, hp2.nodup_iff, List.nodup_append] at u4
 obtain ⟨n1, n2, n3⟩ := u4
 have hz6 : Idv.zero ∉ z0e x /\ Idv.zero ∉ (z6k C ++ (q.id :: (l.flatMap z0e ++ r.flatMap z0e) ++ z4c C)).drop 1 := by
  rw [zdh, hids] at u6
  cases hC : z6k C with
  | nil =>
   rw [hC] at u6
   simp only [List.nil_append, List.cons_append, List.drop_succ_cons, List.drop_zero, List.mem_append, List.append_assoc] at u6 ⊢
   exact ⟨fun h => u6 (.inr (.inl h)), fun h => by
    rcases h with h | h | h
    ·exact u6 (.inl h)
    ·exact u6 (.inr (.inr (.inl h)))
    ·exact u6 (.inr (.inr (.inr h)))⟩
  | cons i p =>
   rw [hC] at u6
   simp only [List.cons_append, List.drop_succ_cons, List.drop_zero, List.mem_append, List.mem_cons, List.append_assoc] at u6 ⊢
   exact ⟨fun h => u6 (.inr (.inr (.inr (.inl h)))), fun h => by
    rcases h with h | h | h | h | h
    ·exact u6 (.inl h)
    ·exact u6 (.inr (.inl h))
    ·exact u6 (.inr (.inr (.inl h)))
    ·exact u6 (.inr (.inr (.inr (.inr (.inl h)))))
    ·exact u6 (.inr (.inr (.inr (.inr (.inr h)))))⟩
 have hk0 : x.kind ≠ 0 := fun e => by rw [e, nest0] at a3; cases a3
 refine ⟨?_, ?_, hk0, a3, zdg.2 a5, by simp at h65 ⊢; omega, by omega, by rw [z6e]; omega, fun i hi hm => ?_⟩
 ·rw [z28]
  refine ⟨?_, by rw [zda]; omega, by rw [z6e]; omega, ?_, by rw [<- hr, <- hp]; exact u5, ?_⟩
  ·rw [z6y]
   refine ⟨uC, ?_⟩
   rw [z4y]
   show (z40 (q.setKids (l ++ r)) && (((l ++ r).all fun k => z2h q.kind k.kind) && ((l ++ r).all z33 && decide (((l ++ r).map z5y).Nodup)))) = true
   simp only [Bool.and_eq_true, List.all_eq_true, decide_eq_true_eq]
   exact ⟨zkr (t := q.setKids (l ++ q :: r)) a1 (m := l ++ r) (by simp at h65 ⊢; omega), fun y hy => (a2 y hy).1, fun y hy => (a2 y hy).2, a4⟩
  ·rw [z2g, hids0]; exact n2
  ·rw [zdh, hids0]; exact hz6.2
 ·rw [z28]
  refine ⟨uX, by omega, by omega, n1, ⟨fun h => (hz6.1 (h ▸ z1s x)).elim, fun h => (hk0 h).elim⟩, fun h => hz6.1 ?_⟩
  rw [z1z]; exact List.mem_cons_of_mem _ h
 ·rw [z2g, hids0] at hm
  exact n3 i hi i hm rfl
theorem zmg {t : T} (h : szB t = true) : t.kids.length <= 1000000 /\ ∀ k ∈ t.kids, szB k = true := by
 obtain ⟨_, _, _, _, _, h5, h6⟩ := (z2e t).1 h
 exact ⟨h5, h6⟩
end Tr
end
section
open Abs Facts Tr
attribute [local irreducible] awp
namespace Tr
theorem z7s {α : Type} {f : α -> Bool} {l : List α} {i : Nat} (hi : i < l.length) (h : (l.take i).any f = false) (hf : f l[i] = false) : (l.take (i + 1)).any f = false := by
 rw [List.take_succ_eq_append_getElem hi, List.any_append, h]; simp [hf]
end Tr
end
section
open Abs Facts Go.Lib
variable {P : Program}
theorem zhu (w : World) (t e ty : TypeId) (z : Value) (sz g o n c : Nat) (cur : Array Value) (ht : P.underlying t = some (.slice e)) (hv : ∀ w, (zeroValue e).run P w = .ok z w) (hz : z.cells.size = sz) (h1 : ∀ v ∈ z.cells.toList, v.oneCell' = true)
    (hn : 0 < n) (hg : w.heap[g]? = some (.cells cur e (0, 0))) (hfit : o + n * sz <= cur.size) :
    (Builtin.clear_ #[t] ty #[.slice (some ⟨g, o, none⟩) n c]).run P w = .ok (.tuple #[]) (w.setRow g (cur.toList.take o ++ (Builtin.zeroCells z.cells n).toList ++ cur.toList.drop (o + n * sz)).toArray) := by
  have hlen : (Builtin.zeroCells z.cells n).toList.length = n * sz := by rw [Array.length_toList, size_zeroCells, hz]
  have hst := run_storeCells_at P g o e (Builtin.zeroCells z.cells n).toList 0 cur w hg (by rw [hlen]; omega) (by
    intro v hv'
    simp only [Builtin.zeroCells, Array.toList_map, Array.toList_range, List.mem_map, List.mem_range] at hv'
    obtain ⟨k, O, rfl⟩ := hv'
    have h0 : 0 < z.cells.size := by rcases Nat.eq_zero_or_pos z.cells.size with h | h; · rw [h] at O; omega
                                     · exact h
    have hkm := Nat.mod_lt k h0
    rw [getElem!_pos z.cells _ hkm]
    exact h1 _ (by simp))
  simp only [Nat.add_zero, hlen] at hst
  obtain ⟨m, rfl⟩ : ∃ m, n = m + 1 := ⟨n - 1, by omega⟩
  simp [Builtin.clear_, run_underlying ht, hv, hst]
theorem zc5 (w : World) {ops : Array Oper} {rest : List Oper} {o : Oper} {a : Act} {Q : Exit -> Act -> World -> Prop} (hgd : o.guard = none) (d : Operand) (t : TypeId)
  (ho : o.op = .call { callee := .builtin .clear, args := #[d], argTypes := #[t] }) (v : Value) (V : a.eval d = v) {v' : Value} {w' : World}
  (hr : (Builtin.clear_ #[t] o.type #[v]).run P w = .ok v' w') (h : wpList P ops Q rest (a.put o.dst v') w') : wpList P ops Q (o :: rest) a w := by
 refine wpList_plain hgd fun K J => ?_
 unfold Oper.wp execOp
 simp only [ho, resolve, invoke, builtin, Sem.run_bind, Sem.run_pure, Result.andThen_ok, List.map_toArray, List.map_cons, List.map_nil, V, hr]
 exact J _ _ h
theorem zhv (w : World) (g : Nat) (a b : Array Value) : (w.setRow g a).setRow g b = w.setRow g b := by
 have : ((w.setRow g a).setRow g b).heap = (w.setRow g b).heap := by
  apply Array.ext_getElem?
  intro k
  simp only [World.setRow, Array.getElem?_modify]
  by_cases h : g = k
  ·rw [if_pos h, if_pos h, if_pos h, Option.map_map]
   congr 1
   funext o
   cases o <;> rfl
  ·rw [if_neg h, if_neg h, if_neg h]
 show ({ w with heap := ((w.setRow g a).setRow g b).heap } : World) = _
 rw [this]
 rfl
end
section
open Abs Facts Go.Lib Go.Shelf Go.RowKit
theorem zd2 {P : Program} {ops : Array Oper} {o : Oper} {a : Act} {w : World} {K : Act -> World -> Prop} {Q : Exit -> Act -> World -> Prop} {E : Prop}
  (hg : o.guard = none) (d x : Operand) (dT sT : TypeId) (hop : o.op = Op.call { callee := Callee.builtin Builtin.append, args := #[d, x], argTypes := #[dT, sT] })
  (v u : Value) (V : a.eval d = v) (hx : a.eval x = u) {v' : Value} {w' : World} (hr : (Builtin.append_ #[dT, sT] o.type #[v, u]).run P w = .ok v' w') (J : K (a.put o.dst v') w') :
  if Region.wanted o (yielded ops a.tmps) = true then Oper.wp P o a w K Q else E := by
 have hw : Region.wanted o (yielded ops a.tmps) = true := by simp [Region.wanted, hg]
 rw [if_pos hw]
 unfold Oper.wp
 simp [execOp, hop, resolve, invoke, builtin, V, hx, hr, Result.andThen]
 exact J
theorem zyj {α : Type} {A M C R : List α} {i k m : Nat} (zs : List α) (hA : A.length = i) (hM : M.length = k) (hC : C.length = m) (hz : zs.length = k) :
  let c1 := (A ++ M ++ C ++ R).take i ++ C ++ (A ++ M ++ C ++ R).drop (i + m)
  c1.take (i + m) ++ zs ++ c1.drop (i + m + k) = A ++ C ++ zs ++ R := by
 intro c1
 have h1 : (A ++ M ++ C ++ R).take i = A := by rw [List.append_assoc, List.append_assoc, List.take_append_of_le_length (by omega), List.take_of_length_le (by omega)]
 have hl : (A ++ M ++ C ++ R).length = i + k + m + R.length := by simp only [List.length_append]; omega
 have hc : c1 = A ++ C ++ (A ++ M ++ C ++ R).drop (i + m) := by show _ ++ C ++ _ = _; rw [h1]
 have hac : (A ++ C).length = i + m := by rw [List.length_append]; omega
 rw [hc]
 have e1 : (A ++ C ++ (A ++ M ++ C ++ R).drop (i + m)).take (i + m) = A ++ C := by rw [List.take_append_of_le_length (by omega), List.take_of_length_le (by omega)]
 have e2 : (A ++ C ++ (A ++ M ++ C ++ R).drop (i + m)).drop (i + m + k) = R := by
  rw [List.drop_append, List.drop_of_length_le (by omega), List.nil_append, hac, Nat.add_sub_cancel_left, List.drop_drop, List.drop_append, List.drop_of_length_le (by simp only [List.length_append]; omega), List.nil_append]
  have : i + m + k - (A ++ M ++ C).length = 0 := by simp only [List.length_append]; omega
  rw [this, List.drop_zero]
 rw [e1, e2]
set_option maxHeartbeats 4000000 in
theorem del_row {w : World} {g n cap i j : Nat} {cur : Array Value} {A M C R : List Value} (hij : i < j) (hj : j <= n) (hnc : n <= cap) (hc63 : cap <= 9223372036854775807)
  (hg : w.heap[g]? = some (.cells cur 27 (0, 0))) (hcur : cur.toList = A ++ M ++ C ++ R) (hA : A.length = i * 8) (hM : M.length = (j - i) * 8) (hC : C.length = (n - j) * 8) (h1c : ∀ v ∈ C, v.oneCell' = true) :
  Calls Tryz.prog 267 #[.slice (some ⟨g, 0, none⟩) n cap, .int .i64 i, .int .i64 j] w fun e w2 => e = .returned (.slice (some ⟨g, 0, none⟩) (i + (n - j)) cap) /\ ∃ zs : List Value, zs.length = (j - i) * 8 /\ w2 = w.drew.setRow g (A ++ C ++ zs ++ R).toArray := by
 have t25 : Tryz.prog.underlying 25 = some (.slice 27) := rfl
 have hsz : (Tryz.prog.info? 27).map (·.size) = some 8 := rfl
 obtain ⟨i0, z, hi0, hz0, hzs⟩ := z4v (P := Tryz.prog) (t := 27) (by kernel_rfl)
 have hi8 : i0.size = 8 := by rw [hi0] at hsz; simpa using hsz
 have hzs8 : z.cells.size = 8 := by rw [hzs]; exact z6p
 have hzv : ∀ w, (zeroValue 27).run Tryz.prog w = .ok z w := fun w => by simp [zeroValue, typeInfo, hi0, hz0]
 have hsl : cur.size = i * 8 + (j - i) * 8 + (n - j) * 8 + R.length := by rw [<- Array.length_toList, hcur]; simp only [List.length_append]; omega
 obtain ⟨ad, had, hsrc⟩ : ∃ ad : Addr, (if cap = j then some (⟨g, 0, none⟩ : Addr) else some ⟨g, j * 8, none⟩) = some ad /\ ∀ t u, C[t]? = some u -> w.drew.cell? (ad.add t) = some u := by
  by_cases h : cap = j
  ·refine ⟨⟨g, 0, none⟩, by simp [h], fun t u hu => ?_⟩
   have : C = [] := List.eq_nil_of_length_eq_zero (by rw [hC]; omega)
   rw [this] at hu; simp at hu
  ·refine ⟨⟨g, j * 8, none⟩, by simp [h], fun t u hu => ?_⟩
   rw [Addr.add_lit]
   show w.cell? _ = _
   have h2 : cur.toList[j * 8 + t]? = some u := by
    rw [hcur, List.append_assoc, List.getElem?_append_right (by simp only [List.length_append]; omega)]
    have h3 : j * 8 + t - (A ++ M).length = t := by simp only [List.length_append]; omega
    rw [h3, List.getElem?_append_left ((List.getElem?_eq_some_iff.1 hu).1)]
    exact hu
   simp only [World.cell?, hg]
   simpa using h2
 obtain ⟨c1, hc1⟩ : ∃ c1, c1 = (A ++ M ++ C ++ R).take (i * 8) ++ C ++ (A ++ M ++ C ++ R).drop (i * 8 + (n - j) * 8) := ⟨_, rfl⟩
 have hcl : c1.length = cur.size := by
  rw [hc1]; simp only [List.length_append, List.length_take, List.length_drop]; omega
 have hap : ∀ ty dc, (Builtin.append_ #[25, 25] ty #[.slice (some ⟨g, 0, none⟩) i cap, .slice (some ad) (n - j) dc]).run Tryz.prog w.drew = .ok (.slice (some ⟨g, 0, none⟩) (i + (n - j)) cap) (w.drew.setRow g c1.toArray) := fun ty dc => by
  have h := run_append_room (P := Tryz.prog) w.drew 25 ty 27 i0 t25 hi0 g i cap cur hg ad (n - j) dc C (by rw [hC, hi8]) hsrc h1c (by omega) (by rw [hi8]; omega)
  rw [hi8, hcur, hC, <- hc1] at h
  exact h
 have hg1 : (w.drew.setRow g c1.toArray).heap[g]? = some (.cells c1.toArray 27 (0, 0)) := by
  have hgg : w.drew.heap[g]? = some (.cells cur 27 (0, 0)) := hg
  simp [World.setRow, Array.getElem?_modify, hgg]
 obtain ⟨zs, hzl, hze⟩ : ∃ zs : List Value, zs.length = (j - i) * 8 /\ zs = (Builtin.zeroCells z.cells (n - (i + (n - j)))).toList := ⟨_, by rw [Array.length_toList, size_zeroCells, hzs8]; congr 1; omega, rfl⟩
 have hz1 : ∀ v ∈ z.cells.toList, v.oneCell' = true := by
  have h : (Tryz.prog.info? 27).bind (·.zero) = some z := by rw [hi0]; exact hz0
  have O : ((Tryz.prog.info? 27).bind (·.zero)).all (fun z => z.cells.toList.all (·.oneCell')) = true := by kernel_rfl
  rw [h] at O
  exact fun v hv => List.all_eq_true.1 (by simpa using O) v hv
 have hcl2 : ∀ ty dc, (Builtin.clear_ #[25] ty #[.slice (some ⟨g, (i + (n - j)) * 8, none⟩) (n - (i + (n - j))) dc]).run Tryz.prog (w.drew.setRow g c1.toArray) = .ok (.tuple #[]) (w.drew.setRow g (A ++ C ++ zs ++ R).toArray) := fun ty dc => by
  have h := zhu (P := Tryz.prog) (w.drew.setRow g c1.toArray) 25 27 ty z 8 g ((i + (n - j)) * 8) (n - (i + (n - j))) dc c1.toArray t25 hzv hzs8 hz1 (by omega) hg1 (by rw [List.size_toArray, hcl]; omega)
  have h2 := zyj (α := Value) (A := A) (M := M) (C := C) (R := R) (i := i * 8) (k := (j - i) * 8) (m := (n - j) * 8) zs hA hM hC hzl
  simp only at h2
  rw [<- hc1] at h2
  rw [show (n - (i + (n - j))) * 8 = (j - i) * 8 by congr 1; omega, <- hze, show c1.toArray.toList = c1 from rfl, Nat.add_mul, h2, zhv] at h
  rw [Nat.add_mul]
  exact h
 have hic : i <= cap := by omega
 have hjc : j <= cap := by omega
 have hne : ¬ ((i : Int) = (j : Int)) := by omega
 have z0i : Tryz.prog.follows .mixedOrders = true := by kernel_rfl
 have hfin : ∃ zs2 : List Value, zs2.length = (j - i) * 8 /\ w.drew.setRow g (A ++ C ++ zs ++ R).toArray = w.drew.setRow g (A ++ C ++ zs2 ++ R).toArray := ⟨zs, hzl, rfl⟩
 clear hc1 hcl hg1 hze hsrc hcur hsl
 go_enter Tryz.func267, Tryz.ntmps267
 go_wp2
 go_region_law_o (refine zd2 rfl _ _ 25 25 rfl (.slice (some ⟨g, 0, none⟩) i cap) (.slice (some ad) (n - j) (cap - j)) (by simp [Act.eval, Act.put]) (by simp [Act.eval, Act.put, had]) (hap _ _) ?_)
 go_wp2_with (at_builtin; refine zc5 _ rfl _ _ rfl _ rfl (hcl2 _ _) ?_)
 all_goals (go_ret; exact ⟨rfl, zs, hzl, by simp only [List.append_assoc]⟩)
theorem zq3 {w : World} {v : Value} {n i j : Nat} {xs : List Value} (hij : i < j) (hj : j <= n) (hown : w.ownsRow 0 27 8 v n xs) (hox : z5t xs) :
  Calls Tryz.prog 267 #[v, .int .i64 i, .int .i64 j] w fun e w' => ∃ v', e = .returned v' /\ w'.ownsRow 0 27 8 v' (i + (n - j)) (xs.take (i * 8) ++ xs.drop (j * 8)) /\ w.grownBy w' v.ownBlock /\ blockOf v' = blockOf v := by
 have hxl := hown.1
 rcases hown.2 with ⟨rfl, rfl⟩ | ⟨g, cap, cur, rfl, _, hg, hnc, hcm, hcs, htake⟩
 ·omega
 ·have hA : (xs.take (i * 8)).length = i * 8 := by rw [List.length_take, hxl]; omega
  have hM : ((xs.drop (i * 8)).take ((j - i) * 8)).length = (j - i) * 8 := by rw [List.length_take, List.length_drop, hxl]; omega
  have hC : (xs.drop (j * 8)).length = (n - j) * 8 := by rw [List.length_drop, hxl]; omega
  have hcl : cur.toList.length = cap * 8 := by rw [Array.length_toList]; exact hcs
  have hcur : cur.toList = xs.take (i * 8) ++ (xs.drop (i * 8)).take ((j - i) * 8) ++ xs.drop (j * 8) ++ cur.toList.drop (n * 8) := by
   have h1 : (xs.drop (i * 8)).take ((j - i) * 8) ++ xs.drop (j * 8) = xs.drop (i * 8) := by
    have h2 : xs.drop (j * 8) = (xs.drop (i * 8)).drop ((j - i) * 8) := by rw [List.drop_drop]; congr 1; omega
    rw [h2, List.take_append_drop]
   rw [List.append_assoc (xs.take (i * 8)), h1, List.take_append_drop, <- htake, List.take_append_drop]
  refine (del_row (w := w) (g := g) (n := n) (cap := cap) hij hj hnc (by simp only [maxLen] at hcm; omega) hg hcur hA hM hC (fun u hu => hox u (List.mem_of_mem_drop hu))).mono ?_
  rintro e w2 ⟨rfl, zs, hzl, rfl⟩
  refine ⟨_, rfl, ⟨?_, .inr ⟨g, cap, (xs.take (i * 8) ++ xs.drop (j * 8) ++ zs ++ cur.toList.drop (n * 8)).toArray, rfl, Nat.zero_le _, ?_, by omega, hcm, ?_, ?_⟩⟩, ⟨rfl, rfl, rfl, by simp [World.setRow], fun k O hne => ?_⟩, rfl⟩
  ·rw [List.length_append, hA, hC]; omega
  ·have hgg : w.drew.heap[g]? = some (.cells cur 27 (0, 0)) := hg
   simp [World.setRow, Array.getElem?_modify, hgg]
  ·rw [List.size_toArray, List.length_append, List.length_append, List.length_append, hA, hC, hzl, List.length_drop, hcl]; omega
  ·have hl : (xs.take (i * 8) ++ xs.drop (j * 8)).length = (i + (n - j)) * 8 := by rw [List.length_append, hA, hC]; omega
   show List.take _ (xs.take (i * 8) ++ xs.drop (j * 8) ++ zs ++ cur.toList.drop (n * 8)) = _
   rw [List.append_assoc (xs.take (i * 8) ++ xs.drop (j * 8))]
   exact List.take_left' hl
  ·simp only [World.setRow, Array.getElem?_modify]
   rw [if_neg (fun h => hne (by rw [Value.ownBlock, h]))]
   rfl
end
section
open Abs Facts Go.Lib Go.RowKit
def mvS (s : RS) (id : Nat) (v : Value) (o : HObj) : RS := { s with κ := fun j => if j = s.nx then v else s.κ j, H := z1f (z1f s.H id none) s.nx (some o), nx := s.nx + 1 }
theorem zyl {P : Program} {s : RS} {w w' : World} (h : RH P s w) (id : Nat) {e : TypeId} {n : Nat} {cs : List D} (o' : HObj) (v : Value) (hid : s.H id = some (.row e n cs))
  (hos : w'.os = w.os) (ht : w'.tape = w.tape) (hout : w'.output = w.output) (hsz : w.heap.size <= w'.heap.size)
  (hold : ∀ k, k < w.heap.size -> some k ≠ blockOf (s.κ id) -> w'.heap[k]? = w.heap[k]?)
  (hb : ∀ b, blockOf v = some b -> blockOf (s.κ id) = some b \/ w.heap.size <= b) (hok : Later s (mvS s id v o') -> objOK P (mvS s id v o') w' v o') :
  Step s w (mvS s id v o') w' /\ RH P (mvS s id v o') w' := by
 have hidn := (h.obj id _ hid).1
 have hHo : ∀ j, j ≠ s.nx -> j ≠ id -> (mvS s id v o').H j = s.H j /\ (mvS s id v o').κ j = s.κ j := fun j h1 h2 => by
  simp only [mvS, z1f, if_neg h1, if_neg h2, and_self]
 have hHn : (mvS s id v o').H s.nx = some o' /\ (mvS s id v o').κ s.nx = v := by simp only [mvS, z1f, if_true, and_self]
 have hHi : (mvS s id v o').H id = none := by simp only [mvS, z1f, if_neg (show ¬ id = s.nx by omega), if_true]
 have hl : Later s (mvS s id v o') := by
  refine ⟨Nat.le_succ _, fun a u hm => hm, fun j hj => ?_⟩
  by_cases hji : j = id
  ·subst hji; rw [hHi, hid]; exact .inl rfl
  ·obtain ⟨h1, h2⟩ := hHo j (by omega) hji
   rw [h1, h2]; exact objLe.refl _ _
 have hok := hok hl
 have hown : ∀ k, owned (mvS s id v o') k -> owned s k \/ w.heap.size <= k := by
  rintro k ⟨j, hj, hH, O⟩
  by_cases hjn : j = s.nx
  ·subst hjn
   rw [hHn.2] at O
   rcases hb k O with h1 | h1
   ·exact .inl ⟨id, hidn, by rw [hid]; simp, h1⟩
   ·exact .inr h1
  ·by_cases hji : j = id
   ·subst hji; exact absurd hHi hH
   ·obtain ⟨h1, h2⟩ := hHo j hjn hji
    rw [h1] at hH; rw [h2] at O
    exact .inl ⟨j, h.fresh hH, hH, O⟩
 refine ⟨⟨hos, ht, hout, hsz, hl.nx, hl.mem, fun a u hm => .inl hm, hl.objs, fun k O ho => hold k O (fun e => ho ⟨id, hidn, by rw [hid]; simp, e.symm⟩), hown⟩, ?_, ?_, ?_, fun g => rel.later hl _ _ (h.glob g)⟩
 ·intro a u hm
  have hlt := h.mem_lt hm
  obtain ⟨h1, h2⟩ := h.mem a u hm
  have hne : some a.block ≠ blockOf (s.κ id) := fun e => h2 ⟨id, hidn, by rw [hid]; simp, e.symm⟩
  refine ⟨by rw [z44 (hold _ hlt hne)]; exact h1, fun ho => ?_⟩
  rcases hown _ ho with h3 | h3
  ·exact h2 h3
  ·omega
 ·intro j oj ho'
  by_cases hjn : j = s.nx
  ·subst hjn
   rw [hHn.1] at ho'
   cases ho'
   rw [hHn.2]
   exact ⟨Nat.lt_succ_self _, hok⟩
  ·by_cases hji : j = id
   ·subst hji; rw [hHi] at ho'; cases ho'
   ·obtain ⟨g1, g2⟩ := hHo j hjn hji
    rw [g1] at ho'
    rw [g2]
    obtain ⟨h1, h2⟩ := h.obj j oj ho'
    refine ⟨Nat.lt_succ_of_lt h1, h2.mono hl fun b hb' => hold b (h2.lt hb') fun e => ?_⟩
    exact h.apart j id (by rw [ho']; simp) (by rw [hid]; simp) hji (by rw [hb']; simp) (by rw [hb', e])
 ·have key : ∀ j, j ≠ s.nx -> j ≠ id -> s.H j ≠ none -> blockOf v ≠ none -> blockOf v ≠ blockOf (s.κ j) := fun j h1 h2 h3 h4 e => by
   cases hbv : blockOf v with
   | none => exact h4 hbv
   | some b =>
    cases hs : s.H j with
    | none => exact h3 hs
    | some oj =>
     have hlt := (h.obj j oj hs).2.lt (b := b) (by rw [<- e, hbv])
     rcases hb b hbv with h5 | h5
     ·exact h.apart j id h3 (by rw [hid]; simp) h2 (by rw [<- e, hbv]; simp) (by rw [<- e, hbv, h5])
     ·omega
  intro i j hi hj hij hbi
  have hi2 : i ≠ id := fun e => hi (by rw [e]; exact hHi)
  have hj2 : j ≠ id := fun e => hj (by rw [e]; exact hHi)
  by_cases h1 : i = s.nx
  ·subst h1
   have hjn : j ≠ s.nx := fun e => hij e.symm
   rw [hHn.2] at hbi ⊢
   rw [(hHo j hjn hj2).1] at hj
   rw [(hHo j hjn hj2).2]
   exact key j hjn hj2 hj hbi
  ·rw [(hHo i h1 hi2).1] at hi
   rw [(hHo i h1 hi2).2] at hbi ⊢
   by_cases h2 : j = s.nx
   ·subst h2
    rw [hHn.2]
    exact fun e => key i h1 hi2 hi (by rw [<- e]; exact hbi) e.symm
   ·rw [(hHo j h2 hj2).1] at hj
    rw [(hHo j h2 hj2).2]
    exact h.apart i j hi hj hij hbi
set_option maxHeartbeats 2000000 in
theorem zvp {H : HM} {nx id n i j : Nat} {cs : List D} (hid : H id = some (.row 27 n cs)) (hij : i < j) (hj : j <= n) :
  AC Tryz.prog 267 [.osl id n, .int .i64 i, .int .i64 j] H nx fun r H' nx' => r = .osl nx (i + (n - j)) /\ H' = z1f (z1f H id none) nx (some (.row 27 (i + (n - j)) (cs.take (i * 8) ++ cs.drop (j * 8)))) /\ nx' = nx + 1 := by
 refine ⟨⟨_, Tryz.func267, by kernel_rfl, by kernel_rfl⟩, fun s w vs h1 h2 h h4 => ?_⟩
 subst h1; subst h2
 simp only [relAll] at h4
 obtain ⟨v, r1, rfl, hv, v2, r2, rfl, hv2, v3, r3, rfl, hv3, rfl⟩ := h4
 simp only [rel] at hv hv2 hv3
 subst hv2; subst hv3
 obtain ⟨hidn, _, hlive⟩ := hv
 have hv := (hlive _ _ _ hid).2 rfl
 subst hv
 obtain ⟨xs, ho, hrv, hov, _, _⟩ := z53 h hid
 rw [z6p] at ho
 refine (zq3 (w := w) (v := s.κ id) (n := n) (i := i) (j := j) (xs := xs) hij hj ho hov).mono ?_
 rintro e w' ⟨v', rfl, hown, hg, hbl⟩
 obtain ⟨g1, g2⟩ := zyl (w' := w') h id (.row 27 (i + (n - j)) (cs.take (i * 8) ++ cs.drop (j * 8))) v' hid hg.os hg.tape hg.output hg.size
  (fun k O hne => hg.block k O (by rw [zc8 ho]; exact hne))
  (fun b hb => .inl (by rw [<- hbl]; exact hb))
  (fun hl => ⟨xs.take (i * 8) ++ xs.drop (j * 8), by rw [z6p]; exact hown, relAll.later hl _ _ (z1n (z62 _ hrv) (z7v _ hrv)), z3y (zf9 hov _) (zfa hov _)⟩)
 refine ⟨v', .osl s.nx (i + (n - j)), mvS s id v' (.row 27 (i + (n - j)) (cs.take (i * 8) ++ cs.drop (j * 8))), rfl, ⟨rfl, rfl, rfl⟩, g1, g2, ?_⟩
 simp only [rel]
 obtain ⟨a2, c2, hvs⟩ := zag hown
 refine ⟨Nat.lt_succ_self _, ⟨a2, c2, hvs⟩, fun e2 k2 cs2 hH => ?_⟩
 simp only [mvS, z1f, if_true, Option.some.injEq, HObj.row.injEq] at hH
 obtain ⟨_, rfl, _⟩ := hH
 exact ⟨Nat.le_refl _, fun _ => by simp [mvS]⟩
end
section
open Abs Facts Tr
attribute [local irreducible] awp
theorem zvk (l : List T) (hl : l.length <= 1000000) (H : HM) (nx : Nat) : AC Tryz.prog 263 [z10 l] H nx fun r H' nx' => r = .osl nx l.length /\ H' = z1f H nx (some (zpd l)) /\ nx' = nx + 1 := by
 refine AC.split (pre := []) (post := []) (sz := 8) (els := l.map z25) (fun he => ?_) ?_
 ·have hl0 : l = [] := by simpa using he
  subst hl0
  have hp : PC Tryz.prog 263 [.nil] .nil := by
   refine z1y 2 rfl rfl (z1v [] Tryz.func263 rfl (by decide +kernel) z0i (by decide +kernel) (by simp [Tryz.ntmps263]) ?_)
   show awp _ _ (Code.seq _ _) _ _
   repeat' (first | refine zqj ?_ | ((refine zqh fun K J => ?_); (simp (disch := omega) only [go_sem, Nat.reduceBEq, ↓reduceIte])) | ((refine zqd _ rfl (fun hc => ?_) (fun hc => ?_)) <;> (first | (cases hc; done) | ((try simp only [] at hc); (try (exfalso; omega))))) | refine zqg ?_ | refine zqu (by (simp (disch := omega) only [go_sem]); rfl) rfl ?_ | (refine J _ ?_; clear J K))
   exact z09 rfl (Le.refl _)
  exact zta 27 (hp.ac ⟨rfl, rfl, rfl, rfl⟩)
 ·have ho : OC Tryz.prog 263 [.rsl true 8 (l.map z25)] [zpd l] (.osl 0 l.length) := by
   refine zh9 (by simp only [pureD.pureL, pureD, z1l (f := z25) z05 l, Bool.and_self]) rfl (fun o ho => by simp at ho; subst ho; exact z2m z1d _) (z1v [5] Tryz.func263 rfl (by decide +kernel) z0i (by decide +kernel) (by simp [Tryz.ntmps263]) ?_)
   show awp _ _ (Code.seq _ _) _ _
   repeat' (first | refine zqj ?_ | ((refine zqh fun K J => ?_); (simp (disch := omega) only [go_sem, Nat.reduceBEq, ↓reduceIte, reduceCtorEq, Nat.reduceAdd, Nat.reduceMul, z7k])) | ((refine zqd _ rfl (fun hc => ?_) (fun hc => ?_)) <;> (first | (cases hc; done) | ((try simp only [] at hc); (try (exfalso; omega))))) | refine zqb ?_ | refine zqn ?_ | refine zqu (by (simp (disch := omega) only [go_sem]); rfl) rfl ?_ | (refine J _ ?_; clear J K))
   refine ⟨fun _ => 0, fun i j hi hj _ => by simp at hi hj; omega, ?_, fun j hj => ?_⟩
   ·(simp (disch := omega) only [go_sem, Nat.reduceBEq, renD])
   ·obtain rfl : j = 0 := by simp at hj; omega
    (simp (disch := omega) only [go_sem, zpd])
    try rfl
  exact ho.ac ⟨by simp [renD], rfl, rfl⟩
theorem zvl (l : List T) (hl : l.length <= 1000000) : OC Tryz.prog 263 [z10 l] [zpd l] (.osl 0 l.length) :=
 ⟨by simp only [pureD.pureL, z36, Bool.and_self], rfl, fun o ho => by simp at ho; subst ho; exact z2m z1d _, fun H nx => (zvk l hl H nx).mono fun r H' nx' ⟨h1, h2, h3⟩ => ⟨by rw [h1]; rfl, h2, h3⟩⟩
theorem zvm (l : List T) {i : Nat} (h : i < l.length) : ((l.flatMap z07).drop (i * 8)).take 8 = z07 l[i] := zt9 z0v h
theorem zvn (l : List T) : (l.flatMap z07).length = l.length * 8 := z9c z0v l
namespace Abs
theorem zxm {P : Program} {own : List Nat} {n : FuncId} {args cap : List D} {g : List Oper -> (St -> Prop) -> St -> Prop} {rest : List Oper} {K : St -> Prop} {st : St} {dst : Option Nat} {r : D} {H : HM} {nx : Nat}
  (h : AC P n (args ++ cap) st.H st.nx fun r' H' nx' => r' = r /\ H' = H /\ nx' = nx) (h0 : z0h 5000000 own dst = false) (hm : z0h 4000000 own dst = true) (hs : z88 st H nx) (O : g rest K ((st.withH H nx).put dst r)) (ht : tcM own dst = none := by rfl) (hN : z0h 10000000 own dst = false := by rfl) : zyd P own (.fn n cap) args g rest K st dst :=
 .inr (.inr ⟨h0, hm, r, H, nx, h, .inl ⟨ht, .inl ⟨hN, hs⟩⟩, O⟩)
theorem z1o {P : Program} {own : List Nat} {c : Code} {Q : Exit -> St -> Prop} {st : St} (I : St -> Prop) (h0 : I st) (h : ∀ st, I st -> awp P own c Q st) : awp P own c Q st := h st h0
theorem zzd {P : Program} {st : St} {b j : Nat} {e : TypeId} {cs : List D} {d : D} (hb : st.H b = some (.box e cs)) (V : cs = [d] \/ d = .agg cs) (hp : pureD d = true) (hj : st.t j = .ptr b 0) :
  SealTo P st ((st.withH (z1f st.H b none) st.nx).put (some j) (.rptr d)) := by
 intro N s a w hf
 have hHb : s.H b = some (.box e cs) := by rw [hf.H]; exact hb
 obtain ⟨k, vs, O, _, hr, h1, hc⟩ := zbd hf.heap hHb
 obtain ⟨g1, g2⟩ := z7a hf.heap (id := b) (by rw [hHb]; simp)
 refine ⟨s.shut1 w b, ⟨?_, hf.nx, hf.size, hf.defers, fun i => ?_, g2⟩, g1⟩
 ·show z1f s.H b none = _
  rw [hf.H]; rfl
 ·by_cases hij : i = j
  ·subst hij
   have ht := hf.tmps i
   rw [hj] at ht
   simp only [rel] at ht
   obtain ⟨_, _, h3⟩ := ht
   obtain ⟨k', hk', hv⟩ := h3 _ _ hHb
   rw [O] at hk'
   simp only [Value.pointer.injEq, Option.some.injEq, Addr.mk.injEq, and_true] at hk'
   subst hk'
   show rel _ (zr9 st.t i (.rptr d) i) _
   rw [show zr9 st.t i (.rptr d) i = .rptr d from if_pos rfl]
   simp only [rel]
   have hm : ∀ (q : Nat) c, vs[q]? = some c -> (s.shut1 w b).m ⟨k, q, none⟩ = some c := fun q c hq => by
    unfold RS.shut1
    simp only
    rw [if_pos (by rw [O]; rfl)]
    exact hc q c hq
   rcases V with V | V
   ·subst V
    simp only [relAll] at hr
    obtain ⟨v, r, rfl, hrv, rfl⟩ := hr
    refine ⟨_, v, hv, rel.later g1.later _ _ hrv, fun q c hq => ?_⟩
    rw [z21 (h1 v (by simp))] at hq
    rw [z0z, Nat.zero_add]
    exact hm q c (by simpa using hq)
   ·subst V
    refine ⟨_, .agg vs.toArray, hv, ?_, fun q c hq => ?_⟩
    ·simp only [rel]
     exact ⟨vs, rfl, relAll.later g1.later _ _ hr, h1⟩
    ·rw [z0z, Nat.zero_add]
     exact hm q c (by simpa [Value.cells] using hq)
  ·show rel _ (zr9 st.t j (.rptr d) i) _
   rw [show zr9 st.t j (.rptr d) i = st.t i from if_neg hij]
   exact rel.later g1.later _ _ (hf.tmps i)
theorem zpf {st : St} {id : Nat} {o o' : HObj} (h0 : st.H id = some o) (hid : id < st.nx) (hb : ∀ e cs, o ≠ .box e cs) (hb' : ∀ e cs, o' ≠ .box e cs) : z88 st (z1f (z1f st.H id none) st.nx (some o')) (st.nx + 1) := by
 have h := zgg st (z8q st hb') (id0 := id) (o := o) (by unfold z1f; rw [if_neg (by omega)]; exact h0) hb
 have e : z1f (z1f st.H st.nx (some o')) id none = z1f (z1f st.H id none) st.nx (some o') := by
  funext j
  unfold z1f
  by_cases h1 : j = id
  ·rw [if_pos h1, if_neg (by omega), if_pos h1]
  ·rw [if_neg h1]
   by_cases h2 : j = st.nx
   ·rw [if_pos h2, if_pos h2]
   ·rw [if_neg h2, if_neg h2, if_neg h1]
 rw [e] at h; exact h
def zjm (t : T) : List D := [.int .i64 t.id.act, .int .i64 t.id.item, .int .i64 t.id.n, .int .i64 t.kind, .str t.label, z0s t.head, z0s t.words, z10 t.kids]
end Abs
theorem zbs {P : Program} {H : HM} (k : Nat) {t : T} {d : D} (V : z34 P H (k + 1) d = some (z10 t.kids)) (hp : pureD d = false) :
  z34 P H (k + 2) (.agg [.int .i64 t.id.act, .int .i64 t.id.item, .int .i64 t.id.n, .int .i64 t.kind, .str t.label, z0s t.head, z0s t.words, d]) = some (z25 t) := by
 rw [z25, z1p]
 refine ze6 (k + 1) ?_ (z0u (z0w k rfl) (z0u (z0w k rfl) (z0u (z0w k rfl) (z0u (z0w k rfl) (z0u (z0w k rfl) (z0u (z0w k (z13 _)) (z0u (z0w k (z13 _)) (z0u V z7e))))))))
 simp only [pureD.pureL, hp, Bool.and_false, Bool.false_and]
theorem zxn (l : List T) (i : Nat) : (l.flatMap z07).take (i * 8) ++ (l.flatMap z07).drop ((i + 1) * 8) = (l.eraseIdx i).flatMap z07 := by
 have h1 : (l.flatMap z07).take (i * 8) = (l.take i).flatMap z07 := by
  by_cases hi : i <= l.length
  ·have e : l.flatMap z07 = (l.take i).flatMap z07 ++ (l.drop i).flatMap z07 := by rw [<- List.flatMap_append, List.take_append_drop]
   rw [e, List.take_append_of_le_length (by rw [z9c z0v, List.length_take]; omega), List.take_of_length_le (by rw [z9c z0v, List.length_take]; omega)]
  ·rw [List.take_of_length_le (by rw [z9c z0v]; omega), List.take_of_length_le (by omega)]
 rw [h1, zea z0v, <- List.flatMap_append, List.eraseIdx_eq_take_drop_succ]

namespace Tr
def zcg (u : T) (parent : Idv) (i : Int) (x : T) : Int :=
 if z15 u = false \/ z15 x = false \/ x.kind = 0 then 1 else
 if (z0c parent u).2 = false then 4 else
 if z2h (z0c parent u).1.kind x.kind = false then 9 else
 if i < 0 \/ ((z0c parent u).1.kids.length : Int) < i then 3 else
 if z6f (z0c parent u).1.kids x.kind x.label = true then 10 else
 if 64 <= (z0c parent u).1.kids.length \/ 8 < (zi0 parent u).length + 1 + depT x \/ 1024 < cntT u + cntT x then 6 else
 if ((z0e x).any fun i => (z0c i u).2) = true then 5 else 0
theorem zay {id : Idv} {u : T} (h : (z0c id u).2 = true) : (z0c id u).1 ∈ z0d u := by
 have hm := z9a.1 h
 unfold z0c
 rw [zdb _ hm]
 exact zeg id u _ (List.getElem_mem _)
theorem z70 {id : Idv} {u q : T} (hn : (z0e u).Nodup) (hq : q ∈ z0d u) (hid : q.id = id) : z0c id u = (q, true) := by
 have key : ∀ u : T, (z0e u).Nodup -> q ∈ z0d u -> z0c id u = (q, true) := by
  refine z55 fun u ih hn hq => ?_
  rw [z20, List.mem_cons] at hq
  rcases hq with rfl | hq
  ·exact z2j hid
  ·obtain ⟨k, O, hqk⟩ := List.mem_flatMap.1 hq
   obtain ⟨i, hi, rfl⟩ := List.getElem_of_mem O
   obtain ⟨g1, g2, g3⟩ := z9h hn
   have hin : id ∈ z0e u.kids[i] := List.mem_map.2 ⟨q, hqk, hid⟩
   have h2 := ih _ O (g2 _ O) hqk
   have hw : z26 id u.kids[i] ≠ [] := z42.2 hin
   rw [z35 (z48 (fun e => g1 _ O (e ▸ hin)) hi (fun j hj h => (z59 id _).2 (g3 i j hi h (by omega) id hin)) hw) hw, h2]
 exact key u hn hq
def zlt (u : T) (id : Idv) : Int := if z15 u = false then 1 else if (z0c id u).2 = false then 4 else if u.id = id then 9 else 0
theorem znp {u x : T} {parent : Idv} {i : Int} (h : zcg u parent i x = 0) : (z15 u = true /\ z15 x = true /\ x.kind ≠ 0 /\ (z0c parent u).2 = true /\ z2h (z0c parent u).1.kind x.kind = true /\ z6f (z0c parent u).1.kids x.kind x.label = false /\ (z0c parent u).1.kids.length < 64 /\ (zi0 parent u).length + 1 + depT x <= 8 /\ cntT u + cntT x <= 1024 /\ ((z0e x).any fun i => (z0c i u).2) = false) /\
  parent ∈ z0e u /\ ∃ n : Nat, i = n /\ ∀ q ∈ z0d u, q.id = parent -> n <= q.kids.length := by
 unfold zcg at h
 split at h
 ·cases h
 rename_i h1
 split at h
 ·cases h
 rename_i h2
 split at h
 ·cases h
 rename_i h3
 split at h
 ·cases h
 rename_i h4
 split at h
 ·cases h
 rename_i h5
 split at h
 ·cases h
 rename_i h6
 split at h
 ·cases h
 rename_i h7
 simp only [not_or, Bool.not_eq_false, Bool.not_eq_true] at h1 h2 h3 h5 h7
 refine ⟨⟨h1.1, h1.2.1, h1.2.2, h2, h3, h5, by omega, by omega, by omega, h7⟩, ?_, i.toNat, by omega, fun q hq hid => ?_⟩
 ·rw [z2q, decide_eq_true_eq] at h2; exact h2
 ·rw [z70 ((z28 u).1 h1.1).2.2.2.1 hq hid] at h4
  simp only at h4
  omega
end Tr
namespace Abs
end Abs
end
section
open Abs Facts Tr
namespace Tr
theorem zc4 {u x : T} {parent : Idv} {n : Nat} (h1 : z15 u = true) (h2 : z15 x = true) (h3 : x.kind ≠ 0) (h4 : parent ∈ z0e u) (h5 : z2h (z0c parent u).1.kind x.kind = true) (h6 : n <= (z0c parent u).1.kids.length)
  (h7 : z6f (z0c parent u).1.kids x.kind x.label = false) (h8 : (z0c parent u).1.kids.length < 64) (h9 : (zi0 parent u).length + 1 + depT x <= 8) (h10 : cntT u + cntT x <= 1024) (h11 : ∀ i ∈ z0e x, i ∉ z0e u) : zcg u parent n x = 0 := by
 unfold zcg
 rw [if_neg (by rw [h1, h2]; simp [h3]), if_neg (by rw [z2q, decide_eq_true h4]; simp), if_neg (by rw [h5]; simp), if_neg (by omega), if_neg (by rw [h7]; simp), if_neg (by omega), if_neg]
 rw [List.any_eq_true]
 rintro ⟨i, hi, hf⟩
 rw [z2q, decide_eq_true_eq] at hf
 exact h11 i hi hf
theorem zkm {C : Ctx} {q : T} {id : Idv} (hq : q.id = id) (h : id ∉ z6k C) : (zi0 id (z2p C q)).length = zxj C := by
 rw [znd (hq ▸ z1s q) C h, ze2 hq, List.nil_append, zjb]
theorem z4u {t : T} (h : z15 t = true) : (z0e t).Nodup := ((z28 t).1 h).2.2.2.1
theorem zkn {u x : T} {parent : Idv} {n : Nat} (h : zcg u parent n x = 0) : ∃ (C : Ctx) (q : T) (l r : List T), u = z2p C (q.setKids (l ++ r)) /\ l.length = n /\ q.id = parent /\ z4n parent (zcv n x) u = z2p C (q.setKids (l ++ x :: r)) /\
  z15 (z4n parent (zcv n x) u) = true /\ z0l x.id (z4n parent (zcv n x) u) = u /\ z0c x.id (z4n parent (zcv n x) u) = (x, true) /\ z5e x.id (z4n parent (zcv n x) u) = (parent, (n : Int), true) /\ ¬ (z4n parent (zcv n x) u).id = x.id /\
  (atR parent (zcv n x) u).1 = z4n parent (zcv n x) u /\ (∀ i ∈ z0e x, i ∉ z0e u) /\ cntT (z4n parent (zcv n x) u) = cntT u + cntT x := by
 obtain ⟨⟨h1, h2, h3, h4, h5, h7, h8, h9, h10, h11⟩, hm, n', hn, hle⟩ := znp h
 obtain rfl : n = n' := by omega
 have hdis : ∀ i ∈ z0e x, i ∉ z0e u := fun i hi hm => by
  have := List.any_eq_false.1 h11 i hi
  rw [z2q, decide_eq_true hm] at this
  exact this rfl
 have hnd := z4u h1
 obtain ⟨C, e, hq, hpre, _⟩ := focus parent u hm
 have hqn := zay h4
 have O := hle _ hqn hq
 generalize hq0 : (z0c parent u).1 = q at *
 have e2 : q = q.setKids (q.kids.take n ++ q.kids.drop n) := by rw [List.take_append_drop, z6d]
 generalize hl : q.kids.take n = l at *
 generalize hr : q.kids.drop n = r at *
 have hln : l.length = n := by rw [<- hl, List.length_take]; omega
 have hkr : q.kids = l ++ r := by rw [<- hl, <- hr, List.take_append_drop]
 have hue : u = z2p C (q.setKids (l ++ r)) := e.trans (congrArg (z2p C) e2)
 have hxu := hdis x.id (z1s x)
 have hmx : x.id ∈ z0e (q.setKids (l ++ x :: r)) := by rw [z2c]; exact List.mem_cons_of_mem _ (zef.2 (.inr (.inl (z1s x))))
 rw [hue, z2g, z2c, List.flatMap_append] at hxu
 simp only [List.mem_append, List.mem_cons, not_or] at hxu
 obtain ⟨k1, ⟨k2, k3, k4⟩, k5⟩ := hxu
 have hpost : parent ∉ z4c C := (z3z (x := q) (by rw [<- e]; exact hnd) (hq ▸ z1s q)).2
 have hed : z4n parent (zcv n x) u = z2p C (q.setKids (l ++ x :: r)) := by
  rw [e, zao (zcv n x) hq C hpre hpost]
  rw [e2, <- hln, zn2]
  rfl
 have hst : z15 (z2p C (q.setKids (l ++ x :: r))) = true := by
  refine zr6 (by rw [<- hue]; exact h1) h2 h3 h5 (by rw [<- hkr]; exact h7) (by rw [<- hkr]; exact h8) ?_ (by rw [<- hue]; exact h10) (by rw [<- hue]; exact hdis)
  have := zkm hq hpre
  rw [<- e] at this
  omega
 rw [hed]
 refine ⟨C, q, l, r, hue, hln, hq, rfl, hst, ?_, ?_, ?_, ?_, ?_, hdis, ?_⟩
 ·rw [z8j (fun e => k2 e.symm) rfl k3 k4 C k1 k5, hue]
 ·rw [z8k hmx C k1, zhc (fun e => k2 e.symm) k3 (z1s x), z2j rfl]
 ·rw [zhd hmx (fun e => k2 e.symm) C k1, znc (fun e => k2 e.symm) k3 rfl, hq, hln]
 ·intro hid
  cases C with
  | hole => exact k2 hid.symm
  | node t a c b => exact (z4d k1).1 hid
 ·rw [z00f (zcv n x) hnd hm, hed]
 ·rw [hue, z6e, z6e, zht]; omega
theorem z52 {u : T} {id : Idv} (hs : z15 u = true) (h0 : ¬ u.id = id) (hm : id ∈ z0e u) : ∃ (under : Idv) (n : Nat) (x : T), z5e id u = (under, (n : Int), true) /\ z0c id u = (x, true) /\ x.id = id /\ z15 (z0l id u) = true /\ z15 x = true /\ x.kind ≠ 0 /\
  zcg (z0l id u) under n x = 0 /\ z4n under (zcv n x) (z0l id u) = u /\ (∀ i ∈ z0e x, i ∉ z0e (z0l id u)) /\ under ∈ z0e (z0l id u) /\ cntT (z0l id u) + cntT x = cntT u /\ (∀ i ∈ z0e u, i ∈ z0e x \/ i ∈ z0e (z0l id u)) := by
 obtain ⟨C, q, l, x, r, e, hx, hq, n1, n2, hf, hp⟩ := zjg h0 hm
 have hnd := z4u hs
 subst e
 have hxm : id ∈ z0e (q.setKids (l ++ x :: r)) := by rw [z2c]; exact List.mem_cons_of_mem _ (zef.2 (.inr (.inl (hx ▸ z1s x))))
 obtain ⟨k1, k2⟩ := z3z hnd hxm
 have ns := (zap (z9b hnd)).1 id (hx ▸ z1s x)
 have hw := z8j hq hx n2 ns.2.2 C k1 k2
 obtain ⟨d1, d2, d3, d4, d5, d6, d7, d8, d9⟩ := zr7 hs
 rw [hw]
 have hnd2 := z4u d1
 have hqs : q.id ∈ z0e (q.setKids (l ++ r)) := by rw [z2c]; exact List.mem_cons_self
 obtain ⟨m1, m2⟩ := z3z hnd2 hqs
 have hfq : z0c q.id (z2p C (q.setKids (l ++ r))) = (q.setKids (l ++ r), true) := by rw [z8k hqs C m1]; exact z2j rfl
 refine ⟨q.id, l.length, x, hp, hf, hx, d1, d2, d3, ?_, ?_, d9, z7i C hqs, ?_, fun i hi => ?_⟩
 ·refine zc4 d1 d2 d3 (z7i C hqs) (by rw [hfq]; exact d4) ?_ (by rw [hfq]; exact d5) (by rw [hfq]; exact d6) ?_ d8 d9
  ·rw [hfq]; show l.length <= (l ++ r).length; simp
  ·rw [zkm (id := q.id) (q := q.setKids (l ++ r)) rfl m1]; exact d7
 ·rw [zao (id := q.id) (zcv l.length x) (q := q.setKids (l ++ r)) rfl C m1 m2, zn2]
 ·rw [z6e, z6e, zht]; omega
 ·rw [z2g, z2c, List.flatMap_append, List.flatMap_cons] at hi
  rw [z2g, z2c, List.flatMap_append]
  simp only [List.mem_append, List.mem_cons] at hi ⊢
  rcases hi with h | (h | h | h | h) | h
  ·exact .inr (.inl h)
  ·exact .inr (.inr (.inl (.inl h)))
  ·exact .inr (.inr (.inl (.inr (.inl h))))
  ·exact .inl h
  ·exact .inr (.inr (.inl (.inr (.inr h))))
  ·exact .inr (.inr (.inr h))
theorem zhs {id : Idv} {t : T} (h : id ∉ z0e t) : z0l id t = t := zsg t fun k O hm => h (by rw [z1z]; exact List.mem_cons_of_mem _ (List.mem_flatMap.2 ⟨k, O, hm⟩))
theorem z4s (id : Idv) (t : T) : (z0l id t).id = t.id /\ (z0l id t).kind = t.kind /\ (z0l id t).label = t.label /\ (z0l id t).head = t.head /\ (z0l id t).words = t.words := by
 rw [z3s]; exact ⟨rfl, rfl, rfl, rfl, rfl⟩
theorem zdf (id : Idv) : ∀ t : T, ∀ i ∈ z0e (z0l id t), i ∈ z0e t := by
 refine z55 fun t ih i hi => ?_
 rw [z3s, z2c, List.mem_cons, List.mem_flatMap] at hi
 rw [z1z, List.mem_cons, List.mem_flatMap]
 rcases hi with h | ⟨k, O, h⟩
 ·exact .inl h
 ·obtain ⟨k', hk', rfl⟩ := List.mem_map.1 O
  exact .inr ⟨k', (List.mem_filter.1 hk').1, ih k' (List.mem_filter.1 hk').1 i h⟩
theorem zyu {k : Idv} {u : T} : ∀ i ∈ z0e (z0c k u).1, (z0c k u).2 = true -> i ∈ z0e u := fun i hi hf => by
 have hm : k ∈ z0e u := by rw [z2q, decide_eq_true_eq] at hf; exact hf
 obtain ⟨C, e, _, _, _⟩ := focus k u hm
 rw [e]
 exact z7i C hi
theorem zko {id k : Idv} : ∀ u : T, (z0e u).Nodup -> ¬ u.id = id -> k ∈ z0e u -> (∀ y, z0c id u = (y, true) -> k ∉ z0e y) -> z0c k (z0l id u) = (z0l id (z0c k u).1, true) := by
 refine z55 fun u ih hn h0 O hy => ?_
 by_cases hid : id ∉ z0e u
 ·rw [zhs hid]
  have hf : (z0c k u).2 = true := by rw [z2q, decide_eq_true O]
  have := zhs (id := id) (t := (z0c k u).1) fun hm => hid (zyu id hm hf)
  rw [this, <- hf]
 rw [Classical.not_not] at hid
 by_cases hku : u.id = k
 ·rw [z2j hku]
  exact z2j (by rw [(z4s id u).1]; exact hku)
 ·obtain ⟨i, hi, h1, h2, h3⟩ := z76 hku (z42.2 O)
  have hkm := z42.1 h2
  rw [z35 h3 h2]
  obtain ⟨g1, g2, g3⟩ := z9h hn
  have hki := List.getElem_mem hi
  have hkeep : ¬ u.kids[i].id = id := fun e => by
   refine hy u.kids[i] ?_ hkm
   have hw : z26 id u.kids[i] = [u.kids[i]] := z3d e
   have hne : z26 id u.kids[i] ≠ [] := by rw [hw]; simp
   rw [z35 (z48 h0 hi (fun j hj h => (z59 id _).2 (g3 i j hi h (by omega) id (e ▸ z1s _))) hne) hne]
   exact z2j e
  have hin := ih _ hki (g2 _ hki) hkeep hkm (fun y hf => hy y (by
   have hne : z26 id u.kids[i] ≠ [] := z9a.1 (by rw [hf])
   rw [z35 (z48 h0 hi (fun j hj h => (z59 id _).2 (g3 i j hi h (by omega) id (z42.1 hne))) hne) hne]
   exact hf))
  have hsp : u.kids = u.kids.take i ++ u.kids[i] :: u.kids.drop (i + 1) := by rw [<- List.drop_eq_getElem_cons hi, List.take_append_drop]
  have hwk : k ∈ z0e (z0l id u.kids[i]) := by
   have : (z0c k (z0l id u.kids[i])).2 = true := by rw [hin]
   rw [z2q, decide_eq_true_eq] at this; exact this
  rw [z3s]
  have e : (u.kids.filter (z67 id)).map (z0l id) = ((u.kids.take i).filter (z67 id)).map (z0l id) ++ z0l id u.kids[i] :: ((u.kids.drop (i + 1)).filter (z67 id)).map (z0l id) := by
   conv => lhs; rw [hsp]
   rw [List.filter_append, List.filter_cons, if_pos (z9z hkeep), List.map_append, List.map_cons]
  rw [e, zhc hku ?_ hwk, hin]
  intro hm
  obtain ⟨y, hym, hyk⟩ := List.mem_flatMap.1 hm
  obtain ⟨y', hy', rfl⟩ := List.mem_map.1 hym
  have hmem := (List.mem_filter.1 hy').1
  obtain ⟨j, hj, rfl⟩ := List.getElem_of_mem hmem
  rw [List.length_take] at hj
  have := zdf id _ k hyk
  rw [List.getElem_take] at this
  exact g3 i j hi (by omega) (by omega) k hkm this
end Tr
end
section
open Abs Facts Tr
attribute [local irreducible] awp
theorem take_ok {u : T} {id : Idv} (h : zlt u id = 0) : z15 u = true /\ id ∈ z0e u /\ ¬ u.id = id := by
 unfold zlt at h
 split at h
 ·cases h
 rename_i h1
 split at h
 ·cases h
 rename_i h2
 split at h
 ·cases h
 rename_i h3
 rw [Bool.not_eq_false] at h1 h2
 rw [z2q, decide_eq_true_eq] at h2
 exact ⟨h1, h2, h3⟩
namespace Tr
end Tr
namespace Tr
end Tr
namespace Tr
end Tr
namespace Tr
end Tr
namespace Tr
end Tr
namespace Tr
def fullM (rest p : T) (parent : Idv) (x : T) : Bool := decide (64 <= p.kids.length \/ 8 < (zi0 parent rest).length + 1 + depT x)
def zkf (u : T) (id parent : Idv) (i : Int) : Int :=
 if z15 u = false then 1 else
 if (z0c id u).2 = false \/ (z0c parent u).2 = false then 4 else
 if u.id = id \/ (z0c parent (z0c id u).1).2 = true then 9 else
 if z2h (z0c parent (z0l id u)).1.kind (z0c id u).1.kind = false then 9 else
 if i < 0 \/ ((z0c parent (z0l id u)).1.kids.length : Int) < i then 3 else
 if z6f (z0c parent (z0l id u)).1.kids (z0c id u).1.kind (z0c id u).1.label = true then 10 else
 if fullM (z0l id u) (z0c parent (z0l id u)).1 parent (z0c id u).1 = true then 6 else 0
theorem zvo {u : T} {id parent : Idv} {i : Int} (h : zkf u id parent i = 0) : z15 u = true /\ id ∈ z0e u /\ parent ∈ z0e u /\ ¬ u.id = id /\ parent ∉ z0e (z0c id u).1 /\ zcg (z0l id u) parent i (z0c id u).1 = 0 := by
 unfold zkf at h
 split at h
 ·cases h
 rename_i h1
 split at h
 ·cases h
 rename_i h2
 split at h
 ·cases h
 rename_i h3
 split at h
 ·cases h
 rename_i h4
 split at h
 ·cases h
 rename_i h5
 split at h
 ·cases h
 rename_i h6
 split at h
 ·cases h
 rename_i h7
 simp only [not_or, Bool.not_eq_false, Bool.not_eq_true] at h1 h2 h3 h4 h6 h7
 obtain ⟨h2a, h2b⟩ := h2
 obtain ⟨h3a, h3b⟩ := h3
 rw [z2q, decide_eq_true_eq] at h2a h2b
 rw [z2q, decide_eq_false_iff_not] at h3b
 obtain ⟨under, n, x, d1, d2, d3, d4, d5, d6, d7, d8, d9, d10, d11, d12⟩ := z52 h1 h3a h2a
 rw [d2] at h3b h4 h6 h7 ⊢
 simp only at h3b h4 h6 h7 ⊢
 have hpr : parent ∈ z0e (z0l id u) := (d12 parent h2b).resolve_left h3b
 have hc : cntT u <= 1024 := ((z28 u).1 h1).2.2.1
 unfold fullM at h7
 rw [decide_eq_false_iff_not] at h7
 refine ⟨h1, h2a, h2b, h3a, h3b, ?_⟩
 obtain ⟨m, rfl⟩ := Int.eq_ofNat_of_zero_le (show 0 <= i by omega)
 exact zc4 d4 d5 d6 hpr h4 (by omega) h6 (by omega) (by omega) (by omega) d9
theorem zex {u x : T} {id parent : Idv} {i : Int} (h1 : z15 u = true) (h2 : z0c id u = (x, true)) (h3 : parent ∈ z0e u) (h4 : ¬ u.id = id) (h5 : parent ∉ z0e x) (h6 : zcg (z0l id u) parent i x = 0) : zkf u id parent i = 0 := by
 obtain ⟨⟨w1, w2, w3, w4, w5, w6, w7, w8, w9, w10⟩, w11, n, rfl, w12⟩ := znp h6
 have O := w12 _ (zay w4)
 have hq : (z0c parent (z0l id u)).1.id = parent := by
  obtain ⟨_, _, e, _, _⟩ := focus parent _ w11
  exact e
 have O := O hq
 unfold zkf
 rw [if_neg (by rw [h1]; simp), h2]
 simp only
 rw [ if_neg (by rw [z2q, decide_eq_true h3]; simp), if_neg (by rw [z2q, decide_eq_false h5]; simp [h4]), if_neg (by rw [w5]; simp), if_neg (by omega), if_neg (by rw [w6]; simp), if_neg]
 unfold fullM
 rw [decide_eq_true_eq]; omega
end Tr
namespace Tr
theorem take_zero {u x : T} {id : Idv} (h1 : z15 u = true) (h2 : z0c id u = (x, true)) (h3 : ¬ u.id = id) : zlt u id = 0 := by
 unfold zlt; rw [if_neg (by rw [h1]; simp), if_neg (by rw [h2]; simp), if_neg h3]
theorem zp6 {u : T} {id parent : Idv} {m : Nat} (h : zkf u id parent m = 0) : ∃ (under : Idv) (n : Nat), z5e id u = (under, (n : Int), true) /\
  z5e id (z4n parent (zcv m (z0c id u).1) (z0l id u)) = (parent, (m : Int), true) /\ zkf (z4n parent (zcv m (z0c id u).1) (z0l id u)) id under n = 0 /\
  z4n under (zcv n (z0c id (z4n parent (zcv m (z0c id u).1) (z0l id u))).1) (z0l id (z4n parent (zcv m (z0c id u).1) (z0l id u))) = u /\
  z15 (z4n parent (zcv m (z0c id u).1) (z0l id u)) = true /\ cntT (z4n parent (zcv m (z0c id u).1) (z0l id u)) = cntT u := by
 obtain ⟨h1, h2, h3, h4, h5, hw⟩ := zvo h
 obtain ⟨under, n, x, d1, d2, d3, d4, d5, d6, d7, d8, d9, d10, d11, d12⟩ := z52 h1 h4 h2
 rw [d2] at hw h5 ⊢
 simp only at hw h5 ⊢
 obtain ⟨C, q, l, r, _, _, _, _, f1, f2, f3, f4, f5, _, f7, f8⟩ := zkn hw
 rw [d3] at f2 f3 f4 f5
 refine ⟨under, n, d1, f4, ?_, by rw [f3, f2]; exact d8, f1, by omega⟩
 refine zex f1 f3 ?_ f5 (fun hm => d9 under hm d10) (by rw [f2]; exact d7)
 -- the old parent is still there
 have hu : under ∈ z0e (z0l id u) := d10
 obtain ⟨C', q', l', r', e1, _, _, e2, _⟩ := zkn hw
 rw [e2, z2g, z2c, List.flatMap_append, List.flatMap_cons]
 rw [e1, z2g, z2c, List.flatMap_append] at hu
 simp only [List.mem_append, List.mem_cons] at hu ⊢
 rcases hu with h | (h | h | h) | h
 ·exact .inl h
 ·exact .inr (.inl (.inl h))
 ·exact .inr (.inl (.inr (.inl h)))
 ·exact .inr (.inl (.inr (.inr (.inr h))))
 ·exact .inr (.inr h)
end Tr
end
section
open Abs Facts Tr
namespace Tr
def z6t (t : T) : T := t.setKids []
def Keeps (id : Idv) (a b : T) : Prop := ∀ p ∈ z0d a, ∃ p' ∈ z0d b, p'.id = p.id /\ (p.id ≠ id -> z6t p' = z6t p) /\ ∀ y ∈ p.kids, ∃ y' ∈ p'.kids, y'.id = y.id
theorem z8b : ∀ u x : T, x ∈ z0d u -> ∀ y ∈ z0d x, y ∈ z0d u := by
 refine fun u => z55 (p := fun u => ∀ x : T, x ∈ z0d u -> ∀ y ∈ z0d x, y ∈ z0d u) (fun u ih x hx y hy => ?_) u
 rw [z20, List.mem_cons] at hx
 rcases hx with rfl | hx
 ·exact hy
 ·obtain ⟨k, O, hxk⟩ := List.mem_flatMap.1 hx
  exact z2k O (ih k O x hxk y hy)
theorem zbg : ∀ t : T, (z0e t).Nodup -> ∀ p ∈ z0d t, ∀ y ∈ p.kids, (z5e y.id t).1 = p.id := by
 refine z55 fun t ih hn p hp y hy => ?_
 obtain ⟨g1, g2, g3⟩ := z9h hn
 rw [z20, List.mem_cons] at hp
 rcases hp with rfl | hp
 ·obtain ⟨i, hi, rfl⟩ := List.getElem_of_mem hy
  rw [zin (id := p.kids[i].id) (t := p) (i := i) (fun e => g1 _ hy (e ▸ z1s _)) hi (fun j hj h => (z59 _ _).2 (g3 i j hi h (by omega) _ (z1s _))) rfl]
 ·obtain ⟨k, O, hpk⟩ := List.mem_flatMap.1 hp
  obtain ⟨i, hi, rfl⟩ := List.getElem_of_mem O
  have hyi : y.id ∈ z0e t.kids[i] := List.mem_map.2 ⟨y, z8b _ p hpk y (z2k hy (z1j y)), rfl⟩
  have hne : ¬ t.kids[i].id = y.id := by
   intro e
   have hn2 := g2 _ O
   have key : ∀ t : T, (z0e t).Nodup -> ∀ p ∈ z0d t, ∀ y ∈ p.kids, t.id ≠ y.id := by
    intro t hn p hp y hy e
    rw [z1z, List.nodup_cons] at hn
    refine hn.1 ?_
    rw [e]
    rw [z20, List.mem_cons] at hp
    rcases hp with rfl | hp
    ·exact List.mem_flatMap.2 ⟨y, hy, z1s y⟩
    ·obtain ⟨k, O, hpk⟩ := List.mem_flatMap.1 hp
     refine List.mem_flatMap.2 ⟨k, O, List.mem_map.2 ⟨y, ?_, rfl⟩⟩
     exact z8b k p hpk y (z2k hy (z1j y))
   exact key _ hn2 p hpk y hy e
  rw [zs9 (id := y.id) (t := t) (i := i) (fun e => g1 _ O (e ▸ hyi)) hi (fun j hj h => (z59 _ _).2 (g3 i j hi h (by omega) _ hyi)) hne (z42.2 hyi)]
  exact ih _ O (g2 _ O) p hpk y hy
theorem zi3 (C : Ctx) {x y : T} (h : y ∈ z0d x) : y ∈ z0d (z2p C x) := by
 induction C with
 | hole => exact h
 | node t l c r ih => exact z2k (t := z2p (.node t l c r) x) (k := z2p c x) (by show _ ∈ l ++ _ :: r; simp) ih
theorem zro {t : T} {k : Idv} (O : k ∈ z0e t) (h0 : ¬ t.id = k) : ∃ p ∈ z0d t, ∃ y ∈ p.kids, y.id = k := by
 obtain ⟨C, q, l, x, r, e, hx, _⟩ := zjg h0 O
 refine ⟨q.setKids (l ++ x :: r), ?_, x, by show x ∈ l ++ x :: r; simp, hx⟩
 rw [e]
 exact zi3 C (z1j _)
theorem zla {id : Idv} {a b : T} (J : Keeps id a b) (ha : (z0e a).Nodup) (hb : (z0e b).Nodup) {k : Idv} (O : k ∈ z0e a) :
  (z0c k b).2 = true /\ (k ≠ id -> z6t (z0c k a).1 = z6t (z0c k b).1) /\ (¬ a.id = k -> (z5e k a).1 = (z5e k b).1) := by
 obtain ⟨p, hp, hpk⟩ := List.mem_map.1 O
 obtain ⟨p', hp', e1, e2, _⟩ := J p hp
 have h1 := z70 ha hp hpk
 have h2 := z70 hb hp' (e1.trans hpk)
 refine ⟨by rw [h2], fun hne => ?_, fun h0 => ?_⟩
 ·rw [h1, h2]; exact (e2 (by rw [hpk]; exact hne)).symm
 ·obtain ⟨q, hq, y, hy, hyk⟩ := zro O h0
  obtain ⟨q', hq', f1, _, f3⟩ := J q hq
  obtain ⟨y', hy', f4⟩ := f3 y hy
  have g1 := zbg a ha q hq y hy
  have g2 := zbg b hb q' hq' y' hy'
  rw [hyk] at g1
  rw [f4, hyk] at g2
  rw [g1, g2, f1]
theorem zo5 (id : Idv) : ∀ u : T, ∀ p ∈ z0d (z0l id u), ∃ q ∈ z0d u, p = z0l id q := by
 refine z55 fun u ih p hp => ?_
 by_cases hpu : p = z0l id u
 ·exact ⟨u, z1j u, hpu⟩
 ·have hp2 : p ∈ ((u.kids.filter (z67 id)).map (z0l id)).flatMap z0d := by
   have e : z0d (z0l id u) = z0l id u :: ((u.kids.filter (z67 id)).map (z0l id)).flatMap z0d := by
    conv => lhs; rw [z20]
    rw [show (z0l id u).kids = (u.kids.filter (z67 id)).map (z0l id) from by rw [z3s]; rfl]
   rw [e, List.mem_cons] at hp
   exact hp.resolve_left hpu
  obtain ⟨k, O, hpk⟩ := List.mem_flatMap.1 hp2
  obtain ⟨k', hk', rfl⟩ := List.mem_map.1 O
  have hm := (List.mem_filter.1 hk').1
  obtain ⟨q, hq, e⟩ := ih k' hm p hpk
  exact ⟨q, z2k hm hq, e⟩
theorem zo6 (id : Idv) (j : Idv) (u : T) : Keeps id (z0l j u) u := by
 intro p hp
 obtain ⟨q, hq, rfl⟩ := zo5 j u p hp
 refine ⟨q, hq, (z4s j q).1.symm, fun _ => ?_, fun y hy => ?_⟩
 ·unfold z6t
  obtain ⟨h1, h2, h3, h4, h5⟩ := z4s j q
  unfold T.setKids
  rw [h1, h2, h3, h4, h5]
 ·rw [z3s] at hy
  obtain ⟨y', hy', rfl⟩ := List.mem_map.1 hy
  exact ⟨y', (List.mem_filter.1 hy').1, (z4s j y').1.symm⟩
def LRP (u v : T) (id : Idv) (gone : List Idv) : Prop := z15 v = true /\ cntT v + gone.length = cntT u /\ gone.Nodup /\
 ∀ k ∈ z0e u, (z0c k v).2 = (!decide (k ∈ gone)) /\ ((z0c k v).2 = true -> k ≠ id -> z6t (z0c k u).1 = z6t (z0c k v).1 /\ (z5e k u).1 = (z5e k v).1)
theorem zo7 {u : T} {id : Idv} (h : zlt u id = 0) : LRP u (z0l id u) id (z0e (z0c id u).1) := by
 obtain ⟨h1, h2, h3⟩ := take_ok h
 obtain ⟨under, n, x, d1, d2, d3, d4, d5, d6, d7, d8, d9, d10, d11, d12⟩ := z52 h1 h3 h2
 rw [d2]
 refine ⟨d4, by rw [z5l]; exact d11, z4u d5, fun k O => ?_⟩
 by_cases hx : k ∈ z0e x
 ·have : k ∉ z0e (z0l id u) := d9 k hx
  rw [z2q, decide_eq_false this, decide_eq_true hx]
  exact ⟨rfl, fun h => by cases h⟩
 ·have hr : k ∈ z0e (z0l id u) := (d12 k O).resolve_left hx
  rw [z2q, decide_eq_true hr, decide_eq_false hx]
  refine ⟨rfl, fun _ hne => ?_⟩
  obtain ⟨_, f2, f3⟩ := zla (zo6 id id u) (z4u d4) (z4u h1) hr
  refine ⟨(f2 hne).symm, ?_⟩
  by_cases hu : u.id = k
  ·rw [zim hu, zim (by rw [(z4s id u).1]; exact hu)]
  ·exact (f3 (by rw [(z4s id u).1]; exact hu)).symm
end Tr
namespace Tr
def zfj (s : Stp) : Bool := decide (s.kind = 0) && decide (s.label = z1c)
def zfk (s : Stp) : Bool := decide (1 <= s.kind /\ s.kind <= 7) && z3c s.label
def okS (i : Nat) (s : Stp) : Bool := (decide (i = 0) && zfj s) || zfk s
def z7c (p : List Stp) : Bool := decide (p.length <= 9) && decide (∀ i, (h : i < p.length) -> okS i p[i] = true)
theorem zmu {p : List Stp} {i : Nat} (h : i < p.length) (h2 : okS i p[i] = false) : z7c p = false := by
 unfold z7c
 rw [decide_eq_false (p := ∀ i, (h : i < p.length) -> okS i p[i] = true) (fun g => by rw [g i h] at h2; cases h2), Bool.and_false]
theorem zmv {p : List Stp} (hl : p.length <= 9) (h : ∀ i, (h : i < p.length) -> okS i p[i] = true) : z7c p = true := by
 unfold z7c
 rw [decide_eq_true hl, decide_eq_true h]; rfl
theorem zs3 {p : List Stp} (hl : ¬ p.length <= 9) : z7c p = false := by unfold z7c; rw [decide_eq_false hl]; rfl
theorem z004 {p : List Stp} (h : z7c p = true) : p.length <= 9 /\ ∀ i, (h : i < p.length) -> okS i p[i] = true := by
 unfold z7c at h
 simp only [Bool.and_eq_true, decide_eq_true_eq] at h
 exact h
def atB (s : Stp) (u : T) : Bool := decide (u.kind = s.kind) && decide (u.label = s.label)
def z2r (now : List T) (s : Stp) : List T := now.flatMap fun x => x.kids.filter (atB s)
def z3a (u : T) (s : Stp) : List T := if zfj s = true then [u] else (z0d u).filter (atB s)
def goT (u : T) : List Stp -> List T
 | [] => [u]
 | s :: r => r.foldl z2r (z3a u s)
def z47 (u : T) (p : List Stp) : List T := if z7c p = true then goT u p else []
def z5d (u : T) (p : List Stp) : List Idv := (z47 u p).map T.id
def oneL : List Idv -> Idv × Int
 | [] => (Idv.zero, 7)
 | [i] => (i, 0)
 | _ :: _ :: _ => (Idv.zero, 8)
def zl8 (u : T) (p : List Stp) : Idv × Int := oneL (z5d u p)
theorem z005 {u : T} {p : List Stp} (h : z5d u p = []) : zl8 u p = (Idv.zero, 7) := by unfold zl8; rw [h]; rfl
theorem zws : ∀ (l : List Idv) (h : l.length = 1), oneL l = (l[0]'(by omega), 0)
 | [_], _ => rfl
theorem zwt : ∀ (l : List Idv), 1 < l.length -> oneL l = (Idv.zero, 8)
 | _ :: _ :: _, _ => rfl
theorem z006 {u : T} {p : List Stp} (h : (z5d u p).length = 1) : zl8 u p = ((z5d u p)[0]'(by omega), 0) := zws _ h
theorem z007 {u : T} {p : List Stp} (h : 1 < (z5d u p).length) : zl8 u p = (Idv.zero, 8) := zwt _ h
def z9i (l : List T) : Nat := (l.map cntT).sum
theorem z3t (a b : List T) : z9i (a ++ b) = z9i a + z9i b := by unfold z9i; rw [List.map_append, List.sum_append_nat]
theorem zal (l : List T) : l.length <= z9i l := by
 induction l with
 | nil => simp [z9i]
 | cons x l ih =>
  have h1 := z3t [x] l
  have h2 := zhh x
  have h3 : z9i [x] = cntT x := by simp [z9i]
  rw [List.singleton_append] at h1
  simp only [List.length_cons]; omega
theorem zdy (f : T -> Bool) (l : List T) : z9i (l.filter f) <= z9i l := by
 induction l with
 | nil => simp [z9i]
 | cons x l ih =>
  have h1 := z3t [x] l
  have h2 := z3t [x] (l.filter f)
  rw [List.singleton_append] at h1 h2
  rw [List.filter_cons]
  split <;> omega
theorem zs4 (x : T) : z9i x.kids <= cntT x := by
 rw [z6m]
 have : ∀ l : List T, z9i l = (l.flatMap z0d).length := fun l => by
  induction l with
  | nil => simp [z9i]
  | cons y l ih =>
   have h1 := z3t [y] l
   have h3 : z9i [y] = cntT y := by simp [z9i]
   rw [List.singleton_append] at h1
   rw [List.flatMap_cons, List.length_append, <- ih, h1, h3]; rfl
 rw [this]; omega
theorem zdz (now : List T) (s : Stp) : z9i (z2r now s) <= z9i now := by
 unfold z2r
 induction now with
 | nil => simp [z9i]
 | cons x l ih =>
  have h1 := z3t [x] l
  have h3 : z9i [x] = cntT x := by simp [z9i]
  rw [List.singleton_append] at h1
  rw [List.flatMap_cons, z3t]
  have h4 := zdy (atB s) x.kids
  have h5 := zs4 x
  omega
theorem zwu : ∀ t : T, ∀ x ∈ z0d t, cntT x <= cntT t := by
 refine z55 fun t ih x hx => ?_
 rw [z20] at hx
 rcases List.mem_cons.1 hx with rfl | hx
 ·exact Nat.le_refl _
 ·obtain ⟨k, O, hx⟩ := List.mem_flatMap.1 hx
  have := ih k O x hx
  have := za2 O
  omega
theorem z008 {l : List T} {m : Nat} (h : ∀ x ∈ l, cntT x <= m) : z9i l <= l.length * m := by
 induction l with
 | nil => simp [z9i]
 | cons x l ih =>
  have h1 := z3t [x] l
  have h3 : z9i [x] = cntT x := by simp [z9i]
  rw [List.singleton_append] at h1
  have h4 := h x (by simp)
  have h5 := ih fun y hy => h y (List.mem_cons_of_mem _ hy)
  rw [List.length_cons, Nat.add_mul]; omega
theorem zbl {u : T} {s : Stp} {m : Nat} (hc : cntT u <= m) : z9i (z3a u s) <= m * m := by
 have h1 := zhh u
 unfold z3a
 split
 ·have h3 : z9i [u] = cntT u := by simp [z9i]
  rw [h3]
  exact Nat.le_trans hc (Nat.le_mul_of_pos_left _ (by omega))
 ·refine Nat.le_trans (zdy _ _) (Nat.le_trans (z008 (m := m) fun x hx => Nat.le_trans (zwu u x hx) hc) ?_)
  exact Nat.mul_le_mul_right _ hc
theorem zam {m : Nat} : ∀ (r : List Stp) (now : List T), z9i now <= m -> z9i (r.foldl z2r now) <= m
 | [], now, h => h
 | s :: r, now, h => zam r (z2r now s) (Nat.le_trans (zdz now s) h)
theorem zs5 {u : T} {p : List Stp} {m : Nat} (hc : cntT u <= m) : (z47 u p).length <= m * m + 1 := by
 unfold z47
 split
 ·cases p with
  | nil => simp [goT]
  | cons s r =>
   have := zal (goT u (s :: r))
   have h2 : z9i (goT u (s :: r)) <= m * m := zam r _ (zbl hc)
   omega
 ·simp
theorem zwv {now : List T} {s : Stp} {u : T} (h : ∀ x ∈ now, x ∈ z0d u) : ∀ x ∈ z2r now s, x ∈ z0d u := fun x hx => by
 unfold z2r at hx
 obtain ⟨y, hy, hx⟩ := List.mem_flatMap.1 hx
 have O := (List.mem_filter.1 hx).1
 exact z8b u y (h y hy) x (z2k O (z1j x))
theorem ze0 {s : Stp} {u : T} : ∀ x ∈ z3a u s, x ∈ z0d u := fun x hx => by
 unfold z3a at hx
 split at hx
 ·rw [List.mem_singleton.1 hx]; exact z1j u
 ·exact (List.mem_filter.1 hx).1
theorem zan {u : T} : ∀ (r : List Stp) (now : List T), (∀ x ∈ now, x ∈ z0d u) -> ∀ x ∈ r.foldl z2r now, x ∈ z0d u
 | [], _, h => h
 | _ :: r, _, h => zan r _ (zwv h)
end Tr
namespace Tr
def ze3 (t : T) : Bool :=
 if t.kind = 0 then decide (t.label = z1c) && (decide (t.head.length = 0) && decide (t.words.length = 0))
 else decide (0 < t.kind /\ t.kind <= 7) && (z3c t.label && (zl7 t.head && zl7 t.words))
def zz7 (t : T) (l : List (Nat -> Bool)) (d : Nat) : Bool :=
 !(decide (8 < d) || (decide (0 < d) && decide (t.kind = 0)) || !ze3 t || decide (64 < t.kids.length)) && ((t.kids.all fun k => z2h t.kind k.kind) && (l.all (fun f => f (d + 1)) && decide ((t.kids.map z5y).Nodup)))
def zaq (t : T) (d : Nat) : Bool := zec zz7 t d
theorem zsi (t : T) (d : Nat) : zaq t d = (!(decide (8 < d) || (decide (0 < d) && decide (t.kind = 0)) || !ze3 t || decide (64 < t.kids.length)) && ((t.kids.all fun k => z2h t.kind k.kind) && ((t.kids.all fun k => zaq k (d + 1)) && decide ((t.kids.map z5y).Nodup)))) := by
 unfold zaq
 rw [z39, zz7, List.all_map]; rfl
def b1 (n : UInt8) : ByteArray := ⟨#[n]⟩
def zz8 (s : ByteArray) : ByteArray := if (bl s).headD 0 = 124 \/ (bl s).headD 0 = 92 then b1 92 ++ s else s
def zos (l : List Wd) : ByteArray := l.foldl (fun s w => s ++ b1 32 ++ zz8 w.text) ByteArray.empty
def twoX : Nat -> ByteArray
 | 0 => ByteArray.empty
 | n + 1 => twoX n ++ ⟨#[32, 32]⟩
def zcw (t : T) (d : Nat) : ByteArray :=
 if ze3 t = false \/ 8 < d then ByteArray.empty else
 let s := twoX d ++ zq1 t.kind
 let s := if t.kind = 0 then s else s ++ b1 32 ++ t.label
 let s := if 0 < t.head.length then s ++ b1 58 ++ zos t.head else s
 if 0 < t.words.length then s ++ ⟨#[32, 124]⟩ ++ zos t.words else s
def zz9 (t : T) (l : List (Nat -> List ByteArray)) (d : Nat) : List ByteArray := zcw t d :: l.flatMap fun f => f (d + 1)
def z49 (t : T) (d : Nat) : List ByteArray := zec zz9 t d
theorem ze4 (t : T) (d : Nat) : z49 t d = zcw t d :: t.kids.flatMap fun k => z49 k (d + 1) := by
 unfold z49
 rw [z39, zz9, List.flatMap_map]
def zis (t : T) : Bool := zaq t 0 && decide (cntT t <= 1024)
def zit (l : List ByteArray) : ByteArray := l.foldl (fun s w => s ++ w ++ b1 10) ByteArray.empty
def zsj (t : T) : ByteArray × Int := if zis t = false then (ByteArray.empty, 1) else if 16384 < (zit (z49 t 0)).size then (ByteArray.empty, 6) else (zit (z49 t 0), 0)
def zsk (b : UInt8) : Bool := decide (97 <= b.toNat /\ b.toNat <= 122)
def zlh (b : UInt8) : Bool := zsk b || (dig b || decide (b.toNat = 45))
def ze5 (s : ByteArray) : Bool := decide (1 <= s.size /\ s.size <= 16) && (zsk ((bl s).headD 0) && (bl s).all zlh)
def zsl (k d : Int) (e : ByteArray) : Bool :=
 if k = 1 then decide (0 <= d /\ d <= 1048576) && decide (e = z1c)
 else if k = 3 then decide (d = 0) && ze5 e
 else if k = 0 \/ k = 2 then decide (d = 0) && decide (e = z1c) else false
def zli (x : It) : It :=
 let m := decide (x.kind <= 6)
 let k := x.kind
 .mk k (if m then x.at_ else []) (if k = 6 then x.to else []) (if k = 0 \/ k = 6 then x.wh else 0) (if k = 2 \/ k = 3 then x.nth else 0) (if k = 0 then x.unit else T.zero)
  (if k = 2 \/ k = 3 then x.old else []) (if k = 2 \/ k = 3 \/ k = 4 then x.new else []) (if k = 5 then x.label else z1c) (if m then x.for_ else z1c) (if m then x.sk else 0) (if m then x.sd else 0) (if m then x.se else z1c)
  (if k = 7 \/ k = 8 \/ k = 9 \/ k = 11 then x.act else 0) (if k = 7 \/ k = 8 \/ k = 9 \/ k = 11 then x.item else 0) (if m \/ k = 11 then 0 else x.day) (if k = 10 then x.event else z1c) (if k = 11 then x.by_ else [])
noncomputable instance : DecidableEq It := fun _ _ => Classical.propDecidable _
def inB (n a b : Int) : Bool := decide (a <= n /\ n <= b)
def z4w (x : It) (l : List Bool) : Bool :=
 if x.kind = 0 then inB x.wh 0 3 && (z6z x.unit && decide (x.unit = z6b x.unit) && (!decide (x.unit.kind = 0) && decide ((zsj x.unit).2 = 0)))
 else if x.kind = 2 then zfg x.old && decide (1 <= x.old.length) && (zfg x.new && inB x.nth 0 256)
 else if x.kind = 3 then zfg x.old && (zfg x.new && decide (1 <= x.new.length) && (inB x.nth 0 256 && (decide (0 < x.old.length) || decide (x.nth = 0))))
 else if x.kind = 4 then zfg x.new
 else if x.kind = 5 then z3c x.label
 else if x.kind = 6 then inB x.wh 0 3 && z7c x.to
 else if x.kind = 7 \/ x.kind = 8 \/ x.kind = 9 then inB x.act 1 1048576 && (inB x.item (-1) 31 && inB x.day 0 1048576)
 else if x.kind = 10 then ze5 x.event && inB x.day 0 1048576
 else if x.kind = 11 then inB x.act 1 1048576 && (inB x.item 0 31 && (decide (x.by_.length = 1) && ((x.by_.all fun y => inB y.kind 0 6) && l.all id)))
 else true
noncomputable def mayF (x : It) (l : List Bool) : Bool :=
 (inB x.kind 0 11 && decide (x = zli x)) && ((decide (6 < x.kind) || (z7c x.at_ && ((decide (x.for_ = z1c) || ze5 x.for_) && zsl x.sk x.sd x.se))) && z4w x l)
noncomputable def zcx (x : It) : Bool := zvr mayF x
theorem zsm (x : It) : zcx x = mayF x (x.by_.map zcx) := by unfold zcx; rw [zc2]
end Tr
namespace Tr
def zww (l : List ByteArray) (a i : Int) (k : Nat) : List Wd := (l.zipIdx k).map fun p => ⟨p.1, ⟨a, i, (p.2 : Int)⟩⟩
end Tr
namespace Tr
theorem zwd {id k : Idv} : ∀ u : T, (z0e u).Nodup -> ¬ u.id = id -> k ∈ z0e u -> (∀ y, z0c id u = (y, true) -> k ∉ z0e y) -> zi0 k (z0l id u) = zi0 k u := by
 refine z55 fun u ih hn h0 O hy => ?_
 by_cases hid : id ∉ z0e u
 ·rw [zhs hid]
 rw [Classical.not_not] at hid
 by_cases hku : u.id = k
 ·rw [ze2 hku]
  exact ze2 (by rw [(z4s id u).1]; exact hku)
 ·obtain ⟨i, hi, h1, h2, h3⟩ := z76 hku (z42.2 O)
  have hkm := z42.1 h2
  obtain ⟨g1, g2, g3⟩ := z9h hn
  have hki := List.getElem_mem hi
  have hkeep : ¬ u.kids[i].id = id := fun e => by
   refine hy u.kids[i] ?_ hkm
   have hw : z26 id u.kids[i] = [u.kids[i]] := z3d e
   have hne : z26 id u.kids[i] ≠ [] := by rw [hw]; simp
   rw [z35 (z48 h0 hi (fun j hj h => (z59 id _).2 (g3 i j hi h (by omega) id (e ▸ z1s _))) hne) hne]
   exact z2j e
  have hyk : ∀ y, z0c id u.kids[i] = (y, true) -> k ∉ z0e y := fun y hf => hy y (by
   have hne : z26 id u.kids[i] ≠ [] := z9a.1 (by rw [hf])
   rw [z35 (z48 h0 hi (fun j hj h => (z59 id _).2 (g3 i j hi h (by omega) id (z42.1 hne))) hne) hne]
   exact hf)
  have hin := ih _ hki (g2 _ hki) hkeep hkm hyk
  have hfw := zko u.kids[i] (g2 _ hki) hkeep hkm hyk
  have hsp : u.kids = u.kids.take i ++ u.kids[i] :: u.kids.drop (i + 1) := by rw [<- List.drop_eq_getElem_cons hi, List.take_append_drop]
  have hwk : k ∈ z0e (z0l id u.kids[i]) := by
   have : (z0c k (z0l id u.kids[i])).2 = true := by rw [hfw]
   rw [z2q, decide_eq_true_eq] at this; exact this
  rw [zmy hku hi h1 h2, z3s]
  have e : (u.kids.filter (z67 id)).map (z0l id) = ((u.kids.take i).filter (z67 id)).map (z0l id) ++ z0l id u.kids[i] :: ((u.kids.drop (i + 1)).filter (z67 id)).map (z0l id) := by
   conv => lhs; rw [hsp]
   rw [List.filter_append, List.filter_cons, if_pos (z9z hkeep), List.map_append, List.map_cons]
  rw [e, ztj hku ?_ hwk, hin]
  intro hm
  obtain ⟨y, hym, hyk⟩ := List.mem_flatMap.1 hm
  obtain ⟨y', hy', rfl⟩ := List.mem_map.1 hym
  have hmem := (List.mem_filter.1 hy').1
  obtain ⟨j, hj, rfl⟩ := List.getElem_of_mem hmem
  rw [List.length_take] at hj
  rw [List.getElem_take] at hyk
  have := h1 j (by omega) (by omega)
  rw [z59] at this
  exact this (zdf id _ k hyk)
end Tr
namespace Tr
end Tr
namespace Tr
def besB (wh : Int) : Bool := decide (wh = 2 \/ wh = 3)
def zfh (u : T) (to : Idv) (wh : Int) : Idv := if besB wh = true then (z5e to u).1 else to
def zio (u : T) (id par : Idv) : List T := if (z5e id u).1 = par then (z0c par u).1.kids.eraseIdx (z5e id u).2.1.toNat else (z0c par u).1.kids
def posM (u : T) (id to : Idv) (wh : Int) : Nat :=
 if besB wh = true then z89 (fun k => decide (k.id = to)) (z0l id (z0c (zfh u to wh) u).1).kids + (if wh = 2 then 1 else 0)
 else if wh = 0 then 0 else (z0l id (z0c (zfh u to wh) u).1).kids.length
def zh3 (u : T) (id to : Idv) (wh : Int) : Int :=
 if u.id = id \/ (besB wh = true /\ u.id = to) \/ (to ∈ z0e (z0c id u).1 /\ (¬ to = id \/ besB wh = false)) then 9 else
 if z2h (z0c (zfh u to wh) u).1.kind (z0c id u).1.kind = false then 9 else
 if z6f (zio u id (zfh u to wh)) (z0c id u).1.kind (z0c id u).1.label = true then 10 else
 if 64 <= (zio u id (zfh u to wh)).length \/ 8 < (zi0 (zfh u to wh) u).length + 1 + depT (z0c id u).1 then 6 else 0
def z8i (u : T) (id to : Idv) (wh : Int) : T :=
 if zh3 u id to wh = 0 /\ ¬ to = id then z4n (zfh u to wh) (zcv (posM u id to wh) (z0c id u).1) (z0l id u) else u
theorem z009 {u : T} {id : Idv} (hn : (z0e u).Nodup) (h0 : ¬ u.id = id) (hm : id ∈ z0e u) : ∃ (q : T) (l : List T) (x : T) (r : List T), z5e id u = (q.id, (l.length : Int), true) /\ z0c id u = (x, true) /\ x.id = id /\
  z0c q.id u = (q.setKids (l ++ x :: r), true) /\ q.setKids (l ++ x :: r) ∈ z0d u /\ id ∉ l.flatMap z0e /\ id ∉ r.flatMap z0e /\ q.id ∈ z0e u /\ (∀ i ∈ z0e x, i ≠ q.id /\ i ∉ l.flatMap z0e /\ i ∉ r.flatMap z0e) := by
 obtain ⟨C, q, l, x, r, e, hx, hq, n1, n2, hf, hp⟩ := zjg h0 hm
 refine ⟨q, l, x, r, hp, hf, hx, ?_⟩
 subst e
 have hqs : q.id ∈ z0e (q.setKids (l ++ x :: r)) := by rw [z2c]; exact List.mem_cons_self
 obtain ⟨m1, m2⟩ := z3z hn hqs
 have ns := (zap (z9b hn)).1
 refine ⟨by rw [z8k hqs C m1]; exact z2j rfl, zi3 C (z1j _), n2, (ns id (hx ▸ z1s x)).2.2, z7i C hqs, ns⟩
theorem z00a {u x : T} {to : Idv} (hn : (z0e u).Nodup) (h0 : ¬ u.id = to) (hm : to ∈ z0e u) (hx : x ∈ z0d u) (h : to ∉ z0e x) : (z5e to u).1 ∈ z0e u /\ (z5e to u).1 ∉ z0e x := by
 obtain ⟨q, l, y, r, hp, hf, hy, hq, hqm, n1, n2, hqi, _⟩ := z009 hn h0 hm
 rw [hp]
 refine ⟨hqi, fun hc => h ?_⟩
 obtain ⟨z, hz, hzi⟩ := List.mem_map.1 hc
 have e1 := z70 hn (z8b u x hx z hz) hzi
 have e2 := z70 hn hqm rfl
 rw [show (q.setKids (l ++ y :: r)).id = q.id from rfl] at e2
 rw [e1] at e2
 have e3 : z = q.setKids (l ++ y :: r) := (Prod.mk.inj e2).1
 have hyz : y ∈ z0d z := by rw [e3]; exact z2k (k := y) (by show y ∈ l ++ y :: r; simp) (z1j y)
 exact List.mem_map.2 ⟨y, z8b x z hz y hyz, hy⟩
theorem zsa {id : Idv} {P : T} (h : ∀ k ∈ P.kids, ¬ k.id = id) : (z0l id P).kids = P.kids.map (z0l id) := by
 rw [z3s]
 show (P.kids.filter (z67 id)).map (z0l id) = _
 rw [List.filter_eq_self.2 fun k O => z9z (h k O)]
theorem zsb {u : T} {id par : Idv} (hn : (z0e u).Nodup) (h0 : ¬ u.id = id) (hm : id ∈ z0e u) (hp : par ∈ z0e u) :
    (z0l id (z0c par u).1).kids.map z5y = (zio u id par).map z5y /\ (z0l id (z0c par u).1).kids.length = (zio u id par).length /\
    (((z5e id u).1 = par /\ ∃ l x r, (z0c par u).1.kids = l ++ x :: r /\ x.id = id /\ (z5e id u).2.1 = (l.length : Int) /\ (z0l id (z0c par u).1).kids = l ++ r) \/
     (¬ (z5e id u).1 = par /\ (z0l id (z0c par u).1).kids = (z0c par u).1.kids.map (z0l id))) := by
  obtain ⟨q, l, x, r, hpr, hf, hx, hq, hqm, n1, n2, hqi, hxs⟩ := z009 hn h0 hm
  have hq0 : ¬ q.id = id := fun e => (hxs id (hx ▸ z1s x)).1 e.symm
  by_cases he : (z5e id u).1 = par
  · have hqp : q.id = par := by rw [hpr] at he; exact he
    have hfp : z0c par u = (q.setKids (l ++ x :: r), true) := hqp ▸ hq
    have hw : (z0l id (q.setKids (l ++ x :: r))).kids = l ++ r := by rw [ziq hx n1 n2]; rfl
    have O : zio u id par = l ++ r := by
      unfold zio
      rw [if_pos he, hfp, hpr]
      show (l ++ x :: r).eraseIdx (Int.toNat (l.length : Int)) = _
      rw [Int.toNat_natCast, List.eraseIdx_append_of_length_le (Nat.le_refl _), Nat.sub_self]; rfl
    rw [hfp, O, hw]
    exact ⟨rfl, rfl, .inl ⟨he, l, x, r, rfl, hx, by rw [hpr], rfl⟩⟩
  · have O : zio u id par = (z0c par u).1.kids := by unfold zio; rw [if_neg he]
    have hno : ∀ k ∈ (z0c par u).1.kids, ¬ k.id = id := fun k O e => he (by
      have h1 := zbg u hn _ (zay (id := par) (u := u) (by rw [z2q, decide_eq_true hp])) k O
      rw [e] at h1
      rw [h1]
      obtain ⟨_, _, h2, _⟩ := focus par u hp
      exact h2)
    have hw := zsa hno
    rw [O, hw]
    refine ⟨?_, by rw [List.length_map], .inr ⟨he, rfl⟩⟩
    rw [List.map_map]
    refine List.map_congr_left fun k _ => ?_
    show z5y (z0l id k) = z5y k
    unfold z5y
    rw [(z4s id k).2.1, (z4s id k).2.2.1]
theorem zoq {l m : List T} (h : l.map z5y = m.map z5y) (x : T) : z6f l x.kind x.label = z6f m x.kind x.label := by
 have h1 := zdg (l := l) (x := x)
 have h2 := zdg (l := m) (x := x)
 rw [h] at h1
 cases ha : z6f l x.kind x.label with
 | false => exact (h2.2 (h1.1 ha)).symm
 | true => cases hb : z6f m x.kind x.label with
  | true => rfl
  | false => rw [h1.2 (h2.1 hb)] at ha; cases ha
theorem zsc {u : T} {id to : Idv} {wh : Int} (hs : z15 u = true) (hm : id ∈ z0e u) (ht : to ∈ z0e u) (h : zh3 u id to wh = 0) : ¬ u.id = id /\ (besB wh = true -> ¬ u.id = to) /\
  (¬ to = id -> zfh u to wh ∈ z0e u /\ zfh u to wh ∉ z0e (z0c id u).1 /\ zkf u id (zfh u to wh) (posM u id to wh) = 0) := by
 unfold zh3 at h
 split at h
 ·cases h
 rename_i h1
 split at h
 ·cases h
 rename_i h2
 split at h
 ·cases h
 rename_i h3
 split at h
 ·cases h
 rename_i h4
 simp only [not_or, not_and, Classical.not_not, Bool.not_eq_false, Bool.not_eq_true] at h1 h2 h3 h4
 obtain ⟨a1, a2, a3⟩ := h1
 refine ⟨a1, a2, fun hne => ?_⟩
 have hn := z4u hs
 have hxn := zay (id := id) (u := u) (by rw [z2q, decide_eq_true hm])
 have hto : to ∉ z0e (z0c id u).1 := fun hc => hne (a3 hc).1
 have hpar : zfh u to wh ∈ z0e u /\ zfh u to wh ∉ z0e (z0c id u).1 := by
  unfold zfh
  split
  ·rename_i hb
   exact z00a hn (a2 hb) ht hxn hto
  ·exact ⟨ht, hto⟩
 refine ⟨hpar.1, hpar.2, ?_⟩
 obtain ⟨under, n, x, d1, d2, d3, d4, d5, d6, d7, d8, d9, d10, d11, d12⟩ := z52 hs a1 hm
 obtain ⟨k1, k2, k3⟩ := zsb hn a1 hm hpar.1
 have hyo : ∀ y, z0c id u = (y, true) -> zfh u to wh ∉ z0e y := fun y hy => by have := hpar.2; rw [hy] at this; exact this
 have hfw := zko u hn a1 hpar.1 hyo
 have haw := zwd u hn a1 hpar.1 hyo
 rw [d2] at h2 h3 h4 hpar
 simp only at h2 h3 h4 hpar
 have hpw : zfh u to wh ∈ z0e (z0l id u) := (d12 _ hpar.1).resolve_left hpar.2
 refine zex hs d2 hpar.1 a1 hpar.2 ?_
 refine zc4 d4 d5 d6 hpw ?_ ?_ ?_ ?_ ?_ ?_ d9
 ·rw [hfw]; show z2h (z0l id _).kind _ = true; rw [(z4s id _).2.1]; exact h2
 ·rw [hfw]
  show posM u id to wh <= (z0l id (z0c (zfh u to wh) u).1).kids.length
  unfold posM
  split
  ·rename_i hb
   -- the unit beside is there
   obtain ⟨q, l, y, r, hp, hf, hy, hq, hqm, _⟩ := z009 hn (a2 hb) ht
   have hpm : zfh u to wh = q.id := by unfold zfh; rw [if_pos hb, hp]
   have hlt : z89 (fun k => decide (k.id = to)) (z0l id (z0c (zfh u to wh) u).1).kids < (z0l id (z0c (zfh u to wh) u).1).kids.length := by
    have := zyk (fun k : T => decide (k.id = to)) (z0l id (z0c (zfh u to wh) u).1).kids
    have hany : (z0l id (z0c (zfh u to wh) u).1).kids.any (fun k => decide (k.id = to)) = true := by
     rw [z3s]
     show ((List.filter _ _).map _).any _ = true
     rw [List.any_map, List.any_eq_true]
     refine ⟨y, List.mem_filter.2 ⟨?_, z9z (by rw [hy]; exact hne)⟩, ?_⟩
     ·rw [hpm, hq]; show y ∈ l ++ y :: r; simp
     ·show decide ((z0l id y).id = to) = true
      rw [(z4s id y).1, decide_eq_true hy]
    rw [hany] at this
    exact of_decide_eq_true this
   split <;> omega
  ·split
   ·exact Nat.zero_le _
   ·exact Nat.le_refl _
 ·rw [hfw]; show z6f (z0l id _).kids _ _ = false; rw [zoq k1]; exact h3
 ·rw [hfw]; show (z0l id _).kids.length < 64; rw [k2]; omega
 ·rw [haw]; omega
 ·have := ((z28 u).1 hs).2.2.1; omega
end Tr
namespace Tr
def zfn (t : T) : Stp := ⟨t.kind, t.label⟩
def z32 (id : Idv) (t : T) : List Stp := ((z26 id t).drop 1).map zfn
def z5w (id : Idv) (u : T) : List Stp := ⟨0, z1c⟩ :: z32 id u
theorem zt3 {id : Idv} {t : T} (h : id ∈ z0e t) : z26 id t = t :: (z26 id t).drop 1 := by
 by_cases h0 : t.id = id
 ·rw [z3d h0]; rfl
 ·obtain ⟨i, hi, _, _, h3⟩ := z76 h0 (z42.2 h)
  rw [h3]; rfl
theorem zov {l : List T} {k : T} (h : (l.map z5y).Nodup) (O : k ∈ l) : l.filter (atB (zfn k)) = [k] := by
 induction l with
 | nil => cases O
 | cons y l ih =>
  rw [List.map_cons, List.nodup_cons] at h
  rw [List.filter_cons]
  have hat : ∀ z : T, atB (zfn k) z = true ↔ z5y z = z5y k := fun z => by
   unfold atB zfn z5y
   simp only [Bool.and_eq_true, decide_eq_true_eq, Prod.mk.injEq]
  by_cases hy : z5y y = z5y k
  ·rw [if_pos ((hat y).2 hy)]
   have hyk : y = k := by
    rcases List.mem_cons.1 O with e | O
    ·exact e.symm
    ·exact (h.1 (List.mem_map.2 ⟨k, O, hy.symm⟩)).elim
   subst hyk
   congr 1
   rw [List.filter_eq_nil_iff]
   intro z hz hz2
   exact h.1 (List.mem_map.2 ⟨z, hz, (hat z).1 hz2⟩)
  ·rw [if_neg (fun g => hy ((hat y).1 g))]
   rcases List.mem_cons.1 O with e | O
   ·exact (hy (by rw [e])).elim
   ·exact ih h.2 O
theorem zow {id : Idv} : ∀ t : T, z33 t = true -> id ∈ z0e t -> (z32 id t).foldl z2r [t] = [(z0c id t).1] := by
 refine z55 fun t ih hr hm => ?_
 unfold z32
 by_cases h0 : t.id = id
 ·rw [z3d h0, z2j h0]; rfl
 ·obtain ⟨i, hi, h1, h2, h3⟩ := z76 h0 (z42.2 hm)
  have O := List.getElem_mem hi
  have hkm := z42.1 h2
  have hkey : (t.kids.map z5y).Nodup := by
   rw [z4y] at hr
   simp only [Bool.and_eq_true, decide_eq_true_eq] at hr
   exact hr.2.2.2
  rw [z35 h3 h2, h3, List.drop_succ_cons, List.drop_zero, zt3 hkm, List.map_cons, List.foldl_cons]
  have hn : z2r [t] (zfn t.kids[i]) = [t.kids[i]] := by
   unfold z2r
   rw [List.flatMap_cons, List.flatMap_nil, List.append_nil, zov hkey O]
  rw [hn]
  exact ih _ O (z61 hr _ O).2 hkm
theorem zx8 {id : Idv} : ∀ t : T, z33 t = true -> id ∈ z0e t -> ∀ s ∈ z32 id t, zfk s = true := by
 refine z55 fun t ih hr hm s hs => ?_
 unfold z32 at hs
 by_cases h0 : t.id = id
 ·rw [z3d h0] at hs; cases hs
 ·obtain ⟨i, hi, h1, h2, h3⟩ := z76 h0 (z42.2 hm)
  have O := List.getElem_mem hi
  have hkm := z42.1 h2
  rw [h3, List.drop_succ_cons, List.drop_zero, zt3 hkm, List.map_cons, List.mem_cons] at hs
  rcases hs with rfl | hs
  ·have hrk := (z61 hr _ O).2
   have hz := zvx hr _ O
   have ha := (zks hrk).1
   unfold z40 at ha
   simp only [Bool.and_eq_true, decide_eq_true_eq] at ha
   obtain ⟨b1, _, _, _, b5⟩ := ha
   rw [if_neg hz] at b5
   unfold zfk zfn
   rw [decide_eq_true (by simp only; omega)]
   exact b5
  ·exact ih _ O (z61 hr _ O).2 hkm s hs
theorem zj3 {id : Idv} {u : T} (V : depT u <= 8) : (z5w id u).length <= 9 := by
 have := zau id u
 unfold z5w z32
 simp only [List.length_cons, List.length_map, List.length_drop]; omega
theorem zx9 {id : Idv} {u : T} (hs : z15 u = true) (hm : id ∈ z0e u) : z7c (z5w id u) = true := by
 obtain ⟨hr, V, _⟩ := (z28 u).1 hs
 refine zmv (zj3 V) fun i hi => ?_
 unfold okS
 match i, hi with
 | 0, _ => rfl
 | i + 1, hi =>
  have : (z5w id u)[i + 1] = (z32 id u)[i]'(by unfold z5w at hi; simpa using hi) := rfl
  rw [this, zx8 u hr hm _ (List.getElem_mem _), Bool.or_true]
theorem one_in {u : T} {p : List Stp} {id : Idv} {e : Int} (h : zl8 u p = (id, e)) (he : e = 0) : id ∈ z0e u := by
 subst he
 have hall : ∀ i ∈ z5d u p, i ∈ z0e u := fun i hi => by
  unfold z5d z47 at hi
  split at hi
  ·obtain ⟨x, hx, rfl⟩ := List.mem_map.1 hi
   refine List.mem_map.2 ⟨x, ?_, rfl⟩
   cases p with
   | nil => rw [goT, List.mem_singleton] at hx; rw [hx]; exact z1j u
   | cons s r => exact zan r _ ze0 x hx
  ·cases hi
 unfold zl8 at h
 generalize z5d u p = l at h hall
 match l, h with
 | [], h => cases h
 | [i], h => rw [<- (Prod.mk.inj h).1]; exact hall i (by simp)
 | _ :: _ :: _, h => cases h
end Tr
end
section
open Abs Facts Tr
attribute [local irreducible] awp
set_option maxRecDepth 100000
namespace Tr
end Tr
end
end Go.Proofs.YtppebcifiejplaaGreatDoor
