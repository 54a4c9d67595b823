import Derived.Test.YtfechgagcgbldaaGreatDoorWC
import Derived.Maps.RangeRun
/-
 Lemmas of the claim. No condition but those that each names.
-/
set_option linter.unusedSimpArgs false
set_option linter.unusedVariables false
set_option maxRecDepth 100000
set_option maxHeartbeats 8000000
set_option linter.unusedSectionVars false
namespace Go.Proofs.YtfechgagcgbldaaGreatDoor
open _root_.Go.Proofs.Tryz
section
open Abs Facts Tr
attribute [local irreducible] awp
namespace Tr
def szB (t : T) : Bool := zf2 (fun t l => decide (t.label.size <= 1000000) && (decide (t.head.length <= 1000000) && ((t.head.all fun w => decide (w.text.size <= 1000000)) && (decide (t.words.length <= 1000000) && ((t.words.all fun w => decide (w.text.size <= 1000000)) && (decide (t.kids.length <= 1000000) && l.all id)))))) t
theorem z33 (t : T) : szB t = true ↔ t.label.size <= 1000000 /\ t.head.length <= 1000000 /\ (∀ w ∈ t.head, w.text.size <= 1000000) /\ t.words.length <= 1000000 /\ (∀ w ∈ t.words, w.text.size <= 1000000) /\ t.kids.length <= 1000000 /\ ∀ k ∈ t.kids, szB k = true := by
 unfold szB
 rw [z3k]
 simp only [List.all_map, Bool.and_eq_true, decide_eq_true_iff, List.all_eq_true]
 rfl
theorem sz_sm : ∀ t : T, szB t = true -> smB t = true := by
 refine z4l fun t ih h => ?_
 obtain ⟨_, h1, _, h2, _, h3, h4⟩ := (z33 t).1 h
 exact (sm_iff t).2 ⟨h1, h2, h3, fun k O => ih k O (h4 k O)⟩
theorem zgo (t : T) (h : szB t = true) : zic t = true := sm_fit t (sz_sm t h)
def z6h : ByteArray := ⟨#[]⟩
def z9e (t : T) : Bool := decide (0 <= t.kind /\ t.kind <= 7) && (decide (t.kids.length <= 64) && (zm7 t.head && (zm7 t.words && (if t.kind = 0 then decide (t.label = z6h) && (decide (t.head.length = 0) && decide (t.words.length = 0)) else z4i t.label))))
def zag (t : T) : Int × ByteArray := (t.kind, t.label)
def z5b (t : T) : Bool := zf2 (fun t l => z9e t && ((t.kids.all fun k => z38 t.kind k.kind) && (l.all id && decide ((t.kids.map zag).Nodup)))) t
theorem z7v (t : T) : z5b t = (z9e t && ((t.kids.all fun k => z38 t.kind k.kind) && (t.kids.all z5b && decide ((t.kids.map zag).Nodup)))) := by
 unfold z5b
 rw [z3k, List.all_map]; rfl
theorem zdb {α β : Type} {f : α -> β} {l : List α} {k : Nat} (O : k < l.length) (h : ((l.take k).map f).Nodup) (h2 : ∀ j, (hj : j < k) -> f (l[j]'(by omega)) ≠ f l[k]) : ((l.take (k + 1)).map f).Nodup := by
 rw [List.take_succ_eq_append_getElem O, List.map_append, List.nodup_append]
 refine ⟨h, by simp, fun a ha b hb => ?_⟩
 simp only [List.map_cons, List.map_nil, List.mem_singleton] at hb
 subst hb
 obtain ⟨x, hx, rfl⟩ := List.mem_map.1 ha
 obtain ⟨j, hj, rfl⟩ := List.getElem_of_mem hx
 rw [List.length_take] at hj
 rw [List.getElem_take]
 exact h2 j (by omega)
theorem zjn {α β : Type} {f : α -> β} {l : List α} {j k : Nat} (hj : j < k) (O : k < l.length) (h : f (l[j]'(by omega)) = f l[k]) : ¬ (l.map f).Nodup := fun hn => by
 have h2 := (List.pairwise_iff_getElem.1 hn) j k (by simp; omega) (by simpa using O) hj
 simp only [List.getElem_map] at h2
 exact h2 h
end Tr
theorem pc_Nests (p k : Int) : PC prog 107 [.int .i64 p, .int .i64 k] (.bool (z38 p k)) := by
 refine z2i 1 rfl rfl (z23 [] func107 rfl (by decide +kernel) rfl ?_)
 show awp _ _ (Code.seq _ _) _ _
 by_cases O : 0 <= p /\ p < 8
 ·rcases zz0 O with rfl | rfl | rfl | rfl | rfl | rfl | rfl | rfl
  all_goals clear O
  all_goals (repeat' (first | refine nxt ?_ | ((refine zqh fun K hK => ?_); (simp (disch := omega) only [go_sem, Nat.reduceBEq, ↓reduceIte, Int.reduceEq])) | ((first | refine zqd _ rfl (fun hc => ?_) (fun hc => ?_) | refine zqm _ rfl (fun hc => ?_) (fun hc => ?_)) <;> (first | (cases hc; done) | ((try simp only [] at hc); (try omega)))) | refine zqu (by simp only [go_sem]; rfl) rfl ?_ | (refine hK _ ?_; clear hK K) | (refine zqf (fun hb => ?_) (fun hb => ?_) <;> (have hb2 := hb; try simp only [z06] at hb2) <;> ((first | have F := eq_false hb2 | have F := eq_true hb2); (simp (disch := omega) only [go_sem, Nat.reduceBEq, ↓reduceIte, F]); clear hb F; (try omega)))))
  all_goals refine z00 ?_
  all_goals (simp_all [z38, belowL]; done)
 ·rw [show z38 p k = false from if_neg O]
  repeat' (first | refine nxt ?_ | ((refine zqh fun K hK => ?_); (simp (disch := omega) only [go_sem, Nat.reduceBEq, ↓reduceIte])) | ((first | refine zqd _ rfl (fun hc => ?_) (fun hc => ?_) | refine zqm _ rfl (fun hc => ?_) (fun hc => ?_)) <;> (((try simp only [z06] at hc); (try omega)))) | refine zqu (by simp only [go_sem]; rfl) rfl ?_ | (refine hK _ ?_; clear hK K))
  all_goals exact z00 rfl
theorem zxh (t : T) (hs : szB t = true) : PC prog 106 [z1e t] (.bool (z9e t)) := by
 obtain ⟨h0, h1, g1, h2, g2, h3, _⟩ := (z33 t).1 hs
 have r1 := zwx t.head h1 (fun w hw => by have := g1 w hw; unfold maxLen; omega)
 have r2 := zwx t.words h2 (fun w hw => by have := g2 w hw; unfold maxLen; omega)
 have r3 := pc_Label t.label (by unfold maxLen; omega)
 refine z2i 1 (by simp only [pureD.pureL, z0b, Bool.and_self]) rfl (z23 [] func106 rfl (by decide +kernel) rfl ?_)
 show awp _ _ (Code.seq _ _) _ _
 repeat' (first | refine nxt ?_ | ((first | refine zqh fun K hK => ?_ | refine zqs (r1) ?_ | refine zqs (r2) ?_ | refine zqs (r3) ?_); (simp (disch := omega) only [go_sem, Nat.reduceBEq, ↓reduceIte, reduceCtorEq, Nat.reduceAdd])) | (refine zqd _ rfl ?_ ?_ <;> intro hc <;> (first | (cases hc; done) | ((try simp only [z06] at hc); (try omega)))) | refine zqu (by simp only [go_sem]; rfl) rfl ?_ | (refine hK _ ?_; clear hK K) | (refine zqf (fun hb => ?_) (fun hb => ?_) <;> (have hb2 := hb; try simp only [z06] at hb2) <;> ((first | have F : (_ : Bool) = _ := hb2 | have F := eq_false hb2 | have F := eq_true hb2); (simp (disch := omega) only [go_sem, Nat.reduceBEq, ↓reduceIte, reduceCtorEq, Nat.reduceAdd, F, z0t, z0n]); clear hb F; (try omega))))
 all_goals refine z00 ?_
 all_goals unfold z9e
 all_goals first
  | (rw [decide_eq_false (by omega)]; rfl)
  | (rw [decide_eq_true (by omega), decide_eq_false (by omega)]; rfl)
  | (rw [decide_eq_true (by omega), decide_eq_true (by omega)]; simp_all [z6h]; done)
  | (rw [decide_eq_true (show 0 <= t.kind /\ t.kind <= 7 by omega), decide_eq_true (show t.kids.length <= 64 by omega)]; simp_all [z6h]; done)
  | skip
theorem pc_Right : ∀ t : T, szB t = true -> PC prog 86 [z1e t] (.bool (z5b t)) := by
 refine z4l fun t ih hs => ?_
 have ha := zxh t hs
 obtain ⟨h0, h1, g1, h2, g2, h3, h4⟩ := (z33 t).1 hs
 rw [z7v]
 refine z2i 1 (by simp only [pureD.pureL, z0b, Bool.and_self]) rfl (z23 [] func86 rfl (by decide +kernel) rfl ?_)
 show awp _ _ (Code.seq _ _) _ _
 repeat' (first | refine nxt ?_ | ((first | refine zqh fun K hK => ?_ | refine zqs (ha) ?_); (simp (disch := omega) only [go_sem, Nat.reduceBEq, ↓reduceIte, Nat.reduceAdd, Nat.reduceLeDiff])) | (refine zqd _ rfl ?_ ?_ <;> intro hc <;> (((try simp only [z06] at hc); (try omega)))) | refine zqu (by simp only [go_sem]; rfl) rfl ?_ | (refine hK _ ?_; clear hK K))
 ·exact z00 (by simp_all)
 rw [‹z9e t = true›, Bool.true_and]
 (refine z45 (fun U st => ∃ (i : _), U = t.kids.length - i /\ st.t 1 = .ptr 0 0 /\ st.t 3 = .int .i64 i /\ st.H 0 = some (.box 27 (z08 t)) /\ (i <= t.kids.length) /\ (1 <= st.nx) /\ ((t.kids.take i).all (fun k => z38 t.kind k.kind) = true) /\ ((t.kids.take i).all z5b = true) /\ (((t.kids.take i).map zag).Nodup)) ?_ ?_); rotate_left; (rintro U st ⟨i, rfl, q1, q3, qH0, qp0, qp1, qp2, qp3, qp4⟩); rotate_left
 ·(refine ⟨_, 0, rfl, ?_⟩); (simp (disch := omega) only [go_sem, Nat.reduceBEq, Nat.reduceLeDiff, true_and, Int.natCast_zero, List.map_nil])
  all_goals simp
 have hin := fun (h : i < t.kids.length) => ih t.kids[i] (List.getElem_mem h) (h4 _ (List.getElem_mem h))
 have hn := fun (h : i < t.kids.length) => pc_Nests t.kind t.kids[i].kind
 repeat' (first | refine nxt ?_ | ((first | refine zqh fun K hK => ?_ | refine zqe (by decide +kernel) fun K hK => ?_ | refine zqt (hn (by omega)) ?_ | refine zqt (hin (by omega)) ?_); (simp (disch := omega) only [go_sem, Nat.reduceBEq, ↓reduceIte, reduceCtorEq, Nat.reduceAdd, q1, q3, qH0, z0n])) | (refine zqd _ rfl ?_ ?_ <;> intro hc <;> (first | (cases hc; done) | ((try simp only [z06] at hc); (try omega)))) | refine zqz ?_ | refine zqu (by simp only [go_sem]; rfl) rfl ?_ | (refine hK _ ?_; clear hK K) | (refine zqf (fun hb => ?_) (fun hb => ?_) <;> (have hb2 := hb; try simp only [z06] at hb2) <;> ((have F : (_ : Bool) = _ := hb2); (simp (disch := omega) only [go_sem, Nat.reduceBEq, ↓reduceIte, reduceCtorEq, Nat.reduceAdd, F, q1, q3, qH0, z0n]); clear hb F; (try omega))))
 ·exact z00 (by rw [za8 (f := z5b) (k := i) (by omega) (by assumption), Bool.false_and, Bool.and_false])
 ·(refine z45 (fun U st => ∃ (k : _), U = i - k /\ st.t 1 = .ptr 0 0 /\ st.t 3 = .int .i64 i /\ st.t 4 = .int .i64 k /\ st.H 0 = some (.box 27 (z08 t)) /\ (k <= i) /\ (1 <= st.nx) /\ (∀ j, (hj : j < k) -> (h : j < t.kids.length) -> (h2 : i < t.kids.length) -> zag t.kids[j] ≠ zag t.kids[i])) ?_ ?_); rotate_left; (rintro U st ⟨k, rfl, r1, r3, r4, rH0, rp0, rp1, rp2⟩); rotate_left
  ·(refine ⟨_, 0, rfl, ?_⟩); (simp (disch := omega) only [go_sem, Nat.reduceBEq, q1, q3, qH0, true_and, Int.natCast_zero])
   exact ⟨by omega, fun j hj => by omega⟩
  repeat' (first | refine nxt ?_ | ((first | refine zqh fun K hK => ?_ | refine zqe (by decide +kernel) fun K hK => ?_ | refine zqr fun K hK => ?_); (simp (disch := omega) only [go_sem, Nat.reduceBEq, ↓reduceIte, reduceCtorEq, Nat.reduceAdd, r1, r3, r4, rH0, z0n])) | ((first | refine zqd _ rfl (fun hc => ?_) (fun hc => ?_) | refine zqm _ rfl (fun hc => ?_) (fun hc => ?_)) <;> (first | (cases hc; done) | ((try simp only [z06] at hc); (try omega)))) | refine zqz ?_ | refine zqu (by simp only [go_sem]; rfl) rfl ?_ | (refine hK _ ?_; clear hK K) | (refine zqf (fun hb => ?_) (fun hb => ?_) <;> (have hb2 := hb; try simp only [z06] at hb2) <;> ((first | have F := eq_false hb2 | have F := eq_true hb2); (simp (disch := omega) only [go_sem, Nat.reduceBEq, ↓reduceIte, reduceCtorEq, Nat.reduceAdd, F, r1, r3, r4, rH0, z0n]); clear hb F; (try omega))))
  ·refine z00 ?_
   have hno := zjn (f := zag) (l := t.kids) (j := k) (k := i) (by omega) (by omega) (by unfold zag; rw [‹t.kids[k].kind = t.kids[i].kind›, ‹t.kids[k].label = t.kids[i].label›])
   rw [decide_eq_false hno, Bool.and_false, Bool.and_false]
  ·(refine Exists.intro _ (And.intro ?_ ⟨k + 1, rfl, ?_⟩)); rotate_left; (simp (disch := omega) only [go_sem, Nat.reduceBEq, r1, r3, r4, rH0, true_and, Int.natCast_add, Int.natCast_one]); rotate_left
   ·omega
   ·refine ⟨by omega, by omega, fun j hj h h2 => ?_⟩
    by_cases e : j = k
    ·subst e; exact fun h => absurd (congrArg Prod.snd h) (by assumption)
    ·exact rp2 j (by omega) h h2
  ·(refine Exists.intro _ (And.intro ?_ ⟨k + 1, rfl, ?_⟩)); rotate_left; (simp (disch := omega) only [go_sem, Nat.reduceBEq, r1, r3, r4, rH0, true_and, Int.natCast_add, Int.natCast_one]); rotate_left
   ·omega
   ·refine ⟨by omega, by omega, fun j hj h h2 => ?_⟩
    by_cases e : j = k
    ·subst e; exact fun h => absurd (congrArg Prod.fst h) (by assumption)
    ·exact rp2 j (by omega) h h2
  ·skip
   have hi : i < t.kids.length := by omega
   (refine Exists.intro _ (And.intro ?_ ⟨i + 1, rfl, ?_⟩)); rotate_left; (simp (disch := omega) only [go_sem, Nat.reduceBEq, true_and, Int.natCast_add, Int.natCast_one, r1, r3, rH0]); rotate_left
   ·omega
   ·exact ⟨by omega, by omega, z6m (by omega) qp2 (by assumption), z6m (by omega) qp3 (by assumption), zdb hi qp4 (fun j hj => rp2 j (by omega) (by omega) hi)⟩
 ·exact z00 (by rw [za8 (f := fun k : T => z38 t.kind k.kind) (k := i) (by omega) (by assumption), Bool.false_and])
 ·refine z00 ?_
  rw [z6n (by omega) qp2, z6n (by omega) qp3]
  rw [List.take_of_length_le (by omega)] at qp4
  rw [decide_eq_true qp4]; rfl
namespace Tr
theorem zb4 (t : T) : cntT t = 1 + (t.kids.flatMap nodesT).length := by unfold cntT; rw [z11, List.length_cons, Nat.add_comm]
theorem z5p (l : List T) (i : Nat) : ((l.take i).flatMap nodesT).length <= (l.flatMap nodesT).length := by
 have : l.flatMap nodesT = (l.take i).flatMap nodesT ++ (l.drop i).flatMap nodesT := by rw [<- List.flatMap_append, List.take_append_drop]
 rw [this, List.length_append]; omega
theorem z5q (l : List T) (i : Nat) (h : i < l.length) : ((l.take (i + 1)).flatMap nodesT).length = ((l.take i).flatMap nodesT).length + cntT l[i] := by
 rw [List.take_succ_eq_append_getElem h, List.flatMap_append, List.length_append]; simp [cntT]
theorem zjo {t k : T} (h : k ∈ t.kids) : 1 + cntT k <= cntT t := by
 rw [zb4 t]
 obtain ⟨i, hi, rfl⟩ := List.getElem_of_mem h
 have h1 := z5q t.kids i hi
 have h2 := z5p t.kids (i + 1)
 omega
theorem zxi (t : T) : 1 <= cntT t := by rw [zb4]; omega
theorem z2z (t : T) : idsT t = t.id :: t.kids.flatMap idsT := by
 unfold idsT
 rw [z11, List.map_cons, List.map_flatMap]
theorem za1 (t : T) : (idsT t).length = cntT t := by unfold idsT cntT; rw [List.length_map]
def zpu (t : T) : Bool := (idsT t).all (fun i => decide (i = Idv.zero)) || (decide ((t.id = Idv.zero) ↔ (t.kind = 0)) && decide ((idsT t).Nodup))
def z55 (t : T) : Bool := z5b t && (decide (depT t <= 8) && (decide (cntT t <= 1024) && zpu t))
end Tr
theorem zxj : ∀ t : T, szB t = true -> cntT t <= 1000000000 -> PC prog 88 [z1e t] (.int .i64 (cntT t)) := by
 refine z4l fun t ih hs hc => ?_
 obtain ⟨h0, h1, g1, h2, g2, h3, h4⟩ := (z33 t).1 hs
 have hce := zb4 t
 refine z2i 1 (by simp only [pureD.pureL, z0b, Bool.and_self]) rfl (z23 [] func88 rfl (by decide +kernel) rfl ?_)
 show awp _ _ (Code.seq _ _) _ _
 repeat' (first | refine nxt ?_ | ((refine zqh fun K hK => ?_); (simp (disch := omega) only [go_sem])) | (refine hK _ ?_; clear hK K))
 (refine z45 (fun U st => ∃ (i : _), U = t.kids.length - i /\ st.t 1 = .ptr 0 0 /\ st.t 3 = .int .i64 (1 + ((t.kids.take i).flatMap nodesT).length : Nat) /\ st.t 4 = .int .i64 i /\ st.H 0 = some (.box 27 (z08 t)) /\ (i <= t.kids.length) /\ (1 <= st.nx)) ?_ ?_); rotate_left; (rintro U st ⟨i, rfl, q1, q3, q4, qH0, qp0, qp1⟩); rotate_left
 ·(refine ⟨_, 0, rfl, ?_⟩); (simp (disch := omega) only [go_sem, Nat.reduceBEq, Nat.reduceLeDiff, and_self, Int.natCast_one, Int.natCast_zero, List.flatMap_nil])
  try simp
 have hin := fun (h : i < t.kids.length) => ih t.kids[i] (List.getElem_mem h) (h4 _ (List.getElem_mem h)) (by have := zjo (List.getElem_mem h); omega)
 have hb := z5p t.kids (i + 1)
 have hsu := fun (h : i < t.kids.length) => z5q t.kids i h
 repeat' (first | refine nxt ?_ | ((first | refine zqh fun K hK => ?_ | refine zqr fun K hK => ?_ | refine zqs (hin (by omega)) ?_); (simp (disch := omega) only [go_sem, Nat.reduceBEq, ↓reduceIte, reduceCtorEq, Nat.reduceAdd, q1, q3, q4, qH0, z0n])) | (refine zqd _ rfl ?_ ?_ <;> intro hc <;> (((try simp only [z06] at hc); (try omega)))) | refine zqz ?_ | refine zqu (by simp only [go_sem]; rfl) rfl ?_ | (refine hK _ ?_; clear hK K))
 ·have hsu := hsu (by omega)
  (refine Exists.intro _ (And.intro ?_ ⟨i + 1, rfl, ?_⟩)); rotate_left; (simp (disch := omega) only [go_sem, Nat.reduceBEq, q1, q3, q4, qH0, true_and, Int.natCast_add, Int.natCast_one, hsu]); rotate_left
  ·omega
  ·exact ⟨by omega, by omega, by omega⟩
 ·have hi : i = t.kids.length := by omega
  subst hi
  refine z1q ?_
  rw [List.take_length, hce]
theorem zxk : ∀ t : T, szB t = true -> depT t <= 1000000000 -> PC prog 87 [z1e t] (.int .i64 (depT t)) := by
 refine z4l fun t ih hs V => ?_
 obtain ⟨h0, h1, g1, h2, g2, h3, h4⟩ := (z33 t).1 hs
 refine z2i 1 (by simp only [pureD.pureL, z0b, Bool.and_self]) rfl (z23 [] func87 rfl (by decide +kernel) rfl ?_)
 show awp _ _ (Code.seq _ _) _ _
 repeat' (first | refine nxt ?_ | ((refine zqh fun K hK => ?_); (simp (disch := omega) only [go_sem])) | (refine hK _ ?_; clear hK K))
 (refine z45 (fun U st => ∃ (i : _), U = t.kids.length - i /\ st.t 1 = .ptr 0 0 /\ st.t 3 = .int .i64 (zx5 ((t.kids.take i).map depT) : Nat) /\ st.t 4 = .int .i64 i /\ st.H 0 = some (.box 27 (z08 t)) /\ (i <= t.kids.length) /\ (1 <= st.nx)) ?_ ?_); rotate_left; (rintro U st ⟨i, rfl, q1, q3, q4, qH0, qp0, qp1⟩); rotate_left
 ·(refine ⟨_, 0, rfl, ?_⟩); (simp (disch := omega) only [go_sem, Nat.reduceBEq, Nat.reduceLeDiff, true_and, and_true, and_self, Int.natCast_zero, List.map_nil])
  rfl
 have hin := fun (h : i < t.kids.length) => ih t.kids[i] (List.getElem_mem h) (h4 _ (List.getElem_mem h)) (by have := z9v (List.getElem_mem h); omega)
 have O := fun (h : i < t.kids.length) => z9v (t := t) (List.getElem_mem h)
 have hsn : ∀ h : i < t.kids.length, zx5 ((t.kids.take (i + 1)).map depT) = max (zx5 ((t.kids.take i).map depT)) (1 + depT t.kids[i]) := fun h => by
  rw [List.take_succ_eq_append_getElem h, List.map_append, List.map_cons, List.map_nil, zlq]
 repeat' (first | refine nxt ?_ | ((first | refine zqh fun K hK => ?_ | refine zqr fun K hK => ?_ | refine zqs (hin (by omega)) ?_); (simp (disch := omega) only [go_sem, Nat.reduceBEq, ↓reduceIte, reduceCtorEq, Nat.reduceAdd, q1, q3, q4, qH0, z0n])) | (refine zqd _ rfl ?_ ?_ <;> intro hc <;> (((try simp only [z06] at hc); (try omega)))) | refine zqz ?_ | refine zqu (by simp only [go_sem]; rfl) rfl ?_ | (refine hK _ ?_; clear hK K))
 ·have hs := hsn (by omega)
  (refine Exists.intro _ (And.intro ?_ ⟨i + 1, rfl, ?_⟩)); rotate_left; (simp (disch := omega) only [go_sem, Nat.reduceBEq, q1, q3, q4, qH0, true_and, Int.natCast_add, Int.natCast_one, hs]); rotate_left
  ·omega
  ·have := O (by omega); refine ⟨?_, by omega⟩
   rw [z3i (by omega)]; omega
 ·refine z1q ?_
  have hi : i = t.kids.length := by omega
  subst hi
  rw [List.take_length, <- zd7]
theorem zah : ∀ l : List Idv, z1m 3 (l.map z50) = some (l.flatMap cellsId)
 | [] => rfl
 | t :: w => by
  rw [List.map_cons, List.flatMap_cons]
  unfold z1m
  rw [zah w]
  rfl
theorem pc_All : ∀ t : T, szB t = true -> cntT t <= 1000000000 -> PC prog 108 [z1e t] (z2d (idsT t)) := by
 refine z4l fun t ih hs hc => ?_
 obtain ⟨h0, h1, g1, h2, g2, h3, h4⟩ := (z33 t).1 hs
 have hce := zb4 t
 have hle0 := za1 t
 refine z2i 2 (by simp only [pureD.pureL, z0b, Bool.and_self]) (zam _) (z23 [7] func108 rfl (by decide +kernel) rfl ?_)
 show awp _ _ (Code.seq _ _) _ _
 repeat' (first | refine nxt ?_ | ((refine zqh fun K hK => ?_); (simp (disch := omega) only [go_sem, Nat.reduceBEq, ↓reduceIte, reduceCtorEq, Nat.reduceAdd, Nat.reduceMul, Nat.reduceLeDiff])) | (refine hK _ ?_; clear hK K))
 (refine z45 (fun U st => ∃ (i : _), U = t.kids.length - i /\ st.t 1 = .ptr 0 0 /\ st.t 3 = .osl 1 (1 + ((t.kids.take i).flatMap nodesT).length) /\ st.t 4 = .int .i64 i /\ st.H 0 = some (.box 27 (z08 t)) /\ st.H 1 = some (.row 23 (1 + ((t.kids.take i).flatMap nodesT).length) (([t.id] ++ (t.kids.take i).flatMap idsT).flatMap cellsId)) /\ (i <= t.kids.length) /\ (2 <= st.nx)) ?_ ?_); rotate_left; (rintro U st ⟨i, rfl, q1, q3, q4, qH0, qH1, qp0, qp1⟩); rotate_left
 ·(refine ⟨_, 0, rfl, ?_⟩); (simp (disch := omega) only [go_sem, Nat.reduceBEq, Nat.reduceLeDiff, true_and, and_true, and_self, Int.natCast_zero, List.flatMap_nil, List.append_nil])
  try simp [cellsId]
 have hin := fun (h : i < t.kids.length) => ih t.kids[i] (List.getElem_mem h) (h4 _ (List.getElem_mem h)) (by have := zjo (List.getElem_mem h); omega)
 have hb := z5p t.kids (i + 1)
 by_cases hi : i < t.kids.length
 ·have hsu := z5q t.kids i hi
  have hil := za1 t.kids[i]
  have htk : (t.kids.take (i + 1)).flatMap idsT = (t.kids.take i).flatMap idsT ++ idsT t.kids[i] := by
   rw [List.take_succ_eq_append_getElem hi, List.flatMap_append]; simp
  repeat' (first | refine nxt ?_ | ((first | refine zqh fun K hK => ?_ | refine zqr fun K hK => ?_ | refine zqs (hin hi) ?_); (simp (disch := omega) only [go_sem, Nat.reduceBEq, ↓reduceIte, reduceCtorEq, Nat.reduceAdd, q1, q3, q4, qH0, qH1, z0n, z2d, zah])) | (refine zqd _ rfl ?_ ?_ <;> intro hc <;> (((try simp only [z06] at hc); (try omega)))) | (refine hK _ ?_; clear hK K))
  (refine Exists.intro _ (And.intro ?_ ⟨i + 1, rfl, ?_⟩)); rotate_left; (simp (disch := omega) only [go_sem, Nat.reduceBEq, q1, q3, q4, qH0, qH1, true_and, Int.natCast_add, Int.natCast_one, List.flatMap_append, List.flatMap_cons, List.cons_append, List.nil_append, hsu, htk, hil, Nat.add_assoc, List.append_assoc]); rotate_left
  ·omega
  ·omega
 ·repeat' (first | refine nxt ?_ | ((refine zqh fun K hK => ?_); (simp (disch := omega) only [go_sem, Nat.reduceBEq, ↓reduceIte, reduceCtorEq, Nat.reduceAdd, q1, q3, q4, qH0, z0n])) | (refine zqd _ rfl ?_ ?_ <;> intro hc <;> (((try simp only [z06] at hc); (try omega)))) | refine zqz ?_ | refine zqu (by simp only [go_sem]; rfl) rfl ?_ | (refine hK _ ?_; clear hK K))
  have hi2 : i = t.kids.length := by omega
  subst hi2
  rw [List.take_length] at qH1
  have hle : 1 + (t.kids.flatMap nodesT).length = (idsT t).length := by rw [hle0, hce]
  rw [hle, List.singleton_append, <- z2z] at qH1
  rw [List.take_length, hle]
  refine z6f (z1b 0 ?_ zbu zfg (fun _ => rfl) (fun _ => rfl))
  simp (disch := omega) only [go_sem, qH1]
namespace Tr
theorem zbv {α : Type} (f : α -> Bool) {l : List α} {k : Nat} (h : k < l.length) : (l.take (k + 1)).all f = ((l.take k).all f && f l[k]) := by
 rw [List.take_succ_eq_append_getElem h, List.all_append, List.all_cons, List.all_nil, Bool.and_true]
theorem zn2 {α : Type} {l : List α} {k : Nat} (O : k < l.length) (h : (l.take k).Nodup) (h2 : ∀ j, (hj : j < k) -> l[j]'(by omega) ≠ l[k]) : (l.take (k + 1)).Nodup := by
 have := zdb (f := id) O (by simpa using h) h2
 simpa using this
theorem zvj {α : Type} {l : List α} {j k : Nat} (hj : j < k) (O : k < l.length) (h : l[j]'(by omega) = l[k]) : ¬ l.Nodup := fun hn => by
 have := zjn (f := id) hj O h
 simp at this; exact this hn
end Tr
theorem pc_IdsR (t : T) (hs : szB t = true) (hc : cntT t <= 1000000000) : PC prog 89 [z1e t] (.bool (zpu t)) := by
 have ha := pc_All t hs hc
 have hl := za1 t
 have hp := zxi t
 have hid0 : ∀ h, (idsT t)[Int.toNat 0]'h = t.id := fun h => by simp [z2z]
 refine z2i 1 (by simp only [pureD.pureL, z0b, Bool.and_self]) rfl (z23 [] func89 rfl (by decide +kernel) rfl ?_)
 show awp _ _ (Code.seq _ _) _ _
 repeat' (first | refine nxt ?_ | ((first | refine zqh fun K hK => ?_ | refine zqs (ha) ?_); (simp (disch := omega) only [go_sem, Nat.reduceBEq, ↓reduceIte, Nat.reduceAdd, Nat.reduceLeDiff])) | (refine hK _ ?_; clear hK K))
 (refine z45 (fun U st => ∃ (i : _), U = (idsT t).length - i /\ st.t 1 = .ptr 0 0 /\ st.t 3 = z2d (idsT t) /\ st.t 4 = .bool (((idsT t).take i).all fun i => decide (i = Idv.zero)) /\ st.t 5 = .int .i64 i /\ st.H 0 = some (.box 27 (z08 t)) /\ (i <= (idsT t).length) /\ (1 <= st.nx)) ?_ ?_); rotate_left; (rintro U st ⟨i, rfl, q1, q3, q4, q5, qH0, qp0, qp1⟩); rotate_left
 ·(refine ⟨_, 0, rfl, ?_⟩); (simp (disch := omega) only [go_sem, Nat.reduceBEq, Nat.reduceLeDiff, true_and, and_true, and_self, Int.natCast_zero, z2d])
  try simp
 repeat' (first | refine nxt ?_ | ((first | refine zqh fun K hK => ?_ | refine zqe (by decide +kernel) fun K hK => ?_ | refine zqr fun K hK => ?_); (simp (disch := omega) only [go_sem, Nat.reduceBEq, ↓reduceIte, reduceCtorEq, Nat.reduceAdd, q1, q3, q4, q5, qH0, z2d, hid0])) | (refine zqd _ rfl ?_ ?_ <;> intro hc <;> (((try simp only [z06] at hc); (try omega)))) | refine zqz ?_ | refine zqu (by simp only [go_sem]; rfl) rfl ?_ | (refine hK _ ?_; clear hK K) | (refine zqf (fun hb => ?_) (fun hb => ?_) <;> (have hb2 := hb; try simp only [z06] at hb2) <;> ((have F : (_ : Bool) = _ := hb2); (simp (disch := omega) only [go_sem, Nat.reduceBEq, ↓reduceIte, reduceCtorEq, Nat.reduceAdd, hb, q3, q5, z2d]); clear hb F; (try omega))))
 ·(refine Exists.intro _ (And.intro ?_ ⟨i + 1, rfl, ?_⟩)); rotate_left; (simp (disch := omega) only [go_sem, Nat.reduceBEq, q1, q3, q4, q5, qH0, true_and, Int.natCast_add, Int.natCast_one]); rotate_left
  ·omega
  ·rw [zbv _ (by omega), ‹((idsT t).take i).all _ = true›]
   exact ⟨rfl, by omega, by omega⟩
 ·(refine Exists.intro _ (And.intro ?_ ⟨i + 1, rfl, ?_⟩)); rotate_left; (simp (disch := omega) only [go_sem, Nat.reduceBEq, q1, q3, q4, q5, qH0, true_and, Int.natCast_add, Int.natCast_one]); rotate_left
  ·omega
  ·rw [zbv _ (by omega), ‹((idsT t).take i).all _ = false›]
   exact ⟨rfl, by omega, by omega⟩
 ·refine z00 ?_
  have hz : ((idsT t).all fun i => decide (i = Idv.zero)) = true := by rw [<- List.take_of_length_le (l := idsT t) (i := i) (by omega)]; assumption
  unfold zpu; rw [hz]; rfl
 ·refine z00 ?_
  have hz : ((idsT t).all fun i => decide (i = Idv.zero)) = false := by rw [<- List.take_of_length_le (l := idsT t) (i := i) (by omega)]; assumption
  have O : ¬ (t.id = Idv.zero ↔ t.kind = 0) := fun h => by
   have : decide (t.id = Idv.zero) = decide (t.kind = 0) := decide_eq_decide.2 h
   contradiction
  unfold zpu
  rw [hz, decide_eq_false O]; rfl
 ·have hz : ((idsT t).all fun i => decide (i = Idv.zero)) = false := by rw [<- List.take_of_length_le (l := idsT t) (i := i) (by omega)]; assumption
  have hbne : ∀ {a b : Bool}, (a != b) = false -> a = b := fun {a b} h => by cases a <;> cases b <;> first | rfl | cases h
  have O : (t.id = Idv.zero ↔ t.kind = 0) := by
   have h := hbne ‹(decide (t.id = Idv.zero) != decide (t.kind = 0)) = false›
   exact decide_eq_decide.1 h
  rw [show zpu t = decide ((idsT t).Nodup) from by unfold zpu; rw [hz, decide_eq_true O]; rfl]
  (refine z45 (fun U st => ∃ (j : Nat), U = (idsT t).length - j /\ st.t 1 = .ptr 0 0 /\ st.t 3 = z2d (idsT t) /\ st.t 6 = .int .i64 j /\ st.H 0 = some (.box 27 (z08 t)) /\ (j <= (idsT t).length) /\ (((idsT t).take j).Nodup) /\ (1 <= st.nx)) ?_ ?_); rotate_left; (rintro U st ⟨j, rfl, r1, r3, r6, rH0, rp0, rp1, rp2⟩); rotate_left
  ·(refine ⟨_, 0, rfl, ?_⟩); (simp (disch := omega) only [go_sem, Nat.reduceBEq, true_and, Int.natCast_zero, z2d, q1, q3, qH0])
   (repeat' (first | omega | refine And.intro ?_ ?_))
   all_goals simp
  repeat' (first | refine nxt ?_ | ((refine zqh fun K hK => ?_); (simp (disch := omega) only [go_sem, Nat.reduceBEq, ↓reduceIte, r3, r6, z2d])) | (refine zqd _ rfl ?_ ?_ <;> intro hc <;> (((try simp only [z06] at hc); (try omega)))) | refine zqz ?_ | refine zqu (by simp only [go_sem]; rfl) rfl ?_ | (refine hK _ ?_; clear hK K))
  ·(refine z45 (fun U st => ∃ (k : Nat), U = j - k /\ st.t 1 = .ptr 0 0 /\ st.t 3 = z2d (idsT t) /\ st.t 6 = .int .i64 j /\ st.t 7 = .int .i64 k /\ st.H 0 = some (.box 27 (z08 t)) /\ (k <= j) /\ (1 <= st.nx) /\ (∀ m, (hm : m < k) -> (h : m < (idsT t).length) -> (h2 : j < (idsT t).length) -> (idsT t)[m] ≠ (idsT t)[j])) ?_ ?_); rotate_left; (rintro U st ⟨k, rfl, w1, w3, w6, w7, wH0, wp0, wp1, wp2⟩); rotate_left
   ·(refine ⟨_, 0, rfl, ?_⟩); (simp (disch := omega) only [go_sem, Nat.reduceBEq, r1, r3, r6, rH0, true_and, Int.natCast_zero, z2d])
    (repeat' (first | omega | refine And.intro ?_ ?_))
    all_goals exact fun m hm => by omega
   repeat' (first | refine nxt ?_ | ((first | refine zqh fun K hK => ?_ | refine zqe (by decide +kernel) fun K hK => ?_ | refine zqr fun K hK => ?_); (simp (disch := omega) only [go_sem, Nat.reduceBEq, ↓reduceIte, reduceCtorEq, Nat.reduceAdd, w3, w6, w7, z2d])) | ((first | refine zqd _ rfl (fun hc => ?_) (fun hc => ?_) | refine zqm _ rfl (fun hc => ?_) (fun hc => ?_)) <;> (((try simp only [z06] at hc); (try omega)))) | refine zqz ?_ | refine zqu (by simp only [go_sem]; rfl) rfl ?_ | (refine hK _ ?_; clear hK K))
   ·exact z00 (decide_eq_false (zvj (j := k) (k := j) (by omega) (by omega) (by assumption))).symm
   ·(refine Exists.intro _ (And.intro ?_ ⟨k + 1, rfl, ?_⟩)); rotate_left; (simp (disch := omega) only [go_sem, Nat.reduceBEq, w1, w3, w6, w7, wH0, true_and, Int.natCast_add, Int.natCast_one, z2d]); rotate_left
    ·omega
    ·refine ⟨by omega, by omega, fun m hm h h2 => ?_⟩
     by_cases e : m = k
     ·subst e; assumption
     ·exact wp2 m (by omega) h h2
   ·skip
    have hj : j < (idsT t).length := by omega
    (refine Exists.intro _ (And.intro ?_ ⟨j + 1, rfl, ?_⟩)); rotate_left; (simp (disch := omega) only [go_sem, Nat.reduceBEq, true_and, Int.natCast_add, Int.natCast_one, w1, w3, wH0]); rotate_left
    ·omega
    ·exact ⟨by omega, zn2 hj rp1 (fun m hm => wp2 m (by omega) (by omega) hj), by omega⟩
  ·refine z00 ?_
   rw [List.take_of_length_le (by omega)] at rp1
   exact (decide_eq_true rp1).symm
theorem pc_May (t : T) (hs : szB t = true) (hc : cntT t <= 1000000000) (V : depT t <= 1000000000) : PC prog 67 [z1e t] (.bool (z55 t)) := by
 have h1 := pc_Right t hs
 have h2 := zxk t hs V
 have h3 := zxj t hs hc
 have h4 := pc_IdsR t hs hc
 refine z2i 1 (by simp only [pureD.pureL, z0b, Bool.and_self]) rfl (z23 [] func67 rfl (by decide +kernel) rfl ?_)
 show awp _ _ (Code.seq _ _) _ _
 repeat' (first | ((first | refine zqh fun K hK => ?_ | refine zqs (h1) ?_ | refine zqs (h2) ?_ | refine zqs (h3) ?_ | refine zqs (h4) ?_); (simp (disch := omega) only [go_sem, Nat.reduceBEq, ↓reduceIte, Nat.reduceAdd, Nat.reduceLeDiff])) | refine nxt ?_ | refine zqu (by simp only [go_sem]; rfl) rfl ?_ | (refine hK _ ?_; clear hK K) | (refine zqf (fun hb => ?_) (fun hb => ?_) <;> (have hb2 := hb; try simp only [z06] at hb2) <;> ((first | have F : (_ : Bool) = _ := hb2 | have F := eq_false hb2 | have F := eq_true hb2); (simp (disch := omega) only [go_sem, Nat.reduceBEq, ↓reduceIte, Nat.reduceAdd, Nat.reduceLeDiff, hb, F]); clear hb F; (try omega))))
 all_goals refine z00 ?_
 all_goals unfold z55
 all_goals (simp (disch := omega) only [decide_eq_true, decide_eq_false, Bool.true_and, Bool.false_and, Bool.and_false, *])
end
section
open Abs Facts Tr
theorem z79 {P : Program} {kt : TypeId} {α : Type} [DecidableEq α] (enc : α -> D) (he : ∀ a b, eqK P kt (enc a) (enc b) = some (decide (a = b))) (v : α -> D) (k : α) :
  ∀ l : List α, z3o P kt (enc k) (l.map fun a => (enc a, v a)) = some (if k ∈ l then some (l.idxOf k, v k) else none)
 | [] => by simp [z3o]
 | a :: l => by
  simp only [List.map_cons, z3o, he]
  by_cases h : k = a
  ·subst h; simp
  ·rw [decide_eq_false h]
   simp only
   rw [z79 enc he v k l]
   by_cases h2 : k ∈ l
   ·simp only [h2, if_true, Option.map_some, List.mem_cons, or_true]
    rw [List.idxOf_cons, show (a == k) = false from by simpa using fun e => h e.symm]; rfl
   ·simp [h, h2]
theorem z4q {α : Type} [DecidableEq α] (enc : α -> D) (v : α -> D) (k : α) (x : D) : ∀ l : List α, l.Nodup -> k ∈ l -> z7h (l.map fun a => (enc a, v a)) (l.idxOf k) x = l.map fun a => (enc a, if a = k then x else v a)
 | [], _, h => by cases h
 | a :: l, hn, h => by
  simp only [List.map_cons, List.idxOf_cons]
  by_cases e : a = k
  ·subst e
   simp only [beq_self_eq_true, cond_true, z7h, if_true, List.cons.injEq, true_and]
   refine List.map_congr_left fun b hb => ?_
   have : b ≠ a := fun e => by subst e; exact (List.nodup_cons.1 hn).1 hb
   rw [if_neg this]
  ·rw [show (a == k) = false from by simpa using e]
   simp only [cond_false, z7h, if_neg e, List.cons.injEq, true_and]
   refine z4q enc v k x l (List.nodup_cons.1 hn).2 ?_
   rcases List.mem_cons.1 h with h | h
   ·exact (e h.symm).elim
   ·exact h
namespace Tr
def z1g {α : Type} [DecidableEq α] (l : List α) : List α := l.foldl (fun a x => if x ∈ a then a else a ++ [x]) []
theorem z9h {α : Type} [DecidableEq α] (l : List α) (x : α) : z1g (l ++ [x]) = if x ∈ z1g l then z1g l else z1g l ++ [x] := by unfold z1g; rw [List.foldl_append]; rfl
theorem zpw {α : Type} [DecidableEq α] {l : List α} {i : Nat} (h : i < l.length) : z1g (l.take (i + 1)) = if l[i] ∈ z1g (l.take i) then z1g (l.take i) else z1g (l.take i) ++ [l[i]] := by
 rw [List.take_succ_eq_append_getElem h, z9h]
theorem znt {α : Type} {p : List α -> Prop} (h0 : p []) (h1 : ∀ l x, p l -> p (l ++ [x])) : ∀ l, p l := fun l => by
 rw [<- List.reverse_reverse l]
 induction l.reverse with
 | nil => exact h0
 | cons x l ih => rw [List.reverse_cons]; exact h1 _ _ ih
theorem z3d {α : Type} [DecidableEq α] (l : List α) : (z1g l).Nodup /\ (∀ x, x ∈ z1g l ↔ x ∈ l) /\ (z1g l).length <= l.length /\ ((z1g l).length = l.length ↔ l.Nodup) := by
 refine znt (p := fun l => (z1g l).Nodup /\ (∀ x, x ∈ z1g l ↔ x ∈ l) /\ (z1g l).length <= l.length /\ ((z1g l).length = l.length ↔ l.Nodup)) ?_ ?_ l
 ·exact ⟨by simp [z1g], by simp [z1g], by simp [z1g], by simp [z1g]⟩
 ·intro l x ih
  obtain ⟨h1, h2, h3, h4⟩ := ih
  rw [z9h]
  by_cases h : x ∈ z1g l
  ·rw [if_pos h]
   refine ⟨h1, fun y => ?_, by simp; omega, ?_⟩
   ·rw [h2, List.mem_append, List.mem_singleton]
    refine ⟨.inl, fun hy => ?_⟩
    rcases hy with hy | rfl
    ·exact hy
    ·exact (h2 _).1 h
   ·constructor
    ·intro hl; simp at hl; omega
    ·intro hn
     rw [List.nodup_append] at hn
     exact (hn.2.2 x ((h2 x).1 h) x (by simp) rfl).elim
  ·rw [if_neg h]
   refine ⟨?_, fun y => by rw [List.mem_append, List.mem_append, h2], by simp; omega, ?_⟩
   ·rw [List.nodup_append]
    refine ⟨h1, by simp, fun a ha b hb => ?_⟩
    rw [List.mem_singleton] at hb
    subst hb
    intro e; subst e; exact h ha
   ·rw [List.length_append, List.length_append, List.nodup_append]
    constructor
    ·intro hl
     refine ⟨h4.1 (by simpa using hl), by simp, fun a ha b hb => ?_⟩
     rw [List.mem_singleton] at hb
     subst hb
     intro e; subst e; exact h ((h2 a).2 ha)
    ·intro hn
     rw [h4.2 hn.1]
end Tr
end
section
open Abs Facts Tr
attribute [local irreducible] awp
def encC (c : Int × ByteArray) : D := .agg [.int .i64 c.1, .str c.2]
def zyn (l : List (Int × ByteArray)) : List (D × D) := l.map fun c => (encC c, .bool true)
def setI (l : List Idv) : List (D × D) := l.map fun c => (z50 c, .bool true)
theorem eqK_C (a b : Int × ByteArray) : eqK prog 131 (encC a) (encC b) = some (decide (a = b)) := by
 have h : ∀ c, z6z prog 131 (encC c) = true := fun c => by simp only [encC, z6z, zv9, zzk]; rfl
 unfold eqK
 rw [if_pos ⟨h a, h b⟩]
 refine (eqU131 a.1 b.1 a.2 b.2).trans ?_
 obtain ⟨a1, a2⟩ := a; obtain ⟨b1, b2⟩ := b
 simp [Prod.mk.injEq]
theorem eqK_I (a b : Idv) : eqK prog 23 (z50 a) (z50 b) = some (decide (a = b)) := by
 have h : ∀ c, z6z prog 23 (z50 c) = true := fun c => by simp only [z50, cellsId, z6z, zbu, zfg]; rfl
 unfold eqK
 rw [if_pos ⟨h a, h b⟩]
 refine (eqU23 a.act b.act a.item b.item a.n b.n).trans ?_
 rw [idEq']
theorem find_C (c : Int × ByteArray) (l : List (Int × ByteArray)) : (c ∈ l -> ∃ n, z3o prog 131 (.agg [.int .i64 c.1, .str c.2]) (zyn l) = some (some (n, .bool true))) /\ (c ∉ l -> z3o prog 131 (.agg [.int .i64 c.1, .str c.2]) (zyn l) = some none) := by
 haveI : DecidableEq (Int × ByteArray) := fun a b => decidable_of_iff (a.1 = b.1 /\ a.2 = b.2) ⟨fun h => Prod.ext h.1 h.2, fun h => by subst h; exact ⟨rfl, rfl⟩⟩
 have h := z79 encC (fun a b => (eqK_C a b).trans (by congr 1; exact decide_eq_decide.2 Iff.rfl)) (fun _ => .bool true) c l
 refine ⟨fun hm => ?_, fun hm => ?_⟩
 ·rw [if_pos hm] at h; exact ⟨_, h⟩
 ·rw [if_neg hm] at h; exact h
theorem zbe (c : Idv) (l : List Idv) : z3o prog 23 (.agg [.int .i64 c.act, .int .i64 c.item, .int .i64 c.n]) (setI l) = some (if c ∈ l then some (l.idxOf c, .bool true) else none) := z79 z50 eqK_I (fun _ => .bool true) c l
theorem zty (l : List (Int × ByteArray)) (c : Int × ByteArray) : zyn l ++ [(.agg [.int .i64 c.1, .str c.2], .bool true)] = zyn (l ++ [c]) := by unfold zyn; rw [List.map_append]; rfl
theorem z7b (l : List Idv) (c : Idv) : setI l ++ [(.agg [.int .i64 c.act, .int .i64 c.item, .int .i64 c.n], .bool true)] = setI (l ++ [c]) := by unfold setI; rw [List.map_append]; rfl
theorem zcq {l : List Idv} {c : Idv} (hn : l.Nodup) (h : c ∈ l) : z7h (setI l) (l.idxOf c) (.bool true) = setI l := by
 unfold setI
 rw [z4q z50 (fun _ => .bool true) c (.bool true) l hn h]
 refine List.map_congr_left fun a _ => ?_
 simp
namespace Tr
theorem zie : ∀ t : T, szB t = true -> ∀ x ∈ nodesT t, szB x = true := by
 refine z4l fun t ih h x hx => ?_
 rw [z11] at hx
 rcases List.mem_cons.1 hx with rfl | hx
 ·exact h
 ·obtain ⟨k, O, hx⟩ := List.mem_flatMap.1 hx
  obtain ⟨_, _, _, _, _, _, h4⟩ := (z33 t).1 h
  exact ih k O (h4 k O) x hx
theorem zyo {l : List Idv} (hne : l ≠ []) : (l.all fun i => decide (i = Idv.zero)) = (decide (Idv.zero ∈ z1g l) && decide ((z1g l).length = 1)) := by
 obtain ⟨h1, h2, _, _⟩ := z3d l
 rw [Bool.eq_iff_iff]
 simp only [List.all_eq_true, Bool.and_eq_true, decide_eq_true_eq]
 constructor
 ·intro h
  obtain ⟨x, hx⟩ := List.exists_mem_of_ne_nil l hne
  have hz : Idv.zero ∈ z1g l := by rw [<- h x hx]; exact (h2 x).2 hx
  refine ⟨hz, ?_⟩
  have ha : ∀ y ∈ z1g l, y = Idv.zero := fun y hy => h y ((h2 y).1 hy)
  generalize z1g l = o at h1 hz ha
  match o, h1, hz, ha with
  | [], _, hz, _ => cases hz
  | [a], _, _, _ => rfl
  | a :: b :: r, h1, _, ha =>
   have e1 := ha a (by simp)
   have e2 := ha b (by simp)
   rw [e1, e2] at h1
   simp at h1
 ·rintro ⟨hz, hl⟩ x hx
  have hm := (h2 x).2 hx
  generalize z1g l = o at hz hl hm
  match o, hl, hz, hm with
  | [a], _, hz, hm =>
   rw [List.mem_singleton] at hz hm
   rw [hm, <- hz]
theorem ztz {p q : Prop} [Decidable p] [Decidable q] : (decide p == decide q) = decide (q ↔ p) := by
 by_cases hp : p <;> by_cases hq : q <;> simp [hp, hq]
def ownB (t : T) : Bool := (if t.kind = 0 then decide (t.label = z6h) && decide (t.head.length + t.words.length = 0) else decide (zmh t.kind ≠ z6h) && (z4i t.label && (zm7 t.head && zm7 t.words)))
def zf1 (t : T) : Bool := ownB t && ((t.kids.all fun k => z38 t.kind k.kind) && (decide ((t.kids.map zag).Nodup) && decide (t.kids.length <= 64)))
end Tr
theorem zyp (t : T) (hs : szB t = true) : PC prog 71 [z1e t] (.bool (zf1 t)) := by
  obtain ⟨h0, h1, g1, h2, g2, h3, h4⟩ := (z33 t).1 hs
  have k1 := zmi t.kind
  have k2 := zii t.label (by unfold maxLen; omega)
  have k3 := zub t.head h1 (fun w hw => by have := g1 w hw; unfold maxLen; omega)
  have k4 := zub t.words h2 (fun w hw => by have := g2 w hw; unfold maxLen; omega)
  refine z2i 1 (by simp only [pureD.pureL, z0b, Bool.and_self]) rfl (z23 [] func71 rfl (by decide +kernel) rfl ?_)
  show awp _ _ (Code.seq _ _) _ _
  repeat' (first | refine nxt ?_ | ((first | refine zqh fun K hK => ?_ | refine zqs (k1) ?_ | refine zqs (k2) ?_ | refine zqs (k3) ?_ | refine zqs (k4) ?_); (simp (disch := omega) only [go_sem, Nat.reduceBEq, ↓reduceIte, reduceCtorEq, Nat.reduceAdd, z0n])) | (refine zqd _ rfl ?_ ?_ <;> intro hc <;> (first | (cases hc; done) | ((try simp only [z06] at hc); (try omega)))) | refine zqu (by simp only [go_sem]; rfl) rfl ?_ | (refine hK _ ?_; clear hK K) | (refine zqf (fun hb => ?_) (fun hb => ?_) <;> (have hb2 := hb; try simp only [z06] at hb2) <;> ((first | have F : (_ : Bool) = _ := hb2 | have F := eq_false hb2 | have F := eq_true hb2); (simp (disch := omega) only [go_sem, Nat.reduceBEq, ↓reduceIte, reduceCtorEq, Nat.reduceAdd, F, z0t]); clear hb F; (try omega))))
  all_goals first
    | (refine z00 ?_
       unfold zf1 ownB
       have hemp : ByteArray.empty = z6h := rfl
       first
         | ((simp (disch := omega) only [decide_eq_false, Bool.false_and, Bool.and_false, if_true, if_false, *]); done)
         | (simp_all [z6h]; done)
         | (simp_all [z6h]; omega))
    | skip
  all_goals
    have hown : ownB t = true := by
      unfold ownB
      first
        | (simp_all [z6h]; done)
        | (have e1 : t.head = [] := List.eq_nil_of_length_eq_zero (by omega)
           have e2 : t.words = [] := List.eq_nil_of_length_eq_zero (by omega)
           simp_all [z6h])
    unfold zf1
    rw [hown, Bool.true_and]
    (refine z45 (fun U st => ∃ (i : _), U = t.kids.length - i /\ st.t 1 = .ptr 0 0 /\ st.t 3 = .mp 1 /\ st.t 47 = z0n t.kids /\ st.t 48 = .int .i64 t.kids.length /\ st.t 49 = .int .i64 i /\ st.H 0 = some (.box 27 (z08 t)) /\ st.H 1 = some (.map (zyn ((t.kids.take i).map zag))) /\ (i <= t.kids.length) /\ (2 <= st.nx) /\ ((t.kids.take i).all (fun k => z38 t.kind k.kind) = true) /\ (((t.kids.take i).map zag).Nodup)) ?_ ?_); rotate_left; (rintro U st ⟨i, rfl, q1, q3, q47, q48, q49, qH0, qH1, qp0, qp1, qp2, qp3⟩); rotate_left
    · (refine ⟨_, 0, rfl, ?_⟩); (simp (disch := omega) only [go_sem, Nat.reduceBEq, Nat.reduceLeDiff, true_and, Int.natCast_zero, List.map_nil, z0n, zyn])
      try simp
    by_cases hi : i < t.kids.length
    · have hcc := ziq t.kind t.kids[i].kind
      by_cases hm : zag t.kids[i] ∈ (t.kids.take i).map zag
      · obtain ⟨n, hfd⟩ := (find_C (zag t.kids[i]) ((t.kids.take i).map zag)).1 hm
        have hno : ¬ (t.kids.map zag).Nodup := fun hn => by
          obtain ⟨x, hx, he⟩ := List.mem_map.1 hm
          obtain ⟨j, hj, rfl⟩ := List.getElem_of_mem hx
          rw [List.length_take] at hj
          rw [List.getElem_take] at he
          exact zjn (f := zag) (j := j) (k := i) (by omega) hi he hn
        simp only [zag] at hfd
        repeat' (first | refine nxt ?_ | ((first | refine zqh fun K hK => ?_ | refine zqs (hcc) ?_); (simp (disch := omega) only [go_sem, Nat.reduceBEq, ↓reduceIte, reduceCtorEq, Nat.reduceAdd, Nat.reduceLeDiff, q1, q47, q48, q49, qH0, z0n])) | (refine zqd _ rfl ?_ ?_ <;> intro hc <;> (first | (cases hc; done) | ((try simp only [z06] at hc); (try omega)))) | refine zqu (by simp only [go_sem]; rfl) rfl ?_ | (refine hK _ ?_; clear hK K) | (refine zqf (fun hb => ?_) (fun hb => ?_) <;> (have hb2 := hb; try simp only [z06] at hb2) <;> ((have F : (_ : Bool) = _ := hb2); (simp (disch := omega) only [go_sem, Nat.reduceBEq, ↓reduceIte, Nat.reduceAdd, Nat.reduceLeDiff, F, q3, qH1, hfd]); clear hb F; (try omega))))
        all_goals exact z00 (by rw [decide_eq_false hno, Bool.false_and, Bool.and_false])
      · have hfd := (find_C (zag t.kids[i]) ((t.kids.take i).map zag)).2 hm
        have hsn : zyn ((t.kids.take i).map zag) ++ [(.agg [.int .i64 t.kids[i].kind, .str t.kids[i].label], .bool true)] = zyn ((t.kids.take i).map zag ++ [zag t.kids[i]]) := zty ((t.kids.take i).map zag) (zag t.kids[i])
        have htk : (t.kids.take (i + 1)).map zag = (t.kids.take i).map zag ++ [zag t.kids[i]] := by rw [List.take_succ_eq_append_getElem hi, List.map_append]; rfl
        simp only [show zag t.kids[i] = (t.kids[i].kind, t.kids[i].label) from rfl] at hfd
        repeat' (first | refine nxt ?_ | ((first | refine zqh fun K hK => ?_ | refine zqr fun K hK => ?_ | refine zqs (hcc) ?_); (simp (disch := omega) only [go_sem, Nat.reduceBEq, ↓reduceIte, reduceCtorEq, Nat.reduceAdd, Nat.reduceLeDiff, q1, q3, q47, q48, q49, qH0, qH1, z0n, hfd])) | (refine zqd _ rfl ?_ ?_ <;> intro hc <;> (first | (cases hc; done) | ((try simp only [z06] at hc); (try omega)))) | refine zqu (by simp only [go_sem]; rfl) rfl ?_ | (refine hK _ ?_; clear hK K) | (refine zqf (fun hb => ?_) (fun hb => ?_) <;> (have hb2 := hb; try simp only [z06] at hb2) <;> ((have F : (_ : Bool) = _ := hb2); (simp (disch := omega) only [go_sem, Nat.reduceBEq, ↓reduceIte, Nat.reduceAdd, Nat.reduceLeDiff, F, q3, qH1, hfd]); clear hb F; (try omega))))
        · (refine Exists.intro _ (And.intro ?_ ⟨i + 1, rfl, ?_⟩)); rotate_left; (simp (disch := omega) only [go_sem, Nat.reduceBEq, Nat.reduceLeDiff, q1, q3, q47, q48, q49, qH0, qH1, true_and, Int.natCast_add, Int.natCast_one, hsn, htk]); rotate_left
          · omega
          · (repeat' (first | omega | refine And.intro ?_ ?_))
            · exact z6m hi qp2 (by assumption)
            rw [<- htk]
            exact zdb hi qp3 (fun j hj e => hm (by rw [<- e]; exact List.mem_map.2 ⟨_, List.mem_iff_getElem.2 ⟨j, by rw [List.length_take]; omega, List.getElem_take⟩, rfl⟩))
        · exact z00 (by rw [za8 (f := fun k : T => z38 t.kind k.kind) (k := i) hi (by assumption), Bool.false_and])
    · repeat' (first | ((refine zqh fun K hK => ?_); (simp (disch := omega) only [go_sem, Nat.reduceBEq, ↓reduceIte, reduceCtorEq, Nat.reduceAdd, q1, q48, q49, qH0, z0n])) | (refine zqd _ rfl ?_ ?_ <;> intro hc <;> (((try simp only [z06] at hc); (try omega)))) | refine nxt ?_ | refine zqz ?_ | refine zqu (by simp only [go_sem]; rfl) rfl ?_ | (refine hK _ ?_; clear hK K))
      rw [List.take_of_length_le (by omega)] at qp3
      refine z00 ?_
      rw [z6n (by omega) qp2, decide_eq_true qp3, Bool.true_and, Bool.true_and]
      exact decide_eq_decide.2 (by omega)
theorem pc_ids (t : T) (hs : szB t = true) (hc : cntT t <= 1000000000) : PC prog 73 [z1e t] (.bool (zpu t)) := by
 have ha := pc_IDs t (zgo t hs) (by omega)
 have hl := za1 t
 refine z2i 1 (by simp only [pureD.pureL, z0b, Bool.and_self]) rfl (z23 [] func73 rfl (by decide +kernel) rfl ?_)
 show awp _ _ (Code.seq _ _) _ _
 repeat' (first | refine nxt ?_ | ((first | refine zqh fun K hK => ?_ | refine zqs (ha) ?_); (simp (disch := omega) only [go_sem, Nat.reduceBEq, ↓reduceIte, Nat.reduceAdd, Nat.reduceLeDiff])) | (refine hK _ ?_; clear hK K))
 (refine z45 (fun U st => ∃ (i : _), U = (idsT t).length - i /\ st.t 1 = .ptr 0 0 /\ st.t 3 = z2d (idsT t) /\ st.t 4 = .mp 1 /\ st.t 11 = z2d (idsT t) /\ st.t 12 = .int .i64 (idsT t).length /\ st.t 13 = .int .i64 i /\ st.H 0 = some (.box 27 (z08 t)) /\ st.H 1 = some (.map (setI (z1g ((idsT t).take i)))) /\ (i <= (idsT t).length) /\ (2 <= st.nx)) ?_ ?_); rotate_left; (rintro U st ⟨i, rfl, q1, q3, q4, q11, q12, q13, qH0, qH1, qp0, qp1⟩); rotate_left
 ·(refine ⟨_, 0, rfl, ?_⟩); (simp (disch := omega) only [go_sem, Nat.reduceBEq, Nat.reduceLeDiff, true_and, and_true, and_self, Int.natCast_zero, z2d, setI])
  rfl
 obtain ⟨on1, on2, on3, on4⟩ := z3d ((idsT t).take i)
 by_cases hi : i < (idsT t).length
 ·have hfd := zbe (idsT t)[i] (z1g ((idsT t).take i))
  have hot := zpw hi
  by_cases hm : (idsT t)[i] ∈ z1g ((idsT t).take i)
  ·rw [if_pos hm] at hfd hot
   have hsv := zcq on1 hm
   repeat' (first | ((first | refine zqh fun K hK => ?_ | refine zqr fun K hK => ?_); (simp (disch := omega) only [go_sem, Nat.reduceBEq, ↓reduceIte, reduceCtorEq, Nat.reduceAdd, Nat.reduceLeDiff, q4, q11, q12, q13, qH1, z2d, hfd, hsv])) | (refine zqd _ rfl ?_ ?_ <;> intro hc <;> (((try simp only [z06] at hc); (try omega)))) | refine nxt ?_ | (refine hK _ ?_; clear hK K))
   (refine Exists.intro _ (And.intro ?_ ⟨i + 1, rfl, ?_⟩)); rotate_left; (simp (disch := omega) only [go_sem, Nat.reduceBEq, Nat.reduceLeDiff, q1, q3, q4, q11, q12, q13, qH0, qH1, true_and, Int.natCast_add, Int.natCast_one, hot]); rotate_left
   ·omega
   ·omega
  ·rw [if_neg hm] at hfd hot
   have hsn := z7b (z1g ((idsT t).take i)) (idsT t)[i]
   repeat' (first | ((first | refine zqh fun K hK => ?_ | refine zqr fun K hK => ?_); (simp (disch := omega) only [go_sem, Nat.reduceBEq, ↓reduceIte, reduceCtorEq, Nat.reduceAdd, Nat.reduceLeDiff, q4, q11, q12, q13, qH1, z2d, hfd])) | (refine zqd _ rfl ?_ ?_ <;> intro hc <;> (((try simp only [z06] at hc); (try omega)))) | refine nxt ?_ | (refine hK _ ?_; clear hK K))
   (refine Exists.intro _ (And.intro ?_ ⟨i + 1, rfl, ?_⟩)); rotate_left; (simp (disch := omega) only [go_sem, Nat.reduceBEq, Nat.reduceLeDiff, q1, q3, q4, q11, q12, q13, qH0, qH1, true_and, Int.natCast_add, Int.natCast_one, hot, hsn]); rotate_left
   ·omega
   ·omega
 ·rw [List.take_of_length_le (by omega)] at qH1 on1 on2 on3 on4
  have hfd : z3o prog 23 (.agg [.int .i64 0, .int .i64 0, .int .i64 0]) (setI (z1g (idsT t))) = some (if Idv.zero ∈ z1g (idsT t) then some ((z1g (idsT t)).idxOf Idv.zero, .bool true) else none) := zbe Idv.zero (z1g (idsT t))
  have hsl : (setI (z1g (idsT t))).length = (z1g (idsT t)).length := by unfold setI; simp
  have hne : idsT t ≠ [] := by rw [z2z]; simp
  have hz := zyo hne
  have hb : zpu t = ((idsT t).all (fun i => decide (i = Idv.zero)) || (decide ((t.id = Idv.zero) ↔ (t.kind = 0)) && decide ((idsT t).Nodup))) := rfl
  by_cases hm : Idv.zero ∈ z1g (idsT t)
  ·rw [if_pos hm] at hfd
   rw [decide_eq_true hm, Bool.true_and] at hz
   repeat' (first | ((first | refine zqh fun K hK => ?_ | refine zqe (by decide +kernel) fun K hK => ?_); (simp (disch := omega) only [go_sem, Nat.reduceBEq, ↓reduceIte, Nat.reduceAdd, q4, q12, q13, qH1, hfd, hsl])) | (refine zqd _ rfl ?_ ?_ <;> intro hc <;> (((try simp only [z06] at hc); (try omega)))) | refine nxt ?_ | refine zqz ?_ | refine zqu (by simp only [go_sem]; rfl) rfl ?_ | (refine hK _ ?_; clear hK K) | (refine zqf (fun hb => ?_) (fun hb => ?_) <;> (have hb2 := hb; try simp only [z06] at hb2) <;> ((first | have F := eq_false hb2 | have F := eq_true hb2); (simp (disch := omega) only [go_sem, Nat.reduceBEq, ↓reduceIte, reduceCtorEq, Nat.reduceAdd, Nat.reduceLeDiff, F, q1, q3, q4, qH0, qH1, z2d, hsl]); clear hb F; (try omega))))
   ·have hn : (idsT t).Nodup := on4.1 (by omega)
    refine z00 ?_
    rw [hb, hz, decide_eq_false (show ¬ (z1g (idsT t)).length = 1 by omega), decide_eq_true hn, Bool.false_or, Bool.and_true, <- ztz]
   ·have hn : ¬ (idsT t).Nodup := fun h => by have := on4.2 h; omega
    exact z00 (by rw [hb, hz, decide_eq_false (show ¬ (z1g (idsT t)).length = 1 by omega), decide_eq_false hn, Bool.false_or, Bool.and_false])
   ·exact z00 (by rw [hb, hz, decide_eq_true (by omega), Bool.true_or])
  ·rw [if_neg hm] at hfd
   rw [decide_eq_false hm, Bool.false_and] at hz
   repeat' (first | ((first | refine zqh fun K hK => ?_ | refine zqe (by decide +kernel) fun K hK => ?_); (simp (disch := omega) only [go_sem, Nat.reduceBEq, ↓reduceIte, Nat.reduceAdd, q3, q4, q12, q13, qH1, z2d, hfd, hsl])) | (refine zqd _ rfl ?_ ?_ <;> intro hc <;> (((try simp only [z06] at hc); (try omega)))) | refine nxt ?_ | refine zqz ?_ | refine zqu (by simp only [go_sem]; rfl) rfl ?_ | (refine hK _ ?_; clear hK K) | (refine zqf (fun hb => ?_) (fun hb => ?_) <;> (have hb2 := hb; try simp only [z06] at hb2) <;> ((first | have F := eq_false hb2 | have F := eq_true hb2); (simp (disch := omega) only [go_sem, Nat.reduceBEq, ↓reduceIte, reduceCtorEq, Nat.reduceAdd, Nat.reduceLeDiff, F, q1, qH0]); clear hb F; (try omega))))
   ·have hn : (idsT t).Nodup := on4.1 (by omega)
    refine z00 ?_
    rw [hb, hz, decide_eq_true hn, Bool.false_or, Bool.and_true, <- ztz]
   ·have hn : ¬ (idsT t).Nodup := fun h => by have := on4.2 h; omega
    exact z00 (by rw [hb, hz, decide_eq_false hn, Bool.false_or, Bool.and_false])
theorem zu0 (t : T) (hs : szB t = true) (hc : cntT t <= 1000000000) (V : depT t <= 1000000000) : PC prog 43 [z1e t] (.bool ((nodesT t).all zf1 && (decide (depT t <= 8) && (decide (cntT t <= 1024) && zpu t)))) := by
 have h1 := zy6 (g := 71) (cap := []) zf1 rfl t (zgo t hs) (fun x hx => zyp x (zie t hs x hx))
 have h2 := pc_Depth t (zgo t hs) V
 have h3 := zee t (zgo t hs) hc
 have h4 := pc_ids t hs hc
 refine z2i 1 (by simp only [pureD.pureL, z0b, Bool.and_self]) rfl (z23 [] func43 rfl (by decide +kernel) rfl ?_)
 show awp _ _ (Code.seq _ _) _ _
 repeat' (first | ((first | refine zqh fun K hK => ?_ | refine zqs (h1) ?_ | refine zqs (h2) ?_ | refine zqs (h3) ?_ | refine zqs (h4) ?_); (simp (disch := omega) only [go_sem, Nat.reduceBEq, ↓reduceIte, Nat.reduceAdd, Nat.reduceLeDiff])) | refine nxt ?_ | refine zqu (by simp only [go_sem]; rfl) rfl ?_ | (refine hK _ ?_; clear hK K) | (refine zqf (fun hb => ?_) (fun hb => ?_) <;> (have hb2 := hb; try simp only [z06] at hb2) <;> ((first | have F : (_ : Bool) = _ := hb2 | have F := eq_false hb2 | have F := eq_true hb2); (simp (disch := omega) only [go_sem, Nat.reduceBEq, ↓reduceIte, Nat.reduceAdd, Nat.reduceLeDiff, hb, F]); clear hb F; (try omega))))
 all_goals refine z00 ?_
 all_goals (simp (disch := omega) only [decide_eq_true, decide_eq_false, Bool.true_and, Bool.false_and, Bool.and_false, *])
namespace Tr
instance : DecidableEq ByteArray := inferInstance
def zju : List (T -> Bool) -> List T -> Bool
 | [], [] => true
 | f :: fs, t :: ts => f t && zju fs ts
 | _, _ => false
def zq3 (a : T) : T -> Bool := zf2 (fun a l b => decide (a.id = b.id) && (decide (a.kind = b.kind) && (decide (a.label = b.label) && (decide (a.head = b.head) && (decide (a.words = b.words) && (decide (a.kids.length = b.kids.length) && zju l b.kids)))))) a
theorem zye (a b : T) : zq3 a b = (decide (a.id = b.id) && (decide (a.kind = b.kind) && (decide (a.label = b.label) && (decide (a.head = b.head) && (decide (a.words = b.words) && (decide (a.kids.length = b.kids.length) && zju (a.kids.map zq3) b.kids)))))) := by
 unfold zq3; rw [z3k]
theorem zjv : ∀ (l m : List T), (∀ k ∈ l, ∀ b, zq3 k b = true ↔ k = b) -> (zju (l.map zq3) m = true ↔ l = m)
 | [], [], _ => by simp [zju]
 | [], _ :: _, _ => by simp [zju]
 | _ :: _, [], _ => by simp [zju]
 | a :: l, b :: m, h => by
  simp only [List.map_cons, zju, Bool.and_eq_true, List.cons.injEq]
  rw [h a (by simp) b, zjv l m (fun k O => h k (List.mem_cons_of_mem _ O))]
theorem ztn : ∀ a b : T, zq3 a b = true ↔ a = b := by
 refine z4l fun a ih b => ?_
 rw [zye]
 simp only [Bool.and_eq_true, decide_eq_true_eq]
 rw [zjv a.kids b.kids ih]
 constructor
 ·rintro ⟨h1, h2, h3, h4, h5, _, h6⟩
  rw [<- T.eta a, <- T.eta b, h1, h2, h3, h4, h5, h6]
 ·rintro rfl; exact ⟨rfl, rfl, rfl, rfl, rfl, rfl, rfl⟩
instance : DecidableEq T := fun a b => decidable_of_iff _ (ztn a b)
theorem zyf {α : Type} {a b : List α} {k : Nat} (O : k < a.length) (hl : a.length = b.length) (h : a.take k = b.take k) (h2 : a[k] = b[k]'(by omega)) : a.take (k + 1) = b.take (k + 1) := by
 rw [List.take_succ_eq_append_getElem O, List.take_succ_eq_append_getElem (show k < b.length by omega), h, h2]
theorem ne_at {α : Type} {a b : List α} {k : Nat} (O : k < a.length) (hl : a.length = b.length) (h2 : ¬ a[k] = b[k]'(by omega)) : ¬ a = b := fun h => by subst h; exact h2 rfl
theorem eq_done {α : Type} {a b : List α} {k : Nat} (O : a.length <= k) (hl : a.length = b.length) (h : a.take k = b.take k) : a = b := by
 rwa [List.take_of_length_le O, List.take_of_length_le (by omega)] at h
end Tr
theorem zo3 (a b : List Wd) (ha : a.length <= maxLen) (hb : b.length <= maxLen) : PC prog 34 [z0t a, z0t b] (.bool (decide (a = b))) := by
 unfold maxLen at ha hb
 refine z2i 1 (by simp only [pureD.pureL, z0r, Bool.and_self]) rfl (z23 [] func34 rfl (by decide +kernel) rfl ?_)
 show awp _ _ (Code.seq _ _) _ _
 repeat' (first | refine nxt ?_ | ((refine zqh fun K hK => ?_); (simp (disch := omega) only [go_sem, Nat.reduceBEq, ↓reduceIte, z0t])) | (refine zqd _ rfl ?_ ?_ <;> intro hc <;> (((try simp only [z06] at hc); (try omega)))) | refine zqu (by simp only [go_sem]; rfl) rfl ?_ | (refine hK _ ?_; clear hK K))
 ·exact z00 (decide_eq_false (fun h => by subst h; contradiction)).symm
 ·have hl : a.length = b.length := by omega
  (refine z45 (fun U st => ∃ (k : _), U = a.length - k /\ st.t 0 = z0t a /\ st.t 1 = z0t b /\ st.t 5 = .int .i64 k /\ (k <= a.length) /\ (a.take k = b.take k)) ?_ ?_); rotate_left; (rintro U st ⟨k, rfl, q0, q1, q5, qp0, qp1⟩); rotate_left
  ·(refine ⟨_, 0, rfl, ?_⟩); (simp (disch := omega) only [go_sem, Nat.reduceBEq, and_self, Int.natCast_zero, z0t])
   try simp
  repeat' (first | refine nxt ?_ | ((first | refine zqh fun K hK => ?_ | refine zqe (by decide +kernel) fun K hK => ?_ | refine zqr fun K hK => ?_); (simp (disch := omega) only [go_sem, Nat.reduceBEq, ↓reduceIte, reduceCtorEq, Nat.reduceAdd, q0, q1, q5, z0t])) | ((first | refine zqd _ rfl (fun hc => ?_) (fun hc => ?_) | refine zqm _ rfl (fun hc => ?_) (fun hc => ?_)) <;> (((try simp only [z06] at hc); (try omega)))) | refine zqz ?_ | refine zqu (by simp only [go_sem]; rfl) rfl ?_ | (refine hK _ ?_; clear hK K))
  ·exact z00 (decide_eq_false (ne_at (k := k) (by omega) hl (by assumption))).symm
  ·(refine Exists.intro _ (And.intro ?_ ⟨k + 1, rfl, ?_⟩)); rotate_left; (simp (disch := omega) only [go_sem, Nat.reduceBEq, q0, q1, q5, true_and, Int.natCast_add, Int.natCast_one, z0t]); rotate_left
   ·omega
   ·exact ⟨by omega, zyf (by omega) hl qp1 (by assumption)⟩
  ·exact z00 (decide_eq_true (eq_done (by omega) hl qp1)).symm
theorem zo4 (l : List Wd) (hl : l.length <= 1000000) : PC prog 38 [z0t l] (z0t (l.map fun w => ⟨w.text, Idv.zero⟩)) := by
 refine z2i 2 (by simp only [pureD.pureL, z0r, Bool.and_self]) (z0r _) (z23 [5] func38 rfl (by decide +kernel) rfl ?_)
 show awp _ _ (Code.seq _ _) _ _
 repeat' (first | refine nxt ?_ | ((refine zqh fun K hK => ?_); (simp (disch := omega) only [go_sem, Nat.reduceBEq, ↓reduceIte, reduceCtorEq, Nat.reduceMul, z0t])) | (refine hK _ ?_; clear hK K))
 (refine z45 (fun U st => ∃ (k : _), U = l.length - k /\ st.t 0 = z0t l /\ st.t 3 = .osl 0 k /\ st.t 4 = .int .i64 k /\ st.H 0 = some (.row 82 k (((l.take k).map fun w => (⟨w.text, Idv.zero⟩ : Wd)).flatMap z7y)) /\ (k <= l.length)) ?_ ?_); rotate_left; (rintro U st ⟨k, rfl, q0, q3, q4, qH0, qp0⟩); rotate_left
 ·(refine ⟨_, 0, rfl, ?_⟩); (simp (disch := omega) only [go_sem, Nat.reduceBEq, and_self, Int.natCast_zero, List.flatMap_nil, List.map_nil, z0t])
 by_cases O : k < l.length
 ·have htk := List.take_succ_eq_append_getElem O
  repeat' (first | refine nxt ?_ | ((first | refine zqh fun K hK => ?_ | refine zqr fun K hK => ?_); (simp (disch := omega) only [go_sem, Nat.reduceBEq, ↓reduceIte, reduceCtorEq, Nat.reduceAdd, Nat.reduceMul, Nat.reduceLeDiff, q0, q3, q4, qH0, z0t])) | (refine zqd _ rfl ?_ ?_ <;> intro hc <;> (((try simp only [z06] at hc); (try omega)))) | (refine hK _ ?_; clear hK K))
  (refine Exists.intro _ (And.intro ?_ ⟨k + 1, rfl, ?_⟩)); rotate_left; (simp (disch := omega) only [go_sem, Nat.reduceBEq, q0, q3, q4, qH0, true_and, Int.natCast_add, Int.natCast_one, List.flatMap_append, List.flatMap_cons, List.flatMap_nil, List.map_append, List.map_cons, List.map_nil, List.append_nil, htk, z7y, Idv.zero]); rotate_left
  ·omega
  ·omega
 ·repeat' (first | refine nxt ?_ | ((refine zqh fun K hK => ?_); (simp (disch := omega) only [go_sem, Nat.reduceBEq, ↓reduceIte, q0, q3, q4, z0t])) | (refine zqd _ rfl ?_ ?_ <;> intro hc <;> (((try simp only [z06] at hc); (try omega)))) | refine zqz ?_ | refine zqu (by simp only [go_sem]; rfl) rfl ?_ | (refine hK _ ?_; clear hK K))
  have hk2 : k = l.length := by omega
  subst hk2
  rw [List.take_length] at qH0
  have hlen : l.length = (l.map fun w => (⟨w.text, Idv.zero⟩ : Wd)).length := by simp
  rw [hlen] at qH0 ⊢
  refine z6f (z1b 0 ?_ zel zj5 (fun _ => rfl) (fun _ => rfl))
  (simp (disch := omega) only [go_sem, qH0])
namespace Tr
theorem z2q {id : Idv} {t : T} (h : t.id = id) : z1z id t = [t] := by rw [zb0, if_pos h]
theorem z6l {id : Idv} {t : T} {i : Nat} (h0 : ¬ t.id = id) (hi : i < t.kids.length) (h1 : ∀ j, (hj : j < i) -> (h : j < t.kids.length) -> z1z id t.kids[j] = []) (h2 : z1z id t.kids[i] ≠ []) : z1z id t = t :: z1z id t.kids[i] := by
 rw [zb0, if_neg h0, zls (z1z id) hi h1 h2]
theorem zex {id : Idv} {t : T} {i : Nat} (h0 : ¬ t.id = id) (hi : t.kids.length <= i) (h1 : ∀ j, (hj : j < i) -> (h : j < t.kids.length) -> z1z id t.kids[j] = []) : z1z id t = [] := by
 rw [zb0, if_neg h0, zlr (z1z id) h1 hi]
theorem zyg {id : Idv} {t : T} (h : z1z id t ≠ []) : (findR id t).2 = true := by unfold findR; rw [zbj _ h]
theorem zeg {id : Idv} {t : T} (h : z1z id t = []) : findR id t = (T.zero, false) := by unfold findR; rw [h]; rfl
theorem zjw {id : Idv} {t : T} : (findR id t).2 = false ↔ z1z id t = [] := by
 constructor
 ·intro h
  by_cases h2 : z1z id t = []
  ·exact h2
  ·rw [zyg h2] at h; cases h
 ·intro h; rw [zeg h]
theorem zh3 {id : Idv} {t : T} : (findR id t).2 = true ↔ z1z id t ≠ [] := by
 rw [<- Bool.not_eq_false, zjw]
theorem z9j {id : Idv} {t : T} (h : t.id = id) : findR id t = (t, true) := by unfold findR; rw [z2q h]; rfl
theorem z9k {id : Idv} {t k : T} (h : z1z id t = t :: z1z id k) (h2 : z1z id k ≠ []) : findR id t = findR id k := by
 unfold findR
 rw [h, List.getLast?_cons_of_ne_nil h2]
end Tr
namespace Tr
theorem zjx {id : Idv} {t : T} {i : Nat} (h0 : ¬ t.id = id) (hi : i < t.kids.length) (h1 : ∀ j, (hj : j < i) -> (h : j < t.kids.length) -> z1z id t.kids[j] = []) (h2 : t.kids[i].id = id) : za3 id t = (t.id, (i : Int), true) := by
 have hw := z2q h2
 have hw2 := z6l h0 hi h1 (by rw [hw]; simp)
 rw [hw] at hw2
 have hn : z7e (fun k => !(z1z id k).isEmpty) t.kids = i := z4y (by omega) (fun j hj => by rw [h1 j hj (by omega)]; rfl) (fun h => by rw [hw]; rfl)
 unfold za3
 simp only [hw2, List.length_cons, List.length_nil]
 rw [dif_neg (by omega)]
 simp only [show 0 + 1 + 1 - 2 = 0 from rfl, List.getElem_cons_zero, hn, hi, if_true]
theorem zto {id : Idv} {t : T} {i : Nat} (h0 : ¬ t.id = id) (hi : i < t.kids.length) (h1 : ∀ j, (hj : j < i) -> (h : j < t.kids.length) -> z1z id t.kids[j] = []) (h2 : ¬ t.kids[i].id = id) (h3 : z1z id t.kids[i] ≠ []) : za3 id t = za3 id t.kids[i] := by
 have hw2 := z6l h0 hi h1 h3
 have hl : 2 <= (z1z id t.kids[i]).length := by
  rw [zb0, if_neg h2] at h3 ⊢
  split
  ·rename_i w hw
   have := List.find?_some hw
   cases w with
   | nil => simp at this
   | cons a w => simp
  ·rename_i hw; rw [hw] at h3; exact (h3 rfl).elim
 unfold za3
 simp only [hw2, List.length_cons]
 rw [dif_neg (by omega), dif_neg (by omega)]
 have e : (z1z id t.kids[i]).length + 1 - 2 = (z1z id t.kids[i]).length - 2 + 1 := by omega
 simp only [e, List.getElem_cons_succ]
end Tr
end
section
open Abs Facts Tr Go.RowKit
namespace Abs
section
variable {α : Type} {f : α -> List D} {sz : Nat}
end
variable {P : Program}
theorem zja {α : Type} {P : Program} {H : HM} {id e sz n : Nat} {f : α -> List D} {l : List α} (k : Nat) (hn : l.length = n) (hH : H id = some (.row e n (l.flatMap f))) (ha : z05 P e = true) (hs : z01 P e = sz) (h : ∀ x, (f x).length = sz) (hp : ∀ x, pureD.pureL (f x) = true) :
  z2m P H (k + 2) (.osl id n) = some (.rsl false sz (l.map fun x => .agg (f x))) := by
 subst hn
 exact z1b k hH ha hs h hp
theorem zwb {f : FuncId} {ds : List D} {H : HM} {nx : Nat} {K : D -> HM -> Nat -> Prop} (e : TypeId) (h : AC P f ds H nx fun r H' nx' => r = .nil /\ K (.osl nx' 0) (z10 H' nx' (some (.row e 0 []))) (nx' + 1)) : AC P f ds H nx K := by
 refine ⟨h.1, fun s w vs h1 h2 h3 h4 => (h.2 s w vs h1 h2 h3 h4).mono fun x w' ⟨v, r, s', he, ⟨hr, hK⟩, hstep, hRH, hrel⟩ => ?_⟩
 subst hr
 simp only [rel] at hrel
 subst hrel
 obtain ⟨g1, g2⟩ := z58 hRH (Grew.refl w') (.row e 0 []) (.slice none 0 0) (fun b hb => by cases hb) ⟨[], ⟨by simp, .inl ⟨rfl, rfl⟩⟩, z0k, by intro v hv; cases hv⟩
 refine ⟨.slice none 0 0, .osl s'.nx 0, s'.add (.slice none 0 0) (.row e 0 []), he, hK, hstep.trans g1, g2, ?_⟩
 simp only [rel]
 refine ⟨Nat.lt_succ_self _, ⟨none, 0, rfl⟩, fun e' k cs hH => ?_⟩
 simp only [RS.add, z10, if_true, Option.some.injEq, HObj.row.injEq] at hH
 obtain ⟨_, rfl, _⟩ := hH
 exact ⟨Nat.le_refl _, fun _ => by simp [RS.add]⟩
theorem z7s {st : St} {b off : Nat} {e : TypeId} {cs : List D} (e' : TypeId) (hb : st.H b = some (.box e cs)) (hoff : cs[off]? = some .nil) :
  SealTo P st { st with H := z10 (z10 st.H st.nx (some (.row e' 0 []))) b (some (.box e (cs.set off (.osl st.nx 0)))), nx := st.nx + 1 } := by
 intro N s a w hf
 have hHb : s.H b = some (.box e cs) := by rw [hf.H]; exact hb
 have hne : b ≠ s.nx := by have := (hf.heap.obj b _ hHb).1; omega
 obtain ⟨g1, g2⟩ := z58 hf.heap (Grew.refl w) (.row e' 0 []) (.slice none 0 0) (fun b hb => by cases hb) ⟨[], ⟨by simp, .inl ⟨rfl, rfl⟩⟩, z0k, by intro v hv; cases hv⟩
 have hb2 : (s.add (.slice none 0 0) (.row e' 0 [])).H b = some (.box e cs) := by simp [RS.add, z10, hne, hHb]
 obtain ⟨_, q2⟩ := g2.obj b _ hb2
 obtain ⟨g3, g4⟩ := z72 (w' := w) g2 b _ (.box e (cs.set off (.osl s.nx 0))) ((s.add (.slice none 0 0) (.row e' 0 [])).κ b) hb2 rfl rfl rfl (Nat.le_refl _) (fun _ _ _ => rfl) (.inr ⟨_, rfl, rfl⟩) (fun b hb => .inl hb) (fun hl => by
  obtain ⟨b', vs, u1, u2, u3, u4⟩ := q2
  refine ⟨b', vs, u1, u2, ?_, u4⟩
  have hlen := z03 u3
  refine z47 (by rw [List.length_set]; exact hlen) fun i d v V hv => ?_
  rw [List.getElem?_set] at V
  split at V
  ·rename_i hio
   subst hio
   split at V
   ·cases V
    obtain ⟨v', hv', hr⟩ := z1s u3 _ _ hoff
    rw [hv'] at hv
    cases hv
    simp only [rel] at hr ⊢
    subst hr
    refine ⟨by simp [RS.set, RS.add], ⟨_, _, rfl⟩, fun e2 k cs hH => ⟨Nat.zero_le _, fun _ => ?_⟩⟩
    simp only [RS.set, RS.add]
    rw [if_neg (fun h => hne h.symm)]
    simp
   ·cases V
  ·obtain ⟨v', hv', hr⟩ := z1s u3 _ _ V
   rw [hv'] at hv
   cases hv
   exact rel.later hl _ _ hr)
 refine ⟨_, ⟨?_, ?_, hf.size, hf.defers, fun i => rel.later (g1.trans g3).later _ _ (hf.tmps i), g4⟩, g1.trans g3⟩
 ·simp only [RS.set, RS.add, hf.H, hf.nx]
 ·simp only [RS.set, RS.add, hf.nx]
theorem z1a {N id : Nat} {l : List Oper} {b : Code} {own : List Nat} {Q : Exit -> St -> Prop} {st : St} (_hid : (id == N) = false) (h : ∀ K : St -> Prop, (∀ st, awp P own b Q st -> K st) -> z1v P own (l.map (·.dst)) l K st) : awp P own (.seq (.region id l.toArray false) b) Q st := zqh h
theorem z5m {N id : Nat} {l : List Oper} {b : Code} {own : List Nat} {Q : Exit -> St -> Prop} {st : St} (_hid : (id == N) = false) (h0 : zhw own l.toArray = true) (h : ∀ K : St -> Prop, (∀ st, awp P own b Q st -> K st) -> z2p P own (l.map (·.dst)) l K st) : awp P own (.seq (.region id l.toArray true) b) Q st := zqe h0 h
end Abs
end
section
open Abs Facts Tr
attribute [local irreducible] awp
namespace Tr
def zi5 (w : Wd) : Wd := ⟨w.text, Idv.zero⟩
end Tr
namespace Tr
theorem zy0 (k : Int) : (zmh k ≠ z6h) ↔ (0 <= k /\ k <= 7) := by
 by_cases h : 0 <= k /\ k < 8
 ·have : zmh k ≠ z6h := by
   rcases zz0 h with rfl | rfl | rfl | rfl | rfl | rfl | rfl | rfl <;> decide
  exact ⟨fun _ => by omega, fun _ => this⟩
 ·have : zmh k = z6h := if_neg h
  exact ⟨fun h2 => absurd this h2, fun h2 => by omega⟩
theorem zt5 (t : T) : (ownB t && decide (t.kids.length <= 64)) = z9e t := by
 unfold ownB z9e
 by_cases h0 : t.kind = 0
 ·rw [if_pos h0, if_pos h0, decide_eq_true (show 0 <= t.kind /\ t.kind <= 7 by omega)]
  by_cases h1 : t.head.length = 0
  ·by_cases h2 : t.words.length = 0
   ·have e1 : zm7 t.head = true := by unfold zm7; rw [List.eq_nil_of_length_eq_zero h1]; rfl
    have e2 : zm7 t.words = true := by unfold zm7; rw [List.eq_nil_of_length_eq_zero h2]; rfl
    rw [e1, e2, decide_eq_true h1, decide_eq_true h2, decide_eq_true (show t.head.length + t.words.length = 0 by omega)]
    simp [Bool.and_comm]
   ·rw [decide_eq_false h2, decide_eq_false (show ¬ t.head.length + t.words.length = 0 by omega)]; simp
  ·rw [decide_eq_false h1, decide_eq_false (show ¬ t.head.length + t.words.length = 0 by omega)]; simp
 ·rw [if_neg h0, if_neg h0]
  have : decide (zmh t.kind ≠ z6h) = decide (0 <= t.kind /\ t.kind <= 7) := decide_eq_decide.2 (zy0 t.kind)
  rw [this]
  cases decide (0 <= t.kind /\ t.kind <= 7) <;> cases z4i t.label <;> cases zm7 t.head <;> cases zm7 t.words <;> cases decide (t.kids.length <= 64) <;> rfl
theorem zt6 (f : T -> Bool) (t : T) : (nodesT t).all f = (f t && t.kids.all fun k => (nodesT k).all f) := by
 rw [z11, List.all_cons, List.all_flatMap]
theorem zh1 {α : Type} {f g : α -> Bool} : ∀ {l : List α}, (∀ x ∈ l, f x = g x) -> l.all f = l.all g
 | [], _ => rfl
 | x :: l, h => by rw [List.all_cons, List.all_cons, h x (by simp), zh1 fun y hy => h y (List.mem_cons_of_mem _ hy)]
theorem zm9 : ∀ t : T, (nodesT t).all zf1 = z5b t := by
 refine z4l fun t ih => ?_
 rw [zt6, zh1 ih, z7v, <- zt5]
 unfold zf1
 cases ownB t <;> cases (t.kids.all fun k => z38 t.kind k.kind) <;> cases decide ((t.kids.map zag).Nodup) <;> cases decide (t.kids.length <= 64) <;> cases t.kids.all z5b <;> rfl
end Tr
theorem zi6 (t : T) (hs : szB t = true) (hc : cntT t <= 1000000000) (V : depT t <= 1000000000) : PC prog 43 [z1e t] (.bool (z55 t)) := by
 have h := zu0 t hs hc V
 rw [zm9] at h
 exact h
end
end Go.Proofs.YtfechgagcgbldaaGreatDoor
namespace Go.Proofs.YtfechgagcgbldaaGreatDoor.Lcs
section
variable {α : Type} [DecidableEq α]
def row (x : α) (f : List α -> Nat) : List α -> Nat
 | [] => 0
 | y :: ys => if x = y then max (max (f (y :: ys)) (row x f ys)) (f ys + 1) else max (f (y :: ys)) (row x f ys)
def len : List α -> List α -> Nat
 | [], _ => 0
 | x :: xs, ys => row x (len xs) ys
theorem zw7 : ∀ (a : List α), len a [] = 0
 | [] => rfl
 | _ :: _ => rfl
theorem zeq (x y : α) (xs ys : List α) : len (x :: xs) (y :: ys) = if x = y then max (max (len xs (y :: ys)) (len (x :: xs) ys)) (len xs ys + 1) else max (len xs (y :: ys)) (len (x :: xs) ys) := rfl
def at_ (a b : List α) (i k : Nat) : Nat := len (a.drop i) (b.drop k)
theorem znf (a b : List α) (i k : Nat) (h : a.length <= i) : at_ a b i k = 0 := by unfold at_; rw [List.drop_eq_nil_of_le h]; rfl
theorem zw8 (a b : List α) (i k : Nat) (h : b.length <= k) : at_ a b i k = 0 := by unfold at_; rw [List.drop_eq_nil_of_le h]; exact zw7 _
theorem at_step (a b : List α) (i k : Nat) (hi : i < a.length) (O : k < b.length) :
  at_ a b i k = if a[i] = b[k] then max (max (at_ a b (i + 1) k) (at_ a b i (k + 1))) (at_ a b (i + 1) (k + 1) + 1) else max (at_ a b (i + 1) k) (at_ a b i (k + 1)) := by
 unfold at_
 rw [List.drop_eq_getElem_cons hi, List.drop_eq_getElem_cons O, zeq]
theorem zg0 : ∀ (a b : List α), len a b <= a.length
 | [], _ => Nat.le_refl 0
 | x :: xs, b => by
  have ih := zg0 xs
  have key : ∀ b : List α, len (x :: xs) b <= xs.length + 1 := by
   intro b
   induction b with
   | nil => exact Nat.zero_le _
   | cons y ys ihb =>
    rw [zeq]
    have h1 := ih (y :: ys)
    have h2 := ih ys
    split <;> omega
  simpa using key b
theorem at_le (a b : List α) (i k : Nat) : at_ a b i k <= a.length := by
 have := zg0 (a.drop i) (b.drop k)
 simp only [List.length_drop] at this
 unfold at_; omega

def tab (a b : List α) : List Int := (List.range ((a.length + 1) * (b.length + 1))).map fun p => (at_ a b (p / (b.length + 1)) (p % (b.length + 1)) : Int)
theorem idx_lt {n w i k : Nat} (hi : i < n) (O : k < w) : i * w + k < n * w := by
 have := Nat.mul_le_mul_right w (show i + 1 <= n by omega)
 rw [Nat.add_mul] at this; omega
theorem idx_inj {w i k i' k' : Nat} (O : k < w) (hk' : k' < w) (h : i * w + k = i' * w + k') : i = i' /\ k = k' := by
 have h1 : (i * w + k) / w = i := by rw [Nat.mul_comm, Nat.mul_add_div (by omega), Nat.div_eq_of_lt O]; omega
 have h2 : (i' * w + k') / w = i' := by rw [Nat.mul_comm, Nat.mul_add_div (by omega), Nat.div_eq_of_lt hk']; omega
 have : i = i' := by rw [<- h1, <- h2, h]
 subst this
 exact ⟨rfl, by omega⟩
theorem tab_len (a b : List α) : (tab a b).length = (a.length + 1) * (b.length + 1) := by simp [tab]
theorem tab_get (a b : List α) (i k : Nat) (hi : i <= a.length) (O : k <= b.length) : (tab a b)[i * (b.length + 1) + k]? = some (at_ a b i k : Int) := by
 have hlt : i * (b.length + 1) + k < (a.length + 1) * (b.length + 1) := idx_lt (by omega) (by omega)
 unfold tab
 rw [List.getElem?_map, List.getElem?_range hlt, Option.map_some]
 have h1 : (i * (b.length + 1) + k) / (b.length + 1) = i := by rw [Nat.mul_comm, Nat.mul_add_div (by omega), Nat.div_eq_of_lt (by omega)]; omega
 have h2 : (i * (b.length + 1) + k) % (b.length + 1) = k := by rw [Nat.mul_comm, Nat.mul_add_mod, Nat.mod_eq_of_lt (by omega)]
 rw [h1, h2]

def Known (a b : List α) (cs : List Int) (i k : Nat) : Prop :=
 cs.length = (a.length + 1) * (b.length + 1) /\ ∀ i' k', i' <= a.length -> k' <= b.length -> (i < i' \/ (i = i' /\ k <= k') \/ k' = b.length) -> cs[i' * (b.length + 1) + k']? = some (at_ a b i' k' : Int)
theorem known_zero (a b : List α) : Known a b (List.replicate ((a.length + 1) * (b.length + 1)) 0) a.length 0 := by
 refine ⟨by simp, fun i' k' hi O h => ?_⟩
 have hlt : i' * (b.length + 1) + k' < (a.length + 1) * (b.length + 1) := idx_lt (by omega) (by omega)
 rw [List.getElem?_replicate_of_lt hlt]
 rcases h with h | h | h
 ·omega
 ·rw [znf a b i' k' (by omega)]; rfl
 ·rw [zw8 a b i' k' (by omega)]; rfl
theorem known_set {a b : List α} {cs : List Int} {i k : Nat} (hi : i <= a.length) (O : k <= b.length) (h : Known a b cs i (k + 1)) : Known a b (cs.set (i * (b.length + 1) + k) (at_ a b i k : Int)) i k := by
 refine ⟨by simpa using h.1, fun i' k' hi' hk' hc => ?_⟩
 have hlt : i * (b.length + 1) + k < cs.length := by rw [h.1]; exact idx_lt (by omega) (by omega)
 by_cases he : i * (b.length + 1) + k = i' * (b.length + 1) + k'
 ·obtain ⟨rfl, rfl⟩ := idx_inj (by omega) (by omega) he
  rw [List.getElem?_set_self hlt]
 ·rw [List.getElem?_set_ne he]
  refine h.2 i' k' hi' hk' ?_
  rcases hc with hc | ⟨rfl, hc⟩ | hc
  ·exact .inl hc
  ·by_cases hkk : k = k'
   ·subst hkk; exact (he rfl).elim
   ·exact .inr (.inl ⟨rfl, by omega⟩)
  ·exact .inr (.inr hc)
theorem known_row {a b : List α} {cs : List Int} {i : Nat} (h : Known a b cs (i + 1) 0) : Known a b cs i b.length :=
 ⟨h.1, fun i' k' hi' hk' hc => h.2 i' k' hi' hk' (by omega)⟩
theorem known_all {a b : List α} {cs : List Int} (h : Known a b cs 0 0) : cs = tab a b := by
 refine List.ext_getElem? fun p => ?_
 by_cases hp : p < (a.length + 1) * (b.length + 1)
 ·have hw : 0 < b.length + 1 := by omega
  have h1 : p / (b.length + 1) <= a.length := by
   have := (Nat.div_lt_iff_lt_mul hw).2 hp; omega
  have h2 : p % (b.length + 1) <= b.length := by have := Nat.mod_lt p hw; omega
  have h3 : p / (b.length + 1) * (b.length + 1) + p % (b.length + 1) = p := Nat.div_add_mod' p _
  have h4 := h.2 _ _ h1 h2 (by
   rcases Nat.eq_zero_or_pos (p / (b.length + 1)) with h0 | h0
   ·exact .inr (.inl ⟨h0.symm, Nat.zero_le _⟩)
   ·exact .inl h0)
  have h5 := tab_get a b _ _ h1 h2
  rw [h3] at h4 h5
  rw [h4, h5]
 ·rw [List.getElem?_eq_none (by rw [h.1]; omega), List.getElem?_eq_none (by rw [tab_len]; omega)]

def good (a b : List α) (n x y : Nat) : Bool := decide (a[x]? = b[y]?) && decide (at_ a b (x + 1) (y + 1) + 1 = n)
def inRow (a b : List α) (n x y : Nat) : Option Nat := (List.range' y (b.length - y)).find? (good a b n x)
def search (a b : List α) (n k x : Nat) : Option (Nat × Nat) := (List.range' x (a.length - x)).findSome? fun x => (inRow a b n x k).map fun y => (x, y)
def next (a b : List α) (i k : Nat) : Nat × Nat := (search a b (at_ a b i k) k i).getD (a.length, b.length)
theorem inRow_end (a b : List α) (n x y : Nat) (h : b.length <= y) : inRow a b n x y = none := by
 unfold inRow; rw [show b.length - y = 0 by omega]; rfl
theorem inRow_step (a b : List α) (n x y : Nat) (h : y < b.length) : inRow a b n x y = if good a b n x y = true then some y else inRow a b n x (y + 1) := by
 unfold inRow
 rw [show b.length - y = (b.length - (y + 1)) + 1 by omega, List.range'_succ, List.find?_cons]
 split <;> simp_all
theorem search_end (a b : List α) (n k x : Nat) (h : a.length <= x) : search a b n k x = none := by
 unfold search; rw [show a.length - x = 0 by omega]; rfl
theorem search_step (a b : List α) (n k x : Nat) (h : x < a.length) : search a b n k x = match inRow a b n x k with | some y => some (x, y) | none => search a b n k (x + 1) := by
 unfold search
 rw [show a.length - x = (a.length - (x + 1)) + 1 by omega, List.range'_succ, List.findSome?_cons]
 cases inRow a b n x k <;> rfl
theorem good_ex (a b : List α) : ∀ (m i k n : Nat), a.length - i + (b.length - k) <= m -> at_ a b i k = n + 1 -> ∃ x y, i <= x /\ x < a.length /\ k <= y /\ y < b.length /\ good a b (n + 1) x y = true := by
 intro m
 induction m with
 | zero => intro i k n hm h; rw [znf a b i k (by omega)] at h; omega
 | succ m ih =>
  intro i k n hm h
  by_cases hi : i < a.length
  ·by_cases O : k < b.length
   ·have hs := at_step a b i k hi O
    have r1 : at_ a b (i + 1) k = n + 1 -> ∃ x y, i <= x /\ x < a.length /\ k <= y /\ y < b.length /\ good a b (n + 1) x y = true := by
     intro h1
     obtain ⟨x, y, q1, q2, q3, q4, q5⟩ := ih (i + 1) k n (by omega) h1
     exact ⟨x, y, by omega, q2, q3, q4, q5⟩
    have r2 : at_ a b i (k + 1) = n + 1 -> ∃ x y, i <= x /\ x < a.length /\ k <= y /\ y < b.length /\ good a b (n + 1) x y = true := by
     intro h1
     obtain ⟨x, y, q1, q2, q3, q4, q5⟩ := ih i (k + 1) n (by omega) h1
     exact ⟨x, y, q1, q2, by omega, q4, q5⟩
    by_cases he : a[i] = b[k]
    ·rw [if_pos he] at hs
     by_cases h3 : at_ a b (i + 1) (k + 1) + 1 = n + 1
     ·refine ⟨i, k, Nat.le_refl _, hi, Nat.le_refl _, O, ?_⟩
      unfold good
      rw [List.getElem?_eq_getElem hi, List.getElem?_eq_getElem O, he]
      simp [h3]
     ·by_cases h1 : at_ a b (i + 1) k = n + 1
      ·exact r1 h1
      ·exact r2 (by clear r1 r2 ih; omega)
    ·rw [if_neg he] at hs
     by_cases h1 : at_ a b (i + 1) k = n + 1
     ·exact r1 h1
     ·exact r2 (by clear r1 r2 ih; omega)
   ·rw [zw8 a b i k (by omega)] at h; omega
  ·rw [znf a b i k (by omega)] at h; omega
theorem zsg {a b : List α} {n x k y : Nat} (h : inRow a b n x k = some y) : k <= y /\ y < b.length /\ good a b n x y = true := by
 unfold inRow at h
 have h1 := List.mem_of_find?_eq_some h
 have h2 := List.find?_some h
 simp only [List.mem_range'_1] at h1
 exact ⟨by omega, by omega, h2⟩
theorem zng {a b : List α} {n k i : Nat} {r : Nat × Nat} (h : search a b n k i = some r) : i <= r.1 /\ r.1 < a.length /\ k <= r.2 /\ r.2 < b.length /\ good a b n r.1 r.2 = true := by
 unfold search at h
 obtain ⟨x, hx, hr⟩ := List.exists_of_findSome?_eq_some h
 simp only [List.mem_range'_1] at hx
 simp only [Option.map_eq_some_iff] at hr
 obtain ⟨y, hy, rfl⟩ := hr
 obtain ⟨q1, q2, q3⟩ := zsg hy
 exact ⟨by omega, by omega, q1, q2, q3⟩
theorem znh {a b : List α} {n k i : Nat} (h : search a b n k i = none) {x y : Nat} (hx : i <= x) (hx' : x < a.length) (hy : k <= y) (hy' : y < b.length) : good a b n x y = false := by
 unfold search at h
 rw [List.findSome?_eq_none_iff] at h
 have h1 := h x (by simp only [List.mem_range'_1]; omega)
 simp only [Option.map_eq_none_iff] at h1
 unfold inRow at h1
 rw [List.find?_eq_none] at h1
 have := h1 y (by simp only [List.mem_range'_1]; omega)
 simpa using this
theorem next_good (a b : List α) (i k n : Nat) (h : at_ a b i k = n + 1) : i <= (next a b i k).1 /\ (next a b i k).1 < a.length /\ k <= (next a b i k).2 /\ (next a b i k).2 < b.length /\ a[(next a b i k).1]? = b[(next a b i k).2]? /\ at_ a b ((next a b i k).1 + 1) ((next a b i k).2 + 1) = n := by
 unfold next
 cases hs : search a b (at_ a b i k) k i with
 | none =>
  obtain ⟨x, y, q1, q2, q3, q4, q5⟩ := good_ex a b _ i k n (Nat.le_refl _) h
  rw [h] at hs
  rw [znh hs q1 q2 q3 q4] at q5; cases q5
 | some r =>
  obtain ⟨q1, q2, q3, q4, q5⟩ := zng hs
  unfold good at q5
  simp only [Bool.and_eq_true, decide_eq_true_eq] at q5
  rw [Option.getD_some]
  exact ⟨q1, q2, q3, q4, q5.1, by omega⟩
def pairsF (a b : List α) : Nat -> Nat -> Nat -> List (Nat × Nat)
 | 0, _, _ => []
 | n + 1, i, k => next a b i k :: pairsF a b n ((next a b i k).1 + 1) ((next a b i k).2 + 1)
def pairsFrom (a b : List α) (i k : Nat) : List (Nat × Nat) := pairsF a b (at_ a b i k) i k
theorem pairsFrom_nil (a b : List α) (i k : Nat) (h : at_ a b i k = 0) : pairsFrom a b i k = [] := by unfold pairsFrom; rw [h]; rfl
theorem pairsFrom_cons (a b : List α) (i k : Nat) (h : 0 < at_ a b i k) : pairsFrom a b i k = next a b i k :: pairsFrom a b ((next a b i k).1 + 1) ((next a b i k).2 + 1) := by
 obtain ⟨n, hn⟩ : ∃ n, at_ a b i k = n + 1 := ⟨at_ a b i k - 1, by omega⟩
 have h1 := (next_good a b i k n hn).2.2.2.2.2
 unfold pairsFrom
 rw [hn, h1]; rfl
def pairs (a b : List α) : List (Nat × Nat) := if 256 < a.length \/ 256 < b.length then [] else pairsFrom a b 0 0
end
end Go.Proofs.YtfechgagcgbldaaGreatDoor.Lcs
namespace Go.Proofs.YtfechgagcgbldaaGreatDoor.Lcs
variable {α : Type} [DecidableEq α]
theorem zis : ∀ (n : Nat) (a b : List α), a.length + b.length <= n -> ∃ s : List α, s.Sublist a /\ s.Sublist b /\ s.length = len a b
 | _, [], b, _ => ⟨[], List.Sublist.refl _, List.nil_sublist _, rfl⟩
 | _, x :: xs, [], _ => ⟨[], List.nil_sublist _, List.Sublist.refl _, by rw [zw7]; rfl⟩
 | 0, x :: xs, y :: ys, h => by simp at h
 | n + 1, x :: xs, y :: ys, h => by
  simp only [List.length_cons] at h
  obtain ⟨s1, h1, h2, h3⟩ := zis n xs (y :: ys) (by simp only [List.length_cons]; omega)
  obtain ⟨s2, g1, g2, g3⟩ := zis n (x :: xs) ys (by simp only [List.length_cons]; omega)
  obtain ⟨s3, k1, k2, k3⟩ := zis n xs ys (by omega)
  rw [zeq]
  split
  ·rename_i he
   subst he
   by_cases c1 : len xs ys + 1 <= max (len xs (x :: ys)) (len (x :: xs) ys)
   ·by_cases c2 : len (x :: xs) ys <= len xs (x :: ys)
    ·exact ⟨s1, h1.cons _, h2, by omega⟩
    ·exact ⟨s2, g1, g2.cons _, by omega⟩
   ·exact ⟨x :: s3, k1.cons_cons _, k2.cons_cons _, by simp only [List.length_cons]; omega⟩
  ·by_cases c2 : len (x :: xs) ys <= len xs (y :: ys)
   ·exact ⟨s1, h1.cons _, h2, by omega⟩
   ·exact ⟨s2, g1, g2.cons _, by omega⟩
theorem zit : ∀ (n : Nat) (a b s : List α), a.length + b.length <= n -> s.Sublist a -> s.Sublist b -> s.length <= len a b
 | _, [], b, s, _, h1, _ => by have := List.Sublist.length_le h1; simp at this; simp [this]
 | _, x :: xs, [], s, _, _, h2 => by have := List.Sublist.length_le h2; simp at this; simp [this]
 | 0, x :: xs, y :: ys, s, h, _, _ => by simp at h
 | n + 1, x :: xs, y :: ys, s, h, h1, h2 => by
  simp only [List.length_cons] at h
  have hc := zeq x y xs ys
  cases h1 with
  | cons _ h1 =>
   have := zit n xs (y :: ys) s (by simp only [List.length_cons]; omega) h1 h2
   rw [hc]; split <;> omega
  | cons_cons _ h1 =>
   rename_i s'
   cases h2 with
   | cons _ h2 =>
    have := zit n (x :: xs) ys (x :: s') (by simp only [List.length_cons]; omega) (h1.cons_cons x) h2
    rw [hc]; split <;> omega
   | cons_cons _ h2 =>
    have := zit n xs ys s' (by omega) h1 h2
    rw [hc, if_pos rfl]
    simp only [List.length_cons]; omega
theorem zuf (a b s : List α) (h1 : s.Sublist a) (h2 : s.Sublist b) : s.length <= len a b := zit _ a b s (Nat.le_refl _) h1 h2
theorem len_ex (a b : List α) : ∃ s : List α, s.Sublist a /\ s.Sublist b /\ s.length = len a b := zis _ a b (Nat.le_refl _)
theorem zz3 (a b : List α) : len a b = len b a := by
 obtain ⟨s, h1, h2, h3⟩ := len_ex a b
 obtain ⟨t, k1, k2, k3⟩ := len_ex b a
 have := zuf b a s h2 h1
 have := zuf a b t k2 k1
 omega
theorem len_self (a : List α) : len a a = a.length := by
 have := zuf a a a (List.Sublist.refl _) (List.Sublist.refl _)
 have := zg0 a a
 omega
theorem len_le2 (a b : List α) : len a b <= b.length := by rw [zz3]; exact zg0 b a
theorem zbh (a b : List α) : ∀ n i k, (pairsF a b n i k).length = n
 | 0, _, _ => rfl
 | n + 1, i, k => by simp [pairsF, zbh a b n]
theorem pairs_length (a b : List α) (ha : a.length <= 256) (hb : b.length <= 256) : (pairs a b).length = len a b := by
 unfold pairs
 rw [if_neg (by omega)]
 unfold pairsFrom
 rw [zbh]
 simp [at_]
theorem zr5 (a b : List α) (h : 256 < a.length \/ 256 < b.length) : pairs a b = [] := by unfold pairs; rw [if_pos h]
theorem pairs_le (a b : List α) : (pairs a b).length <= 256 /\ (pairs a b).length <= a.length /\ (pairs a b).length <= b.length := by
 by_cases h : 256 < a.length \/ 256 < b.length
 ·rw [zr5 a b h]; simp
 ·rw [pairs_length a b (by omega) (by omega)]
  have := zg0 a b; have := len_le2 a b
  omega
end Go.Proofs.YtfechgagcgbldaaGreatDoor.Lcs
namespace Go.Proofs.YtfechgagcgbldaaGreatDoor
section
open Abs
namespace Tr
def wov {α β γ : Type} (ga : α -> γ) (gb : β -> γ) (gs : α -> β -> γ) (a : List α) (b : List β) : List (Nat × Nat) -> Nat -> Nat -> List γ
 | [], i, k => (a.drop i).map ga ++ (b.drop k).map gb
 | (x, y) :: r, i, k => ((a.drop i).take (x - i)).map ga ++ (((b.drop k).take (y - k)).map gb ++ ((match a[x]?, b[y]? with | some u, some v => [gs u v] | _, _ => []) ++ wov ga gb gs a b r (x + 1) (y + 1)))
def Rise (n m : Nat) : List (Nat × Nat) -> Nat -> Nat -> Prop
 | [], i, k => i <= n /\ k <= m
 | (x, y) :: r, i, k => i <= x /\ k <= y /\ x < n /\ y < m /\ Rise n m r (x + 1) (y + 1)
theorem Rise.le {n m : Nat} : ∀ {l : List (Nat × Nat)} {i k : Nat}, Rise n m l i k -> i <= n /\ k <= m
 | [], _, _, h => h
 | (x, y) :: r, _, _, ⟨h1, h2, h3, h4, _⟩ => ⟨by omega, by omega⟩
def mg {γ : Type} (s : Idv -> Bool) (ga : T -> γ) : List T -> List (Idv × γ) -> List γ
 | [], b => b.map (·.2)
 | x :: a, b => if s x.id = true then ((b.takeWhile fun y => !s y.1).map (·.2) ++ match b.dropWhile fun y => !s y.1 with
   | [] => mg s ga a []
   | y :: q => y.2 :: mg s ga a q) else ga x :: mg s ga a b
def stW (n : Int) (s : ByteArray) : Tw := ⟨n, s⟩
def z3r (a b : List ByteArray) : List Tw := wov (stW 2) (stW 1) (fun s _ => stW 0 s) a b (Lcs.pairs a b) 0 0
def txt (l : List Wd) : List ByteArray := l.map (·.text)
def z2e (i : Idv) (t : T) : Bool := (findR i t).2
def phT (i : Idv) : TT := .mk 2 0 i ByteArray.empty ByteArray.empty true [] [] []
def zeu (u : T) (ks : List TT) : TT := .mk 2 u.kind u.id u.label ByteArray.empty false ((txt u.head).map (stW 2)) ((txt u.words).map (stW 2)) ks
def z4p (B : T) : T -> TT := zf2 fun u ks => if z2e u.id B = true then phT u.id else zeu u ks
def stayB (A B : T) (mv : Idv -> Bool) (i : Idv) : Bool := z2e i A && (z2e i B && !mv i)
def z6k (A : T) (mv : Idv -> Bool) (u : T) (ks : List TT) : TT :=
 .mk (if z2e u.id A = true /\ mv u.id = false then 0 else 1) u.kind u.id u.label
  (if z2e u.id A = true /\ (findR u.id A).1.label ≠ u.label then (findR u.id A).1.label else ByteArray.empty) (mv u.id)
  (z3r (txt (findR u.id A).1.head) (txt u.head)) (z3r (txt (findR u.id A).1.words) (txt u.words)) ks
def z3s (A B : T) (mv : Idv -> Bool) : T -> TT := zf2 fun u ks => z6k A mv u (mg (stayB A B mv) (z4p B) (findR u.id A).1.kids ((u.kids.map T.id).zip ks))
theorem zb6 (B u : T) : z4p B u = if z2e u.id B = true then phT u.id else zeu u (u.kids.map (z4p B)) := z3k _ u
theorem zns {α β γ : Type} (f : α -> β) (g : α -> γ) : ∀ l : List α, (l.map f).zip (l.map g) = l.map fun x => (f x, g x)
 | [] => rfl
 | x :: l => by simp [zns f g l]
theorem z78 (A B : T) (mv : Idv -> Bool) (u : T) : z3s A B mv u = z6k A mv u (mg (stayB A B mv) (z4p B) (findR u.id A).1.kids (u.kids.map fun k => (k.id, z3s A B mv k))) := by
 rw [z3s, z3k, <- z3s, zns]
def z2c (t : T) : T := zf2 (fun t l => .mk t.id t.kind t.label (t.head.map zi5) (t.words.map zi5) l) t
theorem z36 (t : T) : z2c t = .mk t.id t.kind t.label (t.head.map zi5) (t.words.map zi5) (t.kids.map z2c) := z3k _ t
def zai (t : TT) : List TT := zan (fun t l => t :: l.flatten) t
theorem zcg (t : TT) : zai t = t :: (t.kids.map zai).flatten := z6q _ t
theorem zch {γ : Type} (s : Idv -> Bool) (ga : T -> γ) : ∀ (a : List T) (b : List (Idv × γ)), (mg s ga a b).Perm ((a.filter fun x => !s x.id).map ga ++ b.map (·.2))
 | [], b => by simp [mg]
 | x :: a, b => by
  unfold mg
  by_cases hx : s x.id = true
  ·rw [if_pos hx, List.filter_cons_of_neg (by simp [hx])]
   have hb := List.takeWhile_append_dropWhile (p := fun y : Idv × γ => !s y.1) (l := b)
   generalize b.takeWhile (fun y => !s y.1) = p at *
   cases hq : b.dropWhile (fun y => !s y.1) with
   | nil =>
    rw [hq] at hb
    simp only [List.append_nil] at hb
    subst hb
    have := zch s ga a []
    simp only [List.map_nil, List.append_nil] at this
    exact (List.Perm.append_left _ this).trans List.perm_append_comm
   | cons y q =>
    rw [hq] at hb
    subst hb
    simp only [List.map_append, List.map_cons]
    have := zch s ga a q
    refine (List.Perm.append_left _ (List.Perm.cons _ this)).trans ?_
    refine (List.Perm.append_left _ (List.perm_middle.symm)).trans ?_
    exact List.perm_append_comm_assoc _ _ _
  ·rw [if_neg hx, List.filter_cons_of_pos (by simpa using hx)]
   exact List.Perm.cons _ (zch s ga a b)
end Tr
end
section
open Abs Facts Tr
attribute [local irreducible] awp
namespace Tr
end Tr
namespace Abs
end Abs
namespace Tr
theorem zh7 (deep most : Int) : ∀ (l : List T), (∀ k ∈ l, ∀ (d m : Int), 0 <= m -> 1 <= z3e k d m) -> ∀ n : Int, n <= z1w deep most (l.map z3e) n
 | [], _, n => by simp [z1w]
 | k :: l, h, n => by
  simp only [List.map_cons, z1w]
  split
  ·have h1 := h k (by simp) (deep + 1) (most - n) (by omega)
   have h2 := zh7 deep most l (fun q hq => h q (List.mem_cons_of_mem _ hq)) (n + z3e k (deep + 1) (most - n))
   omega
  ·omega
theorem zez (deep most : Int) : ∀ (l : List T), (∀ k ∈ l, ∀ (m : Int), 0 <= m -> z3e k (deep + 1) m <= m -> (cntT k : Int) = z3e k (deep + 1) m /\ deep + 1 + depT k <= 20) -> ∀ n : Int, z1w deep most (l.map z3e) n <= most ->
  ((l.flatMap nodesT).length : Int) + n = z1w deep most (l.map z3e) n /\ ∀ k ∈ l, deep + 1 + depT k <= 20
 | [], _, n, _ => by simp [z1w]
 | k :: l, h, n, hn => by
  simp only [List.map_cons, z1w] at hn ⊢
  split at hn
  ·rename_i hle
   rw [if_pos hle]
   have hm := zh7 deep most l (fun q _ d m hm => (z6o q d m hm).1) (n + z3e k (deep + 1) (most - n))
   obtain ⟨h1, h2⟩ := h k (by simp) (most - n) (by omega) (by omega)
   obtain ⟨h3, h4⟩ := zez deep most l (fun q hq => h q (List.mem_cons_of_mem _ hq)) _ hn
   refine ⟨?_, fun q hq => ?_⟩
   ·rw [List.flatMap_cons, List.length_append]
    have : (nodesT k).length = cntT k := rfl
    omega
   ·rcases List.mem_cons.1 hq with rfl | hq
    ·exact h2
    ·exact h4 q hq
  ·omega
theorem zq5 (l : List T) (d : Int) (b : Int) (hb : d <= b) (h : ∀ k ∈ l, d + 1 + depT k <= b) : ∀ a : Nat, d + a <= b -> d + ((l.map depT).foldl (fun d x => max d (1 + x)) a : Nat) <= b := by
 induction l with
 | nil => intro a ha; simpa using ha
 | cons k l ih =>
  intro a ha
  rw [List.map_cons, List.foldl_cons]
  have := h k (by simp)
  exact ih (fun q hq => h q (List.mem_cons_of_mem _ hq)) _ (by omega)
theorem zmc : ∀ t : T, ∀ (deep most : Int), 0 <= most -> z3e t deep most <= most -> (cntT t : Int) = z3e t deep most /\ deep + depT t <= 20 := by
 refine z4l fun t ih deep most hm h => ?_
 rw [zid] at h ⊢
 split at h
 ·omega
 ·rename_i V
  rw [if_neg V]
  obtain ⟨h1, h2⟩ := zez deep most t.kids (fun k O m hm h => ih k O (deep + 1) m hm h) 1 h
  refine ⟨?_, ?_⟩
  ·rw [zb4]; omega
  ·rw [zd7]
   exact zq5 t.kids deep 20 (by omega) h2 0 (by omega)
theorem zyk (t : T) : t.kids.length <= cntT t := by
 rw [zb4]
 have : ∀ l : List T, l.length <= (l.flatMap nodesT).length := by
  intro l
  induction l with
  | nil => simp
  | cons k l ih =>
   rw [List.flatMap_cons, List.length_append, List.length_cons]
   have := zxi k
   unfold cntT at this
   omega
 have := this t.kids
 omega
theorem ztu (l : List Wd) : z8o l = true ↔ (∀ w ∈ l, w.text.size <= 100) /\ l.length <= 300 := by
 unfold z8o
 simp only [Bool.and_eq_true, List.all_eq_true, decide_eq_true_eq]
theorem zyl : ∀ t : T, zf0 t = true -> cntT t <= 1000000 -> szB t = true := by
 refine z4l fun t ih h hc => ?_
 rw [zk2] at h
 simp only [Bool.and_eq_true, decide_eq_true_eq, List.all_eq_true, ztu] at h
 obtain ⟨h1, ⟨h2, h3⟩, ⟨h4, h5⟩, h6⟩ := h
 rw [z33]
 have O := zyk t
 refine ⟨by omega, by omega, fun w hw => ?_, by omega, fun w hw => ?_, by omega, fun k O => ih k O (h6 k O) ?_⟩
 ·have := h2 w hw; omega
 ·have := h4 w hw; omega
 ·have := zjo O; omega
theorem few_sz {t : T} {most : Int} (h0 : 0 <= most) (h1 : most <= 1000) (h : fewB t most = true) : szB t = true /\ (cntT t : Int) <= most /\ depT t <= 20 := by
 unfold fewB at h
 simp only [Bool.and_eq_true, decide_eq_true_eq] at h
 obtain ⟨g1, g2⟩ := zmc t 0 most h0 h.1
 exact ⟨zyl t h.2 (by omega), by omega, by omega⟩
end Tr
namespace Tr
end Tr
end
section
open Abs Facts Tr
namespace Tr
theorem z5z (id : Idv) : ∀ t : T, z1z id t = [] ↔ id ∉ idsT t := by
 refine z4l fun t ih => ?_
 rw [z2z, List.mem_cons, List.mem_flatMap]
 by_cases h0 : t.id = id
 ·rw [z2q h0]; simp [h0]
 ·rw [zb0, if_neg h0]
  constructor
  ·intro h hm
   rcases hm with hm | ⟨k, O, hm⟩
   ·exact h0 hm.symm
   ·have hne : z1z id k ≠ [] := fun e => (ih k O).1 e hm
    split at h
    ·cases h
    ·rename_i hf
     have := List.find?_eq_none.1 hf (z1z id k) (List.mem_map.2 ⟨k, O, rfl⟩)
     simp at this
     exact hne this
  ·intro hm
   have : (t.kids.map (z1z id)).find? (fun w => !w.isEmpty) = none := by
    rw [List.find?_eq_none]
    intro w hw
    obtain ⟨k, O, rfl⟩ := List.mem_map.1 hw
    have := (ih k O).2 fun h => hm (.inr ⟨k, O, h⟩)
    rw [this]; simp
   rw [this]
theorem zb7 {id : Idv} {t : T} : z1z id t ≠ [] ↔ id ∈ idsT t := by
 rw [ne_eq, z5z, Classical.not_not]
theorem z60 {id : Idv} {t : T} (h0 : ¬ t.id = id) (h : z1z id t ≠ []) : ∃ i, ∃ hi : i < t.kids.length, (∀ j, (hj : j < i) -> (h : j < t.kids.length) -> z1z id t.kids[j] = []) /\ z1z id t.kids[i] ≠ [] /\ z1z id t = t :: z1z id t.kids[i] := by
 have hex : ∃ i, ∃ hi : i < t.kids.length, z1z id t.kids[i] ≠ [] := by
  rcases Classical.em (∃ i, ∃ hi : i < t.kids.length, z1z id t.kids[i] ≠ []) with h1 | h1
  ·exact h1
  ·exfalso
   refine h (zex h0 (Nat.le_refl _) fun j _ hj => ?_)
   rcases Classical.em (z1z id t.kids[j] = []) with h2 | h2
   ·exact h2
   ·exact (h1 ⟨j, hj, h2⟩).elim
 let p : Nat -> Prop := fun i => ∃ hi : i < t.kids.length, z1z id t.kids[i] ≠ []
 obtain ⟨i, hi, hmin⟩ : ∃ i, p i /\ ∀ j, j < i -> ¬ p j := by
  obtain ⟨i, hi⟩ := hex
  induction i using Nat.strongRecOn with
  | ind i ih =>
   rcases Classical.em (∃ j, j < i /\ p j) with ⟨j, hj, hp⟩ | h2
   ·exact ih j hj hp
   ·exact ⟨i, hi, fun j hj hp => h2 ⟨j, hj, hp⟩⟩
 obtain ⟨hl, hw⟩ := hi
 have h1 : ∀ j, (hj : j < i) -> (h : j < t.kids.length) -> z1z id t.kids[j] = [] := fun j hj h => by
  rcases Classical.em (z1z id t.kids[j] = []) with h2 | h2
  ·exact h2
  ·exact (hmin j hj ⟨h, h2⟩).elim
 exact ⟨i, hl, h1, hw, z6l h0 hl h1 hw⟩
theorem z9i {id : Idv} {t : T} (h : z1z id t ≠ []) : (z1z id t)[0]'(List.length_pos_iff.2 h) = t := by
 by_cases h0 : t.id = id
 ·simp only [z2q h0, List.getElem_cons_zero]
 ·obtain ⟨i, hi, _, _, hw⟩ := z60 h0 h
  simp only [hw, List.getElem_cons_zero]
theorem znz (id : Idv) : ∀ t : T, ∀ h : z1z id t ≠ [], ((z1z id t)[(z1z id t).length - 1]'(by have := List.length_pos_iff.2 h; omega)).id = id := by
 refine z4l fun t ih h => ?_
 by_cases h0 : t.id = id
 ·simp only [z2q h0, List.length_cons, List.length_nil, List.getElem_cons_zero]; exact h0
 ·obtain ⟨i, hi, _, hne, hw⟩ := z60 h0 h
  have h2 := ih _ (List.getElem_mem hi) hne
  have hp := List.length_pos_iff.2 hne
  simp only [hw, List.length_cons]
  have e : (z1z id t.kids[i]).length + 1 - 1 = (z1z id t.kids[i]).length - 1 + 1 := by omega
  simp only [e, List.getElem_cons_succ]
  exact h2
theorem zy8 (id : Idv) : ∀ t : T, ∀ m, (hm : m < (z1z id t).length) -> z1z id ((z1z id t)[m]) = (z1z id t).drop m := by
 refine z4l fun t ih m hm => ?_
 have hne : z1z id t ≠ [] := fun h => by rw [h] at hm; simp at hm
 by_cases h0 : t.id = id
 ·have hw := z2q h0
  have : m = 0 := by rw [hw] at hm; simp at hm; omega
  subst this
  rw [z9i hne]; rfl
 ·obtain ⟨i, hi, _, O, hw⟩ := z60 h0 hne
  cases m with
  | zero => rw [z9i hne]; rfl
  | succ m =>
   have h2 := ih _ (List.getElem_mem hi) m (by rw [hw] at hm; simpa using hm)
   simp only [hw, List.getElem_cons_succ, List.drop_succ_cons]
   exact h2
theorem zq0 (id : Idv) (t : T) {x : T} (h : x ∈ z1z id t) : x.id ∈ idsT t := List.mem_map.2 ⟨x, ziu id t x h, rfl⟩
theorem zcj {t : T} (h : (idsT t).Nodup) : (∀ k ∈ t.kids, t.id ∉ idsT k) /\ (∀ k ∈ t.kids, (idsT k).Nodup) /\ ∀ i j, (hi : i < t.kids.length) -> (hj : j < t.kids.length) -> i ≠ j -> ∀ x ∈ idsT t.kids[i], x ∉ idsT t.kids[j] := by
 rw [z2z, List.nodup_cons] at h
 obtain ⟨h1, h2⟩ := h
 refine ⟨fun k O hm => h1 (List.mem_flatMap.2 ⟨k, O, hm⟩), fun k O => ?_, fun i j hi hj hij x hx hx2 => ?_⟩
 ·exact (List.pairwise_flatMap.1 h2).1 k O
 ·have hp := (List.pairwise_flatMap.1 h2).2
  rw [List.pairwise_iff_getElem] at hp
  rcases Nat.lt_or_gt_of_ne hij with h3 | h3
  ·exact hp i j hi hj h3 x hx x hx2 rfl
  ·exact hp j i hj hi h3 x hx2 x hx rfl
theorem zy9 (id : Idv) : ∀ t : T, (idsT t).Nodup -> ∀ m, (hm : m < (z1z id t).length) -> z1z ((z1z id t)[m]).id t = (z1z id t).take (m + 1) := by
 refine z4l fun t ih hn m hm => ?_
 have hne : z1z id t ≠ [] := fun h => by rw [h] at hm; simp at hm
 by_cases h0 : t.id = id
 ·have hw := z2q h0
  have : m = 0 := by rw [hw] at hm; simp at hm; omega
  subst this
  rw [z9i hne, z2q rfl, hw]; rfl
 ·obtain ⟨i, hi, _, O, hw⟩ := z60 h0 hne
  cases m with
  | zero => rw [z9i hne, z2q rfl, hw]; rfl
  | succ m =>
   obtain ⟨g1, g2, g3⟩ := zcj hn
   have hm' : m < (z1z id t.kids[i]).length := by rw [hw] at hm; simpa using hm
   have h2 := ih _ (List.getElem_mem hi) (g2 _ (List.getElem_mem hi)) m hm'
   have hx : ((z1z id t.kids[i])[m]).id ∈ idsT t.kids[i] := zq0 id _ (List.getElem_mem _)
   simp only [hw, List.getElem_cons_succ, List.take_succ_cons]
   rw [<- h2]
   refine z6l (fun e => g1 _ (List.getElem_mem hi) (by rw [e]; exact hx)) hi (fun j hj h => ?_) (by rw [h2]; intro e; have := congrArg List.length e; rw [List.length_take, List.length_nil] at this; omega)
   rw [z5z]
   exact g3 i j hi h (by omega) _ hx
theorem zew {t : T} (hn : (idsT t).Nodup) {id : Idv} (hm : id ∈ idsT t) (h0 : ¬ t.id = id) : ∃ (x q : T) (i : Nat) (hi : i < q.kids.length), findR id t = (x, true) /\ x.id = id /\ za3 id t = (q.id, (i : Int), true) /\ findR q.id t = (q, true) /\ q.kids[i] = x /\
  (∃ hl : 0 < (zr6 id t).length, (zr6 id t)[0] = q.id /\ (zr6 id t)[(zr6 id t).length - 1]'(by omega) = t.id) /\ (zr6 id t).drop 1 = zr6 q.id t /\ x ∈ nodesT t /\ q ∈ nodesT t := by
 have hne := zb7.2 hm
 obtain ⟨_, _, _, O, hw0⟩ := z60 h0 hne
 have hlen : 2 <= (z1z id t).length := by
  have := List.length_pos_iff.2 O
  rw [hw0, List.length_cons]; omega
 obtain ⟨n, hnl⟩ : ∃ n, (z1z id t).length = n + 2 := ⟨(z1z id t).length - 2, by omega⟩
 have hq : n < (z1z id t).length := by omega
 have hx : n + 1 < (z1z id t).length := by omega
 have V := zy8 id t n hq
 have hdl : (z1z id t).drop n = [(z1z id t)[n], (z1z id t)[n + 1]] := by
  rw [List.drop_eq_getElem_cons hq, List.drop_eq_getElem_cons hx, List.drop_eq_nil_of_le (by omega)]
 rw [hdl] at V
 have ht := zy9 id t hn n hq
 have hl := znz id t hne
 have e1 : (z1z id t).length - 1 = n + 1 := by omega
 simp only [e1] at hl
 generalize hxe : (z1z id t)[n + 1] = x at V hl
 generalize hqe : (z1z id t)[n] = q at V ht
 have hqi : ¬ q.id = id := fun e => by rw [z2q e] at V; simp at V
 obtain ⟨i, hi, h1, h2, h3⟩ := z60 hqi (by rw [V]; simp)
 rw [V] at h3
 simp only [List.cons.injEq, true_and] at h3
 have hki : q.kids[i] = x := by
  have := z9i h2
  simp only [<- h3, List.getElem_cons_zero] at this
  exact this.symm
 refine ⟨x, q, i, hi, ?_, hl, ?_, ?_, hki, ⟨?_, ?_, ?_⟩, ?_, ?_, ?_⟩
 ·unfold findR
  rw [zbj _ hne]
  simp only [e1, hxe]
 ·have hf : z7e (fun k => !(z1z id k).isEmpty) q.kids = i := z4y (by omega) (fun j hj => by rw [h1 j hj (by omega)]; rfl) (fun h => by
   cases hz : z1z id q.kids[i] with
   | nil => exact (h2 hz).elim
   | cons a l => rfl)
  unfold za3
  simp only [hnl]
  rw [dif_neg (by omega)]
  have e2 : n + 2 - 2 = n := by omega
  simp only [e2, hqe, hf, hi, if_true]
 ·unfold findR
  have hne2 : z1z q.id t ≠ [] := by rw [ht]; intro e; have := congrArg List.length e; rw [List.length_take, List.length_nil] at this; omega
  rw [zbj _ hne2]
  have : (z1z q.id t)[(z1z q.id t).length - 1]'(by have := List.length_pos_iff.2 hne2; omega) = q := by
   have e3 : (z1z q.id t).length - 1 = n := by rw [ht, List.length_take]; omega
   simp only [e3]
   simp only [ht, List.getElem_take]
   exact hqe
  rw [this]
 ·unfold zr6; simp; omega
 ·have hal : (zr6 id t).length = n + 1 := by unfold zr6; simp; omega
  have := List.getElem_reverse (l := (z1z id t).dropLast.map T.id) (i := 0) (by simp; omega)
  refine this.trans ?_
  simp only [List.getElem_map, List.getElem_dropLast, List.length_map, List.length_dropLast]
  have e4 : (z1z id t).length - 1 - 1 - 0 = n := by omega
  simp only [e4, hqe]
 ·have hal : (zr6 id t).length = n + 1 := by unfold zr6; simp; omega
  have := List.getElem_reverse (l := (z1z id t).dropLast.map T.id) (i := n) (by simp; omega)
  have e5 : (zr6 id t).length - 1 = n := by omega
  simp only [e5]
  refine this.trans ?_
  simp only [List.getElem_map, List.getElem_dropLast, List.length_map, List.length_dropLast]
  have e4 : (z1z id t).length - 1 - 1 - n = 0 := by omega
  simp only [e4, z9i hne]
 ·unfold zr6
  have e : (z1z id t).dropLast = (z1z id t).take (n + 1) := by rw [List.dropLast_eq_take, hnl]; rfl
  rw [ht, e, List.drop_one, List.tail_reverse, List.map_dropLast]
 ·rw [<- hxe]; exact ziu id t _ (List.getElem_mem _)
 ·rw [<- hqe]; exact ziu id t _ (List.getElem_mem _)
end Tr
end
section
open Abs Facts Tr
namespace Tr
def T.setKids (t : T) (l : List T) : T := .mk t.id t.kind t.label t.head t.words l
theorem zjy (t : T) : t.setKids t.kids = t := T.eta t
inductive Ctx where
 | hole
 | node (t : T) (l : List T) (c : Ctx) (r : List T)
def ze1 : Ctx -> T -> T
 | .hole, x => x
 | .node t l c r, x => t.setKids (l ++ ze1 c x :: r)
def zjp : Ctx -> List Idv
 | .hole => []
 | .node t l c _ => t.id :: (l.flatMap idsT ++ zjp c)
def ztp : Ctx -> List Idv
 | .hole => []
 | .node _ _ c r => ztp c ++ r.flatMap idsT
theorem zeh (x : T) : ∀ C, idsT (ze1 C x) = zjp C ++ (idsT x ++ ztp C)
 | .hole => by simp [ze1, zjp, ztp]
 | .node t l c r => by
  rw [ze1, z2z]
  show t.id :: (l ++ ze1 c x :: r).flatMap idsT = _
  rw [List.flatMap_append, List.flatMap_cons, zeh x c, zjp, ztp]
  simp only [List.cons_append, List.append_assoc]
theorem mem_kid {id : Idv} {l r : List T} {p : T} : id ∈ (l ++ p :: r).flatMap idsT ↔ id ∈ l.flatMap idsT \/ id ∈ idsT p \/ id ∈ r.flatMap idsT := by
 rw [List.flatMap_append, List.flatMap_cons, List.mem_append, List.mem_append]
theorem ztq (l r : List T) (p : T) : ∃ h : l.length < (l ++ p :: r).length, (l ++ p :: r)[l.length] = p := ⟨by simp, by simp⟩
theorem zcn {id : Idv} {l : List T} (h : id ∉ l.flatMap idsT) (p : T) (r : List T) : ∀ j, (hj : j < l.length) -> (hl : j < (l ++ p :: r).length) -> z1z id (l ++ p :: r)[j] = [] := fun j hj hl => by
 rw [List.getElem_append_left hj, z5z]
 exact fun hm => h (List.mem_flatMap.2 ⟨_, List.getElem_mem hj, hm⟩)
section
variable {id : Idv} {t p : T} {l r : List T}
theorem way_mid (h0 : ¬ t.id = id) (hl : id ∉ l.flatMap idsT) (hp : id ∈ idsT p) : z1z id (t.setKids (l ++ p :: r)) = t.setKids (l ++ p :: r) :: z1z id p := by
 obtain ⟨h1, h2⟩ := ztq l r p
 have := z6l (id := id) (t := t.setKids (l ++ p :: r)) (i := l.length) h0 h1 (zcn hl p r) (by
  show z1z id (l ++ p :: r)[l.length] ≠ []
  rw [h2]; exact zb7.2 hp)
 refine this.trans ?_
 show _ :: z1z id (l ++ p :: r)[l.length] = _
 rw [h2]
theorem zyh (h0 : ¬ t.id = id) (hl : id ∉ l.flatMap idsT) (hp : id ∈ idsT p) : findR id (t.setKids (l ++ p :: r)) = findR id p :=
 z9k (way_mid h0 hl hp) (zb7.2 hp)
theorem zyi (h0 : ¬ t.id = id) (hl : id ∉ l.flatMap idsT) (hp : p.id = id) : za3 id (t.setKids (l ++ p :: r)) = (t.id, (l.length : Int), true) := by
 obtain ⟨h1, h2⟩ := ztq l r p
 exact zjx (id := id) (t := t.setKids (l ++ p :: r)) (i := l.length) h0 h1 (zcn hl p r) (by
  show (l ++ p :: r)[l.length].id = id
  rw [h2]; exact hp)
theorem par_mid (h0 : ¬ t.id = id) (hl : id ∉ l.flatMap idsT) (hp : ¬ p.id = id) (hm : id ∈ idsT p) : za3 id (t.setKids (l ++ p :: r)) = za3 id p := by
 obtain ⟨h1, h2⟩ := ztq l r p
 have := zto (id := id) (t := t.setKids (l ++ p :: r)) (i := l.length) h0 h1 (zcn hl p r) (by
  show ¬ (l ++ p :: r)[l.length].id = id
  rw [h2]; exact hp) (by
  show z1z id (l ++ p :: r)[l.length] ≠ []
  rw [h2]; exact zb7.2 hm)
 refine this.trans ?_
 show za3 id (l ++ p :: r)[l.length] = _
 rw [h2]
end
theorem z56 (x : T) : x.id ∈ idsT x := by rw [z2z]; exact List.mem_cons_self
theorem zbc {id : Idv} {t : T} {l r : List T} {c : Ctx} (h : id ∉ zjp (.node t l c r)) : ¬ t.id = id /\ id ∉ l.flatMap idsT /\ id ∉ zjp c := by
 rw [zjp, List.mem_cons, List.mem_append] at h
 exact ⟨fun e => h (.inl e.symm), fun e => h (.inr (.inl e)), fun e => h (.inr (.inr e))⟩
theorem zi8 {id : Idv} (C : Ctx) {x : T} (h : id ∈ idsT x) : id ∈ idsT (ze1 C x) := by
 rw [zeh]; exact List.mem_append_right _ (List.mem_append_left _ h)
theorem zjz {id : Idv} {x : T} (hx : id ∈ idsT x) : ∀ C, id ∉ zjp C -> findR id (ze1 C x) = findR id x
 | .hole, _ => rfl
 | .node t l c r, h => by
  obtain ⟨h1, h2, h3⟩ := zbc h
  rw [ze1, zyh h1 h2 (zi8 c hx), zjz hx c h3]
theorem zo6 {id : Idv} {x : T} (hx : id ∈ idsT x) (hn : ¬ x.id = id) : ∀ C, id ∉ zjp C -> za3 id (ze1 C x) = za3 id x
 | .hole, _ => rfl
 | .node t l c r, h => by
  obtain ⟨h1, h2, h3⟩ := zbc h
  have h4 : ¬ (ze1 c x).id = id := by
   cases c with
   | hole => exact hn
   | node t' l' c' r' => exact (zbc h3).1
  rw [ze1, par_mid h1 h2 h4 (zi8 c hx), zo6 hx hn c h3]
theorem focus (id : Idv) : ∀ u : T, id ∈ idsT u -> ∃ C, u = ze1 C (findR id u).1 /\ (findR id u).1.id = id /\ id ∉ zjp C /\ (findR id u).2 = true := by
 refine z4l fun u ih hm => ?_
 by_cases h0 : u.id = id
 ·rw [z9j h0]
  exact ⟨.hole, rfl, h0, by simp [zjp], rfl⟩
 ·obtain ⟨i, hi, h1, h2, h3⟩ := z60 h0 (zb7.2 hm)
  rw [z9k h3 h2]
  obtain ⟨C, g1, g2, g3, g4⟩ := ih _ (List.getElem_mem hi) (zb7.1 h2)
  refine ⟨.node u (u.kids.take i) C (u.kids.drop (i + 1)), ?_, g2, ?_, g4⟩
  ·rw [ze1, <- g1, <- List.drop_eq_getElem_cons hi, List.take_append_drop, zjy]
  ·rw [zjp, List.mem_cons, List.mem_append]
   rintro (h | h | h)
   ·exact h0 h.symm
   ·obtain ⟨k, O, hki⟩ := List.mem_flatMap.1 h
    obtain ⟨j, hj, rfl⟩ := List.getElem_of_mem O
    rw [List.getElem_take] at hki
    rw [List.length_take] at hj
    have := h1 j (by omega) (by omega)
    rw [z5z] at this
    exact this hki
   ·exact g3 h
theorem ztr {id : Idv} {u : T} (h : id ∉ idsT u) : findR id u = (T.zero, false) := zeg ((z5z id u).2 h)
theorem find_in {id : Idv} {u : T} : (findR id u).2 = decide (id ∈ idsT u) := by
 by_cases h : id ∈ idsT u
 ·obtain ⟨_, _, _, _, h4⟩ := focus id u h
  rw [h4, decide_eq_true h]
 ·rw [ztr h, decide_eq_false h]
theorem focus2 {id : Idv} {u : T} (h0 : ¬ u.id = id) (hm : id ∈ idsT u) : ∃ (C : Ctx) (q : T) (l : List T) (x : T) (r : List T), u = ze1 C (q.setKids (l ++ x :: r)) /\ x.id = id /\ ¬ q.id = id /\ id ∉ zjp C /\ id ∉ l.flatMap idsT /\ findR id u = (x, true) /\ za3 id u = (q.id, (l.length : Int), true) := by
 obtain ⟨C, h1, h2, h3, h4⟩ := focus id u hm
 -- the last frame of C
 have last : ∀ C : Ctx, ∀ x : T, ¬ (ze1 C x).id = id -> x.id = id -> id ∉ zjp C -> ∃ (C' : Ctx) (q : T) (l r : List T), ze1 C x = ze1 C' (q.setKids (l ++ x :: r)) /\ ¬ q.id = id /\ id ∉ zjp C' /\ id ∉ l.flatMap idsT := by
  intro C x
  induction C with
  | hole => intro h hx _; exact (h hx).elim
  | node t l c r ih =>
   intro h hx hn
   obtain ⟨n1, n2, n3⟩ := zbc hn
   by_cases hc : (ze1 c x).id = id
   ·cases c with
    | hole => exact ⟨.hole, t, l, r, rfl, n1, by simp [zjp], n2⟩
    | node t' l' c' r' => exact ((zbc n3).1 hc).elim
   ·obtain ⟨C', q, l', r', e, g1, g2, g3⟩ := ih hc hx n3
    refine ⟨.node t l C' r, q, l', r', ?_, g1, ?_, g3⟩
    ·rw [ze1, e, ze1]
    ·rw [zjp, List.mem_cons, List.mem_append]
     rintro (h | h | h)
     ·exact n1 h.symm
     ·exact n2 h
     ·exact g2 h
 generalize hx : (findR id u).1 = x at h1 h2
 obtain ⟨C', q, l, r, e, g1, g2, g3⟩ := last C x (by rw [<- h1]; exact h0) h2 h3
 refine ⟨C', q, l, x, r, h1.trans e, h2, g1, g2, g3, ?_, ?_⟩
 ·rw [<- hx, <- h4]
 ·rw [h1, e, zo6 (x := q.setKids (l ++ x :: r)) (by rw [z2z, List.mem_cons]; exact .inr (mem_kid.2 (.inr (.inl (h2 ▸ z56 x))))) g1 C' g2, zyi g1 g3 h2]
end Tr
end
section
open Abs Facts Tr
namespace Tr
theorem zss {C : Ctx} {x : T} (h : (idsT (ze1 C x)).Nodup) {id : Idv} (hid : id ∈ idsT x) : id ∉ zjp C /\ id ∉ ztp C := by
 rw [zeh, List.nodup_append] at h
 obtain ⟨_, h2, h3⟩ := h
 rw [List.nodup_append] at h2
 exact ⟨fun hm => h3 id hm id (List.mem_append_left _ hid) rfl, fun hm => h2.2.2 id hid id hm rfl⟩
theorem zhz {C : Ctx} {x : T} (h : (idsT (ze1 C x)).Nodup) : (idsT x).Nodup := by
 rw [zeh, List.nodup_append] at h
 exact (List.nodup_append.1 h.2.1).1
theorem znn (t : T) (l : List T) : idsT (t.setKids l) = t.id :: l.flatMap idsT := z2z _
theorem zx6 {q x : T} {l r : List T} (h : (idsT (q.setKids (l ++ x :: r))).Nodup) : (∀ i ∈ idsT x, i ≠ q.id /\ i ∉ l.flatMap idsT /\ i ∉ r.flatMap idsT) /\ (idsT x).Nodup /\ (idsT (q.setKids (l ++ r))).Nodup := by
 rw [znn, List.flatMap_append, List.flatMap_cons] at h
 rw [znn, List.flatMap_append]
 rw [List.nodup_cons, List.nodup_append, List.nodup_append] at h
 obtain ⟨h0, h1, ⟨h2, h3, h4⟩, h5⟩ := h
 refine ⟨fun i hi => ⟨fun e => h0 ?_, fun hm => h5 i hm i (List.mem_append_left _ hi) rfl, fun hm => h4 i hi i hm rfl⟩, h2, ?_⟩
 ·rw [<- e]; exact List.mem_append_right _ (List.mem_append_left _ hi)
 ·rw [List.nodup_cons, List.nodup_append]
  refine ⟨fun hm => h0 ?_, h1, h3, fun a ha b hb => h5 a ha b (List.mem_append_right _ hb)⟩
  rcases List.mem_append.1 hm with h | h
  ·exact List.mem_append_left _ h
  ·exact List.mem_append_right _ (List.mem_append_right _ h)
end Tr
end
section
open Abs
namespace Tr
theorem z3g {id : Idv} {u : T} (h : (findR id u).2 = true) : (findR id u).1 ∈ nodesT u := by
 have hm := zh3.1 h
 unfold findR
 rw [zbj _ hm]
 exact ziu id u _ (List.getElem_mem _)
theorem z15 {id : Idv} {u q : T} (hn : (idsT u).Nodup) (hq : q ∈ nodesT u) (hid : q.id = id) : findR id u = (q, true) := by
 have key : ∀ u : T, (idsT u).Nodup -> q ∈ nodesT u -> findR id u = (q, true) := by
  refine z4l fun u ih hn hq => ?_
  rw [z11, List.mem_cons] at hq
  rcases hq with rfl | hq
  ·exact z9j hid
  ·obtain ⟨k, O, hqk⟩ := List.mem_flatMap.1 hq
   obtain ⟨i, hi, rfl⟩ := List.getElem_of_mem O
   obtain ⟨g1, g2, g3⟩ := zcj hn
   have hin : id ∈ idsT u.kids[i] := List.mem_map.2 ⟨q, hqk, hid⟩
   have h2 := ih _ O (g2 _ O) hqk
   have hw : z1z id u.kids[i] ≠ [] := zb7.2 hin
   rw [z9k (z6l (fun e => g1 _ O (e ▸ hin)) hi (fun j hj h => (z5z id _).2 (g3 i j hi h (by omega) id hin)) hw) hw, h2]
 exact key u hn hq
def wtT (w : TT -> Nat) (t : TT) : Nat := ((zai t).map w).sum
theorem zav : ∀ l : List (List Nat), l.flatten.sum = (l.map List.sum).sum
 | [] => rfl
 | a :: l => by simp [zav l]
theorem zhp (w : TT -> Nat) (t : TT) : wtT w t = w t + (t.kids.map (wtT w)).sum := by
 unfold wtT
 rw [zcg, List.map_cons, List.sum_cons, List.map_flatten, zav, List.map_map, List.map_map]
 rfl
def zl3 (w : TT -> Nat) : Prop := ∀ s k i l wa m a b ks, w (.mk s k i l wa m a b ks) = w (.mk s k i l wa m a b [])
theorem zfm {f : T -> Nat} (t : T) : ((nodesT t).map f).sum = f t + (t.kids.map fun k => ((nodesT k).map f).sum).sum := by
 rw [z11, List.map_cons, List.sum_cons, List.map_flatMap, List.flatMap_def, zav, List.map_map]
 rfl
theorem z8z {α : Type} (f g : α -> Nat) : ∀ l : List α, (l.map fun x => f x + g x).sum = (l.map f).sum + (l.map g).sum
 | [] => rfl
 | x :: l => by simp [z8z f g l]; omega
theorem z7j {α : Type} (p : α -> Bool) (f : α -> Nat) : ∀ l : List α, ((l.filter p).map f).sum = (l.map fun x => if p x = true then f x else 0).sum
 | [] => rfl
 | x :: l => by
  by_cases h : p x = true
  ·simp [List.filter_cons_of_pos h, h, z7j p f l]
  ·simp [List.filter_cons_of_neg h, h, z7j p f l]
theorem z30 {α : Type} {f g : α -> Nat} {l : List α} (h : ∀ x ∈ l, f x = g x) : (l.map f).sum = (l.map g).sum := by
 rw [List.map_congr_left h]
theorem zp4 {l m : List Nat} (h : l.Perm m) : l.sum = m.sum := h.sum_nat
def goK (w : TT -> Nat) (B : T) (s : Idv -> Bool) (x : T) : Nat := ((x.kids.filter fun k => !s k.id).map fun k => wtT w (z4p B k)).sum
def goD (w : TT -> Nat) (B : T) (mv : Idv -> Bool) (x : T) : Nat :=
 (if z2e x.id B = true then 0 else w (zeu x [])) + (x.kids.map fun k => if z2e k.id B = true /\ mv k.id = true then w (phT k.id) else 0).sum
theorem zn1 {w : TT -> Nat} (hw : zl3 w) (B x : T) : wtT w (z4p B x) = if z2e x.id B = true then w (phT x.id) else w (zeu x []) + (x.kids.map fun k => wtT w (z4p B k)).sum := by
 rw [zb6]
 split
 ·rw [zhp]; simp [phT, TT.kids]
 ·rw [zhp]
  have : w (zeu x (x.kids.map (z4p B))) = w (zeu x []) := hw ..
  rw [this]
  show _ + ((x.kids.map (z4p B)).map (wtT w)).sum = _
  rw [List.map_map]; rfl
theorem z002 {w : TT -> Nat} (hw : zl3 w) {A B : T} {mv : Idv -> Bool} : ∀ t : T,
  (∀ x ∈ nodesT t, ∀ k ∈ x.kids, z2e k.id A = true) ->
  (∀ x ∈ nodesT t, z2e x.id B = false -> ∀ k ∈ x.kids, z2e k.id B = true -> mv k.id = true) ->
  ((nodesT t).map fun x => if z2e x.id B = true then goK w B (stayB A B mv) x else 0).sum + (if z2e t.id B = true then 0 else wtT w (z4p B t)) = ((nodesT t).map (goD w B mv)).sum := by
 refine z4l fun t ih hA h => ?_
 rw [zfm (f := fun x => if z2e x.id B = true then goK w B (stayB A B mv) x else 0), zfm (f := goD w B mv)]
 have O : ∀ k ∈ t.kids, ((nodesT k).map (goD w B mv)).sum = ((nodesT k).map fun x => if z2e x.id B = true then goK w B (stayB A B mv) x else 0).sum + (if z2e k.id B = true then 0 else wtT w (z4p B k)) := fun k O =>
  (ih k O (fun x hx => hA x (z0j O hx)) (fun x hx => h x (z0j O hx))).symm
 rw [z30 O, z8z]
 have key : (if z2e t.id B = true then goK w B (stayB A B mv) t else 0) + (if z2e t.id B = true then 0 else wtT w (z4p B t)) = goD w B mv t + (t.kids.map fun k => if z2e k.id B = true then 0 else wtT w (z4p B k)).sum := by
  unfold goD
  by_cases ht : z2e t.id B = true
  ·rw [if_pos ht, if_pos ht, if_pos ht, Nat.add_zero, Nat.zero_add, <- z8z]
   unfold goK
   rw [z7j]
   refine z30 fun k O => ?_
   have hkA := hA t (z0a t) k O
   unfold stayB
   rw [hkA, zn1 hw]
   by_cases hkB : z2e k.id B = true
   ·by_cases hm : mv k.id = true
    ·simp [hkB, hm]
    ·simp [hkB, hm]
   ·simp [hkB]
  ·rw [if_neg ht, if_neg ht, if_neg ht, Nat.zero_add, Nat.add_assoc, <- z8z, zn1 hw, if_neg ht]
   congr 1
   refine z30 fun k O => ?_
   rw [zn1 hw]
   by_cases hkB : z2e k.id B = true
   ·have hm := h t (z0a t) (by simpa using ht) k O hkB
    simp [hkB, hm]
   ·simp [hkB]
 omega
theorem zvi {w : TT -> Nat} (hw : zl3 w) (A B : T) (mv : Idv -> Bool) : ∀ u : T,
  wtT w (z3s A B mv u) = ((nodesT u).map fun y => w (z6k A mv y []) + goK w B (stayB A B mv) (findR y.id A).1).sum := by
 refine z4l fun u ih => ?_
 rw [zfm (f := fun y => w (z6k A mv y []) + goK w B (stayB A B mv) (findR y.id A).1), z78, zhp]
 have h1 : ∀ ks, w (z6k A mv u ks) = w (z6k A mv u []) := fun ks => hw ..
 rw [h1, Nat.add_assoc]
 congr 1
 show (List.map (wtT w) (mg _ _ _ _)).sum = _
 rw [zp4 ((zch _ _ _ _).map _), List.map_append, List.sum_append, List.map_map, List.map_map, List.map_map]
 congr 1
 exact congrArg List.sum (List.map_congr_left ih)
end Tr
end
section
open Abs
namespace Tr
def za2 (s : Int) (l : List Tw) : List Wd := (l.filter fun w => !decide (w.state = s)).map fun w => ⟨w.text, Idv.zero⟩
def zpv (t : TT) : T := zan (fun t ks => .mk t.id t.kind t.label (za2 2 t.head) (za2 2 t.words) (((t.kids.zip ks).filter fun p => !decide (p.1.state = 2)).map (·.2))) t
theorem z5y {α β : Type} (f : α -> β) (p : α -> Bool) : ∀ l : List α, ((l.zip (l.map f)).filter fun q => p q.1).map (·.2) = (l.filter p).map f
 | [] => rfl
 | x :: l => by
  by_cases h : p x = true
  ·simp [h, List.filter_cons_of_pos, z5y f p l]
  ·simp [h, List.filter_cons_of_neg, z5y f p l]
theorem zma (t : TT) : zpv t = .mk t.id t.kind t.label (za2 2 t.head) (za2 2 t.words) ((t.kids.filter fun k => !decide (k.state = 2)).map zpv) := by
 unfold zpv
 rw [z6q]
 congr 1
 exact z5y (zan _) (fun k => !decide (k.state = 2)) t.kids
def bkO (t : TT) (ks : List T) : T := .mk t.id t.kind (if t.was = ByteArray.empty then t.label else t.was) (za2 1 t.head) (za2 1 t.words) ks
def bkL (f : TT -> List Idv -> Option (T × List Idv)) (M : Idv -> Option TT) : List TT -> List Idv -> Option (List T × List Idv)
 | [], m => some ([], m)
 | k :: l, m =>
  if k.state ≠ 0 /\ k.state ≠ 2 then bkL f M l m
  else if k.state = 2 /\ k.moved = true then
   if k.id ∈ m then bkL f M l m
   else match M k.id with
    | none => bkL f M l (m ++ [k.id])
    | some k' => (f k' (m ++ [k.id])).bind fun r => (bkL f M l r.2).map fun q => (r.1 :: q.1, q.2)
  else (f k m).bind fun r => (bkL f M l r.2).map fun q => (r.1 :: q.1, q.2)
def bkF (M : Idv -> Option TT) : Nat -> TT -> List Idv -> Option (T × List Idv)
 | 0, _, _ => none
 | n + 1, t, m => (bkL (bkF M n) M t.kids m).map fun q => (bkO t q.1, q.2)
structure Books (A B : T) (mv : Idv -> Bool) : Prop where
 na : (idsT A).Nodup
 nb : (idsT B).Nodup
 root : A.id = B.id
 rootM : mv B.id = false
 kept : ∀ i, mv i = true -> i ∈ idsT A /\ i ∈ idsT B
 kind : ∀ i x y, findR i A = (x, true) -> findR i B = (y, true) -> x.kind = y.kind
 lab : ∀ i x y, findR i A = (x, true) -> findR i B = (y, true) -> ¬ x.label = y.label -> ¬ x.label = ByteArray.empty
 line : ∀ i x y, findR i A = (x, true) -> findR i B = (y, true) -> (x.kids.filter fun k => stayB A B mv k.id).map T.id = (y.kids.filter fun k => stayB A B mv k.id).map T.id
 offA : ∀ x ∈ nodesT A, x.id ∉ idsT B -> ∀ k ∈ x.kids, k.id ∈ idsT B -> mv k.id = true
 offB : ∀ y ∈ nodesT B, y.id ∉ idsT A -> ∀ k ∈ y.kids, k.id ∈ idsT A -> mv k.id = true
theorem z13 : ∀ t : T, ∀ y ∈ nodesT t, ∀ z ∈ nodesT y, z ∈ nodesT t := by
 refine z4l fun t ih y hy z hz => ?_
 rw [z11, List.mem_cons, List.mem_flatMap] at hy
 rcases hy with rfl | ⟨k, O, hy⟩
 ·exact hz
 ·exact z0j O (ih k O y hy z hz)
theorem z9g {id : Idv} {t : T} (h : (findR id t).2 = true) : (findR id t).1.id = id := by
 have h1 := zh3.1 h
 unfold findR
 rw [zbj _ h1]
 exact znz id t h1
theorem id_in {t y : T} (h : y ∈ nodesT t) : y.id ∈ idsT t := List.mem_map.2 ⟨y, h, rfl⟩
theorem z1l {i : Idv} {t : T} : z2e i t = decide (i ∈ idsT t) := find_in
section
variable {A B : T} {mv : Idv -> Bool}
end
end Tr
end
section
open Abs
namespace Tr
def zri (a b : List ByteArray) : List (Nat × Nat) -> Nat -> Nat -> Prop
 | [], _, _ => True
 | p :: l, i, k => i <= p.1 /\ p.1 < a.length /\ k <= p.2 /\ p.2 < b.length /\ a[p.1]? = b[p.2]? /\ zri a b l (p.1 + 1) (p.2 + 1)
theorem zdh (a b : List ByteArray) : ∀ (n i k : Nat), Lcs.at_ a b i k = n -> zri a b (Lcs.pairsF a b n i k) i k
 | 0, _, _, _ => trivial
 | n + 1, i, k, h => by
  obtain ⟨q1, q2, q3, q4, q5, q6⟩ := Lcs.next_good a b i k n h
  exact ⟨q1, q2, q3, q4, q5, zdh a b n _ _ q6⟩
theorem z81 (a b : List ByteArray) : zri a b (Lcs.pairs a b) 0 0 := by
 unfold Lcs.pairs
 split
 ·trivial
 ·exact zdh a b _ 0 0 rfl
theorem zmr (s : Int) (l m : List Tw) : za2 s (l ++ m) = za2 s l ++ za2 s m := by simp [za2]
def z7w (s : Int) (l : List Tw) : Nat := l.countP fun w => decide (w.state = s)
theorem z82 (s : Int) (l m : List Tw) : z7w s (l ++ m) = z7w s l + z7w s m := by simp [z7w]
theorem z7f (s : Int) (l : List ByteArray) : z7w s (l.map (stW s)) = l.length := by
 unfold z7w
 rw [List.countP_eq_length.2 (fun x hx => by obtain ⟨y, _, rfl⟩ := List.mem_map.1 hx; simp [stW]), List.length_map]
theorem z5s {s n : Int} (h : ¬ n = s) (l : List ByteArray) : z7w s (l.map (stW n)) = 0 := by
 unfold z7w
 rw [List.countP_eq_zero]
 intro x hx
 obtain ⟨y, _, rfl⟩ := List.mem_map.1 hx
 simp [stW, h]
theorem zuo (a b : List ByteArray) : ∀ (l : List (Nat × Nat)) (i k : Nat), zri a b l i k -> i <= a.length -> k <= b.length ->
  z7w 1 (wov (stW 2) (stW 1) (fun s _ => stW 0 s) a b l i k) + l.length + k = b.length /\ z7w 2 (wov (stW 2) (stW 1) (fun s _ => stW 0 s) a b l i k) + l.length + i = a.length
 | [], i, k, _, hi, O => by
  rw [wov, z82, z82, z5s (by decide), z7f, z7f, z5s (by decide), List.length_drop, List.length_drop, List.length_nil]
  omega
 | (x, y) :: l, i, k, h, hi, O => by
  obtain ⟨h1, h2, h3, h4, h5, h6⟩ := h
  simp only at h1 h2 h3 h4
  have ih := zuo a b l _ _ h6 (by simp only; omega) (by simp only; omega)
  simp only at ih
  rw [wov]
  simp only [z82]
  rw [z5s (by decide), z7f, z7f, z5s (by decide), List.getElem?_eq_getElem h2, List.getElem?_eq_getElem h4, List.length_take, List.length_take, List.length_drop, List.length_drop, List.length_cons]
  have e1 : z7w 1 [stW 0 a[x]] = 0 := rfl
  have e2 : z7w 2 [stW 0 a[x]] = 0 := rfl
  simp only [e1, e2]
  omega
theorem zf4 (v u : List ByteArray) : z7w 1 (z3r v u) + (Lcs.pairs v u).length = u.length /\ z7w 2 (z3r v u) + (Lcs.pairs v u).length = v.length := by
 have := zuo v u _ 0 0 (z81 v u) (Nat.zero_le _) (Nat.zero_le _)
 unfold z3r
 omega
section
variable {A B : T} {mv : Idv -> Bool}
end
end Tr
end
section
open Abs
structure Ed where
 at_ : Int
 old : List ByteArray
 new : List ByteArray
 deriving DecidableEq
def cellsE (e : Ed) : List D := [.int .i64 e.at_, z2b e.old, z2b e.new]
def encE (l : List Ed) : D := .rsl false 3 (l.map fun e => .agg (cellsE e))
attribute [go_sem] encE
def fitsB (a : List ByteArray) (f : Int) (e : Ed) : Bool :=
 decide (f <= e.at_ /\ e.at_ <= a.length /\ (e.old.length : Int) <= a.length - e.at_ /\ e.old.length + e.new.length ≠ 0 /\ (a.take (e.at_ + e.old.length).toNat).drop e.at_.toNat = e.old)
def app (a : List ByteArray) : List Ed -> Bool -> Int -> Option (List ByteArray)
 | [], _, f => some (a.drop f.toNat)
 | e :: l, fst, f => if fitsB a f e = true /\ (fst = true \/ e.at_ ≠ f) then (app a l false (e.at_ + e.old.length)).map fun r => (a.take e.at_.toNat).drop f.toNat ++ e.new ++ r else none
end
section
open Abs
namespace Tr
def prK (s : Idv -> Bool) (bs : List Idv) : List T -> Nat -> List (Nat × Nat)
 | [], _ => []
 | x :: a, i => if s x.id = true then (i, bs.idxOf x.id) :: prK s bs a (i + 1) else prK s bs a (i + 1)
theorem zhk (s : Idv -> Bool) (bs : List Idv) : ∀ (a : List T) (i : Nat), (prK s bs a i).length <= a.length
 | [], _ => Nat.le_refl _
 | x :: a, i => by
  have := zhk s bs a (i + 1)
  unfold prK
  split <;> simp only [List.length_cons] <;> omega
theorem zhl {s : Idv -> Bool} {x : T} {l : List Idv} : ∀ (b : List T), x.id :: l = (b.filter fun k => s k.id).map T.id -> ∃ p y q, b = p ++ y :: q /\ (∀ k ∈ p, s k.id = false) /\ y.id = x.id /\ l = (q.filter fun k => s k.id).map T.id
 | [], h => by cases h
 | y :: b, h => by
  by_cases hy : s y.id = true
  ·rw [List.filter_cons_of_pos (by simpa using hy), List.map_cons, List.cons.injEq] at h
   exact ⟨[], y, b, rfl, fun k O => (by cases O), h.1.symm, h.2⟩
  ·rw [List.filter_cons_of_neg (by simpa using hy)] at h
   obtain ⟨p, z, q, rfl, h1, h2, h3⟩ := zhl b h
   refine ⟨y :: p, z, q, rfl, fun k O => ?_, h2, h3⟩
   rcases List.mem_cons.1 O with rfl | O
   ·simpa using hy
   ·exact h1 k O
theorem idx_at {b : List T} (hn : (b.map T.id).Nodup) {k : Nat} {p q : List T} {y : T} (h : b.drop k = p ++ y :: q) : (b.map T.id).idxOf y.id = k + p.length /\ k + p.length < b.length /\ b[k + p.length]? = some y /\ b.drop (k + p.length + 1) = q := by
 have hl : k + p.length < b.length := by
  have := congrArg List.length h
  rw [List.length_drop, List.length_append, List.length_cons] at this
  omega
 have hg : b[k + p.length]? = some y := by
  have := congrArg (fun l => l[p.length]?) h
  simpa using this
 have he : b[k + p.length] = y := by rw [List.getElem?_eq_getElem hl] at hg; exact Option.some.inj hg
 refine ⟨?_, hl, hg, ?_⟩
 ·have h2 : (b.map T.id)[k + p.length]'(by simpa using hl) = y.id := by simp [he]
  rw [<- h2]
  exact hn.idxOf_getElem _ _
 ·rw [Nat.add_assoc, <- List.drop_drop, h, List.drop_append]
  simp
section
variable {γ : Type} {s : Idv -> Bool} {ga gb : T -> γ} {a b : List T}
theorem zv3 (hn : (b.map T.id).Nodup) : ∀ (r : List T) (i i' k : Nat), a.drop i = r -> i' <= i -> i <= a.length -> k <= b.length ->
  (r.filter fun k => s k.id).map T.id = ((b.drop k).filter fun k => s k.id).map T.id ->
  wov ga gb (fun _ y => gb y) a b (prK s (b.map T.id) r i) i' k = ((a.drop i').take (i - i')).map ga ++ mg s ga r ((b.drop k).map fun y => (y.id, gb y)) /\ Rise a.length b.length (prK s (b.map T.id) r i) i' k
 | [], i, i', k, hr, hi, hia, O, hf => by
  have hi2 : i = a.length := by
   have := congrArg List.length hr
   rw [List.length_drop, List.length_nil] at this; omega
  refine ⟨?_, ?_, O⟩
  ·rw [prK, wov, mg, List.take_of_length_le (by rw [List.length_drop]; omega), List.map_map]; rfl
  ·omega
 | x :: r, i, i', k, hr, hi, hia, O, hf => by
  have hil : i < a.length := by
   have := congrArg List.length hr
   rw [List.length_drop, List.length_cons] at this; omega
  have hx : a[i] = x /\ a.drop (i + 1) = r := by
   rw [List.drop_eq_getElem_cons hil, List.cons.injEq] at hr; exact hr
  by_cases hs : s x.id = true
  ·rw [List.filter_cons_of_pos (by simpa using hs), List.map_cons] at hf
   obtain ⟨p, y, q, hb, hp, hy, hl⟩ := zhl (b.drop k) hf
   obtain ⟨e1, e2, e3, e4⟩ := idx_at hn hb
   have ih := zv3 hn r (i + 1) (i + 1) (k + p.length + 1) hx.2 (Nat.le_refl _) (by omega) (by omega) (by rw [e4]; exact hl)
   have e5 : prK s (b.map T.id) (x :: r) i = (i, k + p.length) :: prK s (b.map T.id) r (i + 1) := by rw [prK, if_pos hs, <- hy, e1]
   rw [e5]
   refine ⟨?_, by omega, by omega, hil, e2, ih.2⟩
   rw [wov, ih.1, mg, if_pos hs, hb]
   have t1 : ((p ++ y :: q).map fun y => (y.id, gb y)).takeWhile (fun z => !s z.1) = p.map fun y => (y.id, gb y) := by
    rw [List.map_append, List.map_cons, List.takeWhile_append_of_pos (by
     intro z hz
     obtain ⟨k, O, rfl⟩ := List.mem_map.1 hz
     simp [hp k O]), List.takeWhile_cons_of_neg (by simp [hy, hs]), List.append_nil]
   have t2 : ((p ++ y :: q).map fun y => (y.id, gb y)).dropWhile (fun z => !s z.1) = (y.id, gb y) :: q.map fun y => (y.id, gb y) := by
    rw [List.map_append, List.map_cons, List.dropWhile_append_of_pos (by
     intro z hz
     obtain ⟨k, O, rfl⟩ := List.mem_map.1 hz
     simp [hp k O]), List.dropWhile_cons_of_neg (by simp [hy, hs])]
   rw [t1, t2, e4, e3, List.getElem?_eq_getElem hil]
   simp only [Nat.sub_self, List.take_zero, List.map_nil, List.nil_append, List.map_map]
   rw [show k + p.length - k = p.length by omega, List.take_left']
   ·rfl
   ·rfl
  ·rw [List.filter_cons_of_neg (by simpa using hs)] at hf
   have ih := zv3 hn r (i + 1) i' k hx.2 (by omega) (by omega) O hf
   rw [prK, if_neg hs]
   refine ⟨?_, ih.2⟩
   rw [ih.1, mg, if_neg hs]
   have e : (a.drop i').take (i + 1 - i') = (a.drop i').take (i - i') ++ [x] := by
    rw [show i + 1 - i' = (i - i') + 1 by omega, List.take_succ_eq_append_getElem (by rw [List.length_drop]; omega), List.getElem_drop]
    congr 2
    have : i' + (i - i') = i := by omega
    simp only [this]; exact hx.1
   rw [e, List.map_append, List.append_assoc]; rfl
end
end Tr
end
open _root_.Go.Proofs.Tryz
section
open Abs Facts
theorem zj6 {α β : Type} (f : α -> β) (l : List α) (i : Nat) (x : α) : (l.map f).set i (f x) = (l.set i x).map f := by simp
attribute [local irreducible] awp
theorem pc36 (i k w : Nat) (cs : List Int) (v : Int) (hv : cs[i * w + k]? = some v) (hc : cs.length <= 100000) : PC prog 120 [.int .i64 i, .int .i64 k, .rptr (zad cs), .rptr (.int .i64 w)] (.int .i64 v) := by
 obtain ⟨hlt, hv'⟩ := List.getElem?_eq_some_iff.1 hv
 refine z2i 1 (by simp only [pureD.pureL, pureD, z6e, Bool.and_self]) rfl (z23 [] func120 rfl (by decide +kernel) rfl ?_)
 show awp _ _ (Code.seq _ _) _ _
 have w1 : IntKind.i64.wrap ((i : Int) * (w : Int)) = ((i * w : Nat) : Int) := by rw [<- Int.natCast_mul]; exact z3i (by omega)
 have w2 : IntKind.i64.wrap (((i * w : Nat) : Int) + (k : Int)) = ((i * w + k : Nat) : Int) := by rw [<- Int.natCast_add]; exact z3i (by omega)
 have i1 := z4f (D.int .i64) cs _ hlt
 (refine zqh fun K hK => ?_); (simp only [go_sem, Nat.reduceBEq, Nat.reduceBeqDiff, Nat.reduceEqDiff, ↓reduceIte, reduceCtorEq, Nat.reduceAdd, Nat.reduceMul, Nat.reduceLeDiff, Nat.reduceLT, Int.reduceLT, Int.reduceLE, Int.reduceEq]); (refine hK _ ?_); (clear hK K)
 (refine zqh fun K hK => ?_); (simp only [go_sem, Nat.reduceBEq, Nat.reduceBeqDiff, Nat.reduceEqDiff, ↓reduceIte, reduceCtorEq, Nat.reduceAdd, Nat.reduceMul, Nat.reduceLeDiff, Nat.reduceLT, Int.reduceLT, Int.reduceLE, Int.reduceEq, zad, w1, w2, i1]); (refine hK _ ?_); (clear hK K)
 (refine zqn ?_); (refine Exists.intro _ (And.intro rfl ?_))
 exact z1q hv'
end
section
open Abs Facts
attribute [local irreducible] awp
theorem rc36 {H : HM} {nx : Nat} (i k w n : Nat) (cs : List Int) (v : Int) (hL : H 2 = some (.box 121 [.osl 1 n])) (hR : H 1 = some (.row 3 n (cs.map (D.int .i64)))) (hW : H 0 = some (.box 3 [.int .i64 (w : Int)])) (hn : cs.length = n)
  (hv : cs[i * w + k]? = some v) (hc : cs.length <= 100000) : RC prog 120 [.int .i64 i, .int .i64 k, .ptr 2 0, .ptr 0 0] H nx (.int .i64 v) := by
 refine PC.borrow (pc36 i k w cs v hv hc) rfl 3 ?_
 refine z07 (z04 _ rfl) (z07 (z04 _ rfl) (z07 ?_ (z07 ?_ z3j)))
 ·exact z4g 2 hL zv8 (z7t 0 hR z39 z6t (by simpa using hn) (z0g (fun _ => rfl) _))
 ·exact z4g 2 hW z39 (z04 _ rfl)
set_option maxHeartbeats 2000000 in
theorem pc28 (a b : List ByteArray) (ha : a.length <= 256) (hb : b.length <= 256) : PC prog 102 [z2b a, z2b b] (.fn 120 [.rptr (zad (Lcs.tab a b)), .rptr (.int .i64 ((b.length + 1 : Nat) : Int))]) := by
 refine z2i 4 (by simp only [pureD.pureL, z31, Bool.and_self]) (by simp only [pureD, pureD.pureL, z6e, Bool.and_self]) (z23 [] func102 rfl (by decide +kernel) rfl ?_)
 show awp _ _ (Code.seq _ _) _ _
 have w1 : IntKind.i64.wrap ((b.length : Int) + 1) = ((b.length + 1 : Nat) : Int) := z3i (by omega)
 have w2 : IntKind.i64.wrap ((a.length : Int) + 1) = ((a.length + 1 : Nat) : Int) := z3i (by omega)
 have hm : (a.length + 1) * (b.length + 1) <= 66049 := Nat.mul_le_mul (show a.length + 1 <= 257 by omega) (show b.length + 1 <= 257 by omega)
 have w3 : IntKind.i64.wrap (((a.length + 1 : Nat) : Int) * ((b.length + 1 : Nat) : Int)) = (((a.length + 1) * (b.length + 1) : Nat) : Int) := by rw [<- Int.natCast_mul]; exact z3i (by omega)
 have g1 : (0 : Int) <= (((a.length + 1) * (b.length + 1) : Nat) : Int) := by omega
 have g2 : (a.length + 1) * (b.length + 1) * 8 <= 140737488355328 := by omega
 have g3 : (((a.length + 1) * (b.length + 1) : Nat) : Int) <= 9223372036854775807 := by omega
 (refine zqh fun K hK => ?_); (simp only [go_sem, Nat.reduceBEq, Nat.reduceBeqDiff, Nat.reduceEqDiff, ↓reduceIte, reduceCtorEq, Nat.reduceAdd, Nat.reduceMul, Nat.reduceLeDiff, Nat.reduceLT, Int.reduceLT, Int.reduceLE, Int.reduceEq]); (refine hK _ ?_); (clear hK K)
 repeat refine zqj ?_
 (refine zqh fun K hK => ?_); (simp only [go_sem, Nat.reduceBEq, Nat.reduceBeqDiff, Nat.reduceEqDiff, ↓reduceIte, reduceCtorEq, Nat.reduceAdd, Nat.reduceMul, Nat.reduceLeDiff, Nat.reduceLT, Int.reduceLT, Int.reduceLE, Int.reduceEq, z2b, w1]); (refine hK _ ?_); (clear hK K)
 repeat refine zqj ?_
 (refine zqh fun K hK => ?_); (simp only [go_sem, Nat.reduceBEq, Nat.reduceBeqDiff, Nat.reduceEqDiff, ↓reduceIte, reduceCtorEq, Nat.reduceAdd, Nat.reduceMul, Nat.reduceLeDiff, Nat.reduceLT, Int.reduceLT, Int.reduceLE, Int.reduceEq, z2b, w1, w2, w3, g1, g2, g3, zjb (D.int .i64) 0 ((a.length + 1) * (b.length + 1))]); (refine hK _ ?_); (clear hK K)
 repeat refine zqj ?_
 (refine zqh fun K hK => ?_); (simp only [go_sem, Nat.reduceBEq, Nat.reduceBeqDiff, Nat.reduceEqDiff, ↓reduceIte, reduceCtorEq, Nat.reduceAdd, Nat.reduceMul, Nat.reduceLeDiff, Nat.reduceLT, Int.reduceLT, Int.reduceLE, Int.reduceEq]); (refine hK _ ?_); (clear hK K)
 have w4 : IntKind.i64.wrap ((a.length : Int) - 1) = (a.length : Int) - 1 := z3i (by omega)
 have w5 : IntKind.i64.wrap ((b.length : Int) - 1) = (b.length : Int) - 1 := z3i (by omega)
 repeat refine zqj ?_
 (refine zqh fun K hK => ?_); (simp only [go_sem, Nat.reduceBEq, Nat.reduceBeqDiff, Nat.reduceEqDiff, ↓reduceIte, reduceCtorEq, Nat.reduceAdd, Nat.reduceMul, Nat.reduceLeDiff, Nat.reduceLT, Int.reduceLT, Int.reduceLE, Int.reduceEq, z2b, w4]); (refine hK _ ?_); (clear hK K)
 refine z1o fun K hK => ?_
 refine zqi (z5k (fun n st => ∃ cs : List Int, n <= a.length /\ st.t 0 = z2b a /\ st.t 1 = z2b b /\ st.t 5 = .ptr 0 0 /\ st.t 6 = .ptr 2 0 /\ st.t 7 = .fn 120 [.ptr 2 0, .ptr 0 0] /\ st.t 8 = .int .i64 ((n : Int) - 1) /\
   st.H 0 = some (.box 3 [.int .i64 ((b.length + 1 : Nat) : Int)]) /\ st.H 1 = some (.row 3 ((a.length + 1) * (b.length + 1)) (cs.map (D.int .i64))) /\ st.H 2 = some (.box 121 [.osl 1 ((a.length + 1) * (b.length + 1))]) /\
   Lcs.Known a b cs n 0) a.length ?_ ?_)
 ·exact ⟨List.replicate ((a.length + 1) * (b.length + 1)) 0, Nat.le_refl _, rfl, rfl, rfl, rfl, rfl, rfl, rfl, rfl, rfl, Lcs.known_zero a b⟩
 rintro n st ⟨cs, hn, h0, h1, h5, h6, h7, h8, hH0, hH1, hH2, O⟩
 repeat refine zqj ?_
 (refine zqh fun K hK => ?_); (simp only [go_sem, Nat.reduceBEq, Nat.reduceBeqDiff, Nat.reduceEqDiff, ↓reduceIte, reduceCtorEq, Nat.reduceAdd, Nat.reduceMul, Nat.reduceLeDiff, Nat.reduceLT, Int.reduceLT, Int.reduceLE, Int.reduceEq, h8]); (refine hK _ ?_); (clear hK K)
 refine z1o fun K2 hK2 => ?_
 (refine zqm _ rfl (fun hc => ?_) (fun hc => ?_)) <;> (simp only [z06] at hc)
 ·obtain ⟨i, rfl⟩ : ∃ i, n = i + 1 := ⟨n - 1, by omega⟩
  have h8' : st.t 8 = .int .i64 (i : Int) := by rw [h8]; congr 1; omega
  refine zqk (hK2 _ ?_); clear hK2 K2 h8
  repeat refine zqj ?_
  refine z1o fun K2 hK2 => ?_
  refine zqi ?_
  repeat refine zqj ?_
  (refine zqh fun K hK => ?_); (simp only [go_sem, Nat.reduceBEq, Nat.reduceBeqDiff, Nat.reduceEqDiff, ↓reduceIte, reduceCtorEq, Nat.reduceAdd, Nat.reduceMul, Nat.reduceLeDiff, Nat.reduceLT, Int.reduceLT, Int.reduceLE, Int.reduceEq, h1, z2b, w5]); (refine hK _ ?_); (clear hK K)
  refine zqi (z5k (fun m st => ∃ cs : List Int, m <= b.length /\ st.t 0 = z2b a /\ st.t 1 = z2b b /\ st.t 5 = .ptr 0 0 /\ st.t 6 = .ptr 2 0 /\ st.t 7 = .fn 120 [.ptr 2 0, .ptr 0 0] /\ st.t 8 = .int .i64 (i : Int) /\ st.t 9 = .int .i64 ((m : Int) - 1) /\
   st.H 0 = some (.box 3 [.int .i64 ((b.length + 1 : Nat) : Int)]) /\ st.H 1 = some (.row 3 ((a.length + 1) * (b.length + 1)) (cs.map (D.int .i64))) /\ st.H 2 = some (.box 121 [.osl 1 ((a.length + 1) * (b.length + 1))]) /\
   Lcs.Known a b cs i m) b.length ?_ ?_)
  ·exact ⟨cs, Nat.le_refl _, h0, h1, h5, h6, h7, h8', rfl, hH0, hH1, hH2, Lcs.known_row O⟩
  clear h0 h1 h5 h6 h7 h8' hH0 hH1 hH2 O
  rintro m st ⟨cs, hm', h0, h1, h5, h6, h7, h8, h9, hH0, hH1, hH2, O⟩
  repeat refine zqj ?_
  (refine zqh fun K hK => ?_); (simp only [go_sem, Nat.reduceBEq, Nat.reduceBeqDiff, Nat.reduceEqDiff, ↓reduceIte, reduceCtorEq, Nat.reduceAdd, Nat.reduceMul, Nat.reduceLeDiff, Nat.reduceLT, Int.reduceLT, Int.reduceLE, Int.reduceEq, h9]); (refine hK _ ?_); (clear hK K)
  refine z1o fun K3 hK3 => ?_
  (refine zqm _ rfl (fun hc => ?_) (fun hc => ?_)) <;> (simp only [z06] at hc)
  ·obtain ⟨k, rfl⟩ : ∃ k, m = k + 1 := ⟨m - 1, by omega⟩
   have h9' : st.t 9 = .int .i64 (k : Int) := by rw [h9]; congr 1; omega
   refine zqk (hK3 _ ?_); clear hK3 K3 h9
   repeat refine zqj ?_
   refine z1o fun K3 hK3 => ?_
   refine zqi ?_
   repeat refine zqj ?_
   have wi : IntKind.i64.wrap ((i : Int) + 1) = ((i + 1 : Nat) : Int) := z3i (by omega)
   have wk : IntKind.i64.wrap ((k : Int) + 1) = ((k + 1 : Nat) : Int) := z3i (by omega)
   have v1 := O.2 (i + 1) k (by omega) (by omega) (.inl (by omega))
   have v2 := O.2 i (k + 1) (by omega) (by omega) (.inr (.inl ⟨rfl, by omega⟩))
   have v3 := O.2 (i + 1) (k + 1) (by omega) (by omega) (.inl (by omega))
   have l1 := Lcs.at_le a b (i + 1) k
   have l2 := Lcs.at_le a b i (k + 1)
   have l3 := Lcs.at_le a b (i + 1) (k + 1)
   have hcl : cs.length <= 100000 := by rw [O.1]; omega
   refine zqh fun K hK => ?_
   simp only [go_sem, Nat.reduceBEq, Nat.reduceBeqDiff, Nat.reduceEqDiff, ↓reduceIte, reduceCtorEq, Nat.reduceAdd, Nat.reduceMul, Nat.reduceLeDiff, Nat.reduceLT, Int.reduceLT, Int.reduceLE, Int.reduceEq, h7, h8, h9', wi, wk]
   refine z3x (rc36 (i + 1) k (b.length + 1) _ cs _ hH2 hH1 hH0 O.1 v1 hcl) ?_
   simp only [go_sem, Nat.reduceBEq, Nat.reduceBeqDiff, Nat.reduceEqDiff, ↓reduceIte, reduceCtorEq, Nat.reduceAdd, Nat.reduceMul, Nat.reduceLeDiff, Nat.reduceLT, Int.reduceLT, Int.reduceLE, Int.reduceEq, h7, h8, h9', wi, wk]
   refine z3x (rc36 i (k + 1) (b.length + 1) _ cs _ hH2 hH1 hH0 O.1 v2 hcl) ?_
   simp only [go_sem, Nat.reduceBEq, Nat.reduceBeqDiff, Nat.reduceEqDiff, ↓reduceIte, reduceCtorEq, Nat.reduceAdd, Nat.reduceMul, Nat.reduceLeDiff, Nat.reduceLT, Int.reduceLT, Int.reduceLE, Int.reduceEq, h7, h8, h9', wi, wk]
   refine hK _ ?_
   clear hK K
   have hlt : i * (b.length + 1) + k < (a.length + 1) * (b.length + 1) := Lcs.idx_lt (by omega) (by omega)
   have wm : IntKind.i64.wrap ((i : Int) * ((b.length + 1 : Nat) : Int)) = ((i * (b.length + 1) : Nat) : Int) := by rw [<- Int.natCast_mul]; exact z3i (by omega)
   have wp : IntKind.i64.wrap (((i * (b.length + 1) : Nat) : Int) + (k : Int)) = ((i * (b.length + 1) + k : Nat) : Int) := z3i (by omega)
   have hin : ((i * (b.length + 1) + k : Nat) : Int) < (((a.length + 1) * (b.length + 1) : Nat) : Int) := by omega
   have hin2 : i * (b.length + 1) + k + 1 <= (a.length + 1) * (b.length + 1) := by omega
   have hkl := O.1
   refine z1o fun K4 hK4 => ?_
   have tail : ∀ st' : St, st'.t 0 = z2b a -> st'.t 1 = z2b b -> st'.t 5 = .ptr 0 0 -> st'.t 6 = .ptr 2 0 -> st'.t 7 = .fn 120 [.ptr 2 0, .ptr 0 0] -> st'.t 8 = .int .i64 (i : Int) -> st'.t 9 = .int .i64 (k : Int) -> st'.t 10 = .int .i64 (Lcs.at_ a b i k : Int) ->
     st'.H 0 = some (.box 3 [.int .i64 ((b.length + 1 : Nat) : Int)]) -> st'.H 1 = some (.row 3 ((a.length + 1) * (b.length + 1)) (cs.map (D.int .i64))) -> st'.H 2 = some (.box 121 [.osl 1 ((a.length + 1) * (b.length + 1))]) -> K4 st' := by
    intro st' h0 h1 h5 h6 h7 h8 h9 h10 hH0 hH1 hH2
    refine hK4 _ ?_
    (refine z3q ?_); (simp only [go_sem, Nat.reduceBEq, Nat.reduceBeqDiff, Nat.reduceEqDiff, ↓reduceIte, reduceCtorEq, Nat.reduceAdd, Nat.reduceMul, Nat.reduceLeDiff, Nat.reduceLT, Int.reduceLT, Int.reduceLE, Int.reduceEq, h5, h6, h8, h9, h10, hH0, hH1, hH2, wm, wp, hin, hin2, hkl, zj6])
    refine (show K3 _ from hK3 _ ?_)
    have wk2 : IntKind.i64.wrap ((k : Int) - 1) = (k : Int) - 1 := z3i (by omega)
    (refine z3q ?_); (simp only [go_sem, Nat.reduceBEq, Nat.reduceBeqDiff, Nat.reduceEqDiff, ↓reduceIte, reduceCtorEq, Nat.reduceAdd, Nat.reduceMul, Nat.reduceLeDiff, Nat.reduceLT, Int.reduceLT, Int.reduceLE, Int.reduceEq, h9, wk2])
    exact ⟨k, by omega, cs.set (i * (b.length + 1) + k) (Lcs.at_ a b i k : Int), by omega, h0, h1, h5, h6, h7, h8, rfl, hH0, rfl, hH2, Lcs.known_set (by omega) (by omega) O⟩
   have i1 := z4f D.str a i (by omega)
   have i2 := z4f D.str b k (by omega)
   have hst := Lcs.at_step a b i k (by omega) (by omega)
   (refine zqe (by decide +kernel) fun K hK => ?_); (simp only [go_sem, Nat.reduceBEq, Nat.reduceBeqDiff, Nat.reduceEqDiff, ↓reduceIte, reduceCtorEq, Nat.reduceAdd, Nat.reduceMul, Nat.reduceLeDiff, Nat.reduceLT, Int.reduceLT, Int.reduceLE, Int.reduceEq, h0, h1, h8, h9', i1, i2, z2b]); (refine hK _ ?_); (clear hK K)
   (refine zqm _ rfl (fun hc => ?_) (fun hc => ?_)) <;> (simp only [z06] at hc)
   ·have w6 : IntKind.i64.wrap ((Lcs.at_ a b (i + 1) (k + 1) : Int) + 1) = (Lcs.at_ a b (i + 1) (k + 1) : Int) + 1 := z3i (by omega)
    rw [if_pos hc] at hst
    refine z3q ?_
    simp only [go_sem, Nat.reduceBEq, Nat.reduceBeqDiff, Nat.reduceEqDiff, ↓reduceIte, reduceCtorEq, Nat.reduceAdd, Nat.reduceMul, Nat.reduceLeDiff, Nat.reduceLT, Int.reduceLT, Int.reduceLE, Int.reduceEq, h7, h8, h9', wi, wk]
    refine z3x (rc36 (i + 1) (k + 1) (b.length + 1) _ cs _ hH2 hH1 hH0 O.1 v3 hcl) ?_
    simp only [go_sem, Nat.reduceBEq, Nat.reduceBeqDiff, Nat.reduceEqDiff, ↓reduceIte, reduceCtorEq, Nat.reduceAdd, Nat.reduceMul, Nat.reduceLeDiff, Nat.reduceLT, Int.reduceLT, Int.reduceLE, Int.reduceEq, h7, h8, h9', wi, wk, w6]
    refine (show K4 _ from tail _ h0 h1 h5 h6 h7 h8 h9' ?_ hH0 hH1 hH2)
    show D.int .i64 _ = D.int .i64 _
    rw [hst]; congr 1; omega
   ·rw [if_neg hc] at hst
    refine zqk (tail _ h0 h1 h5 h6 h7 h8 h9' ?_ hH0 hH1 hH2)
    show D.int .i64 _ = D.int .i64 _
    rw [hst]; congr 1; omega
  ·refine zql (show K2 _ from hK2 _ ?_)
   obtain rfl : m = 0 := by omega
   have wi2 : IntKind.i64.wrap ((i : Int) - 1) = (i : Int) - 1 := z3i (by omega)
   (refine z3q ?_); (simp only [go_sem, Nat.reduceBEq, Nat.reduceBeqDiff, Nat.reduceEqDiff, ↓reduceIte, reduceCtorEq, Nat.reduceAdd, Nat.reduceMul, Nat.reduceLeDiff, Nat.reduceLT, Int.reduceLT, Int.reduceLE, Int.reduceEq, h8, wi2])
   exact ⟨i, by omega, cs, by omega, h0, h1, h5, h6, h7, rfl, hH0, hH1, hH2, O⟩
 ·refine zql (show K _ from hK _ ?_)
  obtain rfl : n = 0 := by omega
  have hcs := Lcs.known_all O
  subst hcs
  (refine zqh fun K hK => ?_); (simp only [go_sem, Nat.reduceBEq, Nat.reduceBeqDiff, Nat.reduceEqDiff, ↓reduceIte, reduceCtorEq, Nat.reduceAdd, Nat.reduceMul, Nat.reduceLeDiff, Nat.reduceLT, Int.reduceLT, Int.reduceLE, Int.reduceEq, h7]); (refine hK _ ?_); (clear hK K)
  (refine zqn ?_); (refine Exists.intro _ (And.intro rfl ?_))
  refine z6f (zjc 3 rfl (z07 ?_ (z07 ?_ z3j)))
  ·exact z4g 2 hH2 (by first | rfl | kernel_rfl) (z7t 0 hH1 z39 z6t (by simpa using Lcs.tab_len a b) (z0g (fun _ => rfl) _))
  ·exact z4g 2 hH0 z39 (z04 _ rfl)
def atD (a b : List ByteArray) : D := .fn 120 [.rptr (zad (Lcs.tab a b)), .rptr (.int .i64 ((b.length + 1 : Nat) : Int))]
theorem zow (a b : List ByteArray) : pureD (atD a b) = true := by simp only [atD, pureD, pureD.pureL, z6e, Bool.and_self]
theorem pcAt (a b : List ByteArray) (ha : a.length <= 256) (hb : b.length <= 256) (i k : Nat) (hi : i <= a.length) (O : k <= b.length) : PC prog 120 [.int .i64 i, .int .i64 k, .rptr (zad (Lcs.tab a b)), .rptr (.int .i64 ((b.length + 1 : Nat) : Int))] (.int .i64 (Lcs.at_ a b i k : Int)) :=
 pc36 i k (b.length + 1) (Lcs.tab a b) _ (Lcs.tab_get a b i k hi O) (by
  have hm : (a.length + 1) * (b.length + 1) <= 66049 := Nat.mul_le_mul (show a.length + 1 <= 257 by omega) (show b.length + 1 <= 257 by omega)
  rw [Lcs.tab_len]; omega)
set_option maxHeartbeats 2000000 in
theorem pc29 (a b : List ByteArray) (ha : a.length <= 256) (hb : b.length <= 256) (i k : Nat) (hi : i <= a.length) (O : k <= b.length) :
  PC prog 103 [.int .i64 i, .int .i64 k, .rptr (z2b a), .rptr (z2b b), .rptr (atD a b)] (.agg [.int .i64 ((Lcs.next a b i k).1 : Int), .int .i64 ((Lcs.next a b i k).2 : Int)]) := by
 refine z2i 2 (by simp only [pureD.pureL, pureD, z31, zow, Bool.and_self]) rfl (z23 [] func103 rfl (by decide +kernel) rfl ?_)
 show awp _ _ (Code.seq _ _) _ _
 (refine zqh fun K hK => ?_); (simp only [go_sem, Nat.reduceBEq, Nat.reduceBeqDiff, Nat.reduceEqDiff, ↓reduceIte, reduceCtorEq, Nat.reduceAdd, Nat.reduceMul, Nat.reduceLeDiff, Nat.reduceLT, Int.reduceLT, Int.reduceLE, Int.reduceEq]); (refine hK _ ?_); (clear hK K)
 repeat refine zqj ?_
 (refine zqh fun K hK => ?_); (simp only [go_sem, Nat.reduceBEq, Nat.reduceBeqDiff, Nat.reduceEqDiff, ↓reduceIte, reduceCtorEq, Nat.reduceAdd, Nat.reduceMul, Nat.reduceLeDiff, Nat.reduceLT, Int.reduceLT, Int.reduceLE, Int.reduceEq, z2b, atD]); (refine hK _ ?_); (clear hK K)
 refine z1o fun K hK => ?_
 refine zqi (z5k (fun n st => ∃ x : Nat, n = a.length - x /\ x <= a.length /\ st.t 0 = .int .i64 i /\ st.t 1 = .int .i64 k /\ st.t 2 = .rptr (z2b a) /\ st.t 3 = .rptr (z2b b) /\ st.t 4 = .rptr (atD a b) /\ st.t 7 = .ptr 0 0 /\ st.t 8 = .int .i64 x /\
   st.H 0 = some (.box 90 [.int .i64 0, .int .i64 0]) /\ Lcs.search a b (Lcs.at_ a b i k) k i = Lcs.search a b (Lcs.at_ a b i k) k x) (a.length - i) ?_ ?_)
 ·exact ⟨i, rfl, hi, rfl, rfl, rfl, rfl, rfl, rfl, rfl, rfl, rfl⟩
 rintro n st ⟨x, rfl, hx, h0, h1, h2, h3, h4, h7, h8, hH, hs⟩
 repeat refine zqj ?_
 (refine zqh fun K hK => ?_); (simp only [go_sem, Nat.reduceBEq, Nat.reduceBeqDiff, Nat.reduceEqDiff, ↓reduceIte, reduceCtorEq, Nat.reduceAdd, Nat.reduceMul, Nat.reduceLeDiff, Nat.reduceLT, Int.reduceLT, Int.reduceLE, Int.reduceEq, h8, h2, z2b]); (refine hK _ ?_); (clear hK K)
 refine z1o fun K2 hK2 => ?_
 (refine zqm _ rfl (fun hc => ?_) (fun hc => ?_)) <;> (simp only [z06] at hc)
 ·have hx' : x < a.length := by omega
  refine zqk (hK2 _ ?_); clear hK2 K2
  refine z1o fun K2 hK2 => ?_
  refine zqi ?_
  repeat refine zqj ?_
  (refine zqh fun K hK => ?_); (simp only [go_sem, Nat.reduceBEq, Nat.reduceBeqDiff, Nat.reduceEqDiff, ↓reduceIte, reduceCtorEq, Nat.reduceAdd, Nat.reduceMul, Nat.reduceLeDiff, Nat.reduceLT, Int.reduceLT, Int.reduceLE, Int.reduceEq, h1]); (refine hK _ ?_); (clear hK K)
  refine zqi (z5k (fun n st => ∃ y : Nat, n = b.length - y /\ y <= b.length /\ st.t 0 = .int .i64 i /\ st.t 1 = .int .i64 k /\ st.t 2 = .rptr (z2b a) /\ st.t 3 = .rptr (z2b b) /\ st.t 4 = .rptr (atD a b) /\ st.t 7 = .ptr 0 0 /\ st.t 8 = .int .i64 x /\ st.t 9 = .int .i64 y /\
    st.H 0 = some (.box 90 [.int .i64 0, .int .i64 0]) /\ Lcs.inRow a b (Lcs.at_ a b i k) x k = Lcs.inRow a b (Lcs.at_ a b i k) x y) (b.length - k) ?_ ?_)
  ·exact ⟨k, rfl, O, h0, h1, h2, h3, h4, h7, h8, rfl, hH, rfl⟩
  clear h0 h1 h2 h3 h4 h7 h8 hH
  rintro n st ⟨y, rfl, hy, h0, h1, h2, h3, h4, h7, h8, h9, hH, hr⟩
  repeat refine zqj ?_
  (refine zqh fun K hK => ?_); (simp only [go_sem, Nat.reduceBEq, Nat.reduceBeqDiff, Nat.reduceEqDiff, ↓reduceIte, reduceCtorEq, Nat.reduceAdd, Nat.reduceMul, Nat.reduceLeDiff, Nat.reduceLT, Int.reduceLT, Int.reduceLE, Int.reduceEq, h9, h3, z2b]); (refine hK _ ?_); (clear hK K)
  refine z1o fun K3 hK3 => ?_
  (refine zqm _ rfl (fun hc => ?_) (fun hc => ?_)) <;> (simp only [z06] at hc)
  ·have hy' : y < b.length := by omega
   refine zqk (hK3 _ ?_); clear hK3 K3
   refine z1o fun K3 hK3 => ?_
   refine zqi ?_
   repeat refine zqj ?_
   have i1 := z4f D.str a x hx'
   have i2 := z4f D.str b y hy'
   have wx : IntKind.i64.wrap ((x : Int) + 1) = ((x + 1 : Nat) : Int) := z3i (by omega)
   have wy : IntKind.i64.wrap ((y : Int) + 1) = ((y + 1 : Nat) : Int) := z3i (by omega)
   have l1 := Lcs.at_le a b (x + 1) (y + 1)
   have wn : IntKind.i64.wrap ((Lcs.at_ a b (x + 1) (y + 1) : Int) + 1) = ((Lcs.at_ a b (x + 1) (y + 1) + 1 : Nat) : Int) := z3i (by omega)
   have hst := Lcs.inRow_step a b (Lcs.at_ a b i k) x y hy'
   have tail : ∀ st' : St, Lcs.inRow a b (Lcs.at_ a b i k) x k = Lcs.inRow a b (Lcs.at_ a b i k) x (y + 1) -> st'.t 0 = .int .i64 i -> st'.t 1 = .int .i64 k -> st'.t 2 = .rptr (z2b a) -> st'.t 3 = .rptr (z2b b) -> st'.t 4 = .rptr (atD a b) -> st'.t 7 = .ptr 0 0 -> st'.t 8 = .int .i64 x -> st'.t 9 = .int .i64 y ->
     st'.H 0 = some (.box 90 [.int .i64 0, .int .i64 0]) -> K3 st' := by
    intro st' hr h0 h1 h2 h3 h4 h7 h8 h9 hH
    refine hK3 _ ?_
    (refine z3q ?_); (simp only [go_sem, Nat.reduceBEq, Nat.reduceBeqDiff, Nat.reduceEqDiff, ↓reduceIte, reduceCtorEq, Nat.reduceAdd, Nat.reduceMul, Nat.reduceLeDiff, Nat.reduceLT, Int.reduceLT, Int.reduceLE, Int.reduceEq, h9, wy])
    exact ⟨b.length - (y + 1), by omega, y + 1, rfl, by omega, h0, h1, h2, h3, h4, h7, h8, rfl, hH, hr⟩
   have ea : a[x]? = some a[x] := List.getElem?_eq_getElem hx'
   have eb : b[y]? = some b[y] := List.getElem?_eq_getElem hy'
   by_cases c1 : a[x] = b[y]
   ·refine zqe (by decide +kernel) fun K hK => ?_
    simp only [go_sem, Nat.reduceBEq, Nat.reduceBeqDiff, Nat.reduceEqDiff, ↓reduceIte, reduceCtorEq, Nat.reduceAdd, Nat.reduceMul, Nat.reduceLeDiff, Nat.reduceLT, Int.reduceLT, Int.reduceLE, Int.reduceEq, h8, h9, h2, h3, h4, h0, h1, i1, i2, z2b, c1, wx, wy, atD]
    refine zqt (pcAt a b ha hb (x + 1) (y + 1) (by omega) (by omega)) ?_
    simp only [go_sem, Nat.reduceBEq, Nat.reduceBeqDiff, Nat.reduceEqDiff, ↓reduceIte, reduceCtorEq, Nat.reduceAdd, Nat.reduceMul, Nat.reduceLeDiff, Nat.reduceLT, Int.reduceLT, Int.reduceLE, Int.reduceEq, h8, h9, h2, h3, h4, h0, h1, i1, i2, z2b, c1, wx, wy, wn, atD]
    refine zqt (pcAt a b ha hb i k hi O) ?_
    simp only [go_sem, Nat.reduceBEq, Nat.reduceBeqDiff, Nat.reduceEqDiff, ↓reduceIte, reduceCtorEq, Nat.reduceAdd, Nat.reduceMul, Nat.reduceLeDiff, Nat.reduceLT, Int.reduceLT, Int.reduceLE, Int.reduceEq, h8, h9, h2, h3, h4, h0, h1, i1, i2, z2b, c1, wx, wy, wn, atD]
    refine hK _ ?_
    clear hK K
    (refine zqm _ rfl (fun hc => ?_) (fun hc => ?_)) <;> (simp only [z06] at hc)
    ·have hg : Lcs.good a b (Lcs.at_ a b i k) x y = true := by
      unfold Lcs.good
      rw [ea, eb, c1]
      have : Lcs.at_ a b (x + 1) (y + 1) + 1 = Lcs.at_ a b i k := by omega
      simp [this]
     (refine zqh fun K hK => ?_); (simp only [go_sem, Nat.reduceBEq, Nat.reduceBeqDiff, Nat.reduceEqDiff, ↓reduceIte, reduceCtorEq, Nat.reduceAdd, Nat.reduceMul, Nat.reduceLeDiff, Nat.reduceLT, Int.reduceLT, Int.reduceLE, Int.reduceEq, h8, h9, h7, hH]); (refine hK _ ?_); (clear hK K)
     (refine zqn ?_); (refine Exists.intro _ (And.intro ((show resD _ _ [.cell 7 90] = _ from (by simp only [go_sem, Nat.reduceBEq, Nat.reduceBeqDiff, Nat.reduceEqDiff, ↓reduceIte, reduceCtorEq, Nat.reduceAdd, Nat.reduceMul, Nat.reduceLeDiff, Nat.reduceLT, Int.reduceLT, Int.reduceLE, Int.reduceEq, h7]; rfl))) ?_))
     refine ⟨_, z04 1 rfl, ?_⟩
     rw [if_pos hg] at hst
     have h9 := Lcs.search_step a b (Lcs.at_ a b i k) k x hx'
     rw [hr, hst] at h9
     unfold Lcs.next
     rw [hs, h9]
     exact Le.refl _
    ·refine zqk (tail _ ?_ h0 h1 h2 h3 h4 h7 h8 h9 hH)
     rw [hr, hst, if_neg]
     unfold Lcs.good
     simp only [Bool.and_eq_true, decide_eq_true_eq]
     omega
   ·(refine zqe (by decide +kernel) fun K hK => ?_); (simp only [go_sem, Nat.reduceBEq, Nat.reduceBeqDiff, Nat.reduceEqDiff, ↓reduceIte, reduceCtorEq, Nat.reduceAdd, Nat.reduceMul, Nat.reduceLeDiff, Nat.reduceLT, Int.reduceLT, Int.reduceLE, Int.reduceEq, h8, h9, h2, h3, i1, i2, z2b, c1]); (refine hK _ ?_); (clear hK K)
    refine zqm false rfl (fun hc => (by cases hc)) (fun _ => ?_)
    refine zqk (tail _ ?_ h0 h1 h2 h3 h4 h7 h8 h9 hH)
    rw [hr, hst, if_neg]
    unfold Lcs.good
    simp only [Bool.and_eq_true, decide_eq_true_eq, ea, eb, Option.some.injEq]
    exact fun h => c1 h.1
  ·refine zql (show K2 _ from hK2 _ ?_)
   have wx : IntKind.i64.wrap ((x : Int) + 1) = ((x + 1 : Nat) : Int) := z3i (by omega)
   (refine z3q ?_); (simp only [go_sem, Nat.reduceBEq, Nat.reduceBeqDiff, Nat.reduceEqDiff, ↓reduceIte, reduceCtorEq, Nat.reduceAdd, Nat.reduceMul, Nat.reduceLeDiff, Nat.reduceLT, Int.reduceLT, Int.reduceLE, Int.reduceEq, h8, wx])
   refine ⟨a.length - (x + 1), by omega, x + 1, rfl, by omega, h0, h1, h2, h3, h4, h7, rfl, hH, ?_⟩
   have h9 := Lcs.search_step a b (Lcs.at_ a b i k) k x hx'
   rw [hr, Lcs.inRow_end a b _ x y (by omega)] at h9
   rw [hs, h9]
 ·refine zql (show K _ from hK _ ?_)
  (refine zqh fun K hK => ?_); (simp only [go_sem, Nat.reduceBEq, Nat.reduceBeqDiff, Nat.reduceEqDiff, ↓reduceIte, reduceCtorEq, Nat.reduceAdd, Nat.reduceMul, Nat.reduceLeDiff, Nat.reduceLT, Int.reduceLT, Int.reduceLE, Int.reduceEq, h2, h3, h7, hH, z2b]); (refine hK _ ?_); (clear hK K)
  (refine zqn ?_); (refine Exists.intro _ (And.intro ((show resD _ _ [.cell 7 90] = _ from (by simp only [go_sem, Nat.reduceBEq, Nat.reduceBeqDiff, Nat.reduceEqDiff, ↓reduceIte, reduceCtorEq, Nat.reduceAdd, Nat.reduceMul, Nat.reduceLeDiff, Nat.reduceLT, Int.reduceLT, Int.reduceLE, Int.reduceEq, h7]; rfl))) ?_))
  refine ⟨_, z04 1 rfl, ?_⟩
  unfold Lcs.next
  rw [hs, Lcs.search_end a b _ k x (by omega)]
  exact Le.refl _
theorem pc35 (a : List ByteArray) : PC prog 119 [z2b a] (.bool (decide (256 < (a.length : Int)))) := by
 refine z2i 1 (by simp only [pureD.pureL, z31, Bool.and_self]) rfl (z23 [] func119 rfl (by decide +kernel) rfl ?_)
 show awp _ _ (Code.seq _ _) _ _
 (refine zqh fun K hK => ?_); (simp only [go_sem, Nat.reduceBEq, Nat.reduceBeqDiff, Nat.reduceEqDiff, ↓reduceIte, reduceCtorEq, Nat.reduceAdd, Nat.reduceMul, Nat.reduceLeDiff, Nat.reduceLT, Int.reduceLT, Int.reduceLE, Int.reduceEq]); (refine hK _ ?_); (clear hK K)
 (refine zqh fun K hK => ?_); (simp only [go_sem, Nat.reduceBEq, Nat.reduceBeqDiff, Nat.reduceEqDiff, ↓reduceIte, reduceCtorEq, Nat.reduceAdd, Nat.reduceMul, Nat.reduceLeDiff, Nat.reduceLT, Int.reduceLT, Int.reduceLE, Int.reduceEq, z2b]); (refine hK _ ?_); (clear hK K)
 (refine zqn ?_); (refine Exists.intro _ (And.intro rfl ?_))
 exact z00 rfl
def z37 (a : List ByteArray) : Bool := decide (256 < (a.length : Int))
def zho (rows : List (List ByteArray)) : Int := match rows.findIdx? z37 with | some n => (n : Int) | none => -1
theorem zj7 (rows : List (List ByteArray)) : (0 <= zho rows) ↔ rows.any z37 = true := by
 unfold zho
 cases h : rows.findIdx? z37 with
 | none =>
  rw [List.findIdx?_eq_none_iff] at h
  simp only [List.any_eq_true]
  constructor
  ·intro h; omega
  ·rintro ⟨x, hx, hp⟩; rw [h x hx] at hp; cases hp
 | some i =>
  rw [List.findIdx?_eq_some_iff_getElem] at h
  obtain ⟨hi, hp, _⟩ := h
  simp only [List.any_eq_true]
  constructor
  ·intro _; exact ⟨_, List.getElem_mem hi, hp⟩
  ·intro _; omega
theorem zfl (nn : Bool) (rows : List (List ByteArray)) : pureD (.rsl nn 1 (rows.map z2b)) = true := by simp only [pureD]; exact z0g (fun x => z31 x) rows
set_option maxHeartbeats 2000000 in
theorem pc37 (nn : Bool) (rows : List (List ByteArray)) (hl : rows.length <= 1000) : PC prog 130 [.rsl nn 1 (rows.map z2b), .fn 119 []] (.int .i64 (zho rows)) := by
 refine z2i 1 (by simp only [pureD.pureL, zfl]; rfl) rfl (z23 [] func130 rfl (by decide +kernel) rfl ?_)
 show awp _ _ (Code.seq _ _) _ _
 (refine zqh fun K hK => ?_); (simp only [go_sem, Nat.reduceBEq, Nat.reduceBeqDiff, Nat.reduceEqDiff, ↓reduceIte, reduceCtorEq, Nat.reduceAdd, Nat.reduceMul, Nat.reduceLeDiff, Nat.reduceLT, Int.reduceLT, Int.reduceLE, Int.reduceEq]); (refine hK _ ?_); (clear hK K)
 repeat refine zqj ?_
 (refine zqh fun K hK => ?_); (simp only [go_sem, Nat.reduceBEq, Nat.reduceBeqDiff, Nat.reduceEqDiff, ↓reduceIte, reduceCtorEq, Nat.reduceAdd, Nat.reduceMul, Nat.reduceLeDiff, Nat.reduceLT, Int.reduceLT, Int.reduceLE, Int.reduceEq]); (refine hK _ ?_); (clear hK K)
 refine z1o fun K hK => ?_
 refine zqi (z5k (fun n st => ∃ k : Nat, n = rows.length - k /\ k <= rows.length /\ st.t 0 = .rsl nn 1 (rows.map z2b) /\ st.t 1 = .fn 119 [] /\ st.t 7 = .int .i64 rows.length /\ st.t 8 = .int .i64 k /\ ∀ j, ∀ h : j < rows.length, j < k -> z37 rows[j] = false) rows.length ?_ ?_)
 ·exact ⟨0, by simp, by simp, rfl, rfl, rfl, rfl, fun j _ h => by omega⟩
 rintro n st ⟨k, rfl, O, h0, h1, h7, h8, hj⟩
 repeat refine zqj ?_
 (refine zqh fun K hK => ?_); (simp only [go_sem, Nat.reduceBEq, Nat.reduceBeqDiff, Nat.reduceEqDiff, ↓reduceIte, reduceCtorEq, Nat.reduceAdd, Nat.reduceMul, Nat.reduceLeDiff, Nat.reduceLT, Int.reduceLT, Int.reduceLE, Int.reduceEq, h8, h7]); (refine hK _ ?_); (clear hK K)
 refine z1o fun K2 hK2 => ?_
 (refine zqm _ rfl (fun hc => ?_) (fun hc => ?_)) <;> (simp only [z06] at hc)
 ·have hk' : k < rows.length := by omega
  refine zqk (hK2 _ ?_); clear hK2 K2
  refine z1o fun K2 hK2 => ?_
  refine zqi ?_
  repeat refine zqj ?_
  have i1 := z4f z2b rows k hk'
  have wk : IntKind.i64.wrap ((k : Int) + 1) = ((k + 1 : Nat) : Int) := z3i (by omega)
  (refine zqh fun K hK => ?_); (simp only [go_sem, Nat.reduceBEq, Nat.reduceBeqDiff, Nat.reduceEqDiff, ↓reduceIte, reduceCtorEq, Nat.reduceAdd, Nat.reduceMul, Nat.reduceLeDiff, Nat.reduceLT, Int.reduceLT, Int.reduceLE, Int.reduceEq, h8]); (refine hK _ ?_); (clear hK K)
  repeat refine zqj ?_
  refine zqh fun K hK => ?_
  simp only [go_sem, Nat.reduceBEq, Nat.reduceBeqDiff, Nat.reduceEqDiff, ↓reduceIte, reduceCtorEq, Nat.reduceAdd, Nat.reduceMul, Nat.reduceLeDiff, Nat.reduceLT, Int.reduceLT, Int.reduceLE, Int.reduceEq, h0, h1, h8, i1, z2b]
  refine zqs (pc35 rows[k]) ?_
  simp only [go_sem, Nat.reduceBEq, Nat.reduceBeqDiff, Nat.reduceEqDiff, ↓reduceIte, reduceCtorEq, Nat.reduceAdd, Nat.reduceMul, Nat.reduceLeDiff, Nat.reduceLT, Int.reduceLT, Int.reduceLE, Int.reduceEq]
  refine hK _ ?_
  clear hK K
  (refine zqm _ rfl (fun hc => ?_) (fun hc => ?_)) <;> (simp only [z06] at hc)
  ·(refine zqh fun K hK => ?_); (simp only [go_sem, Nat.reduceBEq, Nat.reduceBeqDiff, Nat.reduceEqDiff, ↓reduceIte, reduceCtorEq, Nat.reduceAdd, Nat.reduceMul, Nat.reduceLeDiff, Nat.reduceLT, Int.reduceLT, Int.reduceLE, Int.reduceEq, h8]); (refine hK _ ?_); (clear hK K)
   (refine zqn ?_); (refine Exists.intro _ (And.intro rfl ?_))
   refine z1q ?_
   have : rows.findIdx? z37 = some k := by
    rw [List.findIdx?_eq_some_iff_getElem]
    exact ⟨hk', by unfold z37; simp [hc], fun j hjk => by rw [hj j (by omega) hjk]; simp⟩
   unfold zho; rw [this]
  ·refine zqk (show K2 _ from hK2 _ ?_)
   (refine z3q ?_); (simp only [go_sem, Nat.reduceBEq, Nat.reduceBeqDiff, Nat.reduceEqDiff, ↓reduceIte, reduceCtorEq, Nat.reduceAdd, Nat.reduceMul, Nat.reduceLeDiff, Nat.reduceLT, Int.reduceLT, Int.reduceLE, Int.reduceEq, h8, wk])
   refine ⟨rows.length - (k + 1), by omega, k + 1, rfl, by omega, h0, h1, h7, rfl, fun j h hjk => ?_⟩
   by_cases he : j = k
   ·subst he; unfold z37; simpa using hc
   ·exact hj j h (by omega)
 ·refine zql (show K _ from hK _ ?_)
  (refine zqh fun K hK => ?_); (simp only [go_sem, Nat.reduceBEq, Nat.reduceBeqDiff, Nat.reduceEqDiff, ↓reduceIte, reduceCtorEq, Nat.reduceAdd, Nat.reduceMul, Nat.reduceLeDiff, Nat.reduceLT, Int.reduceLT, Int.reduceLE, Int.reduceEq]); (refine hK _ ?_); (clear hK K)
  (refine zqn ?_); (refine Exists.intro _ (And.intro rfl ?_))
  refine z1q ?_
  have : rows.findIdx? z37 = none := by
   rw [List.findIdx?_eq_none_iff]
   intro x hx
   obtain ⟨j, hj', rfl⟩ := List.getElem_of_mem hx
   exact hj j hj' (by omega)
  unfold zho; rw [this]
theorem pc34 (nn : Bool) (rows : List (List ByteArray)) (hl : rows.length <= 1000) : PC prog 118 [.rsl nn 1 (rows.map z2b), .fn 119 []] (.bool (rows.any z37)) := by
 refine z2i 1 (by simp only [pureD.pureL, zfl]; rfl) rfl (z23 [] func118 rfl (by decide +kernel) rfl ?_)
 show awp _ _ (Code.seq _ _) _ _
 (refine zqh fun K hK => ?_); (simp only [go_sem, Nat.reduceBEq, Nat.reduceBeqDiff, Nat.reduceEqDiff, ↓reduceIte, reduceCtorEq, Nat.reduceAdd, Nat.reduceMul, Nat.reduceLeDiff, Nat.reduceLT, Int.reduceLT, Int.reduceLE, Int.reduceEq]); (refine hK _ ?_); (clear hK K)
 refine zqh fun K hK => ?_
 simp only [go_sem, Nat.reduceBEq, Nat.reduceBeqDiff, Nat.reduceEqDiff, ↓reduceIte, reduceCtorEq, Nat.reduceAdd, Nat.reduceMul, Nat.reduceLeDiff, Nat.reduceLT, Int.reduceLT, Int.reduceLE, Int.reduceEq]
 refine zqs (pc37 nn rows hl) ?_
 simp only [go_sem, Nat.reduceBEq, Nat.reduceBeqDiff, Nat.reduceEqDiff, ↓reduceIte, reduceCtorEq, Nat.reduceAdd, Nat.reduceMul, Nat.reduceLeDiff, Nat.reduceLT, Int.reduceLT, Int.reduceLE, Int.reduceEq]
 refine hK _ ?_
 clear hK K
 (refine zqn ?_); (refine Exists.intro _ (And.intro rfl ?_))
 refine z00 ?_
 have := zj7 rows
 by_cases h : 0 <= zho rows
 ·rw [this.1 h]; simp [h]
 ·have h2 : rows.any z37 = false := by
   cases hq : rows.any z37 with
   | true => exact (h (this.2 hq)).elim
   | false => rfl
  rw [h2]; simp [h]
theorem pc27 (nn : Bool) (rows : List (List ByteArray)) (hl : rows.length <= 1000) : PC prog 101 [.rsl nn 1 (rows.map z2b)] (.bool (rows.any z37)) := by
 refine z2i 1 (by simp only [pureD.pureL, zfl]; rfl) rfl (z23 [] func101 rfl (by decide +kernel) rfl ?_)
 show awp _ _ (Code.seq _ _) _ _
 (refine zqh fun K hK => ?_); (simp only [go_sem, Nat.reduceBEq, Nat.reduceBeqDiff, Nat.reduceEqDiff, ↓reduceIte, reduceCtorEq, Nat.reduceAdd, Nat.reduceMul, Nat.reduceLeDiff, Nat.reduceLT, Int.reduceLT, Int.reduceLE, Int.reduceEq]); (refine hK _ ?_); (clear hK K)
 refine zqh fun K hK => ?_
 simp only [go_sem, Nat.reduceBEq, Nat.reduceBeqDiff, Nat.reduceEqDiff, ↓reduceIte, reduceCtorEq, Nat.reduceAdd, Nat.reduceMul, Nat.reduceLeDiff, Nat.reduceLT, Int.reduceLT, Int.reduceLE, Int.reduceEq]
 refine zqs (pc34 nn rows hl) ?_
 simp only [go_sem, Nat.reduceBEq, Nat.reduceBeqDiff, Nat.reduceEqDiff, ↓reduceIte, reduceCtorEq, Nat.reduceAdd, Nat.reduceMul, Nat.reduceLeDiff, Nat.reduceLT, Int.reduceLT, Int.reduceLE, Int.reduceEq]
 refine hK _ ?_
 clear hK K
 (refine zqn ?_); (refine Exists.intro _ (And.intro rfl ?_))
 exact z00 rfl
def z2l (p : Nat × Nat) : List D := [.int .i64 (p.1 : Int), .int .i64 (p.2 : Int)]
def zxz (l : List (Nat × Nat)) : D := .rsl false 2 (l.map fun p => .agg (z2l p))
theorem zli (l : List (Nat × Nat)) : pureD (zxz l) = true := by simp only [zxz, pureD]; exact z0g (fun _ => rfl) l
theorem Lcs.pairsF_len {α : Type} [DecidableEq α] (a b : List α) : ∀ n i k, (Lcs.pairsF a b n i k).length = n
 | 0, _, _ => rfl
 | n + 1, i, k => by simp [Lcs.pairsF, Lcs.pairsF_len a b n]
theorem rc29 {H : HM} {nx : Nat} (a b : List ByteArray) (ha : a.length <= 256) (hb : b.length <= 256) (i k : Nat) (hi : i <= a.length) (O : k <= b.length) (h0 : H 0 = some (.box 78 [z2b a])) (h1 : H 1 = some (.box 78 [z2b b])) (h2 : H 2 = some (.box 142 [atD a b])) :
  RC prog 103 [.int .i64 i, .int .i64 k, .ptr 0 0, .ptr 1 0, .ptr 2 0] H nx (.agg [.int .i64 ((Lcs.next a b i k).1 : Int), .int .i64 ((Lcs.next a b i k).2 : Int)]) := by
 refine PC.borrow (pc29 a b ha hb i k hi O) rfl 2 ?_
 refine z07 (z04 _ rfl) (z07 (z04 _ rfl) (z07 ?_ (z07 ?_ (z07 ?_ z3j))))
 ·exact z4g 1 h0 zoy (z04 _ (z31 a))
 ·exact z4g 1 h1 zoy (z04 _ (z31 b))
 ·exact z4g 1 h2 zva (z04 _ (zow a b))
set_option maxHeartbeats 2000000 in
theorem ac15 (a b : List ByteArray) (ha : a.length <= maxLen) (hb : b.length <= maxLen) : AC prog 80 [z2b a, z2b b] noH 0 fun d H _ =>
  ((256 < a.length \/ 256 < b.length) /\ d = .nil) \/ (¬ (256 < a.length \/ 256 < b.length) /\ d = .osl 3 (Lcs.pairs a b).length /\ H 3 = some (.row 90 (Lcs.pairs a b).length ((Lcs.pairs a b).flatMap z2l))) := by
 unfold maxLen at ha hb
 refine (z23 [7] func80 rfl (by decide +kernel) rfl ?_)
 show awp _ _ (Code.seq _ _) _ _
 (refine zqh fun K hK => ?_); (simp only [go_sem, Nat.reduceBEq, Nat.reduceBeqDiff, Nat.reduceEqDiff, ↓reduceIte, reduceCtorEq, Nat.reduceAdd, Nat.reduceMul, Nat.reduceLeDiff, Nat.reduceLT, Int.reduceLT, Int.reduceLE, Int.reduceEq, z2b]); (refine hK _ ?_); (clear hK K)
 repeat refine zqj ?_
 refine zqh fun K hK => ?_
 simp only [go_sem, Nat.reduceBEq, Nat.reduceBeqDiff, Nat.reduceEqDiff, ↓reduceIte, reduceCtorEq, Nat.reduceAdd, Nat.reduceMul, Nat.reduceLeDiff, Nat.reduceLT, Int.reduceLT, Int.reduceLE, Int.reduceEq]
 refine zqs (pc27 true [a, b] (by simp)) ?_
 simp only [go_sem, Nat.reduceBEq, Nat.reduceBeqDiff, Nat.reduceEqDiff, ↓reduceIte, reduceCtorEq, Nat.reduceAdd, Nat.reduceMul, Nat.reduceLeDiff, Nat.reduceLT, Int.reduceLT, Int.reduceLE, Int.reduceEq]
 refine hK _ ?_
 clear hK K
 refine z1o fun K hK => ?_
 by_cases hlong : 256 < a.length \/ 256 < b.length
 ·have ht : (z37 a || z37 b) = true := by
   unfold z37
   simp only [Bool.or_eq_true, decide_eq_true_eq]
   omega
  simp only [ht]
  refine zqm true rfl (fun _ => ?_) (fun hc => (by cases hc))
  (refine zqh fun K hK => ?_); (simp only [go_sem, Nat.reduceBEq, Nat.reduceBeqDiff, Nat.reduceEqDiff, ↓reduceIte, reduceCtorEq, Nat.reduceAdd, Nat.reduceMul, Nat.reduceLeDiff, Nat.reduceLT, Int.reduceLT, Int.reduceLE, Int.reduceEq]); (refine hK _ ?_); (clear hK K)
  (refine zqn ?_); (refine Exists.intro _ (And.intro rfl ?_))
  exact .inl ⟨hlong, rfl⟩
 have ht : (z37 a || z37 b) = false := by
  unfold z37
  simp only [Bool.or_eq_false_iff, decide_eq_false_iff_not]
  omega
 simp only [ht]
 refine zqm false rfl (fun hc => (by cases hc)) (fun _ => ?_)
 refine zqk (hK _ ?_); clear hK K
 have ha' : a.length <= 256 := by omega
 have hb' : b.length <= 256 := by omega
 repeat refine zqj ?_
 refine zqh fun K hK => ?_
 simp only [go_sem, Nat.reduceBEq, Nat.reduceBeqDiff, Nat.reduceEqDiff, ↓reduceIte, reduceCtorEq, Nat.reduceAdd, Nat.reduceMul, Nat.reduceLeDiff, Nat.reduceLT, Int.reduceLT, Int.reduceLE, Int.reduceEq]
 refine zqs (pc28 a b ha' hb') ?_
 simp only [go_sem, Nat.reduceBEq, Nat.reduceBeqDiff, Nat.reduceEqDiff, ↓reduceIte, reduceCtorEq, Nat.reduceAdd, Nat.reduceMul, Nat.reduceLeDiff, Nat.reduceLT, Int.reduceLT, Int.reduceLE, Int.reduceEq]
 refine hK _ ?_
 clear hK K
 (refine zqh fun K hK => ?_); (simp only [go_sem, Nat.reduceBEq, Nat.reduceBeqDiff, Nat.reduceEqDiff, ↓reduceIte, reduceCtorEq, Nat.reduceAdd, Nat.reduceMul, Nat.reduceLeDiff, Nat.reduceLT, Int.reduceLT, Int.reduceLE, Int.reduceEq]); (refine hK _ ?_); (clear hK K)
 (refine zqh fun K hK => ?_); (simp only [go_sem, Nat.reduceBEq, Nat.reduceBeqDiff, Nat.reduceEqDiff, ↓reduceIte, reduceCtorEq, Nat.reduceAdd, Nat.reduceMul, Nat.reduceLeDiff, Nat.reduceLT, Int.reduceLT, Int.reduceLE, Int.reduceEq]); (refine hK _ ?_); (clear hK K)
 repeat refine zqj ?_
 (refine zqh fun K hK => ?_); (simp only [go_sem, Nat.reduceBEq, Nat.reduceBeqDiff, Nat.reduceEqDiff, ↓reduceIte, reduceCtorEq, Nat.reduceAdd, Nat.reduceMul, Nat.reduceLeDiff, Nat.reduceLT, Int.reduceLT, Int.reduceLE, Int.reduceEq]); (refine hK _ ?_); (clear hK K)
 refine z1o fun K hK => ?_
 refine zqi (z5k (fun n st => ∃ (i k : Nat) (out : List (Nat × Nat)), n = Lcs.at_ a b i k /\ i <= a.length /\ k <= b.length /\ st.t 5 = .ptr 2 0 /\ st.t 6 = .fn 103 [.ptr 0 0, .ptr 1 0, .ptr 2 0] /\ st.t 7 = .osl 3 out.length /\ st.t 8 = .int .i64 i /\ st.t 9 = .int .i64 k /\
   st.H 0 = some (.box 78 [z2b a]) /\ st.H 1 = some (.box 78 [z2b b]) /\ st.H 2 = some (.box 142 [atD a b]) /\ st.H 3 = some (.row 90 out.length (out.flatMap z2l)) /\ 4 <= st.nx /\ out ++ Lcs.pairsFrom a b i k = Lcs.pairsFrom a b 0 0) (Lcs.at_ a b 0 0) ?_ ?_)
 ·exact ⟨0, 0, [], rfl, Nat.zero_le _, Nat.zero_le _, rfl, rfl, rfl, rfl, rfl, rfl, rfl, rfl, rfl, by show 4 <= 4; omega, rfl⟩
 rintro n st ⟨i, k, out, rfl, hi, O, h5, h6, h7, h8, h9, hH0, hH1, hH2, hH3, hnx, ho⟩
 have hlen : out.length <= 256 := by
  have h1 := congrArg List.length ho
  simp only [List.length_append, Lcs.pairsFrom, Lcs.pairsF_len] at h1
  have h2 := Lcs.at_le a b 0 0
  omega
 repeat refine zqj ?_
 refine zqh fun K hK => ?_
 simp only [go_sem, Nat.reduceBEq, Nat.reduceBeqDiff, Nat.reduceEqDiff, ↓reduceIte, reduceCtorEq, Nat.reduceAdd, Nat.reduceMul, Nat.reduceLeDiff, Nat.reduceLT, Int.reduceLT, Int.reduceLE, Int.reduceEq, h5, h8, h9, hH2, atD]
 refine zqs (pcAt a b ha' hb' i k hi O) ?_
 simp only [go_sem, Nat.reduceBEq, Nat.reduceBeqDiff, Nat.reduceEqDiff, ↓reduceIte, reduceCtorEq, Nat.reduceAdd, Nat.reduceMul, Nat.reduceLeDiff, Nat.reduceLT, Int.reduceLT, Int.reduceLE, Int.reduceEq]
 refine hK _ ?_
 clear hK K
 refine z1o fun K2 hK2 => ?_
 (refine zqm _ rfl (fun hc => ?_) (fun hc => ?_)) <;> (simp only [z06] at hc)
 ·refine zqk (hK2 _ ?_); clear hK2 K2
  repeat refine zqj ?_
  have hpos : 0 < Lcs.at_ a b i k := by omega
  have hcons := Lcs.pairsFrom_cons a b i k hpos
  obtain ⟨m, hm⟩ : ∃ m, Lcs.at_ a b i k = m + 1 := ⟨Lcs.at_ a b i k - 1, by omega⟩
  obtain ⟨q1, q2, q3, q4, q5, q6⟩ := Lcs.next_good a b i k m hm
  refine zqi ?_
  refine zqh fun K hK => ?_
  simp only [go_sem, Nat.reduceBEq, Nat.reduceBeqDiff, Nat.reduceEqDiff, ↓reduceIte, reduceCtorEq, Nat.reduceAdd, Nat.reduceMul, Nat.reduceLeDiff, Nat.reduceLT, Int.reduceLT, Int.reduceLE, Int.reduceEq, h6, h8, h9]
  refine z3x (rc29 a b ha' hb' i k hi O hH0 hH1 hH2) ?_
  simp only [go_sem, Nat.reduceBEq, Nat.reduceBeqDiff, Nat.reduceEqDiff, ↓reduceIte, reduceCtorEq, Nat.reduceAdd, Nat.reduceMul, Nat.reduceLeDiff, Nat.reduceLT, Int.reduceLT, Int.reduceLE, Int.reduceEq]
  refine hK _ ?_
  clear hK K
  have e0 : (0 == st.nx) = false := by simp; omega
  have e1 : (1 == st.nx) = false := by simp; omega
  have e2 : (2 == st.nx) = false := by simp; omega
  have e3 : (3 == st.nx) = false := by simp; omega
  have b1 : (out.length + 1) * 16 <= 140737488355328 := by omega
  have b2 : out.length <= 9223372036854775806 := by omega
  (refine zqh fun K hK => ?_); (simp only [go_sem, Nat.reduceBEq, Nat.reduceBeqDiff, Nat.reduceEqDiff, ↓reduceIte, reduceCtorEq, Nat.reduceAdd, Nat.reduceMul, Nat.reduceLeDiff, Nat.reduceLT, Int.reduceLT, Int.reduceLE, Int.reduceEq, h7, hH3, e3, b1, b2]); (refine hK _ ?_); (clear hK K)
  have wa : IntKind.i64.wrap (((Lcs.next a b i k).1 : Int) + 1) = (((Lcs.next a b i k).1 + 1 : Nat) : Int) := z3i (by omega)
  have wb : IntKind.i64.wrap (((Lcs.next a b i k).2 : Int) + 1) = (((Lcs.next a b i k).2 + 1 : Nat) : Int) := z3i (by omega)
  have e4 : (st.nx == 3) = false := by simp; omega
  (refine zep (by decide +kernel) ?_); (simp only [go_sem, Nat.reduceBEq, Nat.reduceBeqDiff, Nat.reduceEqDiff, ↓reduceIte, reduceCtorEq, Nat.reduceAdd, Nat.reduceMul, Nat.reduceLeDiff, Nat.reduceLT, Int.reduceLT, Int.reduceLE, Int.reduceEq, wa, wb, e4])
  have n0 : ¬ (0 = st.nx) := by omega
  have n1 : ¬ (1 = st.nx) := by omega
  have n2 : ¬ (2 = st.nx) := by omega
  refine ⟨m, by omega, (Lcs.next a b i k).1 + 1, (Lcs.next a b i k).2 + 1, out ++ [Lcs.next a b i k], by omega, by omega, by omega, h5, h6, ?_, rfl, rfl, ?_, ?_, ?_, ?_, ?_, ?_⟩
  ·rw [List.length_append]; rfl
  ·simp only [go_sem, Nat.reduceBEq, Nat.reduceBeqDiff, Nat.reduceEqDiff, ↓reduceIte, reduceCtorEq, Nat.reduceAdd, Nat.reduceMul, Nat.reduceLeDiff, Nat.reduceLT, Int.reduceLT, Int.reduceLE, Int.reduceEq, e0, hH0]
  ·simp only [go_sem, Nat.reduceBEq, Nat.reduceBeqDiff, Nat.reduceEqDiff, ↓reduceIte, reduceCtorEq, Nat.reduceAdd, Nat.reduceMul, Nat.reduceLeDiff, Nat.reduceLT, Int.reduceLT, Int.reduceLE, Int.reduceEq, e1, hH1]
  ·simp only [go_sem, Nat.reduceBEq, Nat.reduceBeqDiff, Nat.reduceEqDiff, ↓reduceIte, reduceCtorEq, Nat.reduceAdd, Nat.reduceMul, Nat.reduceLeDiff, Nat.reduceLT, Int.reduceLT, Int.reduceLE, Int.reduceEq, e2, hH2]
  ·simp only [go_sem, Nat.reduceBEq, Nat.reduceBeqDiff, Nat.reduceEqDiff, ↓reduceIte, reduceCtorEq, Nat.reduceAdd, Nat.reduceMul, Nat.reduceLeDiff, Nat.reduceLT, Int.reduceLT, Int.reduceLE, Int.reduceEq, e3]
   simp [z2l]
  ·show 4 <= st.nx + 1; omega
  ·rw [List.append_assoc, <- ho, hcons]; rfl
 ·refine zql (show K _ from hK _ ?_)
  (refine zqh fun K hK => ?_); (simp only [go_sem, Nat.reduceBEq, Nat.reduceBeqDiff, Nat.reduceEqDiff, ↓reduceIte, reduceCtorEq, Nat.reduceAdd, Nat.reduceMul, Nat.reduceLeDiff, Nat.reduceLT, Int.reduceLT, Int.reduceLE, Int.reduceEq, h7]); (refine hK _ ?_); (clear hK K)
  (refine zqn ?_); (refine Exists.intro _ (And.intro rfl ?_))
  rw [Lcs.pairsFrom_nil a b i k (by omega), List.append_nil] at ho
  refine .inr ⟨hlong, ?_, ?_⟩
  ·unfold Lcs.pairs; rw [if_neg hlong, <- ho]; rfl
  ·unfold Lcs.pairs; rw [if_neg hlong, <- ho]; exact hH3
theorem pc15 (a b : List ByteArray) (ha : a.length <= maxLen) (hb : b.length <= maxLen) : PC prog 80 [z2b a, z2b b] (zxz (Lcs.pairs a b)) := by
 refine z2i 2 (by simp only [pureD.pureL, z31, Bool.and_self]) (zli _) ((ac15 a b ha hb).mono fun d H nx h => ?_)
 rcases h with ⟨hl, rfl⟩ | ⟨hl, rfl, hH⟩
 ·refine zwk ?_
  unfold Lcs.pairs; rw [if_pos hl]; rfl
 ·exact z6f (z1b 0 hH zp1 zv6 (fun _ => rfl) (fun _ => rfl))
end
end Go.Proofs.YtfechgagcgbldaaGreatDoor
namespace Go.Proofs.YtfechgagcgbldaaGreatDoor.Abs
open Go.RowKit
variable {P : Program}
def hiH (n : Nat) (H : HM) : HM := fun id => if n <= id then H id else none
theorem hi_get {n id : Nat} {H : HM} (h : n <= id) : hiH n H id = H id := if_pos h
theorem ztj {s : RS} {w : World} (h : RH P s w) (H' : HM) (V : ∀ id, H' id = s.H id \/ H' id = none) : RH P { s with H := H' } w := by
 have hl : Later s { s with H := H' } := ⟨Nat.le_refl _, fun _ _ h => h, fun id _ => by
  rcases V id with e | e
  ·show objLe (s.H id) (H' id) _ _
   rw [e]; exact objLe.refl _ _
  ·show objLe (s.H id) (H' id) _ _
   rw [e]
   unfold objLe
   cases s.H id with
   | none => rfl
   | some o => cases o <;> exact .inl rfl⟩
 have ho : ∀ k, owned { s with H := H' } k -> owned s k := by
  rintro k ⟨id, hid, hH, hb⟩
  rcases V id with e | e
  ·exact ⟨id, hid, by rw [<- e]; exact hH, hb⟩
  ·exact (hH e).elim
 refine ⟨fun a u hm => ⟨(h.mem a u hm).1, fun O => (h.mem a u hm).2 (ho _ O)⟩, fun id o hido => ?_, fun i j hi hj hij hb => ?_, fun g => rel.later hl _ _ (h.glob g)⟩
 ·have hido : H' id = some o := hido
  rcases V id with e | e
  ·rw [e] at hido
   obtain ⟨h1, h2⟩ := h.obj id o hido
   exact ⟨h1, h2.mono hl fun b _ => rfl⟩
  ·rw [e] at hido; cases hido
 ·have hi' : s.H i ≠ none := by
   rcases V i with e | e
   ·rw [<- e]; exact hi
   ·exact (hi e).elim
  have hj' : s.H j ≠ none := by
   rcases V j with e | e
   ·rw [<- e]; exact hj
   ·exact (hj e).elim
  exact h.apart i j hi' hj' hij hb
noncomputable def finS (s : RS) (w : World) (n : Nat) : RS :=
 {m := (RS.shut { s with H := hiH n s.H } w).m, κ := s.κ, H := znm n s.H, nx := n }
theorem ztk {f : FuncId} {ds : List D} {H : HM} {nx k : Nat} {r : D} {KK : HM -> Prop} (hr : pureD r = true) (h : AC P f ds H nx fun r' H' _ => (∃ d, z2m P (hiH nx H') k r' = some d /\ Le d r) /\ KK H')
  (O : ∀ H', KK H' -> ∀ id o, id < nx -> H' id = some o -> H id = some o \/ lowO nx o = true) :
  AC P f ds H nx fun r' H2 nx2 => r' = r /\ nx2 = nx /\ ∃ H', KK H' /\ H2 = znm nx H' := by
 refine ⟨h.1, fun s w vs h1 h2 h3 h4 => (h.2 s w vs h1 h2 h3 h4).mono fun e w' ⟨v, r', s', he, ⟨⟨d, V, hle⟩, hK⟩, hstep, hRH, hrel⟩ => ?_⟩
 subst h1; subst h2
 have hlow := O _ hK
 let s1 : RS := { s' with H := hiH s.nx s'.H }
 have hl1 : Later s' s1 := ⟨Nat.le_refl _, fun _ _ h => h, fun id _ => by
  show objLe (s'.H id) (hiH s.nx s'.H id) _ _
  unfold hiH
  split
  ·exact objLe.refl _ _
  ·unfold objLe
   cases s'.H id with
   | none => rfl
   | some o => cases o <;> exact .inl rfl⟩
 have hRH1 : RH P s1 w' := ztj hRH _ fun id => by
  unfold hiH; split
  ·exact .inl rfl
  ·exact .inr rfl
 obtain ⟨hst1, hRH2⟩ := z9s hRH1
 have hrel1 : rel s1 r' v := rel.later hl1 _ _ hrel
 have hd2 : rel (s1.shut w') d v := zd2 hRH1 k r' v d hrel1 V
 have hr2 : rel (s1.shut w') r v := hle _ _ hd2
 let s2 : RS := finS s' w' s.nx
 have hm2 : ∀ a u, s'.m a = some u -> s2.m a = some u := fun a u hm => hst1.mem a u hm
 have hH : ∀ id, id < s.nx -> s2.H id = s'.H id /\ s2.κ id = s'.κ id := fun id hid => ⟨if_pos hid, rfl⟩
 have hown : ∀ k, owned s2 k -> ∃ id, id < s.nx /\ s'.H id ≠ none /\ blockOf (s'.κ id) = some k := fun k ⟨id, hid, h5, h6⟩ => by
  have hid : id < s.nx := hid
  rw [(hH id hid).1] at h5
  exact ⟨id, hid, h5, h6⟩
 have hown' : ∀ k, owned s2 k -> owned s' k := fun k hk2 => by
  obtain ⟨id, hid, h5, h6⟩ := hown k hk2
  exact ⟨id, Nat.lt_of_lt_of_le hid hstep.nx, h5, h6⟩
 -- memory: what was read, and the objects of the callee's own
 have hmem : ∀ a u, s2.m a = some u -> (s'.m a = some u) \/ (w'.cell? a = some u /\ ∃ id, s.nx <= id /\ s'.H id ≠ none /\ blockOf (s'.κ id) = some a.block) := by
  intro a u hu
  have hu : (s1.shut w').m a = some u := hu
  simp only [RS.shut] at hu
  split at hu
  ·rename_i ho
   obtain ⟨id, hid, h5, h6⟩ := ho
   have h5 : hiH s.nx s'.H id ≠ none := h5
   unfold hiH at h5
   split at h5
   ·rename_i hge
    exact .inr ⟨hu, id, hge, h5, h6⟩
   ·exact (h5 rfl).elim
  ·exact .inl hu
 have hcut : ∀ (d : D) (v : Value), lowD s.nx d = true -> rel s' d v -> rel s2 d v := zg4 (s := s') (s' := s2) hm2 (Nat.le_refl _) hH
 refine ⟨v, r, s2, he, ⟨rfl, rfl, s'.H, hK, rfl⟩, ?_, ?_, z1r (s := s1.shut w') (s' := s2) (fun _ _ h => h) _ _ hr hr2⟩
 ·refine ⟨hstep.os, hstep.tape, hstep.output, hstep.size, Nat.le_refl _, fun a u hm => hm2 a u (hstep.mem a u hm), fun a u hu => ?_, fun id hid => by rw [(hH id hid).1]; exact hstep.objs id hid, hstep.keep, fun k hk' => hstep.own k (hown' k hk')⟩
  rcases hmem a u hu with h5 | ⟨_, id, hge, h6, h7⟩
  ·exact hstep.new a u h5
  ·rcases hstep.own a.block ⟨id, hRH.fresh h6, h6, h7⟩ with h8 | h8
   ·exact .inr (.inr h8)
   ·exact .inr (.inl h8)
 ·refine ⟨fun a u hu => ?_, fun id o ho => ?_, fun i j hi hj hij hb => ?_, fun g => ?_⟩
  ·rcases hmem a u hu with h5 | ⟨h5, id, hge, h6, h7⟩
   ·exact ⟨(hRH.mem a u h5).1, fun ho => (hRH.mem a u h5).2 (hown' _ ho)⟩
   ·refine ⟨h5, fun ho => ?_⟩
    obtain ⟨j, hj, h8, h9⟩ := hown _ ho
    exact hRH.apart j id h8 h6 (by omega) (by rw [h9]; simp) (by rw [h9, h7])
  ·have hid : id < s.nx := by
    rcases Nat.lt_or_ge id s.nx with h9 | h9
    ·exact h9
    ·have : s2.H id = none := if_neg (by omega)
     rw [this] at ho; cases ho
   rw [(hH id hid).1] at ho
   refine ⟨hid, zg5 (s := s') (s' := s2) (n := s.nx) hm2 (Nat.le_refl _) hH ?_ (hRH.obj id o ho).2⟩
   rcases hlow id o hid ho with h9 | h9
   ·exact zg3 (s := s) (h3.obj id o h9).2
   ·exact h9
  ·have lt : ∀ i, s2.H i ≠ none -> i < s.nx /\ s'.H i ≠ none := fun i hi => by
    rcases Nat.lt_or_ge i s.nx with h9 | h9
    ·exact ⟨h9, by rw [<- (hH i h9).1]; exact hi⟩
    ·exact (hi (if_neg (by omega))).elim
   exact hRH.apart i j (lt i hi).2 (lt j hj).2 hij hb
  ·exact hcut _ _ (z6x _ _ (z4s g)) (hRH.glob g)
theorem zo0 {f : FuncId} {ds : List D} {H : HM} {nx k : Nat} {r : D} (hr : pureD r = true)
  (h : AC P f ds H nx fun r' H' _ => (∃ d, z2m P (hiH nx H') k r' = some d /\ Le d r) /\ ∀ id, id < nx -> H' id = H id) : RC P f ds H nx r := by
 have h1 := ztk hr h (fun H' O id o hid ho => .inl (by rw [<- O id hid]; exact ho))
 refine ⟨h1.1, fun s w vs e1 e2 e3 e4 => (h1.2 s w vs e1 e2 e3 e4).mono fun e w' ⟨v, r1, s1, he, ⟨hr', hnx, H', O, hcut⟩, hstep, hRH, hrel⟩ => ⟨v, r1, s1, he, ⟨hr', ?_, hnx⟩, hstep, hRH, hrel⟩⟩
 subst e1; subst e2
 rw [hcut]; exact zph e3 O
theorem cut_upd {s : RS} {w : World} (hRH : RH P s w) {H' : HM} {i : Nat} {o' : HObj} (hi : i < s.nx) (hu : H' i = some o') (O : ∀ id, id < s.nx -> id ≠ i -> H' id = s.H id) : znm s.nx H' = z10 s.H i (some o') := by
 funext id
 unfold znm z10
 by_cases e : id = i
 ·subst e; rw [if_pos hi, if_pos rfl]; exact hu
 ·rw [if_neg e]
  split
  ·rename_i hlt; exact O id hlt e
  ·rename_i hlt
   cases hH : s.H id with
   | none => rfl
   | some o => have := (hRH.obj id o hH).1; omega
theorem TC_fin {f : FuncId} {ds : List D} {k i : Nat} {r : D} {o o' : HObj} (hr : pureD r = true) (ho : ∀ n, i < n -> lowO n o' = true)
  (h : ∀ H nx, i < nx -> H i = some o -> AC P f ds H nx fun r' H' _ => (∃ d, z2m P (hiH nx H') k r' = some d /\ Le d r) /\ (H' i = some o' /\ ∀ id, id < nx -> id ≠ i -> H' id = H id)) : TC P f ds i o o' r := by
 intro H nx hi hH
 have h1 := ztk hr (h H nx hi hH) (fun H' ⟨hu, O⟩ id o1 hid ho2 => by
  by_cases e : id = i
  ·subst e; rw [hu] at ho2; cases ho2; exact .inr (ho _ hi)
  ·exact .inl (by rw [<- O id hid e]; exact ho2))
 refine ⟨h1.1, fun s w vs e1 e2 e3 e4 => (h1.2 s w vs e1 e2 e3 e4).mono fun e w' ⟨v, r1, s1, he, ⟨hr', hnx, H', ⟨hu, O⟩, hcut⟩, hstep, hRH, hrel⟩ => ⟨v, r1, s1, he, ⟨hr', ?_, hnx⟩, hstep, hRH, hrel⟩⟩
 subst e1; subst e2
 rw [hcut]; exact cut_upd e3 hi hu O
end Go.Proofs.YtfechgagcgbldaaGreatDoor.Abs
namespace Go.Proofs.YtfechgagcgbldaaGreatDoor.Abs
open Go.RowKit
variable {P : Program}
theorem zzx {st : St} {b : Nat} {e : TypeId} {cs cs' : List D} (hb : st.H b = some (.box e cs)) (hl : LeL cs cs') :
  SealTo P st { st with H := z10 st.H b (some (.box e cs')) } := by
 intro N s a w hf
 have hHb : s.H b = some (.box e cs) := by rw [hf.H]; exact hb
 obtain ⟨_, q2⟩ := hf.heap.obj b _ hHb
 obtain ⟨g3, g4⟩ := z72 (w' := w) hf.heap b _ (.box e cs') (s.κ b) hHb rfl rfl rfl (Nat.le_refl _) (fun _ _ _ => rfl) (.inr ⟨_, rfl, rfl⟩) (fun b hb => .inl hb) (fun hL => by
  obtain ⟨b', vs, u1, u2, u3, u4⟩ := q2
  exact ⟨b', vs, u1, u2, relAll.later hL _ _ (z93 hl u3), u4⟩)
 refine ⟨_, ⟨?_, ?_, hf.size, hf.defers, fun i => rel.later g3.later _ _ (hf.tmps i), g4⟩, g3⟩
 ·simp only [RS.set, hf.H]
 ·simp only [RS.set, hf.nx]
theorem z02 {k nx : Nat} (h : k < nx) : (nx == nx + 1) = false /\ (nx == nx + 2) = false /\ (nx == nx + 3) = false /\ (nx + 1 == nx) = false /\ (nx + 2 == nx) = false /\ (nx + 3 == nx) = false /\ (nx + 1 == nx + 2) = false /\ (nx + 2 == nx + 1) = false /\ (nx + 1 == nx + 3) = false /\ (nx + 3 == nx + 1) = false /\ (nx + 2 == nx + 3) = false /\ (nx + 3 == nx + 2) = false /\
  (k == nx) = false /\ (nx == k) = false /\ (k == nx + 1) = false /\ (nx + 1 == k) = false /\ (k == nx + 2) = false /\ (nx + 2 == k) = false /\ (k == nx + 3) = false /\ (nx + 3 == k) = false := by
 have key : ∀ a b : Nat, ¬ a = b -> (a == b) = false := fun a b h => by simpa using h
 exact ⟨key _ _ (by omega), key _ _ (by omega), key _ _ (by omega), key _ _ (by omega), key _ _ (by omega), key _ _ (by omega), key _ _ (by omega), key _ _ (by omega), key _ _ (by omega), key _ _ (by omega), key _ _ (by omega), key _ _ (by omega), key _ _ (by omega), key _ _ (by omega), key _ _ (by omega), key _ _ (by omega), key _ _ (by omega), key _ _ (by omega), key _ _ (by omega), key _ _ (by omega)⟩
def noBox : HObj -> Bool
 | .box .. => false
 | _ => true
theorem zrs (st : St) {objs : List HObj} (hr : objs.all noBox = true) : z90 st (zjq st.H st.nx objs) (st.nx + objs.length) := by
 refine ⟨Nat.le_add_right _ _, fun id => ⟨fun hlt e cs h => ?_, fun hlt e cs h => ?_⟩⟩
 ·rw [zg2, if_neg (by omega)]; exact h
 ·rw [zg2] at h
  split at h
  ·obtain ⟨hl, he⟩ := List.getElem?_eq_some_iff.1 h
   have := List.all_eq_true.1 hr _ (List.getElem_mem hl)
   rw [he] at this; cases this
  ·exact ⟨by omega, h⟩
theorem z9p {own : List Nat} {objs : List HObj} {r : D} {n : FuncId} {args cap : List D} {g : List Oper -> (St -> Prop) -> St -> Prop} {rest : List Oper} {K : St -> Prop} {st : St} {dst : Option Nat} (h : OC P n (args ++ cap) objs r) (h0 : z0c 5000000 own dst = false) (hm : z0c 4000000 own dst = true) (hr : objs.all noBox = true)
  (O : g rest K ((st.withH (zjq st.H st.nx objs) (st.nx + objs.length)).put dst (renD (fun j => st.nx + j) r))) (ht : tcM own dst = none := by rfl) (hN : z0c 10000000 own dst = false := by rfl) : zw5 P own (.fn n cap) args g rest K st dst :=
 .inr (.inr ⟨h0, hm, _, _, _, h.2.2.2 st.H st.nx, .inl ⟨ht, .inl ⟨hN, zrs st hr⟩⟩, O⟩)
end Go.Proofs.YtfechgagcgbldaaGreatDoor.Abs
namespace Go.Proofs.YtfechgagcgbldaaGreatDoor.Abs
open Go.RowKit
variable {P : Program}
def Sem (P : Program) (N : Nat) (c : Code) (Q : Exit -> St -> Prop) (st : St) : Prop :=
 ∀ s0 w0 s a w, Fr P N st s a w -> Step s0 w0 s w -> c.wp P (lift P N s0 w0 Q) a w
theorem Sem.walk {N : Nat} {own : List Nat} {c : Code} {Q : Exit -> St -> Prop} {st : St} (hm : P.follows .mixedOrders = true) (hok : z6c N c = true) (h : awp P own c Q st) : Sem P N c Q st :=
 fun _ _ s a w hf hs => z4c hm c Q st s a w hok h hf hs
theorem Sem.seq {N : Nat} {x y : Code} {Q : Exit -> St -> Prop} {st : St} (h : Sem P N x (zm6 (fun st => Sem P N y Q st) Q) st) : Sem P N (.seq x y) Q st := by
 intro s0 w0 s a w hf hs
 refine wp_seq (wp_mono (h s0 w0 s a w hf hs) ?_)
 rintro e a' w' ⟨st', s', hq, hf', hs'⟩
 cases e with
 | normal => exact hq s0 w0 s' a' w' hf' hs'
 | exit id => exact ⟨st', s', hq, hf', hs'⟩
 | goto l => exact ⟨st', s', hq, hf', hs'⟩
 | ret => exact ⟨st', s', hq, hf', hs'⟩
 | panic ch => exact ⟨st', s', hq, hf', hs'⟩
 | outgrown => exact ⟨st', s', hq, hf', hs'⟩
theorem Sem.cond {N : Nat} {c : Operand} {x y : Code} {Q : Exit -> St -> Prop} {st : St} (t : Bool) (ht : st.ev c = .bool t) (h1 : t = true -> Sem P N x Q st) (h2 : t = false -> Sem P N y Q st) : Sem P N (.cond c x y) Q st := by
 intro s0 w0 s a w hf hs
 have hv := hf.ev c
 rw [ht] at hv
 simp only [rel] at hv
 exact wp_cond_split hv (fun e => h1 e s0 w0 s a w hf hs) (fun e => h2 e s0 w0 s a w hf hs)
theorem Sem.seal {N : Nat} {c : Code} {Q : Exit -> St -> Prop} {st : St} (st' : St) (hs : SealTo P st st') (h : Sem P N c Q st') : Sem P N c Q st := by
 intro s0 w0 s a w hf hs0
 obtain ⟨s', hf', hs'⟩ := hs N s a w hf
 exact h s0 w0 s' a w hf' (hs0.trans hs')
theorem z8n {f : FuncId} {fn : Func} {c : Code} (hf : P.funcs[f]? = some fn) (hb : fn.body = some c) (hname : (fn.name == "runtime.NumGoroutine") = false)
  {ds : List D} {H : HM} {nx : Nat} {K : D -> HM -> Nat -> Prop} (hds : ds.length <= fn.ntmps) (h : Sem P fn.ntmps c (retQ P fn.results.toList K) (st0 ds H nx)) : AC P f ds H nx K := by
 refine ⟨⟨fn, hf, hname, by rw [hb]; rfl⟩, fun s w vs hH hnx hRH hr => ?_⟩
 have hlen := z03 hr
 refine calls_of_wp hf hb ?_
 have hfr : Fr P fn.ntmps (st0 ds H nx) s { tmps := vs.toArray ++ Array.replicate (fn.ntmps - vs.toArray.size) undef, defers := [] } w := by
  refine ⟨hH, hnx, by simp; omega, rfl, fun i => ?_, hRH⟩
  simp only [st0]
  cases V : ds[i]? with
  | none => simp [rel]
  | some d =>
   obtain ⟨v, hv, hrel⟩ := z1s hr i d V
   have hi : i < vs.length := by
    rcases Nat.lt_or_ge i vs.length with h | h
    ·exact h
    ·rw [List.getElem?_eq_none h] at hv; cases hv
   simp only [Array.getD_eq_getD_getElem?, Option.getD_some]
   rw [Array.getElem?_append_left (by simpa using hi)]
   simp only [List.getElem?_toArray, hv, Option.getD_some]
   exact hrel
 refine wp_mono (h s w s _ w hfr (Step.refl s w)) ?_
 rintro e a' w' ⟨st', s', hq, hf', hs'⟩
 cases e with
 | normal =>
  obtain ⟨r, hr, hK⟩ := hq
  obtain ⟨v, h1, h2⟩ := z5i hf' hr
  exact ⟨hf'.defers, v, h1, v, r, s', rfl, by rw [hf'.H, hf'.nx]; exact hK, hs', hf'.heap, h2⟩
 | ret =>
  obtain ⟨r, hr, hK⟩ := hq
  obtain ⟨v, h1, h2⟩ := z5i hf' hr
  exact ⟨hf'.defers, v, h1, v, r, s', rfl, by rw [hf'.H, hf'.nx]; exact hK, hs', hf'.heap, h2⟩
 | exit id => exact hq.elim
 | goto l => exact hq.elim
 | panic ch => exact hq.elim
 | outgrown => exact hq.elim
section
variable {st : St} {dst : Option Nat} {n : FuncId} {cap args : List D} {g : List Oper -> (St -> Prop) -> St -> Prop} {rest : List Oper} {K : St -> Prop}
end
end Go.Proofs.YtfechgagcgbldaaGreatDoor.Abs
namespace Go.Proofs.YtfechgagcgbldaaGreatDoor.Abs
open Go.RowKit
variable {P : Program}
theorem zed {n : Nat} {o : HObj} (h : z77 o = true) : lowO n o = true := by
 cases o with
 | box e cs => exact z22 n cs h
 | row e k cs => exact z22 n cs h
 | map es =>
  simp only [z77, Bool.and_eq_true] at h
  simp only [lowO, z22 n _ h.1, z22 n _ h.2, Bool.and_self]
 | raw o => rfl
end Go.Proofs.YtfechgagcgbldaaGreatDoor.Abs
namespace Go.Proofs.YtfechgagcgbldaaGreatDoor.Abs
open Go.RowKit
variable {P : Program}
theorem Sem.block {N id : Nat} {c : Code} {Q : Exit -> St -> Prop} {st : St} (h : Sem P N c (znd id Q) st) : Sem P N (.block id c) Q st := by
 intro s0 w0 s a w hf hs
 refine wp_block (wp_mono (h s0 w0 s a w hf hs) ?_)
 rintro e a' w' ⟨st', s', hq, hf', hs'⟩
 cases e with
 | exit id' =>
  simp only [znd] at hq
  simp only [Exit.inBlock]
  split
  ·rename_i he; rw [if_pos he] at hq; exact ⟨st', s', hq, hf', hs'⟩
  ·rename_i he; rw [if_neg he] at hq; exact ⟨st', s', hq, hf', hs'⟩
 | normal => exact ⟨st', s', hq, hf', hs'⟩
 | goto l => exact ⟨st', s', hq, hf', hs'⟩
 | ret => exact ⟨st', s', hq, hf', hs'⟩
 | panic ch => exact ⟨st', s', hq, hf', hs'⟩
 | outgrown => exact ⟨st', s', hq, hf', hs'⟩
theorem Sem.mono {N : Nat} {c : Code} {Q Q' : Exit -> St -> Prop} {st : St} (h : Sem P N c Q st) (hq : ∀ e st, Q e st -> Q' e st) : Sem P N c Q' st := fun s0 w0 s a w hf hs =>
 wp_mono (h s0 w0 s a w hf hs) fun _ _ _ ⟨st', s', h1, h2, h3⟩ => ⟨st', s', hq _ _ h1, h2, h3⟩
theorem zal {N : Nat} {own : List Nat} {ops : Array Oper} {K : St -> Prop} {Q : Exit -> Act -> World -> Prop} {r : List Oper} : ∀ (l : List Oper) (st : St) (s : RS) (a : Act) (w : World),
  (∀ o ∈ l, z3p N o = true) -> z1v P own (zn5 ops) l K st -> Fr P N st s a w ->
  (∀ st' s' a' w', K st' -> Fr P N st' s' a' w' -> Step s w s' w' -> wpList P ops Q r a' w') -> wpList P ops Q (l ++ r) a w
 | [], st, s, a, w, _, h, hf, O => O st s a w h hf (Step.refl s w)
 | o :: rest, st, s, a, w, hdst, h, hf, O => by
  have ho := hdst o (by simp)
  have hrest : ∀ o' ∈ rest, z3p N o' = true := fun o' h' => hdst o' (List.mem_cons_of_mem _ h')
  simp only [z1v] at h
  rw [List.cons_append]
  unfold wpList
  rw [zfq] at h
  split at h
  ·rename_i hg
   rw [if_pos (z40 hf hg)]
   exact .inl (zfp hf ho h fun st' s' a' w' hK hf' hstep =>
    zal rest st' s' a' w' hrest hK hf' fun st2 s2 a2 w2 hK2 hf2 hstep2 => O st2 s2 a2 w2 hK2 hf2 (hstep.trans hstep2))
  ·rename_i hg
   rw [if_neg (by rw [z40 hf hg]; simp)]
   exact zal rest _ s _ w hrest h (hf.put0 ho zfo) O
  ·cases h
theorem z7a {N : Nat} {ops : Array Oper} {Q : Exit -> Act -> World -> Prop} {rest : List Oper} {o : Oper} {st : St} {s : RS} {a : Act} {w w' : World} {v : Value} (hf : Fr P N st s a w) (hg : o.guard = none)
  (hrun : (execOp a.eval o).run P w = .ok (.value v) w') (O : wpList P ops Q rest (a.put o.dst v) w') : wpList P ops Q (o :: rest) a w := by
 unfold wpList
 rw [if_pos (z40 hf (g := true) (by unfold z7k; rw [hg]))]
 refine .inl ?_
 unfold Oper.wp
 rw [hrun, Oper.upon_value]
 exact O
theorem RS.set_self {s : RS} {w : World} {id : Nat} {o o' : HObj} (h : RH P s w) (hid : s.H id = some o) (hle : z7g o = true) (hle' : z7g o' = true) (hok : Later s (s.set id (s.κ id) o') -> objOK P (s.set id (s.κ id) o') w (s.κ id) o') :
  Step s w (s.set id (s.κ id) o') w /\ RH P (s.set id (s.κ id) o') w :=
 z72 h id o o' (s.κ id) hid rfl rfl rfl (Nat.le_refl _) (fun _ _ _ => rfl) (zdi hle (.inr ⟨o', rfl, hle', rfl⟩)) (fun b hb => .inl hb) hok
def rndK (b1 : Nat) (I : St -> Prop) (Q : Exit -> St -> Prop) : Exit -> St -> Prop
 | .normal, st => I st
 | .exit id, st => id = b1 /\ I st
 | .ret, st => Q .ret st
 | _, _ => False
section
variable {N : Nat} {own : List Nat} {i0 b i1 b1 i4 : Nat} {ops0 ops1 ops4 : Array Oper} {pre : List Oper} {t7 t8 t9 t10 : Nat} {T : TypeId} {x : Operand} {rest4 : List Oper} {body : Code} {Q : Exit -> St -> Prop} {st : St}
def ztv (st1 : St) (m t7 : Nat) (M J : HObj) : St := (st1.withH (z10 (z10 st1.H m (some M)) st1.nx (some J)) (st1.nx + 1)).put (some t7) (.it st1.nx)
def ztw (st1 : St) (it t8 t9 t10 : Nat) (J : HObj) (k v : D) : St := (((st1.withH (z10 st1.H it (some J)) st1.nx).put (some t8) (.tup [.bool true, k, v])).put (some t9) (.bool true)).put (some t10) (.tup [k, v])
def zmd (st1 : St) (m t8 t9 : Nat) (es : List (D × D)) : St := ((st1.put (some t8) (.tup [.bool false])).put (some t9) (.bool false)).withH (z10 st1.H m (some (.map es))) st1.nx
def RngOK (P : Program) (own : List Nat) (m : Nat) (es : List (D × D)) (t7 t8 t9 t10 b1 : Nat) (gs : List (Option Nat)) (rest4 : List Oper) (body : Code) (Q : Exit -> St -> Prop) (st1 : St) : Prop :=
 ∀ (M : HObj) (J : List Nat -> HObj), ∃ I : List Nat -> St -> Prop,
  (∀ l s, I l s -> s.H m = some M /\ s.H st1.nx = some (J l) /\ s.t t7 = .it st1.nx) /\
  I [] (ztv st1 m t7 M (J [])) /\
  (∀ l s i k v, I l s -> l.Nodup -> (∀ j ∈ l, j < es.length) -> i ∉ l -> es[i]? = some (k, v) ->
   z1v P own gs rest4 (fun s' => awp P own body (rndK b1 (I (l ++ [i])) Q) s') (ztw s st1.nx t8 t9 t10 (J (l ++ [i])) k v)) /\
  ∀ l s, I l s -> l.Nodup -> (∀ j ∈ l, j < es.length) -> (∀ i, i < es.length -> i ∈ l) -> Q .normal (zmd s m t8 t9 es)
theorem ztx {s : RS} {es : List (D × D)} {ens : List MapEntry} (h1 : relAll s (es.map (·.1)) (ens.map (·.key))) (h2 : relAll s (es.map (·.2)) (ens.map (·.val))) :
  es.length = ens.length /\ ∀ (i : Nat) (e : MapEntry), ens[i]? = some e -> ∃ k v, es[i]? = some (k, v) /\ rel s k e.key /\ rel s v e.val := by
 have hl := z03 h1
 simp only [List.length_map] at hl
 refine ⟨hl.symm, fun i e he => ?_⟩
 have hi : i < es.length := by rw [<- hl]; exact (List.getElem?_eq_some_iff.1 he).1
 obtain ⟨u1, g1, g2⟩ := z1s h1 i es[i].1 (by simp [hi])
 obtain ⟨u2, g3, g4⟩ := z1s h2 i es[i].2 (by simp [hi])
 rw [List.getElem?_map, he, Option.map_some, Option.some.injEq] at g1 g3
 subst g1; subst g3
 exact ⟨es[i].1, es[i].2, by rw [List.getElem?_eq_getElem hi], g2, g4⟩
theorem zib {gs : List (Option Nat)} {o : Oper} {K : St -> Prop} {st : St} {d : D} {ds : List D} (ho : o.op = .extract (.tmp t8) 0) (hg : o.guard = none) (h : st.t t8 = .tup (d :: ds)) (O : K (st.put o.dst d)) : z1v P own gs [o] K st := by
 unfold z1v zbw
 rw [hg]
 simp only [z1v]
 unfold opW
 rw [ho]
 simp only
 unfold opR
 rw [ho]
 simp only [St.ev, h, List.getElem?_cons_zero, St.keep, Option.map_some]
 exact O
theorem put_t (st : St) (i : Nat) (d : D) : (st.put (some i) d).t i = d := by simp [St.put, zxq]
theorem zdc {a : Act} {i : Nat} {v : Value} (h : i < a.tmps.size) : (a.put (some i) v).eval (.tmp i) = v := by
 simp [Act.put, Act.eval, Array.getD_eq_getD_getElem?, h]
theorem zbd {a : Act} {i j : Nat} {v : Value} (h : j ≠ i) : (a.put (some i) v).eval (.tmp j) = a.eval (.tmp j) := by
 simp [Act.put, Act.eval, Array.getD_eq_getD_getElem?, Array.getElem?_setIfInBounds_ne (Ne.symm h)]
theorem Sem.rangeMap (hm0 : P.follows .mixedOrders = true) {o0 o1 o2 o4 : Oper} (e0 : o0.op = .range T x /\ o0.dst = some t7 /\ o0.guard = none) (e1 : o1.op = .next (.tmp t7) false /\ o1.dst = some t8 /\ o1.guard = none)
  (e2 : o2.op = .extract (.tmp t8) 0 /\ o2.dst = some t9 /\ o2.guard = none) (e4 : o4.op = .entry (.tmp t7) /\ o4.dst = some t10 /\ o4.guard = none)
  (h0 : ops0.toList = pre ++ [o0]) (h1 : ops1.toList = [o1, o2]) (h4 : ops4.toList = o4 :: rest4) {kt et : TypeId} (hT : z3m P T = some (kt, et))
  (hN : t7 < N /\ t8 < N /\ t9 < N /\ t10 < N /\ t7 ≠ t8 /\ t7 ≠ t9) (V : ∀ o ∈ pre, z3p N o = true) (hd4 : ∀ o ∈ rest4, z3p N o = true) (hb : z6c N body = true)
  (hpre : z1v P own (zn5 ops0) pre (fun st1 => ∃ m es, st1.ev x = .mp m /\ st1.H m = some (.map es) /\ RngOK P own m es t7 t8 t9 t10 b1 (zn5 ops4) rest4 body Q st1) st) :
  Sem P N (.seq (.region i0 ops0 false) (.block b (.loop (.seq (.region i1 ops1 false) (.seq (.cond (.tmp t9) .skip (.exit b)) (.block b1 (.seq (.region i4 ops4 false) body))))))) Q st := by
 intro s0 w0 s a w hf hs
 obtain ⟨n7, n8, n9, n10, n78, n79⟩ := hN
 have d0 : z3p N o0 = true := by unfold z3p; rw [e0.2.1]; simpa using n7
 have d1 : z3p N o1 = true := by unfold z3p; rw [e1.2.1]; simpa using n8
 have d2 : z3p N o2 = true := by unfold z3p; rw [e2.2.1]; simpa using n9
 have d4 : z3p N o4 = true := by unfold z3p; rw [e4.2.1]; simpa using n10
 refine wp_seq (wp_region_list ?_)
 rw [h0]
 refine zal pre st s a w V hpre hf fun st1 s1 a1 w1 ⟨m, es, hx, hH, hR⟩ hf1 hs1 => ?_
 have hs01 := hs.trans hs1
 have hHs : s1.H m = some (.map es) := by rw [hf1.H]; exact hH
 obtain ⟨hmn, rm, ens, clock, hκ, hheap, hk1, hk2, hst⟩ := hf1.heap.obj m _ hHs
 have hxv := hf1.ev x
 rw [hx] at hxv
 simp only [rel] at hxv
 have hxv := hxv.2.2 _ hHs rfl
 rw [hκ] at hxv
 obtain ⟨hlen, hent⟩ := ztx hk1 hk2
 obtain ⟨g1, g2⟩ := RS.set_self (o' := .raw (.map ens clock)) hf1.heap hHs rfl rfl (fun _ => ⟨rm, .inr hκ, hheap⟩)
 obtain ⟨g3, g4⟩ := z58 g2 (Grew.alloc w1 (.mapIter (some rm) clock #[] clock)) (.raw (.mapIter (some rm) clock #[] clock)) (.pointer (some ⟨w1.heap.size, 0, none⟩)) (fun b hb => by simp only [blockOf, Option.some.injEq] at hb; omega)
  ⟨w1.heap.size, .inl rfl, by simpa using heap_alloc_new w1 (.mapIter (some rm) clock #[] clock)⟩
 have hrun : (execOp a1.eval o0).run P w1 = .ok (.value (.pointer (some ⟨w1.heap.size, 0, none⟩))) (w1.alloc (.mapIter (some rm) clock #[] clock)) := by
  unfold execOp
  rw [e0.1]
  simp [hxv, run_range_map w1 T kt et rm ens clock (zbq hT) hheap]
 refine z7a hf1 e0.2.2 hrun ?_
 show Exit.then _ _ .normal _ _
 unfold Exit.then
 simp only
 generalize hs3e : (s1.set m (s1.κ m) (.raw (.map ens clock))).add (.pointer (some ⟨w1.heap.size, 0, none⟩)) (.raw (.mapIter (some rm) clock #[] clock)) = s3 at g3 g4
 generalize hw3e : w1.alloc (.mapIter (some rm) clock #[] clock) = w3 at g3 g4
 have hnx3 : s3.nx = st1.nx + 1 := by rw [<- hs3e, <- hf1.nx]; rfl
 have hH3 : s3.H = z10 (z10 st1.H m (some (.raw (.map ens clock)))) st1.nx (some (.raw (.mapIter (some rm) clock #[] clock))) := by
  rw [<- hs3e, <- hf1.nx, <- hf1.H]; rfl
 have hmlt : m ≠ st1.nx := by rw [<- hf1.nx]; omega
 have h3m : s3.H m = some (.raw (.map ens clock)) := by rw [hH3]; simp [z10, hmlt]
 have h3i : s3.H st1.nx = some (.raw (.mapIter (some rm) clock #[] clock)) := by rw [hH3]; simp [z10]
 have k3m : s3.κ m = .map (some rm) := by
  rw [<- hs3e]
  simp only [RS.add, RS.set]
  rw [if_neg (by omega)]
  simpa using hκ
 have k3i : s3.κ st1.nx = .pointer (some ⟨w1.heap.size, 0, none⟩) := by
  rw [<- hs3e, <- hf1.nx]
  simp [RS.add, RS.set]
 have hst3 := (g1.trans g3)
 have hf3 : Fr P N (ztv st1 m t7 (.raw (.map ens clock)) (.raw (.mapIter (some rm) clock #[] clock))) s3 (a1.put o0.dst (.pointer (some ⟨w1.heap.size, 0, none⟩))) w3 := by
  have h := hf1.put hst3.later g4 d0 (d := .it st1.nx) (v := .pointer (some ⟨w1.heap.size, 0, none⟩)) (by
   simp only [rel]
   exact ⟨by rw [hnx3]; omega, ⟨_, rfl⟩, fun _ _ _ => k3i.symm⟩) hH3 hnx3
  rw [e0.2.1] at h
  rw [e0.2.1]
  exact h
 clear hs3e hw3e hrun
 have hs03 := hs01.trans hst3
 obtain ⟨I, hI1, hI2, hI3, hI4⟩ := hR (.raw (.map ens clock)) (fun l => .raw (.mapIter (some rm) clock (l.map fun i => (ens.toList.map (·.born)).getD i 0).toArray clock))
 refine wp_block (zlf (fun n a w => ∃ l st s, I l st /\ Fr P N st s a w /\ Step s0 w0 s w /\ Step s3 w3 s w /\ l.Nodup /\ (∀ j ∈ l, j < es.length) /\ n = ((List.range es.length).filter fun j => !decide (j ∈ l)).length) ?_ _ _ _ ⟨[], _, s3, hI2, hf3, hs03, Step.refl _ _, by simp, by simp, rfl⟩)
 clear hf3
 rintro n a w ⟨l, st, s, hI, hf, hs, hs3, hnd, hlt, rfl⟩
 obtain ⟨q1, q2, q3⟩ := hI1 l st hI
 rw [<- hf.H] at q1 q2
 have keep : ∀ id q q', id < s3.nx -> s3.H id = some q -> z7g q = true -> s.H id = some q' -> s.κ id = s3.κ id := fun id q q' hid h1 h2 h3 => by
  have h := hs3.objs id hid
  rw [h1, h3] at h
  rcases z2t h2 h with h | ⟨_, _, _, h⟩
  ·cases h
  ·exact h
 have km : s.κ m = .map (some rm) := (keep m _ _ (by rw [hnx3]; have := hf1.nx; omega) h3m rfl q1).trans k3m
 have ki : s.κ st1.nx = .pointer (some ⟨w1.heap.size, 0, none⟩) := (keep _ _ _ (by rw [hnx3]; omega) h3i rfl q2).trans k3i
 obtain ⟨_, r1, hr1, hbm⟩ := hf.heap.obj m _ q1
 have er1 : r1 = rm := by
  rw [km] at hr1
  rcases hr1 with hr1 | hr1
  ·cases hr1
  ·cases hr1; rfl
 subst er1
 obtain ⟨_, r2, hr2, hbi⟩ := hf.heap.obj _ _ q2
 have er2 : r2 = w1.heap.size := by
  rw [ki] at hr2
  rcases hr2 with hr2 | hr2
  ·cases hr2; rfl
  ·cases hr2
 subst er2
 have hv7 : a.eval (.tmp t7) = .pointer (some ⟨w1.heap.size, 0, none⟩) := by
  have h := hf.ev (.tmp t7)
  simp only [St.ev, q3, rel] at h
  rw [h.2.2 _ q2 rfl, ki]
 have hseen : ∀ i (hi : i < ens.size), (l.map fun i => (ens.toList.map (·.born)).getD i 0).toArray.contains ens[i].born = decide (i ∈ l) := by
  intro i hi
  rw [Bool.eq_iff_iff, decide_eq_true_eq]
  simp only [List.contains_toArray, List.contains_iff_mem, List.mem_map]
  constructor
  ·rintro ⟨j, hj, he⟩
   have hjl : j < ens.size := by have := hlt j hj; rw [hlen] at this; simpa using this
   have e1 : (ens.toList.map (·.born)).getD j 0 = (ens.toList.map (·.born))[j]'(by simpa using hjl) := by simp [List.getD, hjl]
   have e2 : ens[i].born = (ens.toList.map (·.born))[i]'(by simpa using hi) := by simp
   rw [e1, e2] at he
   have := (List.getElem_inj hst.2).1 he
   rw [<- this]; exact hj
  ·intro h
   exact ⟨i, h, by simp [List.getD, hi]⟩
 refine wp_seq (wp_region_list ?_)
 rw [h1]
 rcases run_next_at (P := P) w o1.type w1.heap.size r1 clock clock (l.map fun i => (ens.toList.map (·.born)).getD i 0).toArray ens clock hbi hbm hst.1 (Nat.le_refl _) with ⟨h0, hrun⟩ | ⟨e, he, w', hw', hrun⟩
 ·-- all are done
  have hrun' : (execOp a.eval o1).run P w = .ok (.value (.tuple #[.bool false])) w := by
   unfold execOp
   rw [e1.1]
   simp [hv7, hrun]
  refine z7a hf e1.2.2 hrun' ?_
  have hf8 := hf.put0 d1 (d := .tup [.bool false]) (v := .tuple #[.bool false]) (by simp only [rel]; exact ⟨[.bool false], rfl, z0d (by simp [rel]) z0k⟩)
  have hp : z1v P own (zn5 ops1) [o2] (fun st' => st' = (st.put o1.dst (.tup [.bool false])).put o2.dst (.bool false)) (st.put o1.dst (.tup [.bool false])) :=
   zib e2.1 e2.2.2 (by rw [e1.2.1, put_t]) rfl
  refine z7l [o2] _ _ _ _ (fun o ho => by rw [List.mem_singleton] at ho; subst ho; exact d2) hp hf8 ?_
  ·intro st' s' a' w' hst' hf' hs'
   subst hst'
   show Exit.then _ _ .normal _ _
   unfold Exit.then
   simp only
   refine wp_seq (wp_cond_split (t := false) ?_ (fun h => by cases h) fun _ => wp_exit ?_)
   ·have h := hf'.ev (.tmp t9)
    rw [e2.2.1] at h
    simpa only [St.ev, put_t, rel] using h
   ·show Exit.inBlock b _ (.exit b) _ _
    unfold Exit.inBlock
    simp only [if_true]
    -- the map is a map again
    have hq1 : s'.H m = some (.raw (.map ens clock)) := by rw [hf'.H, zrz, zrz, <- hf.H]; exact q1
    have km' : s'.κ m = .map (some r1) := by
     have h := (hs3.trans hs').objs m (by rw [hnx3]; have := hf1.nx; omega)
     rw [h3m, hq1] at h
     rcases z2t rfl h with h | ⟨_, _, _, h⟩
     ·cases h
     ·rw [h, k3m]
    obtain ⟨_, r3, hr3, hbm3⟩ := hf'.heap.obj m _ hq1
    have er3 : r3 = r1 := by
     rw [km'] at hr3
     rcases hr3 with hr3 | hr3
     ·cases hr3
     ·cases hr3; rfl
    subst er3
    have hl := ((g1.trans g3).trans (hs3.trans hs')).later
    obtain ⟨u1, u2⟩ := RS.set_self (o' := .map es) hf'.heap hq1 rfl rfl (fun hl2 => ⟨r3, ens, clock, km', hbm3, relAll.later hl2 _ _ (relAll.later hl _ _ hk1), relAll.later hl2 _ _ (relAll.later hl _ _ hk2), hst⟩)
    refine ⟨zmd st m t8 t9 es, _, hI4 l st hI hnd hlt (fun i hi => ?_), ⟨?_, ?_, hf'.size, hf'.defers, fun i => rel.later u1.later _ _ ?_, u2⟩, (hs.trans hs').trans u1⟩
    ·have hi' : i < ens.size := by rw [hlen] at hi; simpa using hi
     have h2 := all_seen ens _ h0 ens[i] (by simp)
     rw [hseen i hi'] at h2
     simpa using h2
    ·rw [show (zmd st m t8 t9 es).H = z10 st.H m (some (.map es)) from rfl]
     rw [show (s'.set m (s'.κ m) (.map es)).H = z10 s'.H m (some (.map es)) from rfl, hf'.H, zrz, zrz]
    ·rw [show (zmd st m t8 t9 es).nx = st.nx from rfl]
     rw [show (s'.set m (s'.κ m) (.map es)).nx = s'.nx from rfl, hf'.nx, zp6, zp6]
    ·have h := hf'.tmps i
     rw [e1.2.1, e2.2.1] at h
     exact h
 ·-- one more
  obtain ⟨hem, hes⟩ := mem_left he
  obtain ⟨i, hi, hie⟩ := List.getElem_of_mem hem
  have hi' : i < ens.size := by simpa using hi
  have hie' : ens[i] = e := by simpa using hie
  have hil : i ∉ l := by
   have h := hseen i hi'
   rw [hie', hes] at h
   simpa using h.symm
  obtain ⟨k, v, hkv, rk, rv⟩ := hent i e (by rw [List.getElem?_eq_getElem hi, hie])
  have hl := ((g1.trans g3).trans hs3).later
  have rk := rel.later hl _ _ rk
  have rv := rel.later hl _ _ rv
  have hw1 : Step s w s w' /\ RH P s w' /\ w'.heap = w.heap := by
   rcases hw' with rfl | rfl
   ·exact ⟨Step.refl _ _, hf.heap, rfl⟩
   ·obtain ⟨x1, x2⟩ := z84 (w' := w.drew) hf.heap rfl rfl rfl rfl
    exact ⟨x1, x2, rfl⟩
  obtain ⟨x1, x2, x3⟩ := hw1
  have hbi' : w'.heap[w1.heap.size]? = some (.mapIter (some r1) clock (l.map fun i => (ens.toList.map (·.born)).getD i 0).toArray clock) := by rw [x3]; exact hbi
  have hset0 := MapKept.heap_set (o' := .mapIter (some r1) clock ((l.map fun i => (ens.toList.map (·.born)).getD i 0).toArray.push e.born) clock) hbi'
  have hset : (ChangeMaps.setBlock w' w1.heap.size (.mapIter (some r1) clock ((l.map fun i => (ens.toList.map (·.born)).getD i 0).toArray.push e.born) clock)).heap[w1.heap.size]? = some (.mapIter (some r1) clock ((l.map fun i => (ens.toList.map (·.born)).getD i 0).toArray.push e.born) clock) /\ ∀ q, q ≠ w1.heap.size -> (ChangeMaps.setBlock w' w1.heap.size (.mapIter (some r1) clock ((l.map fun i => (ens.toList.map (·.born)).getD i 0).toArray.push e.born) clock)).heap[q]? = w'.heap[q]? := hset0
  clear hset0
  have hpush : (l.map fun i => (ens.toList.map (·.born)).getD i 0).toArray.push e.born = ((l ++ [i]).map fun i => (ens.toList.map (·.born)).getD i 0).toArray := by
   rw [List.map_append, List.map_cons, List.map_nil, List.push_toArray]
   congr 2
   rw [<- hie']
   simp [List.getD, hi']
  have hri : w1.heap.size ≠ r1 := fun e => by rw [e, hbm] at hbi; cases hbi
  obtain ⟨u1, u2⟩ := z72 (w' := ChangeMaps.setBlock w' w1.heap.size (.mapIter (some r1) clock ((l.map fun i => (ens.toList.map (·.born)).getD i 0).toArray.push e.born) clock)) x2 st1.nx (.raw (.mapIter (some r1) clock (l.map fun i => (ens.toList.map (·.born)).getD i 0).toArray clock)) (.raw (.mapIter (some r1) clock ((l ++ [i]).map fun i => (ens.toList.map (·.born)).getD i 0).toArray clock)) (s.κ st1.nx) q2 rfl rfl rfl (by simp [ChangeMaps.setBlock])
   (fun q hq hne => hset.2 q (fun e => hne (by rw [ki, e]; rfl))) (.inr ⟨_, rfl, rfl, rfl⟩) (fun b hb => .inl hb) (fun _ => ⟨w1.heap.size, .inl ki, by rw [<- hpush]; exact hset.1⟩)
  have hrun' : (execOp a.eval o1).run P w = .ok (.value (.tuple #[.bool true, e.key, e.val])) (ChangeMaps.setBlock w' w1.heap.size (.mapIter (some r1) clock ((l.map fun i => (ens.toList.map (·.born)).getD i 0).toArray.push e.born) clock)) := by
   unfold execOp
   rw [e1.1]
   simp [hv7, hrun]
  refine z7a hf e1.2.2 hrun' ?_
  have hbm4 : (ChangeMaps.setBlock w' w1.heap.size (.mapIter (some r1) clock ((l.map fun i => (ens.toList.map (·.born)).getD i 0).toArray.push e.born) clock)).heap[r1]? = some (.map ens clock) := by
   rw [hset.2 r1 (fun e => hri e.symm), x3]; exact hbm
  have hbi4 := hset.1
  generalize ChangeMaps.setBlock w' w1.heap.size (.mapIter (some r1) clock ((l.map fun i => (ens.toList.map (·.born)).getD i 0).toArray.push e.born) clock) = w4 at u1 u2 hbm4 hbi4
  have hx4 := x1.trans u1
  have hf8 := hf.put hx4.later u2 d1 (d := .tup [.bool true, k, v]) (v := .tuple #[.bool true, e.key, e.val]) (by
   simp only [rel]
   exact ⟨[.bool true, e.key, e.val], rfl, z0d (by simp [rel]) (z0d (rel.later hx4.later _ _ rk) (z0d (rel.later hx4.later _ _ rv) z0k))⟩) (H := z10 st.H st1.nx (some (.raw (.mapIter (some r1) clock ((l ++ [i]).map fun i => (ens.toList.map (·.born)).getD i 0).toArray clock)))) (nx := st.nx) (by rw [<- hf.H]; rfl) (by rw [<- hf.nx]; rfl)
  have hev8 : (a.put o1.dst (.tuple #[.bool true, e.key, e.val])).eval (.tmp t8) = .tuple #[.bool true, e.key, e.val] := by
   rw [e1.2.1]
   exact zdc (by rw [hf.size]; exact n8)
  have hrun2 : (execOp (a.put o1.dst (.tuple #[.bool true, e.key, e.val])).eval o2).run P w4 = .ok (.value (.bool true)) w4 := by
   unfold execOp
   rw [e2.1]
   simp [hev8, Instr.extract]
  refine z7a hf8 e2.2.2 hrun2 ?_
  have hf9 := hf8.put0 d2 (d := .bool true) (v := .bool true) (by simp [rel])
  show Exit.then _ _ .normal _ _
  unfold Exit.then
  simp only
  refine wp_seq (wp_cond_split (t := true) ?_ (fun _ => wp_skip ?_) fun h => by cases h)
  ·rw [e2.2.1]
   exact zdc (by have h := hf8.size; rw [h]; exact n9)
  show Exit.then _ _ .normal _ _
  unfold Exit.then
  simp only
  refine wp_block (wp_seq (wp_region_list ?_))
  rw [h4]
  have hev7 : ((a.put o1.dst (.tuple #[.bool true, e.key, e.val])).put o2.dst (.bool true)).eval (.tmp t7) = .pointer (some ⟨w1.heap.size, 0, none⟩) := by
   rw [e1.2.1, e2.2.1, zbd n79, zbd n78]
   exact hv7
  have hrun4 : (execOp ((a.put o1.dst (.tuple #[.bool true, e.key, e.val])).put o2.dst (.bool true)).eval o4).run P w4 = .ok (.value (.tuple #[e.key, e.val])) w4 := by
   unfold execOp
   rw [e4.1]
   simp [hev7, run_entry_at (P := P) w4 w1.heap.size r1 clock (l.map fun i => (ens.toList.map (·.born)).getD i 0).toArray ens clock e hbi4 hbm4 hem hst.2]
  refine z7a hf9 e4.2.2 hrun4 ?_
  have hf10 := hf9.put0 d4 (d := .tup [k, v]) (v := .tuple #[e.key, e.val]) (by
   simp only [rel]
   exact ⟨[e.key, e.val], rfl, z0d (rel.later hx4.later _ _ rk) (z0d (rel.later hx4.later _ _ rv) z0k)⟩)
  have hst10 : ((((st.withH (z10 st.H st1.nx (some (.raw (.mapIter (some r1) clock ((l ++ [i]).map fun i => (ens.toList.map (·.born)).getD i 0).toArray clock)))) st.nx).put o1.dst (.tup [.bool true, k, v])).put o2.dst (.bool true)).put o4.dst (.tup [k, v])) = ztw st st1.nx t8 t9 t10 (.raw (.mapIter (some r1) clock ((l ++ [i]).map fun i => (ens.toList.map (·.born)).getD i 0).toArray clock)) k v := by
   rw [e1.2.1, e2.2.1, e4.2.1]; rfl
  have hbody := hI3 l st i k v hI hnd hlt hil hkv
  rw [<- hst10] at hbody
  have hil2 : i < es.length := by rw [hlen]; exact hi
  refine z7l rest4 _ _ _ _ hd4 hbody hf10 ?_
  intro st' s' a' w5 hst' hf' hs'
  show Exit.then _ _ .normal _ _
  unfold Exit.then
  simp only
  refine wp_mono (z4c hm0 body _ st' s' a' w5 hb hst' hf' ((hs3.trans hx4).trans hs')) ?_
  rintro ex a6 w6 ⟨st6, s6, hq, hf6, hs6⟩
  have done : I (l ++ [i]) st6 -> ∃ m_1, m_1 < ((List.range es.length).filter fun j => !decide (j ∈ l)).length /\ ∃ l st s, I l st /\ Fr P N st s a6 w6 /\ Step s0 w0 s w6 /\ Step s3 w3 s w6 /\ l.Nodup /\ (∀ j ∈ l, j < es.length) /\ m_1 = ((List.range es.length).filter fun j => !decide (j ∈ l)).length := by
   intro hI6
   refine ⟨_, ?_, l ++ [i], st6, s6, hI6, hf6, hs03.trans hs6, hs6, ?_, ?_, rfl⟩
   ·refine filter_lt (fun j => !decide (j ∈ l)) (fun j => !decide (j ∈ l ++ [i])) (fun j hj => ?_) i (by simp [hil]) (by simp) (List.range es.length) (List.mem_range.2 hil2)
    simp only [Bool.not_eq_true', decide_eq_false_iff_not, List.mem_append, not_or] at hj ⊢
    exact hj.1
   ·rw [List.nodup_append]
    exact ⟨hnd, by simp, fun a ha b hb e => by rw [List.mem_singleton] at hb; subst hb; subst e; exact hil ha⟩
   ·intro j hj
    rcases List.mem_append.1 hj with hj | hj
    ·exact hlt j hj
    ·rw [List.mem_singleton] at hj; subst hj; exact hil2
  cases ex with
  | normal => exact done hq
  | exit id =>
   obtain ⟨rfl, hq⟩ := hq
   show Exit.inBlock id _ (.exit id) _ _
   unfold Exit.inBlock
   simp only [if_true]
   exact done hq
  | ret => exact ⟨st6, s6, hq, hf6, hs03.trans hs6⟩
  | goto l => exact hq.elim
  | panic ch => exact hq.elim
  | outgrown => exact hq.elim
end
end Go.Proofs.YtfechgagcgbldaaGreatDoor.Abs
namespace Go.Proofs.YtfechgagcgbldaaGreatDoor.Abs
open Go.RowKit
variable {P : Program}
inductive OT where
 | run (l : List Nat)
 | fork (l : List Nat) (a b : OT)
def OT.pre (l : List Nat) : OT -> OT
 | .run m => .run (l ++ m)
 | .fork m a b => .fork (l ++ m) a b
def OT.isDone : OT -> Bool
 | .run [] => true
 | _ => false
def zdu (P : Program) (own : List Nat) (ops : Array Oper) (K : St -> Prop) : OT -> St -> Prop
 | .run l, st => z6j P own ops K l st
 | .fork l a b, st => z6j P own ops (fun st => zdu P own ops K a st /\ zdu P own ops K b st) l st
def zwh (cm : Nat -> Nat -> Bool) (i : Nat) : List Nat -> Option (List Nat)
 | [] => none
 | j :: l => if j == i then some l else if cm j i then (zwh cm i l).map (j :: ·) else none
def zsi (cm : Nat -> Nat -> Bool) (i : Nat) : OT -> Option OT
 | .run l => (zwh cm i l).map .run
 | .fork l a b => if l.contains i then (zwh cm i l).map fun m => .fork m a b else
   if l.all (fun j => cm j i) then (match zsi cm i a, zsi cm i b with
    | some t, none => some (t.pre l)
    | none, some t => some (t.pre l)
    | _, _ => none) else none
def zlk (cm : Nat -> Nat -> Bool) (ops : Array Oper) : Nat -> Array Bool -> OT -> Bool
 | 0, listed, t => (Region.ready .any ops listed).isEmpty && t.isDone
 | n + 1, listed, t => if (Region.ready .any ops listed).isEmpty then t.isDone else (Region.ready .any ops listed).all fun i => match zsi cm i t with
  | some t' => decide (i < ops.size) && zlk cm ops n (listed.setIfInBounds i true) t'
  | none => false
section
variable {own : List Nat} {ops : Array Oper} {K : St -> Prop} {cm : Nat -> Nat -> Bool}
theorem zd3 {i : Nat} : ∀ {l m : List Nat}, zwh cm i l = some m -> ∃ r1 r2, l = r1 ++ i :: r2 /\ m = r1 ++ r2 /\ ∀ j ∈ r1, cm j i = true
 | [], m, h => by cases h
 | j :: l, m, h => by
  unfold zwh at h
  split at h
  ·rename_i he
   rw [beq_iff_eq] at he
   subst he
   cases h
   exact ⟨[], l, rfl, rfl, fun j hj => by cases hj⟩
  ·split at h
   ·rename_i hc
    simp only [Option.map_eq_some_iff] at h
    obtain ⟨m', hm, rfl⟩ := h
    obtain ⟨r1, r2, rfl, rfl, h3⟩ := zd3 hm
    refine ⟨j :: r1, r2, rfl, rfl, fun k O => ?_⟩
    rcases List.mem_cons.1 O with rfl | O
    ·exact hc
    ·exact h3 k O
   ·cases h
theorem z00m (l : List Nat) (t : OT) (st : St) : zdu P own ops K (t.pre l) st = z6j P own ops (zdu P own ops K t) l st := by
 cases t with
 | run m => unfold OT.pre; unfold zdu; rw [z2w]; congr 1
 | fork m a b => unfold OT.pre; unfold zdu; rw [z2w]; congr 1
def zdv (P : Program) (own : List Nat) (ops : Array Oper) (x y : Oper) : Prop := ∀ (st : St) (dx dy : D) (H1 H2 : HM) (n1 n2 : Nat), z0l P own ops x st dx H1 n1 -> z0l P own ops y (st.next x dx H1 n1) dy H2 n2 ->
  ∃ H3 n3, z0l P own ops y st dy H3 n3 /\ z0l P own ops x (st.next y dy H3 n3) dx H2 n2 /\ (st.next x dx H1 n1).next y dy H2 n2 = (st.next y dy H3 n3).next x dx H2 n2
def isMk (o : Oper) : Bool := match o.op with
 | .makeMap _ none => true
 | _ => false
def z00n (own : List Nat) (ops : Array Oper) (x y : Oper) : Bool := x.apart ops y && ((z7n own x && isMk y) || (isMk x && z7n own y))
theorem zpd {x : Oper} {st : St} {d : D} {H : HM} {nx : Nat} (O : isMk x = true) (h : z0l P own ops x st d H nx) : z90 st H nx := by
 unfold isMk at O
 split at O
 ·rename_i t hop
  unfold z0l at h
  rcases h with ⟨hg, ⟨f, args, tys, g, cap, hop2, _⟩ | hs⟩ | ⟨hg, h1, h2, h3⟩
  ·rw [hop] at hop2; cases hop2
  ·have h0 := hs.1
   unfold opR at h0
   simp only [hop, Option.map_eq_some_iff, Prod.mk.injEq] at h0
   obtain ⟨_, _, _, rfl, rfl⟩ := h0
   exact zfu st (by intro e cs h; cases h)
  ·subst h2; subst h3; exact z4x st
 ·cases O
theorem zwi {x y : Oper} (hp : z00n own ops x y = true) : zdv P own ops x y := by
 intro st dx dy H1 H2 n1 n2 hx hy
 simp only [z00n, Bool.and_eq_true, Bool.or_eq_true] at hp
 obtain ⟨hap, hc⟩ := hp
 obtain ⟨ha1, ha2, ha3⟩ := Oper.apart_spec hap
 have ty : ∀ t ∈ y.looksAt ops, (st.next x dx H1 n1).t t = st.t t := fun t ht => z9r (fun e => ha1 t e ht)
 have tx : ∀ H n t, t ∈ x.looksAt ops -> st.t t = (st.next y dy H n).t t := fun H n t ht => (z9r (fun e => ha3 t e ht)).symm
 have hcomm := fun H3 n3 => zl6 (st := st) (x := x) (y := y) (dx := dx) (dy := dy) (H1 := H1) (H2 := H3) (H3 := H2) (n1 := n1) (n2 := n3) (n3 := n2) ha2
 rcases hc with ⟨hl, O⟩ | ⟨O, hl⟩
 ·obtain ⟨rfl, rfl⟩ := z2r (by rw [z7o hl]; omega) hx
  have hy' : z0l P own ops y st dy H2 n2 := z0e ty (z24 ..) (z16 ..) hy
  have hs := zpd O hy'
  refine ⟨H2, n2, hy', ?_, hcomm _ _⟩
  exact z0e (st := st.withH H2 n2) (fun t ht => tx _ _ t ht) (z24 ..).symm (z16 ..).symm ((z6v hl hs).1 hx)
 ·have hs := zpd O hx
  obtain ⟨h1, h2⟩ := z2r (by rw [z7o hl]; omega) hy
  rw [z24] at h1; rw [z16] at h2
  subst h1; subst h2
  have hy' : z0l P own ops y (st.withH H2 n2) dy H2 n2 := z0e ty (z24 ..) (z16 ..) hy
  refine ⟨st.H, st.nx, (z6v hl hs).2 hy', ?_, hcomm _ _⟩
  exact z0e (fun t ht => tx _ _ t ht) (z24 ..).symm (z16 ..).symm hx
theorem zll {i : Nat} {oi : Oper} (hi : ops[i]? = some oi) : ∀ (r1 r2 : List Nat) (st : St),
  (∀ j ∈ r1, ∀ oj, ops[j]? = some oj -> zdv P own ops oj oi) -> z6j P own ops K (r1 ++ i :: r2) st -> z6j P own ops K (i :: (r1 ++ r2)) st
 | [], r2, st, _, h => h
 | j :: r1, r2, st, hp, h => by
  simp only [List.cons_append, z6j] at h
  obtain ⟨oj, dj, Hj, nj, hoj, hsj, h⟩ := h
  have h' := zll hi r1 r2 _ (fun k O => hp k (List.mem_cons_of_mem _ O)) h
  simp only [z6j] at h'
  obtain ⟨o', di, Hi, ni, hoi, hsi, h'⟩ := h'
  rw [hi] at hoi
  cases hoi
  obtain ⟨H3, n3, h1, h2, h3⟩ := hp j (by simp) oj hoj _ _ _ _ _ _ _ hsj hsi
  simp only [List.cons_append, z6j]
  exact ⟨oi, di, H3, n3, hi, h1, oj, dj, Hi, ni, hoj, h2, by rw [<- h3]; exact h'⟩
theorem pullKS {K1 K2 : St -> Prop} {i : Nat} {oi : Oper} (hi : ops[i]? = some oi) (r : List Nat) (st : St)
  (hp : ∀ j ∈ r, ∀ oj, ops[j]? = some oj -> zdv P own ops oj oi) (O : ∀ st, K1 st -> z6j P own ops K2 [i] st) (h : z6j P own ops K1 r st) : z6j P own ops K2 (i :: r) st := by
 have h1 := z54 O r st h
 rw [<- z2w] at h1
 have := zll hi r [] st hp h1
 rwa [List.append_nil] at this
theorem zay (hcm : ∀ j i oj oi, cm j i = true -> ops[j]? = some oj -> ops[i]? = some oi -> zdv P own ops oj oi) {i : Nat} {oi : Oper} (hi : ops[i]? = some oi) :
  ∀ (t t' : OT) (st : St), zsi cm i t = some t' -> zdu P own ops K t st -> z6j P own ops (zdu P own ops K t') [i] st
 | .run l, t', st, h, hr => by
  simp only [zsi, Option.map_eq_some_iff] at h
  obtain ⟨m, hm, rfl⟩ := h
  obtain ⟨r1, r2, rfl, rfl, h3⟩ := zd3 hm
  exact zll hi r1 r2 st (fun j hj oj hoj => hcm j i oj oi (h3 j hj) hoj hi) hr
 | .fork l a b, t', st, h, hr => by
  unfold zsi at h
  split at h
  ·simp only [Option.map_eq_some_iff] at h
   obtain ⟨m, hm, rfl⟩ := h
   obtain ⟨r1, r2, rfl, rfl, h3⟩ := zd3 hm
   exact zll hi r1 r2 st (fun j hj oj hoj => hcm j i oj oi (h3 j hj) hoj hi) hr
  ·split at h
   ·rename_i hall
    have hp : ∀ j ∈ l, ∀ oj, ops[j]? = some oj -> zdv P own ops oj oi := fun j hj oj hoj => hcm j i oj oi (List.all_eq_true.1 hall j hj) hoj hi
    have go : ∀ t : OT, (∀ st, (zdu P own ops K a st /\ zdu P own ops K b st) -> z6j P own ops (zdu P own ops K t) [i] st) -> z6j P own ops (zdu P own ops K (t.pre l)) [i] st := by
     intro t ht
     have h1 := pullKS hi l st hp ht hr
     have e : zdu P own ops K (t.pre l) = z6j P own ops (zdu P own ops K t) l := funext fun st => z00m l t st
     rw [e]
     exact h1
    split at h
    ·rename_i t h1 h2
     cases h
     exact go t fun st hh => zay hcm hi a t st h1 hh.1
    ·rename_i t h1 h2
     cases h
     exact go t fun st hh => zay hcm hi b t st h2 hh.2
    ·cases h
   ·cases h
theorem z00o {N : Nat} {Q : Exit -> Act -> World -> Prop} (hcm : ∀ j i oj oi, cm j i = true -> ops[j]? = some oj -> ops[i]? = some oi -> zdv P own ops oj oi) (hdst : ∀ (i : Nat) o, ops[i]? = some o -> z3p N o = true) :
  ∀ (fuel : Nat) (listed : Array Bool) (t : OT) (st : St) (s : RS) (a : Act) (w : World), zlk cm ops fuel listed t = true -> zdu P own ops K t st -> Fr P N st s a w ->
  (∀ st' s' a' w', K st' -> Fr P N st' s' a' w' -> Step s w s' w' -> Q .normal a' w') -> wpAny P .any ops Q fuel listed a w := by
 have hend : ∀ (t : OT) (st : St), t.isDone = true -> zdu P own ops K t st -> K st := fun t st h hr => by
  cases t with
  | run l => cases l with
   | nil => exact hr
   | cons i l => cases h
  | fork l a b => cases h
 intro fuel
 induction fuel with
 | zero =>
  intro listed t st s a w hc hr hf O
  simp only [zlk, Bool.and_eq_true, List.isEmpty_iff] at hc
  exact ⟨hc.1, O st s a w (hend t st hc.2 hr) hf (Step.refl s w)⟩
 | succ fuel ih =>
  intro listed t st s a w hc hr hf O
  unfold zlk at hc
  refine ⟨fun h0 => ?_, fun i hi => ?_⟩
  ·rw [if_pos (by rw [h0]; rfl)] at hc
   exact O st s a w (hend t st hc hr) hf (Step.refl s w)
  ·rw [if_neg (by intro e; rw [List.isEmpty_iff] at e; rw [e] at hi; cases hi)] at hc
   have h1 := List.all_eq_true.1 hc i hi
   split at h1
   ·rename_i t' ht
    simp only [Bool.and_eq_true, decide_eq_true_eq] at h1
    have hoi := Array.getElem?_eq_getElem h1.1
    obtain ⟨o, d, H, nx, ho, hstep, hrest⟩ := zay hcm hoi t t' st ht hr
    exact z4b ho (hdst i o ho) hf hstep fun s' a' w' hf' hs' => ih _ t' _ s' a' w' h1.2 hrest hf' fun st2 s2 a2 w2 hK2 hf2 hs2 => O st2 s2 a2 w2 hK2 hf2 (hs'.trans hs2)
   ·cases h1
def cmL (cs : List (Nat × Nat)) (j i : Nat) : Bool := cs.any fun p => p.1 == j && p.2 == i
def cmOK (own : List Nat) (ops : Array Oper) (cs : List (Nat × Nat)) : Bool := cs.all fun p => match ops[p.1]?, ops[p.2]? with
 | some x, some y => zac own ops x y || z00n own ops x y
 | _, _ => true
theorem cm_ok {cs : List (Nat × Nat)} (h : cmOK own ops cs = true) : ∀ j i oj oi, cmL cs j i = true -> ops[j]? = some oj -> ops[i]? = some oi -> zdv P own ops oj oi := by
 intro j i oj oi hc hj hi
 obtain ⟨p, hp, hpe⟩ := List.any_eq_true.1 hc
 simp only [Bool.and_eq_true, beq_iff_eq] at hpe
 have h1 := List.all_eq_true.1 h p hp
 rw [hpe.1, hpe.2, hj, hi] at h1
 simp only [Bool.or_eq_true] at h1
 rcases h1 with h1 | h1
 ·exact fun st dx dy H1 H2 n1 n2 hx hy => swap h1 hx hy
 ·exact zwi h1
theorem zpe {N id : Nat} {Q : Exit -> St -> Prop} {st : St} (hm : P.follows .mixedOrders = true) (hdst : ∀ o ∈ ops.toList, z3p N o = true) (cs : List (Nat × Nat)) (t : OT) (hcs : cmOK own ops cs = true)
  (hcov : zlk (cmL cs) ops ops.size (Array.replicate ops.size false) t = true) (h : zdu P own ops (Q .normal) t st) : Sem P N (.region id ops true) Q st := by
 intro s0 w0 s a w hf hs
 obtain ⟨hds, hdr⟩ := z84 (w' := { w with drawn := w.drawn + 1 }) hf.heap rfl rfl rfl rfl
 have hf' : Fr P N st s a { w with drawn := w.drawn + 1 } := ⟨hf.H, hf.nx, hf.size, hf.defers, hf.tmps, hdr⟩
 have hdst2 : ∀ (i : Nat) o, ops[i]? = some o -> z3p N o = true := fun i o ho => hdst o (by
  obtain ⟨h1, h2⟩ := (Array.getElem?_eq_some_iff.1 ho)
  rw [<- h2]; exact (Array.mem_toList_iff.2 (Array.getElem_mem h1)))
 exact wp_region_any hm (z00o (Q := lift P N s0 w0 Q) (cm_ok hcs) hdst2 ops.size _ t st s a _ hcov h hf' fun st' s' a' w' hK hf2 hs2 => ⟨st', s', hK, hf2, hs.trans (hds.trans hs2)⟩)
theorem z00p {l : List Nat} {os : List Oper} {st : St} (hl : l.map (fun k => ops[k]?) = os.map some) (h : z2p P own (zn5 ops) os K st) : zdu P own ops K (.run l) st := z6b os l st hl h
theorem zwj {l : List Nat} {os : List Oper} {a b : OT} {st : St} (hl : l.map (fun k => ops[k]?) = os.map some) (h : z2p P own (zn5 ops) os (fun st => zdu P own ops K a st /\ zdu P own ops K b st) st) : zdu P own ops K (.fork l a b) st := z6b os l st hl h
end
end Go.Proofs.YtfechgagcgbldaaGreatDoor.Abs
namespace Go.Proofs.YtfechgagcgbldaaGreatDoor
open _root_.Go.Proofs.Tryz
section
open Abs Facts Tr
theorem z21 {a b : Nat} (h : ¬ a = b) : (a == b) = false := by simpa using h
theorem z29 {H : HM} {i j : Nat} (o : Option HObj) (h : ¬ j = i) : z10 H i o j = H j := if_neg h
section
variable {β : Type}
def z8a (enc : β -> D) : List (Idv × β) -> Idv -> D
 | [], _ => .any
 | p :: l, i => if i ∈ l.map (·.1) then z8a enc l i else if p.1 = i then enc p.2 else .any
def mapI (enc : β -> D) (l : List (Idv × β)) : List (D × D) := (z1g (l.map (·.1))).map fun i => (z50 i, z8a enc l i)
theorem z9q (enc : β -> D) (k : Idv) (v : β) (i : Idv) : ∀ l : List (Idv × β), z8a enc (l ++ [(k, v)]) i = if i = k then enc v else z8a enc l i
 | [] => by
  simp only [List.nil_append, z8a, List.map_nil, List.not_mem_nil, if_false]
  by_cases h : i = k
  ·rw [if_pos h, if_pos h.symm]
  ·rw [if_neg h, if_neg fun e => h e.symm]
 | p :: l => by
  rw [List.cons_append, z8a, z9q enc k v i l, z8a]
  by_cases h : i = k
  ·simp [h]
  ·by_cases h2 : i ∈ l.map (·.1)
   ·have h3 : i ∈ (l ++ [(k, v)]).map (·.1) := by rw [List.map_append, List.mem_append]; exact .inl h2
    rw [if_pos h3, if_neg h, if_neg h, if_pos h2]
   ·have h3 : i ∉ (l ++ [(k, v)]).map (·.1) := by
     rw [List.map_append, List.mem_append]
     rintro (h3 | h3)
     ·exact h2 h3
     ·simp at h3; exact h h3
    rw [if_neg h3, if_neg h, if_neg h2]
theorem z8x {enc : β -> D} {k : Idv} {v : β} : ∀ {l : List (Idv × β)}, (l.map (·.1)).Nodup -> (k, v) ∈ l -> z8a enc l k = enc v
 | [], _, h => by cases h
 | p :: l, hn, h => by
  rw [List.map_cons, List.nodup_cons] at hn
  rw [z8a]
  rcases List.mem_cons.1 h with e | h
  ·subst e; rw [if_neg hn.1, if_pos rfl]
  ·rw [if_pos (List.mem_map.2 ⟨_, h, rfl⟩), z8x hn.2 h]
theorem z6u (enc : β -> D) (l : List (Idv × β)) (k : Idv) : z3o prog 23 (z50 k) (mapI enc l) = some (if k ∈ l.map (·.1) then some ((z1g (l.map (·.1))).idxOf k, z8a enc l k) else none) := by
 have h := z79 z50 eqK_I (z8a enc l) k (z1g (l.map (·.1)))
 rw [mapI, h]
 by_cases O : k ∈ l.map (·.1)
 ·rw [if_pos O, if_pos (((z3d _).2.1 k).2 O)]
 ·rw [if_neg O, if_neg fun h2 => O (((z3d _).2.1 k).1 h2)]
theorem zem (enc : β -> D) (l : List (Idv × β)) : (mapI enc l).length = (z1g (l.map (·.1))).length := by rw [mapI, List.length_map]
theorem zzy (enc : β -> D) (l : List (Idv × β)) (k : Idv) (v : β) : zuq (mapI enc l) (z50 k) (enc v) (z3o prog 23 (z50 k) (mapI enc l)) = some (.map (mapI enc (l ++ [(k, v)]))) := by
 have h := z79 z50 eqK_I (z8a enc l) k (z1g (l.map (·.1)))
 rw [mapI, h]
 unfold mapI
 rw [List.map_append, List.map_cons, List.map_nil, z9h]
 by_cases O : k ∈ z1g (l.map (·.1))
 ·rw [if_pos O, if_pos O]
  simp only [zuq, Option.some.injEq, HObj.map.injEq]
  rw [z4q z50 (z8a enc l) k (enc v) _ (z3d _).1 O]
  exact List.map_congr_left fun i _ => by rw [z9q]
 ·rw [if_neg O, if_neg O]
  simp only [zuq, Option.some.injEq, HObj.map.injEq]
  rw [List.map_append, List.map_cons, List.map_nil, z9q, if_pos rfl]
  congr 1
  refine List.map_congr_left fun i hi => ?_
  have hik : ¬ i = k := fun e => O (by rw [<- e]; exact hi)
  rw [z9q, if_neg hik]
theorem zcx (enc : β -> D) (l : List (Idv × β)) (k : Idv) (v : β) :
  (k ∈ l.map (·.1) /\ ∃ n, z3o prog 23 (.agg [.int .i64 k.act, .int .i64 k.item, .int .i64 k.n]) (mapI enc l) = some (some (n, z8a enc l k)) /\ z7h (mapI enc l) n (enc v) = mapI enc (l ++ [(k, v)])) \/
  (k ∉ l.map (·.1) /\ z3o prog 23 (.agg [.int .i64 k.act, .int .i64 k.item, .int .i64 k.n]) (mapI enc l) = some none /\ mapI enc l ++ [(.agg [.int .i64 k.act, .int .i64 k.item, .int .i64 k.n], enc v)] = mapI enc (l ++ [(k, v)])) := by
 have h1 := z6u enc l k
 have h2 := zzy enc l k v
 rw [h1] at h2
 by_cases O : k ∈ l.map (·.1)
 ·rw [if_pos O] at h1 h2
  simp only [zuq, Option.some.injEq, HObj.map.injEq] at h2
  exact .inl ⟨O, _, h1, h2⟩
 ·rw [if_neg O] at h1 h2
  simp only [zuq, Option.some.injEq, HObj.map.injEq] at h2
  exact .inr ⟨O, h1, h2⟩
end
end
end Go.Proofs.YtfechgagcgbldaaGreatDoor
