import Derived.Test.YtmnabhhdiinfaaaGreatDoorWD
/-
 Lemmas of the claim. No condition but those that each names.
-/
set_option linter.unusedSimpArgs false
set_option linter.unusedVariables false
set_option maxRecDepth 100000
set_option maxHeartbeats 8000000
set_option linter.unusedSectionVars false
namespace Go.Proofs.YtmnabhhdiinfaaaGreatDoor
open _root_.Go.Proofs.Tryz
section
open Abs Facts Tr
attribute [local irreducible] awp
theorem zuf (l : List T) (hl : l.length <= 1000000) (H : HM) (nx : Nat) : AC prog 123 [z13 l] H nx fun r H' nx' => r = .osl nx l.length /\ H' = z0k H nx (some (zmy l)) /\ nx' = nx + 1 := by
 refine AC.split (pre := []) (post := []) (sz := 8) (els := l.map z0m) (fun he => ?_) ?_
 ·have hl0 : l = [] := by simpa using he
  subst hl0
  have hp : PC prog 123 [.nil] .nil := by
   refine z1g 2 rfl rfl (z14 [] func123 rfl (by decide +kernel) rfl ?_)
   show awp _ _ (Code.seq _ _) _ _
   repeat' (first | refine zqj ?_ | ((refine zqh fun K J => ?_); (simp (disch := omega) only [go_sem, Nat.reduceBEq, ↓reduceIte])) | ((refine zqd _ rfl (fun hc => ?_) (fun hc => ?_)) <;> (first | (cases hc; done) | ((try simp only [] at hc); (try omega)))) | refine zqg ?_ | refine zqu (by simp only [go_sem]; rfl) rfl ?_ | (refine J _ ?_; clear J K))
   exact z0a rfl (Le.refl _)
  exact zl4 27 (hp.ac ⟨rfl, rfl, rfl, rfl⟩)
 ·have ho : OC prog 123 [.rsl true 8 (l.map z0m)] [zmy l] (.osl 0 l.length) := by
   refine zjj (by simp only [pureD.pureL, pureD, z0x (f := z0m) z02 l, Bool.and_self]) rfl (fun o ho => by simp at ho; subst ho; exact z2d z04 _) (z14 [5] func123 rfl (by decide +kernel) rfl ?_)
   show awp _ _ (Code.seq _ _) _ _
   repeat' (first | refine zqj ?_ | ((refine zqh fun K J => ?_); (simp (disch := omega) only [go_sem, Nat.reduceBEq, ↓reduceIte, reduceCtorEq, Nat.reduceAdd, Nat.reduceMul, z6x])) | ((refine zqd _ rfl (fun hc => ?_) (fun hc => ?_)) <;> (first | (cases hc; done) | ((try simp only [] at hc); (try omega)))) | refine zqb ?_ | refine zqn ?_ | refine zqu (by simp only [go_sem]; rfl) rfl ?_ | (refine J _ ?_; clear J K))
   refine ⟨fun _ => 0, fun i j hi hj _ => by simp at hi hj; omega, ?_, fun j hj => ?_⟩
   ·(simp (disch := omega) only [go_sem, Nat.reduceBEq, renD])
   ·obtain rfl : j = 0 := by simp at hj; omega
    (simp (disch := omega) only [go_sem, zmy])
    try rfl
  exact ho.ac ⟨by simp [renD], rfl, rfl⟩
theorem zbs (l : List T) (hl : l.length <= 1000000) : OC prog 123 [z13 l] [zmy l] (.osl 0 l.length) :=
 ⟨by simp only [pureD.pureL, z0t, Bool.and_self], rfl, fun o ho => by simp at ho; subst ho; exact z2d z04 _, fun H nx => (zuf l hl H nx).mono fun r H' nx' ⟨h1, h2, h3⟩ => ⟨by rw [h1]; rfl, h2, h3⟩⟩
theorem zug (l : List T) {i : Nat} (h : i < l.length) : ((l.flatMap z0h).drop (i * 8)).take 8 = z0h l[i] := zft z0q h
theorem zrl (l : List T) {i : Nat} (h : i < l.length) : z1z (l.flatMap z0h) (i * 8) (z0h l[i]) = l.flatMap z0h := by
 rw [ze5 z0q h, List.set_getElem_self]
theorem zkp (l : List T) : (l.flatMap z0h).length = l.length * 8 := z58 z0q l
theorem zdd : ∀ t : T, szB t = true -> PC prog 70 [z0m t] (z0m t) := by
 refine z5c fun t ih hs => ?_
 obtain ⟨h0, h1, g1, h2, g2, h3, h4⟩ := (z2i t).1 hs
 have c1 := zd0 t.head h1
 have c2 := zd0 t.words h2
 have c3 := zbs t.kids h3
 refine z1g 4 (by simp only [pureD.pureL, z02, Bool.and_self]) (z02 _) (z14 [8000000, 3000006, 4000007, 3000009, 4000010, 3000012, 4000013, 3000026, 3000028, 5000029] func70 rfl (by decide +kernel) rfl ?_)
 show awp _ _ (Code.seq _ _) _ _
 rw [show Tryz.f70.results.toList = [.cell 2 27] from rfl]
 rw [z0m, z0f]
 repeat' (first | refine zqj ?_ | ((first | refine zqh fun K J => ?_ | refine zqe (by decide +kernel) fun K J => ?_ | refine z94 (c1) rfl rfl rfl ?_ | refine z94 (c2) rfl rfl rfl ?_ | refine z94 (c3) rfl rfl rfl ?_); (simp (disch := omega) only [go_sem, Nat.reduceBEq, Nat.reduceEqDiff, ↓reduceIte, reduceCtorEq, Nat.reduceAdd, Nat.reduceLeDiff, Nat.reduceLT, zot, zmy, List.set_cons_succ, List.set_cons_zero])) | refine zqa ?_ | (refine J _ ?_; clear J K))
 (refine z4m (fun U st => ∃ (i : _), U = t.kids.length - i /\ st.t 1 = .ptr 0 0 /\ st.t 2 = .ptr 1 0 /\ st.t 18 = .osl 4 t.kids.length /\ st.t 19 = .int .i64 t.kids.length /\ st.t 20 = .int .i64 i /\ st.H 0 = some (.box 27 (zff t 2 3 4)) /\ st.H 1 = some (.box 27 zeroC) /\ st.H 2 = some (.row 72 t.head.length (t.head.flatMap z4j)) /\ st.H 3 = some (.row 72 t.words.length (t.words.flatMap z4j)) /\ st.H 4 = some (.row 27 t.kids.length (t.kids.flatMap z0h)) /\ (i <= t.kids.length) /\ (5 <= st.nx)) ?_ ?_); rotate_left; (rintro U st ⟨i, rfl, q1, q2, q18, q19, q20, qH0, qH1, qH2, qH3, qH4, qp0, qp1⟩); rotate_left
 ·(refine ⟨_, 0, rfl, ?_⟩); (simp (disch := omega) only [go_sem, Nat.reduceBEq, Nat.reduceLeDiff, and_self, Int.natCast_zero, zff, zeroC])
 by_cases hi : i < t.kids.length
 ·have hin := ih t.kids[i] (List.getElem_mem hi) (h4 _ (List.getElem_mem hi))
  have hld := zug t.kids hi
  have hst := zrl t.kids hi
  have hln := zkp t.kids
  repeat' (first | ((first | refine zqh fun K J => ?_ | refine zqr fun K J => ?_ | refine zqq (by decide +kernel) fun K J => ?_ | refine zqt (hin) ?_); (simp (disch := omega) only [go_sem, Nat.reduceBEq, Nat.reduceEqDiff, ↓reduceIte, reduceCtorEq, Nat.reduceAdd, Nat.reduceLeDiff, q1, q18, q19, q20, qH0, qH4, hld, hst, hln, zff])) | ((refine zqd _ rfl (fun hc => ?_) (fun hc => ?_)) <;> (((try simp only [z0b] at hc); (try omega)))) | refine zqa ?_ | refine zqb ?_ | refine zqv ?_ | refine zqy ?_ | (refine J _ ?_; clear J K))
  (refine Exists.intro _ (And.intro ?_ ⟨i + 1, rfl, ?_⟩)); rotate_left; (simp (disch := omega) only [go_sem, Nat.reduceBEq, Nat.reduceLeDiff, q1, q2, q18, q19, q20, qH0, qH1, qH2, qH3, qH4, true_and, Int.natCast_add, Int.natCast_one]); rotate_left
  all_goals omega
 ·repeat' (first | ((refine zqh fun K J => ?_); (simp (disch := omega) only [go_sem, Nat.reduceBEq, ↓reduceIte, Nat.reduceAdd, Nat.reduceLeDiff, q1, q2, q19, q20, qH0, qH1, zff, zeroC, List.set_cons_succ, List.set_cons_zero])) | ((refine zqd _ rfl (fun hc => ?_) (fun hc => ?_)) <;> (((try simp only [z0b] at hc); (try omega)))) | refine zqc ?_ | refine zqn ?_ | refine zqv ?_ | refine zqz ?_ | refine zqp ?_ | refine zqu (by (simp (disch := omega) only [go_sem, Nat.reduceBEq, ↓reduceIte, Nat.reduceAdd, Nat.reduceLeDiff, q2, qH1, zeroC]); rfl) rfl ?_ | (refine J _ ?_; clear J K))
  refine z50 (z5d (k := 3) ?_ ?_)
  ·simp [pureD.pureL, pureD]
  refine z00 (z08 2 rfl) (z00 (z08 2 rfl) (z00 (z08 2 rfl) (z00 (z08 2 rfl) (z00 (z08 2 rfl) (z00 ?_ (z00 ?_ (z00 ?_ z0c)))))))
  ·refine z1y (f := z4j) (l := t.head) 1 rfl ?_ zaz zdw (fun _ => rfl) (fun _ => rfl)
   (simp (disch := omega) only [go_sem, Nat.reduceBEq, qH2])
  ·refine z1y (f := z4j) (l := t.words) 1 rfl ?_ zaz zdw (fun _ => rfl) (fun _ => rfl)
   (simp (disch := omega) only [go_sem, Nat.reduceBEq, qH3])
  ·refine z1y (f := z0h) (l := t.kids) 1 rfl ?_ z0l z30 z0q z04
   (simp (disch := omega) only [go_sem, Nat.reduceBEq, qH4])
namespace Abs
theorem zfa {P : Program} {own : List Nat} {n : FuncId} {args cap : List D} {g : List Oper -> (St -> Prop) -> St -> Prop} {rest : List Oper} {K : St -> Prop} {st : St} {dst : Option Nat} {r : D} {H : HM} {nx : Nat}
  (h : AC P n (args ++ cap) st.H st.nx fun r' H' nx' => r' = r /\ H' = H /\ nx' = nx) (h0 : z0o 5000000 own dst = false) (hm : z0o 4000000 own dst = true) (hs : z9p st H nx) (hk : g rest K ((st.withH H nx).put dst r)) (ht : tcM own dst = none := by rfl) (hN : z0o 10000000 own dst = false := by rfl) : zli P own (.fn n cap) args g rest K st dst :=
 .inr (.inr ⟨h0, hm, r, H, nx, h, .inl ⟨ht, .inl ⟨hN, hs⟩⟩, hk⟩)
theorem zx5 {P : Program} {own : List Nat} {c : Code} {Q : Exit -> St -> Prop} {st : St} (I : St -> Prop) (h0 : I st) (h : ∀ st, I st -> awp P own c Q st) : awp P own c Q st := h st h0
theorem zq9 {P : Program} {st : St} {b j : Nat} {e : TypeId} {cs : List D} {d : D} (hb : st.H b = some (.box e cs)) (hd : cs = [d] \/ d = .agg cs) (hp : pureD d = true) (hj : st.t j = .ptr b 0) :
  SealTo P st ((st.withH (z0k st.H b none) st.nx).put (some j) (.rptr d)) := by
 intro N s a w hf
 have hHb : s.H b = some (.box e cs) := by rw [hf.H]; exact hb
 obtain ⟨k, vs, hk, _, hr, h1, hc⟩ := zcz hf.heap hHb
 obtain ⟨g1, g2⟩ := zh8 hf.heap (id := b) (by rw [hHb]; simp)
 refine ⟨s.shut1 w b, ⟨?_, hf.nx, hf.size, hf.defers, fun i => ?_, g2⟩, g1⟩
 ·show z0k s.H b none = _
  rw [hf.H]; rfl
 ·by_cases hij : i = j
  ·subst hij
   have ht := hf.tmps i
   rw [hj] at ht
   simp only [rel] at ht
   obtain ⟨_, _, h3⟩ := ht
   obtain ⟨k', hk', hv⟩ := h3 _ _ hHb
   rw [hk] at hk'
   simp only [Value.pointer.injEq, Option.some.injEq, Addr.mk.injEq, and_true] at hk'
   subst hk'
   show rel _ (updT st.t i (.rptr d) i) _
   rw [show updT st.t i (.rptr d) i = .rptr d from if_pos rfl]
   simp only [rel]
   have hm : ∀ (q : Nat) c, vs[q]? = some c -> (s.shut1 w b).m ⟨k, q, none⟩ = some c := fun q c hq => by
    unfold RS.shut1
    simp only
    rw [if_pos (by rw [hk]; rfl)]
    exact hc q c hq
   rcases hd with hd | hd
   ·subst hd
    simp only [relAll] at hr
    obtain ⟨v, r, rfl, hrv, rfl⟩ := hr
    refine ⟨_, v, hv, rel.later g1.later _ _ hrv, fun q c hq => ?_⟩
    rw [z2k (h1 v (by simp))] at hq
    rw [z19, Nat.zero_add]
    exact hm q c (by simpa using hq)
   ·subst hd
    refine ⟨_, .agg vs.toArray, hv, ?_, fun q c hq => ?_⟩
    ·simp only [rel]
     exact ⟨vs, rfl, relAll.later g1.later _ _ hr, h1⟩
    ·rw [z19, Nat.zero_add]
     exact hm q c (by simpa [Value.cells] using hq)
  ·show rel _ (updT st.t j (.rptr d) i) _
   rw [show updT st.t j (.rptr d) i = st.t i from if_neg hij]
   exact rel.later g1.later _ _ (hf.tmps i)
theorem zt7 {st : St} {id : Nat} {o o' : HObj} (h0 : st.H id = some o) (hid : id < st.nx) (hb : ∀ e cs, o ≠ .box e cs) (hb' : ∀ e cs, o' ≠ .box e cs) : z9p st (z0k (z0k st.H id none) st.nx (some o')) (st.nx + 1) := by
 have h := zhz st (zfz st hb') (id0 := id) (o := o) (by unfold z0k; rw [if_neg (by omega)]; exact h0) hb
 have e : z0k (z0k st.H st.nx (some o')) id none = z0k (z0k st.H id none) st.nx (some o') := by
  funext j
  unfold z0k
  by_cases h1 : j = id
  ·rw [if_pos h1, if_neg (by omega), if_pos h1]
  ·rw [if_neg h1]
   by_cases h2 : j = st.nx
   ·rw [if_pos h2, if_pos h2]
   ·rw [if_neg h2, if_neg h2, if_neg h1]
 rw [e] at h; exact h
def zma (t : T) : List D := [.int .i64 t.id.act, .int .i64 t.id.item, .int .i64 t.id.n, .int .i64 t.kind, .str t.label, z0r t.head, z0r t.words, z13 t.kids]
end Abs
theorem z74 {P : Program} {H : HM} (k : Nat) {t : T} {d : D} (hd : z2y P H (k + 1) d = some (z13 t.kids)) (hp : pureD d = false) :
  z2y P H (k + 2) (.agg [.int .i64 t.id.act, .int .i64 t.id.item, .int .i64 t.id.n, .int .i64 t.kind, .str t.label, z0r t.head, z0r t.words, d]) = some (z0m t) := by
 rw [z0m, z0f]
 refine z5d (k + 1) ?_ (z00 (z08 k rfl) (z00 (z08 k rfl) (z00 (z08 k rfl) (z00 (z08 k rfl) (z00 (z08 k rfl) (z00 (z08 k (z0d _)) (z00 (z08 k (z0d _)) (z00 hd z0c))))))))
 simp only [pureD.pureL, hp, Bool.and_false, Bool.false_and]
theorem pc_at (id : Idv) (f : T -> T) {g : FuncId} {cap : List D} (hc : pureD.pureL cap = true) : ∀ t : T, szB t = true -> (∀ x ∈ z0j t, x.id = id -> PC prog g (z0m x :: cap) (z0m (f x))) ->
  PC prog 120 [z0m t, z0n id, .fn g cap] (.tup [z0m (atR id f t).1, .bool (atR id f t).2]) := by
 refine z5c fun t ih hs hg => ?_
 obtain ⟨h0, h1, g1, h2, g2, h3, h4⟩ := (z2i t).1 hs
 have ct := zbs t.kids h3
 refine z1g 5 (by simp only [pureD.pureL, z02, pureD, hc, Bool.and_self]; rfl) (by simp only [pureD, pureD.pureL, z02, Bool.and_self]) (z14 [] func120 rfl (by decide +kernel) rfl ?_)
 show awp _ _ (Code.seq _ _) _ _
 rw [show Tryz.f120.results.toList = [.cell 6 27, .tmp 7] from rfl]
 rw [show z0m t = .agg _ from by rw [z0m, z0f]]
 by_cases hid : t.id = id
 ·have hgt := hg t (z1r t) hid
  rw [show z0m t = .agg _ from by rw [z0m, z0f]] at hgt
  rw [zpi hid]
  have hidd : decide (t.id = id) = true := decide_eq_true hid
  repeat' (first | refine zqj ?_ | ((first | refine zqh fun K J => ?_ | refine zqs (hgt) ?_); (simp (disch := omega) only [go_sem, Nat.reduceBEq, ↓reduceIte, reduceCtorEq, Nat.reduceAdd, Nat.reduceLeDiff, hidd])) | ((refine zqd _ rfl (fun hc => ?_) (fun hc => ?_)) <;> (first | (cases hc; done) | ((try simp only [] at hc); (try omega)))) | refine zqg ?_ | refine zqu (by (simp (disch := omega) only [go_sem, Nat.reduceBEq, ↓reduceIte, Nat.reduceLeDiff]); rfl) rfl ?_ | (refine J _ ?_; clear J K))
  exact z0a (by simp only [pureD, pureD.pureL, z04, Bool.and_self]) (Le.refl _)
 ·have hidd : decide (t.id = id) = false := decide_eq_false hid
  repeat' (first | refine zqj ?_ | ((refine zqh fun K J => ?_); (simp (disch := omega) only [go_sem, Nat.reduceBEq, ↓reduceIte, reduceCtorEq, Nat.reduceAdd, Nat.reduceLeDiff, hidd])) | ((refine zqd _ rfl (fun hc => ?_) (fun hc => ?_)) <;> (first | (cases hc; done) | ((try simp only [] at hc); (try omega)))) | refine zqa ?_ | refine zqb ?_ | (refine J _ ?_; clear J K))
  (refine z4m (fun U st => ∃ (i : _), U = t.kids.length - i /\ st.t 2 = .fn g cap /\ st.t 3 = .ptr 0 0 /\ st.t 4 = .ptr 1 0 /\ st.t 6 = .ptr 2 0 /\ st.t 20 = z13 t.kids /\ st.t 21 = .int .i64 t.kids.length /\ st.t 22 = .int .i64 i /\ st.H 0 = some (.box 27 (zma t)) /\ st.H 1 = some (.box 23 (z07 id)) /\ st.H 2 = some (.box 27 [.int .i64 0, .int .i64 0, .int .i64 0, .int .i64 0, .str ByteArray.empty, .nil, .nil, .nil]) /\ (i <= t.kids.length) /\ (3 <= st.nx) /\ (∀ j, (hj : j < i) -> (h : j < t.kids.length) -> (atR id f t.kids[j]).2 = false)) ?_ ?_); rotate_left; (rintro U st ⟨i, rfl, q2, q3, q4, q6, q20, q21, q22, qH0, qH1, qH2, qp0, qp1, qp2⟩); rotate_left
  ·(refine ⟨_, 0, rfl, ?_⟩); (simp (disch := omega) only [go_sem, Nat.reduceBEq, Nat.reduceLeDiff, true_and, Int.natCast_zero, zma, z07, z13])
   intro j hj; omega
  by_cases hi : i < t.kids.length
  ·have hin := ih t.kids[i] (List.getElem_mem hi) (h4 _ (List.getElem_mem hi)) (fun x hx => hg x (z2g (List.getElem_mem hi) hx))
   have hst : z1z (t.kids.flatMap z0h) (i * 8) (z0h (atR id f t.kids[i]).1) = (t.kids.set i (atR id f t.kids[i]).1).flatMap z0h := ze5 z0q hi
   have hln := zkp t.kids
   by_cases hf : (atR id f t.kids[i]).2 = true
   ·rw [hf] at hin
    repeat' (first | ((first | refine zqh fun K J => ?_ | refine zqs (hin) ?_ | refine zjk (ct) ?_); (simp (disch := omega) only [go_sem, Nat.reduceBEq, Nat.reduceBeqDiff, ↓reduceIte, reduceCtorEq, Nat.reduceAdd, Nat.reduceLeDiff, Nat.reduceLT, q2, q3, q4, q6, q20, q21, q22, qH0, qH1, qH2, zma, z13, z07, zmy, hst, hln, List.set_cons_succ, List.set_cons_zero])) | ((first | refine zqd _ rfl (fun hc => ?_) (fun hc => ?_) | refine zqm _ rfl (fun hc => ?_) (fun hc => ?_)) <;> (first | (cases hc; done) | ((try simp only [z0b] at hc); (try omega)))) | refine zqa ?_ | refine zqb ?_ | refine zqn ?_ | refine zqx ?_ | refine z6q ?_ | refine zqo ?_ | refine zqu (by (simp (disch := omega) only [go_sem, Nat.reduceBEq, Nat.reduceBeqDiff, ↓reduceIte, Nat.reduceAdd, Nat.reduceLeDiff, q6, qH2]); rfl) rfl ?_ | (refine J _ ?_; clear J K))
    rw [zv1 hid hi qp2 hf]
    refine z50 (zwn 4 (by simp only [pureD.pureL, pureD, Bool.and_false, Bool.false_and]) (z00 (z74 2 (t := t.setKids (t.kids.set i (atR id f t.kids[i]).1)) (z1y (f := z0h) (l := t.kids.set i (atR id f t.kids[i]).1) 1 (by simp) ?_ z0l z30 z0q z04) rfl) (z00 (z08 3 rfl) z0c)))
    (simp (disch := omega) only [go_sem])
   ·rw [Bool.not_eq_true] at hf
    rw [hf] at hin
    repeat' (first | ((first | refine zqh fun K J => ?_ | refine zqr fun K J => ?_ | refine zqs (hin) ?_); (simp (disch := omega) only [go_sem, Nat.reduceBEq, ↓reduceIte, reduceCtorEq, Nat.reduceAdd, Nat.reduceLeDiff, q2, q4, q20, q21, q22, qH1, z13, z07])) | ((first | refine zqd _ rfl (fun hc => ?_) (fun hc => ?_) | refine zqm _ rfl (fun hc => ?_) (fun hc => ?_)) <;> (first | (cases hc; done) | ((try simp only [z0b] at hc); (try omega)))) | refine zqa ?_ | refine zqb ?_ | refine zqk ?_ | refine zqv ?_ | refine zqy ?_ | (refine J _ ?_; clear J K))
    (refine Exists.intro _ (And.intro ?_ ⟨i + 1, rfl, ?_⟩)); rotate_left; (simp (disch := omega) only [go_sem, Nat.reduceBEq, Nat.reduceLeDiff, q2, q3, q4, q6, q20, q21, q22, qH0, qH1, qH2, true_and, Int.natCast_add, Int.natCast_one, zma, z13, z07]); rotate_left
    ·omega
    ·refine ⟨by omega, by omega, fun j hj h => ?_⟩
     by_cases e : j = i
     ·subst e; exact hf
     ·exact qp2 j (by omega) h
  ·repeat' (first | ((refine zqh fun K J => ?_); (simp (disch := omega) only [go_sem, Nat.reduceBEq, ↓reduceIte, Nat.reduceAdd, Nat.reduceLeDiff, q3, q6, q21, q22, qH0, qH2, zma, z13])) | ((refine zqd _ rfl (fun hc => ?_) (fun hc => ?_)) <;> (((try simp only [z0b] at hc); (try omega)))) | refine zqc ?_ | refine zqn ?_ | refine zqv ?_ | refine zqz ?_ | refine zqp ?_ | refine zqu (by (simp (disch := omega) only [go_sem, Nat.reduceBEq, ↓reduceIte, Nat.reduceAdd, Nat.reduceLeDiff, q6, qH2]); rfl) rfl ?_ | (refine J _ ?_; clear J K))
   rw [zpj hid fun j h => qp2 j (by omega) h, z0m, z0f]
   exact z0a (by simp only [pureD, pureD.pureL, z0d, zdq, Bool.and_self]) (Le.refl _)
theorem zgc (t : T) (hs : szB t = true) (id : Idv) (f : T -> T) {g : FuncId} {cap : List D} (hc : pureD.pureL cap = true) (hg : ∀ x ∈ z0j t, x.id = id -> PC prog g (z0m x :: cap) (z0m (f x))) :
  PC prog 60 [z0m t, z0n id, .fn g cap] (z0m (atR id f t).1) := by
 have c1 := zdd t hs
 have c2 := pc_at id f hc t hs hg
 refine z1g 1 (by simp only [pureD.pureL, z02, pureD, hc, Bool.and_self]; rfl) (z02 _) (z14 [3000010, 5000011, 3000012, 5000014] func60 rfl (by decide +kernel) rfl ?_)
 show awp _ _ (Code.seq _ _) _ _
 rw [show Tryz.f60.results.toList = [.cell 6 27] from rfl]
 repeat' (first | ((first | refine zqh fun K J => ?_ | refine zqe (by decide +kernel) fun K J => ?_ | refine zqt (c1) ?_ | refine zqt (c2) ?_); (simp (disch := omega) only [go_sem, Nat.reduceBEq, Nat.reduceEqDiff, ↓reduceIte, Nat.reduceAdd, Nat.reduceLeDiff])) | refine zqn ?_ | refine zqu (by (simp (disch := omega) only [go_sem, Nat.reduceBEq, ↓reduceIte, Nat.reduceLeDiff]); rfl) rfl ?_ | (refine J _ ?_; clear J K))
 exact z0a (z02 _) (Le.refl _)
theorem ins_flat (l : List T) (i : Nat) (x : T) : (l.flatMap z0h).take (i * 8) ++ z0h x ++ (l.flatMap z0h).drop (i * 8) = (l.take i ++ x :: l.drop i).flatMap z0h := by
 have h1 : (l.flatMap z0h).take (i * 8) = (l.take i).flatMap z0h := by
  by_cases hi : i <= l.length
  ·have e : l.flatMap z0h = (l.take i).flatMap z0h ++ (l.drop i).flatMap z0h := by rw [<- List.flatMap_append, List.take_append_drop]
   rw [e, List.take_append_of_le_length (by rw [z58 z0q, List.length_take]; omega), List.take_of_length_le (by rw [z58 z0q, List.length_take]; omega)]
  ·rw [List.take_of_length_le (by rw [z58 z0q]; omega), List.take_of_length_le (by omega)]
 rw [h1, zbv z0q, List.flatMap_append, List.flatMap_cons, List.append_assoc]
theorem del_flat (l : List T) (i : Nat) : (l.flatMap z0h).take (i * 8) ++ (l.flatMap z0h).drop ((i + 1) * 8) = (l.eraseIdx i).flatMap z0h := by
 have h1 : (l.flatMap z0h).take (i * 8) = (l.take i).flatMap z0h := by
  by_cases hi : i <= l.length
  ·have e : l.flatMap z0h = (l.take i).flatMap z0h ++ (l.drop i).flatMap z0h := by rw [<- List.flatMap_append, List.take_append_drop]
   rw [e, List.take_append_of_le_length (by rw [z58 z0q, List.length_take]; omega), List.take_of_length_le (by rw [z58 z0q, List.length_take]; omega)]
  ·rw [List.take_of_length_le (by rw [z58 z0q]; omega), List.take_of_length_le (by omega)]
 rw [h1, zbv z0q, <- List.flatMap_append, List.eraseIdx_eq_take_drop_succ]
theorem zx6 (i : Nat) (x : T) (hx : szB x = true) (q : T) (hq : szB q = true) (hi : i <= q.kids.length) : PC prog 121 [z0m q, .rptr (.int .i64 i), .rptr (z0m x)] (z0m (z40 i x q)) := by
 obtain ⟨h0, h1, g1, h2, g2, h3, h4⟩ := (z2i q).1 hq
 have c1 := zdd x hx
 have ct := zbs q.kids h3
 refine z1g 5 (by simp only [pureD.pureL, z02, pureD, Bool.and_self]) (z02 _) (z14 [3000006, 4000007, 3000008, 3000009, 5000010, 4000012] func121 rfl (by decide +kernel) rfl ?_)
 show awp _ _ (Code.seq _ _) _ _
 rw [show Tryz.f121.results.toList = [.cell 4 27] from rfl]
 rw [show z0m q = .agg _ from by rw [z0m, z0f]]
 repeat' (first | ((first | refine zqh fun K J => ?_ | refine zqe (by decide +kernel) fun K J => ?_ | refine zqt (c1) ?_ | refine z94 (ct) rfl rfl rfl ?_); (simp (disch := omega) only [go_sem, Nat.reduceBEq, Nat.reduceEqDiff, ↓reduceIte, reduceCtorEq, Nat.reduceAdd, Nat.reduceMul, Nat.reduceLeDiff, zmy])) | (refine J _ ?_; clear J K))
 refine zfa (zxy (n := q.kids.length) (i := i) (cs := q.kids.flatMap z0h) (us := z0h x) ?_ hi (by simp) ?_ (by simp; omega)) rfl rfl (z9w _ (o := .row 27 q.kids.length (q.kids.flatMap z0h)) ?_ (by intro e cs h; cases h) (by intro e cs h; cases h)) ?_
 ·(simp (disch := omega) only [go_sem, Nat.reduceBEq])
 ·simp only [z1s, z46, z0q, if_true, List.append_nil]
 ·(simp (disch := omega) only [go_sem, Nat.reduceBEq])
 rw [ins_flat]
 (try (simp (disch := omega) only [go_sem, Nat.reduceBEq, Nat.reduceEqDiff, ↓reduceIte, reduceCtorEq, Nat.reduceAdd, Nat.reduceLeDiff, Nat.reduceLT, List.set_cons_succ, List.set_cons_zero])); repeat' (first | ((refine zqh fun K J => ?_); (simp (disch := omega) only [go_sem, Nat.reduceBEq, ↓reduceIte, Nat.reduceAdd, Nat.reduceLeDiff, List.set_cons_succ, List.set_cons_zero])) | refine zqn ?_ | refine zqu (by (simp (disch := omega) only [go_sem, Nat.reduceBEq, ↓reduceIte, Nat.reduceAdd, Nat.reduceLeDiff]); rfl) rfl ?_ | (refine J _ ?_; clear J K))
 refine z50 (z74 3 (t := z40 i x q) (z1y (f := z0h) (l := q.kids.take i ++ x :: q.kids.drop i) 2 ?_ ?_ z0l z30 z0q z04) rfl)
 ·simp; omega
 ·(simp (disch := omega) only [go_sem, Nat.reduceBEq])
theorem zoh (i : Nat) (q : T) (hq : szB q = true) (hi : i < q.kids.length) : PC prog 128 [z0m q, .rptr (.int .i64 i)] (z0m (zzs i q)) := by
 obtain ⟨h0, h1, g1, h2, g2, h3, h4⟩ := (z2i q).1 hq
 have ct := zbs q.kids h3
 have cd := fun (H : HM) (nx : Nat) (hid : H 2 = some (.row 27 q.kids.length (q.kids.flatMap z0h))) => zxz (nx := nx) (i := i) (j := i + 1) hid (by omega) (by omega)
 rw [del_flat] at cd
 simp only [Int.natCast_add, Int.natCast_one] at cd
 refine z1g 5 (by simp only [pureD.pureL, z02, pureD, Bool.and_self]) (z02 _) (z14 [3000005, 4000006, 3000007, 3000008, 4000010] func128 rfl (by decide +kernel) rfl ?_)
 show awp _ _ (Code.seq _ _) _ _
 rw [show Tryz.f128.results.toList = [.cell 3 27] from rfl]
 rw [show z0m q = .agg _ from by rw [z0m, z0f]]
 repeat' (first | ((first | refine zqh fun K J => ?_ | refine zqe (by decide +kernel) fun K J => ?_ | refine z94 (ct) rfl rfl rfl ?_); (simp (disch := omega) only [go_sem, Nat.reduceBEq, Nat.reduceEqDiff, ↓reduceIte, reduceCtorEq, Nat.reduceAdd, zmy])) | (refine J _ ?_; clear J K))
 refine zfa (cd _ _ ?_) rfl rfl (zt7 (o := .row 27 q.kids.length (q.kids.flatMap z0h)) ?_ ?_ (by intro e cs h; cases h) (by intro e cs h; cases h)) ?_
 ·(simp (disch := omega) only [go_sem, Nat.reduceBEq])
 ·(simp (disch := omega) only [go_sem, Nat.reduceBEq])
 ·(simp (disch := omega) only [go_sem, Nat.reduceLT])
 (try (simp (disch := omega) only [go_sem, Nat.reduceBEq, Nat.reduceEqDiff, ↓reduceIte, reduceCtorEq, Nat.reduceAdd, Nat.reduceLeDiff, Nat.reduceLT, List.set_cons_succ, List.set_cons_zero])); repeat' (first | ((refine zqh fun K J => ?_); (simp (disch := omega) only [go_sem, Nat.reduceBEq, ↓reduceIte, Nat.reduceAdd, Nat.reduceLeDiff, List.set_cons_succ, List.set_cons_zero])) | refine zqn ?_ | refine zqu (by (simp (disch := omega) only [go_sem, Nat.reduceBEq, ↓reduceIte, Nat.reduceAdd, Nat.reduceLeDiff]); rfl) rfl ?_ | (refine J _ ?_; clear J K))
 refine z50 (z74 3 (t := zzs i q) (z1y (f := z0h) (l := q.kids.eraseIdx i) 2 ?_ ?_ z0l z30 z0q z04) rfl)
 ·rw [List.length_eraseIdx_of_lt hi]; omega
 ·(simp (disch := omega) only [go_sem, Nat.reduceBEq])
theorem pc_put (i : Int) (x : T) : PC prog 61 [.int .i64 i, z0m x] (.fn 121 [.rptr (.int .i64 i), .rptr (z0m x)]) := by
 refine z1g 4 (by simp only [pureD.pureL, z02, pureD, Bool.and_self]) (by simp only [pureD.pureL, z02, pureD, Bool.and_self]) (z14 [] func61 rfl (by decide +kernel) rfl ?_)
 show awp _ _ (Code.seq _ _) _ _
 repeat' (first | ((refine zqh fun K J => ?_); (simp (disch := omega) only [go_sem, Nat.reduceBEq, Nat.reduceAdd])) | refine zqn ?_ | refine zqu (by simp only [go_sem]; rfl) rfl ?_ | (refine J _ ?_; clear J K))
 refine z50 (zf8 3 rfl (z00 (z2c (e := 3) 2 ?_ z5u (z08 1 rfl)) (z00 (z06 (e := 27) 1 ?_ z0l (z04 x)) z0c)))
 ·(simp (disch := omega) only [go_sem, Nat.reduceBEq])
 ·(simp (disch := omega) only [go_sem, Nat.reduceBEq])
theorem zt8 (t : T) (hs : szB t = true) (hd : depT t <= 1000000000) (id : Idv) (i : Nat) (hp : (z4w id t).2.1 = i) (hq : ∀ q ∈ z0j t, q.id = (z4w id t).1 -> i < q.kids.length) : PC prog 69 [z0m t, z0n id] (z0m (atR (z4w id t).1 (zzs i) t).1) := by
 have c1 := zcg t (z8b t hs) hd id
 have c2 := zgc t hs (z4w id t).1 (zzs i) (g := 128) (cap := [.rptr (.int .i64 i)]) rfl (fun q hq1 hq2 => zoh i q (zct t hs q hq1) (hq q hq1 hq2))
 rw [hp] at c1
 refine z1g 1 (by simp only [pureD.pureL, z02]; rfl) (z02 _) (z14 [] func69 rfl (by decide +kernel) rfl ?_)
 show awp _ _ (Code.seq _ _) _ _
 rw [show Tryz.f69.results.toList = [.cell 4 27] from rfl]
 repeat' (first | ((refine z36 (N := 1) rfl fun K J => ?_); (simp (disch := omega) only [go_sem, Nat.reduceBEq, Nat.reduceAdd])) | (refine J _ ?_; clear J K))
 refine z3j fun K J => ?_
 (simp (disch := omega) only [go_sem, Nat.reduceBEq, ↓reduceIte, Nat.reduceAdd, Nat.reduceLeDiff])
 refine zqs c1 ?_
 (simp (disch := omega) only [go_sem, Nat.reduceBEq, ↓reduceIte, Nat.reduceAdd, Nat.reduceLeDiff, Nat.reduceLT])
 refine J _ _ (zq9 (b := 4) (j := 6) (e := 3) (cs := [.int .i64 i]) (d := .int .i64 i) (by (simp (disch := omega) only [go_sem, Nat.reduceBEq])) (.inl rfl) rfl (by (simp (disch := omega) only [go_sem, Nat.reduceBEq]))) ?_
 clear J K
 repeat' (first | ((first | refine zqh fun K J => ?_ | refine zqs (c2) ?_); (simp (disch := omega) only [go_sem, Nat.reduceBEq, ↓reduceIte, Nat.reduceAdd, Nat.reduceLeDiff])) | refine zqn ?_ | refine zqu (by (simp (disch := omega) only [go_sem, Nat.reduceBEq, ↓reduceIte, Nat.reduceLeDiff]); rfl) rfl ?_ | (refine J _ ?_; clear J K))
 exact z0a (z02 _) (Le.refl _)
def z6d (t : T) : List D := [.int .i64 t.id.act, .int .i64 t.id.item, .int .i64 t.id.n, .int .i64 t.kind, .str t.label, z0r t.head, z0r t.words, z13 t.kids]
theorem zif (id : Idv) : ∀ t : T, szB t = true -> PC prog 157 [z0m t, z0n id] (z0m (z0i id t)) := by
 refine z5c fun t ih hs => ?_
 obtain ⟨h0, h1, g1, h2, g2, h3, h4⟩ := (z2i t).1 hs
 refine z1g 4 (by simp only [pureD.pureL, z02]; rfl) (z02 _) (z14 [7, 3000010, 3000016, 3000020, 3000021, 3000025, 3000028, 3000029] func157 rfl (by decide +kernel) rfl ?_)
 show awp _ _ (Code.seq _ _) _ _
 rw [show Tryz.f157.results.toList = [.cell 4 27] from rfl]
 rw [show z0m t = .agg _ from by rw [z0m, z0f], z4u]
 repeat' (first | refine zqj ?_ | ((refine zqh fun K J => ?_); (simp (disch := omega) only [go_sem, Nat.reduceBEq, ↓reduceIte, reduceCtorEq, Nat.reduceAdd, Nat.reduceMul])) | refine zqa ?_ | (refine J _ ?_; clear J K))
 (refine z4m (fun U st => ∃ (i : _), U = t.kids.length - i /\ st.t 2 = .ptr 0 0 /\ st.t 3 = .ptr 1 0 /\ st.t 4 = .ptr 2 0 /\ st.t 5 = .osl 3 (((t.kids.take i).filter (z4g id))).length /\ st.t 6 = .int .i64 i /\ st.H 0 = some (.box 27 (z6d t)) /\ st.H 1 = some (.box 23 (z07 id)) /\ st.H 2 = some (.box 27 [.int .i64 0, .int .i64 0, .int .i64 0, .int .i64 0, .str ByteArray.empty, .nil, .nil, .nil]) /\ st.H 3 = some (.row 27 (((t.kids.take i).filter (z4g id))).length ((((t.kids.take i).filter (z4g id)).map (z0i id)).flatMap z0h)) /\ (i <= t.kids.length) /\ (4 <= st.nx)) ?_ ?_); rotate_left; (rintro U st ⟨i, rfl, q2, q3, q4, q5, q6, qH0, qH1, qH2, qH3, qp0, qp1⟩); rotate_left
 ·(refine ⟨_, 0, rfl, ?_⟩); (simp (disch := omega) only [go_sem, Nat.reduceBEq, Nat.reduceLeDiff, true_and, and_true, and_self, Int.natCast_zero, z07, z6d])
  exact ⟨rfl, rfl⟩
 by_cases hi : i < t.kids.length
 ·have hin := ih t.kids[i] (List.getElem_mem hi) (h4 _ (List.getElem_mem hi))
  have htk := List.take_succ_eq_append_getElem hi
  by_cases hk : t.kids[i].id = id
  ·have hk2 := zv2 hk
   have hkd : decide (t.kids[i].id = id) = true := decide_eq_true hk
   repeat' (first | refine zqj ?_ | ((first | refine zqh fun K J => ?_ | refine zqe (by decide +kernel) fun K J => ?_ | refine zqr fun K J => ?_); (simp (disch := omega) only [go_sem, Nat.reduceBEq, Nat.reduceEqDiff, ↓reduceIte, reduceCtorEq, Nat.reduceAdd, Nat.reduceLeDiff, q2, q3, q6, qH0, qH1, z07, z6d, z13, hkd])) | ((first | refine zqd _ rfl (fun hc => ?_) (fun hc => ?_) | refine zqm _ rfl (fun hc => ?_) (fun hc => ?_)) <;> (first | (cases hc; done) | ((try simp only [z0b] at hc); (try omega)))) | refine zqa ?_ | refine zqb ?_ | refine zqk ?_ | refine zqv ?_ | refine zqy ?_ | (refine J _ ?_; clear J K))
   have e : (t.kids.take (i + 1)).filter (z4g id) = (t.kids.take i).filter (z4g id) := by rw [htk, List.filter_append, List.filter_cons, hk2]; simp
   (refine Exists.intro _ (And.intro ?_ ⟨i + 1, rfl, ?_⟩)); rotate_left; (simp (disch := omega) only [go_sem, Nat.reduceBEq, q2, q3, q4, q5, q6, qH0, qH1, qH2, qH3, true_and, Int.natCast_add, Int.natCast_one, e, z07, z6d]); rotate_left
   ·omega
   ·omega
  ·have hk2 := zdh hk
   have hkd : decide (t.kids[i].id = id) = false := decide_eq_false hk
   have hfl : ((t.kids.take i).filter (z4g id)).length <= 1000000 := by have := List.length_filter_le (z4g id) (t.kids.take i); rw [List.length_take] at this; omega
   repeat' (first | refine zqj ?_ | ((first | refine zqh fun K J => ?_ | refine zqe (by decide +kernel) fun K J => ?_ | refine zqr fun K J => ?_ | refine zqq (by decide +kernel) fun K J => ?_ | refine zqt (hin) ?_); (simp (disch := omega) only [go_sem, Nat.reduceBEq, Nat.reduceEqDiff, ↓reduceIte, reduceCtorEq, Nat.reduceAdd, Nat.reduceMul, Nat.reduceLeDiff, q2, q3, q5, q6, qH0, qH1, qH3, z07, z6d, z13, hkd])) | ((first | refine zqd _ rfl (fun hc => ?_) (fun hc => ?_) | refine zqm _ rfl (fun hc => ?_) (fun hc => ?_)) <;> (first | (cases hc; done) | ((try simp only [z0b] at hc); (try omega)))) | refine zqa ?_ | refine zqb ?_ | refine zqv ?_ | refine zqy ?_ | (refine J _ ?_; clear J K))
   have e : (t.kids.take (i + 1)).filter (z4g id) = (t.kids.take i).filter (z4g id) ++ [t.kids[i]] := by rw [htk, List.filter_append, List.filter_cons, hk2]; simp
   (refine Exists.intro _ (And.intro ?_ ⟨i + 1, rfl, ?_⟩)); rotate_left; (simp (disch := omega) only [go_sem, Nat.reduceBEq, q2, q3, q4, q5, q6, qH0, qH1, qH2, qH3, true_and, Int.natCast_add, Int.natCast_one, List.flatMap_append, List.flatMap_cons, List.flatMap_nil, List.map_append, List.map_cons, List.map_nil, List.append_nil, e, z07, z6d, List.length_append, List.length_cons, List.length_nil]); rotate_left
   ·omega
   ·omega
 ·repeat' (first | refine zqj ?_ | ((refine zqh fun K J => ?_); (simp (disch := omega) only [go_sem, Nat.reduceBEq, ↓reduceIte, reduceCtorEq, Nat.reduceAdd, Nat.reduceLeDiff, Nat.reduceLT, q2, q4, q5, q6, qH0, qH2, z13, z6d, List.set_cons_succ, List.set_cons_zero])) | ((refine zqd _ rfl (fun hc => ?_) (fun hc => ?_)) <;> (((try simp only [z0b] at hc); (try omega)))) | refine zqc ?_ | refine zqn ?_ | refine zqv ?_ | refine zqz ?_ | refine zqp ?_ | refine zqu (by (simp (disch := omega) only [go_sem, Nat.reduceBEq, ↓reduceIte, Nat.reduceAdd, Nat.reduceLeDiff, q4, qH2]); rfl) rfl ?_ | (refine J _ ?_; clear J K))
  have hi2 : i = t.kids.length := by omega
  subst hi2
  rw [List.take_length] at q5 qH3
  refine z50 (z74 2 (t := t.setKids ((t.kids.filter (z4g id)).map (z0i id))) (z1y (f := z0h) (l := (t.kids.filter (z4g id)).map (z0i id)) 1 ?_ ?_ z0l z30 z0q z04) rfl)
  ·rw [List.length_map, List.take_length]
  ·(simp (disch := omega) only [go_sem, Nat.reduceBEq, qH3])
theorem zq8 (id : Idv) (n : Nat) (x : T) : ∀ t : T, szB t = true -> (∀ q ∈ z0j t, q.id = id -> n <= q.kids.length) -> PC prog 155 [z0m t, z0n id, .int .i64 n, z0m x] (z0m (z0p id (z40 n x) t)) := by
 refine z5c fun t ih hs hn => ?_
 obtain ⟨h0, h1, g1, h2, g2, h3, h4⟩ := (z2i t).1 hs
 refine z1g 4 (by simp only [pureD.pureL, z02, pureD, Bool.and_self]; rfl) (z02 _) (z14 [22, 3000016, 3000018, 3000025, 3000032, 3000035, 3000036, 3000038] func155 rfl (by decide +kernel) rfl ?_)
 show awp _ _ (Code.seq _ _) _ _
 rw [show Tryz.f155.results.toList = [.cell 8 27] from rfl]
 rw [show z0m t = .agg _ from by rw [z0m, z0f], z4b]
 by_cases hid : t.id = id
 ·have hidd : decide (t.id = id) = true := decide_eq_true hid
  rw [if_pos hid]
  have c1 := pc_putR t.kids h3 n (hn t (z1r t) hid) x
  repeat' (first | refine zqj ?_ | ((first | refine zqh fun K J => ?_ | refine zqs (c1) ?_); (simp (disch := omega) only [go_sem, Nat.reduceBEq, ↓reduceIte, reduceCtorEq, Nat.reduceAdd, Nat.reduceLeDiff, Nat.reduceLT, hidd, z13, List.set_cons_succ, List.set_cons_zero])) | ((refine zqd _ rfl (fun hc => ?_) (fun hc => ?_)) <;> (first | (cases hc; done) | ((try simp only [] at hc); (try omega)))) | refine zqg ?_ | refine zqu (by (simp (disch := omega) only [go_sem, Nat.reduceBEq, ↓reduceIte, Nat.reduceAdd, Nat.reduceLeDiff]); rfl) rfl ?_ | (refine J _ ?_; clear J K))
  rw [z0m, z0f]
  exact z0a (by simp only [pureD, pureD.pureL, z0d, zdq, Bool.and_self]) (Le.refl _)
 ·have hidd : decide (t.id = id) = false := decide_eq_false hid
  rw [if_neg hid]
  repeat' (first | refine zqj ?_ | ((refine zqh fun K J => ?_); (simp (disch := omega) only [go_sem, Nat.reduceBEq, ↓reduceIte, reduceCtorEq, Nat.reduceAdd, Nat.reduceMul, Nat.reduceLeDiff, hidd])) | ((refine zqd _ rfl (fun hc => ?_) (fun hc => ?_)) <;> (first | (cases hc; done) | ((try simp only [] at hc); (try omega)))) | refine zqa ?_ | refine zqb ?_ | (refine J _ ?_; clear J K))
  (refine z4m (fun U st => ∃ (i : _), U = t.kids.length - i /\ st.t 4 = .ptr 0 0 /\ st.t 5 = .ptr 1 0 /\ st.t 2 = .int .i64 n /\ st.t 7 = .ptr 2 0 /\ st.t 8 = .ptr 3 0 /\ st.t 9 = .osl 4 i /\ st.t 10 = .int .i64 i /\ st.H 0 = some (.box 27 (z6d t)) /\ st.H 1 = some (.box 23 (z07 id)) /\ st.H 2 = some (.box 27 (z0h x)) /\ st.H 3 = some (.box 27 [.int .i64 0, .int .i64 0, .int .i64 0, .int .i64 0, .str ByteArray.empty, .nil, .nil, .nil]) /\ st.H 4 = some (.row 27 i (((t.kids.take i).map (z0p id (z40 n x))).flatMap z0h)) /\ (i <= t.kids.length) /\ (5 <= st.nx)) ?_ ?_); rotate_left; (rintro U st ⟨i, rfl, q4, q5, q2, q7, q8, q9, q10, qH0, qH1, qH2, qH3, qH4, qp0, qp1⟩); rotate_left
  ·(refine ⟨_, 0, rfl, ?_⟩); (simp (disch := omega) only [go_sem, Nat.reduceBEq, Nat.reduceLeDiff, and_self, Int.natCast_zero, List.flatMap_nil, List.map_nil, z07, z6d])
   try exact ⟨rfl, rfl⟩
  by_cases hi : i < t.kids.length
  ·have hin := ih t.kids[i] (List.getElem_mem hi) (h4 _ (List.getElem_mem hi)) (fun q hq => hn q (z2g (List.getElem_mem hi) hq))
   have htk := List.take_succ_eq_append_getElem hi
   repeat' (first | refine zqj ?_ | ((first | refine zqh fun K J => ?_ | refine zqr fun K J => ?_ | refine zqq (by decide +kernel) fun K J => ?_ | refine zqt (hin) ?_); (simp (disch := omega) only [go_sem, Nat.reduceBEq, Nat.reduceEqDiff, ↓reduceIte, reduceCtorEq, Nat.reduceAdd, Nat.reduceMul, Nat.reduceLeDiff, q4, q5, q2, q7, q9, q10, qH0, qH1, qH2, qH4, z07, z6d, z13])) | ((refine zqd _ rfl (fun hc => ?_) (fun hc => ?_)) <;> (((try simp only [z0b] at hc); (try omega)))) | refine zqa ?_ | refine zqb ?_ | refine zqv ?_ | refine zqy ?_ | (refine J _ ?_; clear J K))
   (refine Exists.intro _ (And.intro ?_ ⟨i + 1, rfl, ?_⟩)); rotate_left; (simp (disch := omega) only [go_sem, Nat.reduceBEq, q4, q5, q2, q7, q8, q9, q10, qH0, qH1, qH2, qH3, qH4, true_and, Int.natCast_add, Int.natCast_one, List.flatMap_append, List.flatMap_cons, List.flatMap_nil, List.map_append, List.map_cons, List.map_nil, List.append_nil, htk, z07, z6d]); rotate_left
   ·omega
   ·omega
  ·repeat' (first | refine zqj ?_ | ((refine zqh fun K J => ?_); (simp (disch := omega) only [go_sem, Nat.reduceBEq, ↓reduceIte, reduceCtorEq, Nat.reduceAdd, Nat.reduceLeDiff, Nat.reduceLT, q4, q8, q9, q10, qH0, qH3, z13, z6d, List.set_cons_succ, List.set_cons_zero])) | ((refine zqd _ rfl (fun hc => ?_) (fun hc => ?_)) <;> (((try simp only [z0b] at hc); (try omega)))) | refine zqc ?_ | refine zqn ?_ | refine zqv ?_ | refine zqz ?_ | refine zqp ?_ | refine zqu (by (simp (disch := omega) only [go_sem, Nat.reduceBEq, ↓reduceIte, Nat.reduceAdd, Nat.reduceLeDiff, q8, qH3]); rfl) rfl ?_ | (refine J _ ?_; clear J K))
   have hi2 : i = t.kids.length := by omega
   subst hi2
   rw [List.take_length] at qH4
   refine z50 (z74 2 (t := t.setKids (t.kids.map (z0p id (z40 n x)))) (z1y (f := z0h) (l := t.kids.map (z0p id (z40 n x))) 1 ?_ ?_ z0l z30 z0q z04) rfl)
   ·rw [List.length_map]
   ·(simp (disch := omega) only [go_sem, Nat.reduceBEq, qH4])
theorem zod (x : T) : ∀ t : T, szB t = true -> PC prog 163 [z0m t, z0m x] (z0m (z0p x.id (fun q => x.setKids q.kids) t)) := by
 refine z5c fun t ih hs => ?_
 obtain ⟨h0, h1, g1, h2, g2, h3, h4⟩ := (z2i t).1 hs
 refine z1g 4 (by simp only [pureD.pureL, z02, Bool.and_self]) (z02 _) (z14 [16, 3000013, 3000019, 3000026, 3000029, 3000030] func163 rfl (by decide +kernel) rfl ?_)
 show awp _ _ (Code.seq _ _) _ _
 rw [show Tryz.f163.results.toList = [.cell 4 27] from rfl]
 rw [show z0m t = .agg _ from by rw [z0m, z0f], z4b]
 by_cases hid : t.id = x.id
 ·have hidd : decide (t.id = x.id) = true := decide_eq_true hid
  rw [if_pos hid]
  rw [show z0m x = .agg _ from by rw [z0m, z0f]]
  repeat' (first | refine zqj ?_ | ((refine zqh fun K J => ?_); (simp (disch := omega) only [go_sem, Nat.reduceBEq, ↓reduceIte, reduceCtorEq, Nat.reduceAdd, Nat.reduceLeDiff, Nat.reduceLT, hidd, z13, List.set_cons_succ, List.set_cons_zero])) | ((refine zqd _ rfl (fun hc => ?_) (fun hc => ?_)) <;> (first | (cases hc; done) | ((try simp only [] at hc); (try omega)))) | refine zqg ?_ | refine zqu (by (simp (disch := omega) only [go_sem, Nat.reduceBEq, ↓reduceIte, Nat.reduceAdd, Nat.reduceLeDiff]); rfl) rfl ?_ | (refine J _ ?_; clear J K))
  rw [z0m, z0f]
  exact z0a (by simp only [pureD, pureD.pureL, z0d, zdq, Bool.and_self]) (Le.refl _)
 ·have hidd : decide (t.id = x.id) = false := decide_eq_false hid
  rw [if_neg hid]
  repeat' (first | refine zqj ?_ | ((refine zqh fun K J => ?_); (simp (disch := omega) only [go_sem, Nat.reduceBEq, ↓reduceIte, reduceCtorEq, Nat.reduceAdd, Nat.reduceMul, Nat.reduceLeDiff, hidd])) | ((refine zqd _ rfl (fun hc => ?_) (fun hc => ?_)) <;> (first | (cases hc; done) | ((try simp only [] at hc); (try omega)))) | refine zqa ?_ | refine zqb ?_ | (refine J _ ?_; clear J K))
  (refine z4m (fun U st => ∃ (i : _), U = t.kids.length - i /\ st.t 2 = .ptr 0 0 /\ st.t 3 = .ptr 1 0 /\ st.t 4 = .ptr 2 0 /\ st.t 5 = .osl 3 i /\ st.t 6 = .int .i64 i /\ st.H 0 = some (.box 27 (z6d t)) /\ st.H 1 = some (.box 27 (z0h x)) /\ st.H 2 = some (.box 27 [.int .i64 0, .int .i64 0, .int .i64 0, .int .i64 0, .str ByteArray.empty, .nil, .nil, .nil]) /\ st.H 3 = some (.row 27 i (((t.kids.take i).map (z0p x.id (fun q => x.setKids q.kids))).flatMap z0h)) /\ (i <= t.kids.length) /\ (4 <= st.nx)) ?_ ?_); rotate_left; (rintro U st ⟨i, rfl, q2, q3, q4, q5, q6, qH0, qH1, qH2, qH3, qp0, qp1⟩); rotate_left
  ·(refine ⟨_, 0, rfl, ?_⟩); (simp (disch := omega) only [go_sem, Nat.reduceBEq, Nat.reduceLeDiff, and_self, Int.natCast_zero, List.flatMap_nil, List.map_nil, z6d])
   try exact ⟨rfl, rfl⟩
  by_cases hi : i < t.kids.length
  ·have hin := ih t.kids[i] (List.getElem_mem hi) (h4 _ (List.getElem_mem hi))
   have htk := List.take_succ_eq_append_getElem hi
   repeat' (first | refine zqj ?_ | ((first | refine zqh fun K J => ?_ | refine zqr fun K J => ?_ | refine zqq (by decide +kernel) fun K J => ?_ | refine zqt (hin) ?_); (simp (disch := omega) only [go_sem, Nat.reduceBEq, Nat.reduceEqDiff, ↓reduceIte, reduceCtorEq, Nat.reduceAdd, Nat.reduceMul, Nat.reduceLeDiff, q2, q3, q5, q6, qH0, qH1, qH3, z6d, z13])) | ((refine zqd _ rfl (fun hc => ?_) (fun hc => ?_)) <;> (((try simp only [z0b] at hc); (try omega)))) | refine zqa ?_ | refine zqb ?_ | refine zqv ?_ | refine zqy ?_ | (refine J _ ?_; clear J K))
   (refine Exists.intro _ (And.intro ?_ ⟨i + 1, rfl, ?_⟩)); rotate_left; (simp (disch := omega) only [go_sem, Nat.reduceBEq, q2, q3, q4, q5, q6, qH0, qH1, qH2, qH3, true_and, Int.natCast_add, Int.natCast_one, List.flatMap_append, List.flatMap_cons, List.flatMap_nil, List.map_append, List.map_cons, List.map_nil, List.append_nil, htk, z6d]); rotate_left
   ·omega
   ·omega
  ·repeat' (first | refine zqj ?_ | ((refine zqh fun K J => ?_); (simp (disch := omega) only [go_sem, Nat.reduceBEq, ↓reduceIte, reduceCtorEq, Nat.reduceAdd, Nat.reduceLeDiff, Nat.reduceLT, q2, q4, q5, q6, qH0, qH2, z13, z6d, List.set_cons_succ, List.set_cons_zero])) | ((refine zqd _ rfl (fun hc => ?_) (fun hc => ?_)) <;> (((try simp only [z0b] at hc); (try omega)))) | refine zqc ?_ | refine zqn ?_ | refine zqv ?_ | refine zqz ?_ | refine zqp ?_ | refine zqu (by (simp (disch := omega) only [go_sem, Nat.reduceBEq, ↓reduceIte, Nat.reduceAdd, Nat.reduceLeDiff, q4, qH2]); rfl) rfl ?_ | (refine J _ ?_; clear J K))
   have hi2 : i = t.kids.length := by omega
   subst hi2
   rw [List.take_length] at qH3
   refine z50 (z74 2 (t := t.setKids (t.kids.map (z0p x.id (fun q => x.setKids q.kids)))) (z1y (f := z0h) (l := t.kids.map (z0p x.id (fun q => x.setKids q.kids))) 1 ?_ ?_ z0l z30 z0q z04) rfl)
   ·rw [List.length_map]
   ·(simp (disch := omega) only [go_sem, Nat.reduceBEq, qH3])
theorem zx2 (t x : T) (hs : szB t = true) (hx : szB x = true) (hc : cntT x <= 1000000) : PC prog 184 [z0m t, z0m x] (.bool ((idsT x).any fun i => (z05 i t).2)) := by
 have c1 := zpf x hx (by omega)
 have hl := z2n x
 refine z1g 1 (by simp only [pureD.pureL, z02, Bool.and_self]) rfl (z14 [3000015, 3000019, 5000020] func184 rfl (by decide +kernel) rfl ?_)
 show awp _ _ (Code.seq _ _) _ _
 repeat' (first | refine zqj ?_ | ((first | refine zqh fun K J => ?_ | refine zqs (c1) ?_); (simp (disch := omega) only [go_sem, Nat.reduceBEq, ↓reduceIte, Nat.reduceAdd, Nat.reduceLeDiff])) | refine zqa ?_ | (refine J _ ?_; clear J K))
 (refine z4m (fun U st => ∃ (i : _), U = (idsT x).length - i /\ st.t 2 = .ptr 0 0 /\ st.t 3 = .ptr 1 0 /\ st.t 5 = z22 (idsT x) /\ st.t 6 = .int .i64 i /\ st.H 0 = some (.box 27 (z0h t)) /\ st.H 1 = some (.box 27 (z0h x)) /\ (i <= (idsT x).length) /\ (2 <= st.nx) /\ (((idsT x).take i).any (fun i => (z05 i t).2) = false)) ?_ ?_); rotate_left; (rintro U st ⟨i, rfl, q2, q3, q5, q6, qH0, qH1, qp0, qp1, qp2⟩); rotate_left
 ·(refine ⟨_, 0, rfl, ?_⟩); (simp (disch := omega) only [go_sem, Nat.reduceBEq, Nat.reduceLeDiff, and_self, Int.natCast_zero])
  try simp
 have hin := fun (h : i < (idsT x).length) => zx7 t hs (idsT x)[i]
 repeat' (first | refine zqj ?_ | ((first | refine zqh fun K J => ?_ | refine zqe (by decide +kernel) fun K J => ?_ | refine zqr fun K J => ?_ | refine zqt (hin (by omega)) ?_); (simp (disch := omega) only [go_sem, Nat.reduceBEq, Nat.reduceEqDiff, ↓reduceIte, reduceCtorEq, Nat.reduceAdd, Nat.reduceLeDiff, q2, q5, q6, qH0, z22])) | ((first | refine zqd _ rfl (fun hc => ?_) (fun hc => ?_) | refine zqm _ rfl (fun hc => ?_) (fun hc => ?_)) <;> (((try simp only [z0b] at hc); (try omega)))) | refine zqa ?_ | refine zqb ?_ | refine zqc ?_ | refine zqk ?_ | refine zqn ?_ | refine zqv ?_ | refine zqx ?_ | refine zqy ?_ | refine zqz ?_ | refine z6q ?_ | refine zqp ?_ | refine zqo ?_ | refine zqu (by simp only [go_sem]; rfl) rfl ?_ | (refine J _ ?_; clear J K))
 ·exact z03 (zjv (i := i) (by omega) (by assumption)).symm
 ·(refine Exists.intro _ (And.intro ?_ ⟨i + 1, rfl, ?_⟩)); rotate_left; (simp (disch := omega) only [go_sem, Nat.reduceBEq, q2, q3, q5, q6, qH0, qH1, true_and, Int.natCast_add, Int.natCast_one]); rotate_left
  ·omega
  ·exact ⟨by omega, by omega, z59 (by omega) qp2 (by assumption)⟩
 ·exact z03 (zjw (i := i) (by omega) qp2).symm

namespace Tr
def z25 (u : T) (parent : Idv) (i : Int) (x : T) : Int :=
 if standsT u = false \/ standsT x = false \/ x.kind = 0 then 1 else
 if (z05 parent u).2 = false then 4 else
 if z1o (z05 parent u).1.kind x.kind = false then 9 else
 if i < 0 \/ ((z05 parent u).1.kids.length : Int) < i then 3 else
 if z3b (z05 parent u).1.kids x.kind x.label = true then 10 else
 if 64 <= (z05 parent u).1.kids.length \/ 8 < (z20 parent u).length + 1 + depT x \/ 1024 < cntT u + cntT x then 6 else
 if ((idsT x).any fun i => (z05 i u).2) = true then 5 else 0
theorem zmx (l : List T) (k : Int) (n : ByteArray) (b : Idv) : zmb l k n b true = z3b l k n := by
 unfold zmb z3b; simp
theorem z7o {id : Idv} {u : T} (h : (z05 id u).2 = true) : (z05 id u).1 ∈ z0j u := by
 have hm := z75.1 h
 unfold z05
 rw [zcf _ hm]
 exact zdr id u _ (List.getElem_mem _)
theorem z8m {id : Idv} {u q : T} (hn : (idsT u).Nodup) (hq : q ∈ z0j u) (hid : q.id = id) : z05 id u = (q, true) := by
 have key : ∀ u : T, (idsT u).Nodup -> q ∈ z0j u -> z05 id u = (q, true) := by
  refine z5c fun u ih hn hq => ?_
  rw [z1n, List.mem_cons] at hq
  rcases hq with rfl | hq
  ·exact z34 hid
  ·obtain ⟨k, hk, hqk⟩ := List.mem_flatMap.1 hq
   obtain ⟨i, hi, rfl⟩ := List.getElem_of_mem hk
   obtain ⟨g1, g2, g3⟩ := z5z hn
   have hin : id ∈ idsT u.kids[i] := List.mem_map.2 ⟨q, hqk, hid⟩
   have h2 := ih _ hk (g2 _ hk) hqk
   have hw : z1t id u.kids[i] ≠ [] := z5o.2 hin
   rw [z4d (z4x (fun e => g1 _ hk (e ▸ hin)) hi (fun j hj h => (z5l id _).2 (g3 i j hi h (by omega) id hin)) hw) hw, h2]
 exact key u hn hq
def z4l (u : T) (id : Idv) : Int := if standsT u = false then 1 else if (z05 id u).2 = false then 4 else if u.id = id then 9 else 0
theorem z3p {u x : T} {parent : Idv} {i : Int} (h : z25 u parent i x = 0) : (standsT u = true /\ standsT x = true /\ x.kind ≠ 0 /\ (z05 parent u).2 = true /\ z1o (z05 parent u).1.kind x.kind = true /\ z3b (z05 parent u).1.kids x.kind x.label = false /\ (z05 parent u).1.kids.length < 64 /\ (z20 parent u).length + 1 + depT x <= 8 /\ cntT u + cntT x <= 1024 /\ ((idsT x).any fun i => (z05 i u).2) = false) /\
  parent ∈ idsT u /\ ∃ n : Nat, i = n /\ ∀ q ∈ z0j u, q.id = parent -> n <= q.kids.length := by
 unfold z25 at h
 split at h
 ·cases h
 rename_i h1
 split at h
 ·cases h
 rename_i h2
 split at h
 ·cases h
 rename_i h3
 split at h
 ·cases h
 rename_i h4
 split at h
 ·cases h
 rename_i h5
 split at h
 ·cases h
 rename_i h6
 split at h
 ·cases h
 rename_i h7
 simp only [not_or, Bool.not_eq_false, Bool.not_eq_true] at h1 h2 h3 h5 h7
 refine ⟨⟨h1.1, h1.2.1, h1.2.2, h2, h3, h5, by omega, by omega, by omega, h7⟩, ?_, i.toNat, by omega, fun q hq hid => ?_⟩
 ·rw [z27, decide_eq_true_eq] at h2; exact h2
 ·rw [z8m ((z1v u).1 h1.1).2.2.2.1 hq hid] at h4
  simp only at h4
  omega
end Tr
theorem pc_Wrong (u x : T) (hu : szB u = true) (hx : szB x = true) (cu : cntT u <= 1000000) (cx : cntT x <= 1000000) (du : depT u <= 1000000) (dx : depT x <= 1000000) (parent : Idv) (i : Int) (hi : -9223372036854775808 <= i /\ i <= 9223372036854775807) :
  PC prog 154 [z0m u, z0n parent, .int .i64 i, z0m x] (.int .i64 (z25 u parent i x)) := by
 have c1 := z5t u hu (by omega) (by omega)
 have c2 := z5t x hx (by omega) (by omega)
 have c3 := z5f parent u hu
 have hf := z6k parent u hu
 have hk := (z6j hf).1
 have c4 := zj8 (z05 parent u).1.kind x.kind
 have c5 := zgd (z05 parent u).1.kids hk x.kind x.label x.id true
 rw [zmx] at c5
 have c6 := zql u hu (by omega) parent
 have c7 := zfk x hx (by omega)
 have c8 := zfj u hu (by omega)
 have c9 := zfj x hx (by omega)
 have c10 := zx2 u x hu hx cx
 have ha := z4v parent u
 unfold z25
 refine z1g 1 (by simp only [pureD.pureL, z02, pureD, Bool.and_self]; rfl) rfl (z14 [8000000, 3000057, 3000061, 3000062, 5000063, 3000065, 5000066, 3000071, 5000072, 3000073, 5000074] func154 rfl (by decide +kernel) rfl ?_)
 show awp _ _ (Code.seq _ _) _ _
 repeat' (first | refine zqj ?_ | ((first | refine z36 (N := 10) rfl fun K J => ?_ | refine zqs (c1) ?_ | refine zqs (c2) ?_ | refine zqs (c3) ?_ | refine zqs (c4) ?_); (simp (disch := omega) only [go_sem, Nat.reduceBEq, ↓reduceIte, reduceCtorEq, Nat.reduceAdd, Nat.reduceLeDiff])) | ((refine zqd _ rfl (fun hc => ?_) (fun hc => ?_)) <;> (first | (cases hc; done) | ((try simp only [z0b] at hc); (try omega)))) | refine zqb ?_ | refine zqg ?_ | refine zqu (by simp only [go_sem]; rfl) rfl ?_ | (refine J _ ?_; clear J K) | (refine zqf (fun hb => ?_) (fun hb => ?_) <;> (have hb2 := hb; try simp only [z0b] at hb2) <;> ((first | have hb3 : (_ : Bool) = _ := hb2 | have hb3 := eq_false hb2 | have hb3 := eq_true hb2); (simp (disch := omega) only [go_sem, Nat.reduceBEq, ↓reduceIte, reduceCtorEq, Nat.reduceAdd, Nat.reduceLeDiff, hb3, z13]); clear hb hb3; (try omega))))
 all_goals first | (refine z1e ?_; clear c1 c2 c3 c4 c5 c6 c7 c8 c9 c10; (repeat' split) <;> first | rfl | (exfalso; simp_all <;> omega)) | skip
 (refine zx5 (fun st => st.t 2 = .int .i64 i /\ st.t 4 = .ptr 0 0 /\ st.t 5 = .ptr 1 0 /\ st.t 7 = .ptr 2 0 /\ st.t 9 = .ptr 3 0 /\ st.H 0 = some (.box 27 (z0h u)) /\ st.H 1 = some (.box 23 (z07 parent)) /\ st.H 2 = some (.box 27 (z0h x)) /\ st.H 3 = some (.box 27 (z0h (z05 parent u).1)) /\ st.nx = 4) ?_ ?_); rotate_left; (rintro st ⟨p2, p4, p5, p7, p9, pH0, pH1, pH2, pH3, pnx⟩); rotate_left
 ·(simp (disch := omega) only [go_sem, Nat.reduceBEq, and_self, z07])
 repeat' (first | refine zqj ?_ | ((first | refine zqh fun K J => ?_ | refine zqe (by decide +kernel) fun K J => ?_ | refine zqs (c5) ?_ | refine zqt (c6) ?_ | refine zqt (c7) ?_ | refine zqt (c8) ?_ | refine zqt (c9) ?_ | refine zqs (c10) ?_); (simp (disch := omega) only [go_sem, Nat.reduceBEq, Nat.reduceEqDiff, ↓reduceIte, reduceCtorEq, Nat.reduceAdd, Nat.reduceLeDiff, Nat.reduceLT, p4, p7, p9, pH0, pH2, pH3, pnx, z13])) | ((refine zqd _ rfl (fun hc => ?_) (fun hc => ?_)) <;> (first | (cases hc; done) | ((try simp only [z0b] at hc); (try omega)))) | refine zqb ?_ | refine zqg ?_ | refine zqn ?_ | refine zqu (by simp only [go_sem]; rfl) rfl ?_ | (refine J _ ?_; clear J K) | (refine zqf (fun hb => ?_) (fun hb => ?_) <;> (have hb2 := hb; try simp only [z0b] at hb2) <;> ((first | have hb3 := eq_false hb2 | have hb3 := eq_true hb2); (simp (disch := omega) only [go_sem, Nat.reduceBEq, Nat.reduceEqDiff, ↓reduceIte, Nat.reduceAdd, Nat.reduceLeDiff, hb3, p4, p5, pH0, pH1, pnx, z07]); clear hb hb3; (try omega))))
 all_goals (refine z1e ?_; clear c1 c2 c3 c4 c5 c6 c7 c8 c9 c10; (repeat' split) <;> first | rfl | (exfalso; simp_all <;> omega))
theorem zts (u x : T) (hu : szB u = true) (hx : szB x = true) (cu : cntT u <= 1000000) (cx : cntT x <= 1000000) (du : depT u <= 1000000) (dx : depT x <= 1000000) (parent : Idv) (i : Int) (hi : -9223372036854775808 <= i /\ i <= 9223372036854775807) :
  PC prog 102 [z0m u, z0n parent, .int .i64 i, z0m x] (.tup [z0m (if z25 u parent i x ≠ 0 then T.zero else z0p parent (z40 i.toNat x) u), .int .i64 (z25 u parent i x)]) := by
 have c1 := pc_Wrong u x hu hx cu cx du dx parent i hi
 refine z1g 3 (by simp only [pureD.pureL, z02, pureD, Bool.and_self]; rfl) (by simp only [pureD.pureL, z02, pureD, Bool.and_self]) (z14 [] func102 rfl (by decide +kernel) rfl ?_)
 show awp _ _ (Code.seq _ _) _ _
 rw [show Tryz.f102.results.toList = [.cell 8 27, .tmp 9] from rfl]
 by_cases hw : z25 u parent i x = 0
 ·obtain ⟨hr, hm, n, rfl, hn⟩ := z3p hw
  have c2 := zq8 parent n x u hu hn
  rw [hw] at c1 ⊢
  rw [if_neg (fun h => h rfl), Int.toNat_natCast]
  repeat' (first | refine zqj ?_ | ((first | refine zqh fun K J => ?_ | refine zqs (c1) ?_ | refine zqs (c2) ?_); (simp (disch := omega) only [go_sem, Nat.reduceBEq, ↓reduceIte, Nat.reduceAdd, Nat.reduceLeDiff])) | ((refine zqd _ rfl (fun hc => ?_) (fun hc => ?_)) <;> (first | (cases hc; done) | ((try simp only [] at hc); (try omega)))) | refine zqb ?_ | refine zqn ?_ | refine zqu (by (simp (disch := omega) only [go_sem, Nat.reduceBEq, ↓reduceIte, Nat.reduceLeDiff]); rfl) rfl ?_ | (refine J _ ?_; clear J K))
  refine z0a ?_ (Le.refl _)
  simp only [pureD, pureD.pureL, z04, Bool.and_self]
 ·rw [if_pos hw]
  repeat' (first | refine zqj ?_ | ((first | refine zqh fun K J => ?_ | refine zqs (c1) ?_); (simp (disch := omega) only [go_sem, Nat.reduceBEq, ↓reduceIte, Nat.reduceAdd, Nat.reduceLeDiff])) | ((refine zqd _ rfl (fun hc => ?_) (fun hc => ?_)) <;> (((try simp only [z0b] at hc); (try omega)))) | refine zqg ?_ | refine zqu (by (simp (disch := omega) only [go_sem, Nat.reduceBEq, ↓reduceIte, Nat.reduceAdd, Nat.reduceLeDiff]); rfl) rfl ?_ | (refine J _ ?_; clear J K))
  exact z0a rfl (Le.tup ⟨z12, Le.refl _, trivial⟩)
theorem pc_Take (u : T) (hu : szB u = true) (cu : cntT u <= 1000000) (du : depT u <= 1000000) (id : Idv) :
  PC prog 105 [z0m u, z0n id] (.tup [z0m (if z4l u id = 0 then z0i id u else T.zero), z0m (if z4l u id = 0 then (z05 id u).1 else T.zero), .int .i64 (z4l u id)]) := by
 have c1 := z5t u hu (by omega) (by omega)
 have c3 := z5f id u hu
 have c4 := zif id u hu
 have hz : Le (.agg [.int .i64 0, .int .i64 0, .int .i64 0, .int .i64 0, .str ByteArray.empty, .nil, .nil, .nil]) (z0m T.zero) := z12
 refine z1g 3 (by simp only [pureD.pureL, z02]; rfl) (by simp only [pureD.pureL, z02, pureD, Bool.and_self]) (z14 [3000030, 3000031, 5000032, 600033, 900004, 600004, 900002, 600005, 900003] func105 rfl (by decide +kernel) rfl ?_)
 show awp _ _ (Code.seq _ _) _ _
 rw [show Tryz.f105.results.toList = [.cell 4 27, .cell 5 27, .tmp 6] from rfl]
 by_cases h1 : standsT u = true
 ·by_cases h2 : (z05 id u).2 = true
  ·by_cases h3 : u.id = id
   ·have e : z4l u id = 9 := by unfold z4l; rw [if_neg (by simp [h1]), if_neg (by simp [h2]), if_pos h3]
    rw [e, if_neg (by decide), if_neg (by decide)]
    have h3d : decide (u.id = id) = true := decide_eq_true h3
    rw [h1] at c1
    rw [h2] at c3
    repeat' (first | refine zqj ?_ | ((first | refine zqh fun K J => ?_ | refine zqs (c1) ?_ | refine zqs (c3) ?_); (simp (disch := omega) only [go_sem, Nat.reduceBEq, ↓reduceIte, reduceCtorEq, Nat.reduceAdd, Nat.reduceLeDiff, h3d])) | ((refine zqd _ rfl (fun hc => ?_) (fun hc => ?_)) <;> (first | (cases hc; done) | ((try simp only [] at hc); (try omega)))) | refine zqb ?_ | refine zqg ?_ | refine zqu (by (simp (disch := omega) only [go_sem, Nat.reduceBEq, ↓reduceIte, Nat.reduceAdd, Nat.reduceLeDiff]); rfl) rfl ?_ | (refine J _ ?_; clear J K))
    exact z0a rfl (Le.tup ⟨z12, z12, Le.refl _, trivial⟩)
   ·have e : z4l u id = 0 := by unfold z4l; rw [if_neg (by simp [h1]), if_neg (by simp [h2]), if_neg h3]
    rw [e, if_pos rfl, if_pos rfl]
    have h3d : decide (u.id = id) = false := decide_eq_false h3
    rw [h1] at c1
    rw [h2] at c3
    repeat' (first | refine zqj ?_ | ((first | refine zqh fun K J => ?_ | refine zqe (by decide +kernel) fun K J => ?_ | refine zqs (c1) ?_ | refine zqs (c3) ?_ | refine zqt (c4) ?_); (simp (disch := omega) only [go_sem, Nat.reduceBEq, Nat.reduceEqDiff, ↓reduceIte, reduceCtorEq, Nat.reduceAdd, Nat.reduceLeDiff, h3d])) | ((refine zqd _ rfl (fun hc => ?_) (fun hc => ?_)) <;> (first | (cases hc; done) | ((try simp only [] at hc); (try omega)))) | refine zqb ?_ | refine zqn ?_ | refine zqu (by (simp (disch := omega) only [go_sem, Nat.reduceBEq, ↓reduceIte, Nat.reduceLeDiff]); rfl) rfl ?_ | (refine J _ ?_; clear J K))
    refine z0a ?_ (Le.refl _)
    simp only [pureD, pureD.pureL, z04, Bool.and_self]
  ·have e : z4l u id = 4 := by unfold z4l; rw [if_neg (by simp [h1]), if_pos (by simpa using h2)]
   rw [e, if_neg (by decide), if_neg (by decide)]
   rw [Bool.not_eq_true] at h2
   rw [h1] at c1
   rw [h2] at c3
   repeat' (first | refine zqj ?_ | ((first | refine zqh fun K J => ?_ | refine zqs (c1) ?_ | refine zqs (c3) ?_); (simp (disch := omega) only [go_sem, Nat.reduceBEq, ↓reduceIte, Nat.reduceAdd, Nat.reduceLeDiff])) | ((refine zqd _ rfl (fun hc => ?_) (fun hc => ?_)) <;> (first | (cases hc; done) | ((try simp only [] at hc); (try omega)))) | refine zqb ?_ | refine zqg ?_ | refine zqu (by (simp (disch := omega) only [go_sem, Nat.reduceBEq, ↓reduceIte, Nat.reduceAdd, Nat.reduceLeDiff]); rfl) rfl ?_ | (refine J _ ?_; clear J K))
   exact z0a rfl (Le.tup ⟨z12, z12, Le.refl _, trivial⟩)
 ·have e : z4l u id = 1 := by unfold z4l; rw [if_pos (by simpa using h1)]
  rw [e, if_neg (by decide), if_neg (by decide)]
  rw [Bool.not_eq_true] at h1
  rw [h1] at c1
  repeat' (first | refine zqj ?_ | ((first | refine zqh fun K J => ?_ | refine zqs (c1) ?_); (simp (disch := omega) only [go_sem, Nat.reduceBEq, ↓reduceIte, Nat.reduceAdd, Nat.reduceLeDiff])) | ((refine zqd _ rfl (fun hc => ?_) (fun hc => ?_)) <;> (first | (cases hc; done) | ((try simp only [] at hc); (try omega)))) | refine zqg ?_ | refine zqu (by (simp (disch := omega) only [go_sem, Nat.reduceBEq, ↓reduceIte, Nat.reduceAdd, Nat.reduceLeDiff]); rfl) rfl ?_ | (refine J _ ?_; clear J K))
  exact z0a rfl (Le.tup ⟨z12, z12, Le.refl _, trivial⟩)
namespace Abs
theorem z35 {P : Program} {H : HM} {nn : Bool} {sz : Nat} {els els' : List D} (k : Nat) (hp : pureD.pureL els = false) (hc : zdo (z2y P H k) els = some els') : z2y P H (k + 1) (.rsl nn sz els) = some (.rsl nn sz els') := by
 unfold z2y
 simp only [pureD, hp, Bool.false_eq_true, if_false, hc, Option.map_some]
abbrev Chk := FuncId × List D × Int × Bool
def encK (c : Chk) : D := .agg [.fn c.1 c.2.1, .int .i64 c.2.2.1]
def z89 (l : List Chk) : Int := match l.find? (fun c => c.2.2.2) with
 | some c => c.2.2.1
 | none => 0
theorem zro {l : List Chk} {i : Nat} (hi : i < l.length) (h1 : ∀ j, (hj : j < i) -> (h : j < l.length) -> l[j].2.2.2 = false) (h2 : l[i].2.2.2 = true) : z89 l = l[i].2.2.1 := by
 unfold z89
 have : l.find? (fun c => c.2.2.2) = some l[i] := List.find?_eq_some_iff_getElem.2 ⟨h2, i, hi, rfl, fun j hj => by rw [h1 j hj (by omega)]; rfl⟩
 rw [this]
theorem znf {l : List Chk} (h1 : ∀ j, (h : j < l.length) -> l[j].2.2.2 = false) : z89 l = 0 := by
 unfold z89
 have : l.find? (fun c => c.2.2.2) = none := by
  rw [List.find?_eq_none]
  intro c hc
  obtain ⟨j, hj, rfl⟩ := List.getElem_of_mem hc
  rw [h1 j hj]; simp
 rw [this]
theorem z4t (f : FuncId) (c : List D) (e : Int) (l : List Chk) : z89 ((f, c, e, false) :: l) = z89 l := rfl
theorem z11 {P : Program} {H : HM} {f : FuncId} {cap cap' : List D} {e : Int} (b : Bool) (k : Nat) (hp : pureD.pureL cap = false) (hc : zdo (z2y P H (k + 1)) cap = some cap') : z2y P H (k + 3) (.agg [.fn f cap, .int .i64 e]) = some (encK (f, cap', e, b)) :=
 z5d (k + 2) (by simp only [pureD.pureL, pureD, hp, Bool.false_and]) (z00 (zf8 (k + 1) hp hc) (z00 (z08 (k + 1) rfl) z0c))
end Abs
theorem zas (l : List Chk) (hl : l.length <= 1000) (hp : ∀ c ∈ l, pureD.pureL c.2.1 = true /\ PC prog c.1 c.2.1 (.bool c.2.2.2)) : PC prog 62 [.rsl true 2 (l.map encK)] (.int .i64 (z89 l)) := by
 have hpu : ∀ c ∈ l, pureD (encK c) = true := fun c hc => by simp only [encK, pureD, pureD.pureL, (hp c hc).1, Bool.and_self]
 refine z1g 1 (by
  simp only [pureD.pureL, pureD, Bool.and_true]
  clear hl
  induction l with
  | nil => rfl
  | cons c l ih =>
   simp only [List.map_cons, pureD.pureL, Bool.and_eq_true]
   exact ⟨hpu c (by simp), ih (fun c hc => hp c (List.mem_cons_of_mem _ hc)) (fun c hc => hpu c (List.mem_cons_of_mem _ hc))⟩) rfl (z14 [] func62 rfl (by decide +kernel) rfl ?_)
 show awp _ _ (Code.seq _ _) _ _
 repeat' (first | refine zqj ?_ | ((refine zqh fun K J => ?_); (simp (disch := omega) only [go_sem, Nat.reduceBEq])) | refine zqa ?_ | (refine J _ ?_; clear J K))
 (refine z4m (fun U st => ∃ (i : _), U = l.length - i /\ st.t 5 = .rsl true 2 (l.map encK) /\ st.t 6 = .int .i64 l.length /\ st.t 7 = .int .i64 i /\ (i <= l.length) /\ (∀ j, (hj : j < i) -> (h : j < l.length) -> l[j].2.2.2 = false)) ?_ ?_); rotate_left; (rintro U st ⟨i, rfl, q5, q6, q7, qp0, qp1⟩); rotate_left
 ·(refine ⟨_, 0, rfl, ?_⟩); (simp (disch := omega) only [go_sem, Nat.reduceBEq, true_and, Int.natCast_zero])
  intro j hj; omega
 by_cases hi : i < l.length
 ·have hci := (hp l[i] (List.getElem_mem hi)).2
  repeat' (first | ((first | refine zqh fun K J => ?_ | refine zqr fun K J => ?_ | refine zqs (hci) ?_); (simp (disch := omega) only [go_sem, Nat.reduceBEq, ↓reduceIte, reduceCtorEq, Nat.reduceAdd, Nat.reduceLeDiff, q5, q6, q7, encK])) | ((first | refine zqd _ rfl (fun hc => ?_) (fun hc => ?_) | refine zqm _ rfl (fun hc => ?_) (fun hc => ?_)) <;> (((try simp only [z0b] at hc); (try omega)))) | refine zqa ?_ | refine zqb ?_ | refine zqk ?_ | refine zqn ?_ | refine zqv ?_ | refine zqx ?_ | refine zqy ?_ | refine z6q ?_ | refine zqo ?_ | refine zqu (by simp only [go_sem]; rfl) rfl ?_ | (refine J _ ?_; clear J K))
  ·rw [zro hi qp1 (by assumption)]; exact z1e rfl
  ·(refine Exists.intro _ (And.intro ?_ ⟨i + 1, rfl, ?_⟩)); rotate_left; (simp (disch := omega) only [go_sem, Nat.reduceBEq, q5, q6, q7, true_and, Int.natCast_add, Int.natCast_one]); rotate_left
   ·omega
   ·refine ⟨by omega, fun j hj h => ?_⟩
    by_cases e : j = i
    ·subst e; assumption
    ·exact qp1 j (by omega) h
 ·repeat' (first | ((refine zqh fun K J => ?_); (simp (disch := omega) only [go_sem, ↓reduceIte, q6, q7])) | ((refine zqd _ rfl (fun hc => ?_) (fun hc => ?_)) <;> (((try simp only [z0b] at hc); (try omega)))) | refine zqc ?_ | refine zqn ?_ | refine zqv ?_ | refine zqz ?_ | refine zqp ?_ | refine zqu (by simp only [go_sem]; rfl) rfl ?_ | (refine J _ ?_; clear J K))
  rw [znf fun j h => qp1 j (by omega) h]; exact z1e rfl
theorem zzg (ok : Bool) : PC prog 116 [.rptr (.bool ok)] (.bool (!ok)) := by
 refine z1g 1 rfl rfl (z14 [] func116 rfl (by decide +kernel) rfl ?_)
 show awp _ _ (Code.seq _ _) _ _
 repeat' (first | ((refine zqh fun K J => ?_); (simp (disch := omega) only [go_sem, Nat.reduceBEq, ↓reduceIte, Nat.reduceAdd])) | refine zqn ?_ | refine zqu (by simp only [go_sem]; rfl) rfl ?_ | (refine J _ ?_; clear J K))
 exact z03 rfl
theorem zzh (p x : T) : PC prog 117 [.rptr (z0m p), .rptr (z0m x)] (.bool (!z1o p.kind x.kind)) := by
 have c1 := z91 p.kind x.kind
 refine z1g 1 (by simp only [pureD.pureL, z02, pureD, Bool.and_self]) rfl (z14 [] func117 rfl (by decide +kernel) rfl ?_)
 show awp _ _ (Code.seq _ _) _ _
 repeat' (first | ((first | refine zqh fun K J => ?_ | refine zqs (c1) ?_); (simp (disch := omega) only [go_sem, Nat.reduceBEq, ↓reduceIte, reduceCtorEq, Nat.reduceAdd])) | refine zqn ?_ | refine zqu (by simp only [go_sem]; rfl) rfl ?_ | (refine J _ ?_; clear J K))
 exact z03 rfl
theorem zzi (p : T) (i : Int) : PC prog 118 [.rptr (.int .i64 i), .rptr (z0m p)] (.bool (decide (i < 0) || decide ((p.kids.length : Int) < i))) := by
 refine z1g 1 (by simp only [pureD.pureL, z02, pureD, Bool.and_self]) rfl (z14 [] func118 rfl (by decide +kernel) rfl ?_)
 show awp _ _ (Code.seq _ _) _ _
 repeat' (first | ((refine zqh fun K J => ?_); (simp (disch := omega) only [go_sem, Nat.reduceBEq, ↓reduceIte, Nat.reduceAdd])) | refine zqn ?_ | refine zqu (by simp only [go_sem]; rfl) rfl ?_ | (refine J _ ?_; clear J K) | (refine zqf (fun hb => ?_) (fun hb => ?_) <;> (have hb2 := hb; try simp only [z0b] at hb2) <;> ((first | have hb3 := eq_false hb2 | have hb3 := eq_true hb2); (simp (disch := omega) only [go_sem, Nat.reduceBEq, ↓reduceIte, reduceCtorEq, Nat.reduceAdd, hb3, z13]); clear hb hb3; (try omega))))
 all_goals exact z03 (by simp [hb2])
theorem zzj (p x : T) (hp : szB p = true) : PC prog 119 [.rptr (z0m p), .rptr (z0m x)] (.bool (z3b p.kids x.kind x.label)) := by
 have c1 := zjc p.kids (z6j hp).1 x.kind x.label
 refine z1g 1 (by simp only [pureD.pureL, z02, pureD, Bool.and_self]) rfl (z14 [] func119 rfl (by decide +kernel) rfl ?_)
 show awp _ _ (Code.seq _ _) _ _
 repeat' (first | ((first | refine zqh fun K J => ?_ | refine zqs (c1) ?_); (simp (disch := omega) only [go_sem, Nat.reduceBEq, ↓reduceIte, reduceCtorEq, Nat.reduceAdd, z13])) | refine zqn ?_ | refine zqu (by simp only [go_sem]; rfl) rfl ?_ | (refine J _ ?_; clear J K))
 exact z03 rfl
def zzk (u p : T) (parent : Idv) (x : T) : Bool := decide (64 <= p.kids.length \/ 8 < (z20 parent u).length + 1 + depT x \/ 1024 < cntT u + cntT x)
theorem zzl (u p x : T) (hu : szB u = true) (hx : szB x = true) (cu : cntT u <= 1000000) (cx : cntT x <= 1000000) (du : depT u <= 1000000) (dx : depT x <= 1000000) (parent : Idv) :
  PC prog 114 [.rptr (z0m p), .rptr (z0m u), .rptr (z0n parent), .rptr (z0m x)] (.bool (zzk u p parent x)) := by
 have c1 := zpm u (z8b u hu) (by omega) parent
 have c2 := zk4 x (zb8 x hx) (by omega)
 have c3 := zje u (zb8 u hu) (by omega)
 have c4 := zje x (zb8 x hx) (by omega)
 have ha := z4v parent u
 refine z1g 1 (by simp only [pureD.pureL, z02, pureD, Bool.and_self]; rfl) rfl (z14 [8000000, 3000006, 3000010, 3000011, 5000012, 3000014, 5000015, 3000020, 5000021, 3000022, 5000023] func114 rfl (by decide +kernel) rfl ?_)
 show awp _ _ (Code.seq _ _) _ _
 repeat' (first | ((first | refine zqh fun K J => ?_ | refine zqe (by decide +kernel) fun K J => ?_ | refine zqt (c1) ?_ | refine zqt (c2) ?_ | refine zqt (c3) ?_ | refine zqt (c4) ?_); (simp (disch := omega) only [go_sem, Nat.reduceBEq, Nat.reduceEqDiff, ↓reduceIte, reduceCtorEq, Nat.reduceAdd, z13])) | refine zqn ?_ | refine zqu (by simp only [go_sem]; rfl) rfl ?_ | (refine J _ ?_; clear J K) | (refine zqf (fun hb => ?_) (fun hb => ?_) <;> (have hb2 := hb; try simp only [z0b] at hb2) <;> ((first | have hb3 := eq_false hb2 | have hb3 := eq_true hb2); (simp (disch := omega) only [go_sem, Nat.reduceBEq, Nat.reduceEqDiff, ↓reduceIte, Nat.reduceAdd, hb3]); clear hb hb3; (try omega))))
 ·exact z03 (decide_eq_decide.2 (by omega))
 ·exact z03 (decide_eq_true (by omega)).symm
 ·exact z03 (decide_eq_true (by omega)).symm
theorem zui (u : T) (hu : szB u = true) (du : depT u <= 1000000) (id : Idv) : PC prog 113 [z0n id, .rptr (z0m u)] (.bool (z05 id u).2) := by
 have c1 := zl0 u (z8b u hu) (by omega) id
 refine z1g 1 (by simp only [pureD.pureL, z02, pureD, Bool.and_self]; rfl) rfl (z14 [] func113 rfl (by decide +kernel) rfl ?_)
 show awp _ _ (Code.seq _ _) _ _
 repeat' (first | ((first | refine zqh fun K J => ?_ | refine zqs (c1) ?_); (simp (disch := omega) only [go_sem, Nat.reduceBEq, ↓reduceIte, Nat.reduceAdd, Nat.reduceLeDiff])) | refine zqn ?_ | refine zqu (by simp only [go_sem]; rfl) rfl ?_ | (refine J _ ?_; clear J K))
 exact z03 rfl
theorem zzm (u x : T) (hu : szB u = true) (hx : szB x = true) (cx : cntT x <= 1000000) (du : depT u <= 1000000) : PC prog 110 [.rptr (z0m x), .rptr (z0m u)] (.bool ((idsT x).any fun i => (z05 i u).2)) := by
 have c1 := zw2 x (zb8 x hx) (by omega)
 have hl := z2n x
 have c2 := z6l false (idsT x) (by unfold maxLen; omega) (g := 113) (cap := [.rptr (z0m u)]) (fun i => (z05 i u).2) (by simp only [pureD.pureL, z02, pureD, Bool.and_self]) (fun i _ => zui u hu du i)
 refine z1g 1 (by simp only [pureD.pureL, z02, pureD, Bool.and_self]) rfl (z14 [] func110 rfl (by decide +kernel) rfl ?_)
 show awp _ _ (Code.seq _ _) _ _
 repeat' (first | ((first | refine zqh fun K J => ?_ | refine zqs (c1) ?_ | refine zqs (c2) ?_); (simp (disch := omega) only [go_sem, Nat.reduceBEq, ↓reduceIte, Nat.reduceAdd])) | refine zqn ?_ | refine zqu (by simp only [go_sem]; rfl) rfl ?_ | (refine J _ ?_; clear J K))
 exact z03 rfl
theorem zng (u p x : T) (ok : Bool) (parent : Idv) (i : Int) (hs : standsT u = true) (hx : standsT x = true) (hk : x.kind ≠ 0) (hf : z05 parent u = (p, ok)) (f3 f4 f5 f6 f2 f1 : FuncId) (c3 c4 c5 c6 c2 c1 : List D) :
  z89 [(f3, c3, 4, !ok), (f4, c4, 9, !z1o p.kind x.kind), (f5, c5, 3, decide (i < 0) || decide ((p.kids.length : Int) < i)), (f6, c6, 10, z3b p.kids x.kind x.label), (f2, c2, 6, zzk u p parent x), (f1, c1, 5, (idsT x).any fun i => (z05 i u).2)] = z25 u parent i x := by
 unfold z25
 rw [if_neg (by rw [hs, hx]; simp [hk]), hf]
 cases ok
 ·rw [if_pos rfl]; rfl
 rw [if_neg (by simp), Bool.not_true, z4t]
 cases hn : z1o p.kind x.kind
 ·rw [if_pos rfl]; rfl
 rw [if_neg (by simp), Bool.not_true, z4t]
 by_cases hi : i < 0 \/ (p.kids.length : Int) < i
 ·rw [if_pos hi, show (decide (i < 0) || decide ((p.kids.length : Int) < i)) = true from by simpa using hi]; rfl
 rw [if_neg hi, show (decide (i < 0) || decide ((p.kids.length : Int) < i)) = false from by simpa using hi, z4t]
 cases ht : z3b p.kids x.kind x.label
 ·rw [if_neg (by simp), z4t]
  unfold zzk
  by_cases hfu : 64 <= p.kids.length \/ 8 < (z20 parent u).length + 1 + depT x \/ 1024 < cntT u + cntT x
  ·rw [if_pos hfu, decide_eq_true hfu]; rfl
  ·rw [if_neg hfu, decide_eq_false hfu, z4t]
   cases ha : (idsT x).any fun i => (z05 i u).2
   ·rw [if_neg (by simp)]; rfl
   ·rw [if_pos rfl]; rfl
 ·rw [if_pos rfl]; rfl
theorem zuj (u x : T) (hu : szB u = true) (hx : szB x = true) (cu : cntT u <= 1000000) (cx : cntT x <= 1000000) (du : depT u <= 1000000) (dx : depT x <= 1000000) (parent : Idv) (i : Int) :
  PC prog 59 [z0m u, z0n parent, .int .i64 i, z0m x] (.int .i64 (z25 u parent i x)) := by
 have c1 := z8d u hu (by omega) (by omega)
 have c2 := z8d x hx (by omega) (by omega)
 have c3 := z93 u (z8b u hu) (by omega) parent
 have hf := z6k parent u hu
 generalize hfe : z05 parent u = q at *
 obtain ⟨p, ok⟩ := q
 have c4 := zas [(116, [.rptr (.bool ok)], 4, !ok), (117, [.rptr (z0m p), .rptr (z0m x)], 9, !z1o p.kind x.kind), (118, [.rptr (.int .i64 i), .rptr (z0m p)], 3, decide (i < 0) || decide ((p.kids.length : Int) < i)),
   (119, [.rptr (z0m p), .rptr (z0m x)], 10, z3b p.kids x.kind x.label), (114, [.rptr (z0m p), .rptr (z0m u), .rptr (z0n parent), .rptr (z0m x)], 6, zzk u p parent x), (110, [.rptr (z0m x), .rptr (z0m u)], 5, (idsT x).any fun i => (z05 i u).2)]
  (by simp) (by
   intro c hc
   simp only [List.mem_cons, List.not_mem_nil, or_false] at hc
   rcases hc with rfl | rfl | rfl | rfl | rfl | rfl
   ·exact ⟨rfl, zzg ok⟩
   ·exact ⟨by simp only [pureD.pureL, z02, pureD, Bool.and_self], zzh p x⟩
   ·exact ⟨by simp only [pureD.pureL, z02, pureD, Bool.and_self], zzi p i⟩
   ·exact ⟨by simp only [pureD.pureL, z02, pureD, Bool.and_self], zzj p x hf⟩
   ·exact ⟨by simp only [pureD.pureL, z02, pureD, Bool.and_self]; rfl, zzl u p x hu hx cu cx du dx parent⟩
   ·exact ⟨by simp only [pureD.pureL, z02, pureD, Bool.and_self], zzm u x hu hx cx du⟩)
 refine z1g 1 (by simp only [pureD.pureL, z02, pureD, Bool.and_self]; rfl) rfl (z14 [] func59 rfl (by decide +kernel) rfl ?_)
 show awp _ _ (Code.seq _ _) _ _
 by_cases hw : standsT u = false \/ standsT x = false \/ x.kind = 0
 ·rw [show z25 u parent i x = 1 from if_pos hw]
  rcases hw with h | h | h
  ·rw [h] at c1
   repeat' (first | refine zqj ?_ | ((first | refine zqh fun K J => ?_ | refine zqs (c1) ?_); (simp (disch := omega) only [go_sem, Nat.reduceBEq, ↓reduceIte, Nat.reduceAdd, Nat.reduceLeDiff])) | ((refine zqd _ rfl (fun hc => ?_) (fun hc => ?_)) <;> (first | (cases hc; done) | ((try simp only [] at hc); (try omega)))) | refine zqg ?_ | refine zqu (by simp only [go_sem]; rfl) rfl ?_ | (refine J _ ?_; clear J K))
   exact z1e rfl
  ·rw [h] at c2
   repeat' (first | refine zqj ?_ | ((first | refine zqh fun K J => ?_ | refine zqs (c1) ?_ | refine zqs (c2) ?_); (simp (disch := omega) only [go_sem, Nat.reduceBEq, ↓reduceIte, Nat.reduceAdd, Nat.reduceLeDiff])) | ((refine zqd _ rfl (fun hc => ?_) (fun hc => ?_)) <;> (first | (cases hc; done) | ((try simp only [] at hc); (try omega)))) | refine zqg ?_ | refine zqu (by simp only [go_sem]; rfl) rfl ?_ | (refine J _ ?_; clear J K) | (refine zqf (fun hb => ?_) (fun hb => ?_) <;> (have hb2 := hb; try simp only [z0b] at hb2) <;> ((have hb3 : (_ : Bool) = _ := hb2); (simp (disch := omega) only [go_sem, Nat.reduceBEq, ↓reduceIte, Nat.reduceAdd, Nat.reduceLeDiff, hb3]); clear hb hb3; (try omega))))
   all_goals exact z1e rfl
  ·have w3d : decide (x.kind = 0) = true := decide_eq_true h
   repeat' (first | refine zqj ?_ | ((first | refine zqh fun K J => ?_ | refine zqs (c1) ?_ | refine zqs (c2) ?_); (simp (disch := omega) only [go_sem, Nat.reduceBEq, ↓reduceIte, Nat.reduceAdd, Nat.reduceLeDiff])) | ((refine zqd _ rfl (fun hc => ?_) (fun hc => ?_)) <;> (first | (cases hc; done) | ((try simp only [] at hc); (try omega)))) | refine zqg ?_ | refine zqu (by simp only [go_sem]; rfl) rfl ?_ | (refine J _ ?_; clear J K) | (refine zqf (fun hb => ?_) (fun hb => ?_) <;> (have hb2 := hb; try simp only [z0b] at hb2) <;> ((have hb3 : (_ : Bool) = _ := hb2); (simp (disch := omega) only [go_sem, Nat.reduceBEq, ↓reduceIte, reduceCtorEq, Nat.reduceAdd, Nat.reduceLeDiff, hb3, w3d]); clear hb hb3; (try omega))))
   all_goals exact z1e rfl
 ·simp only [not_or, Bool.not_eq_false] at hw
  obtain ⟨w1, w2, w3⟩ := hw
  rw [w1] at c1
  rw [w2] at c2
  rw [zng u p x ok parent i w1 w2 w3 hfe] at c4
  have w3d : decide (x.kind = 0) = false := decide_eq_false w3
  repeat' (first | refine zqj ?_ | ((first | refine zqh fun K J => ?_ | refine zqs (c1) ?_ | refine zqs (c2) ?_ | refine zqs (c3) ?_); (simp (disch := omega) only [go_sem, Nat.reduceBEq, ↓reduceIte, reduceCtorEq, Nat.reduceAdd, Nat.reduceMul, Nat.reduceLeDiff, Nat.reduceLT, w3d])) | ((refine zqd _ rfl (fun hc => ?_) (fun hc => ?_)) <;> (first | (cases hc; done) | ((try simp only [] at hc); (try omega)))) | refine zqb ?_ | (refine J _ ?_; clear J K))
  refine z1d (PC.borrow c4 rfl 6 (z00 (z35 5 rfl (z00 (z11 _ 2 rfl (z00 (z2c (e := 4) 2 ?_ zgf (z08 1 rfl)) z0c)) (z00 (z11 _ 2 rfl (z00 (z06 (e := 27) 1 ?_ z0l (z04 _)) (z00 (z06 (e := 27) 1 ?_ z0l (z04 _)) z0c))) (z00 (z11 _ 2 rfl (z00 (z2c (e := 3) 2 ?_ z5u (z08 1 rfl)) (z00 (z06 (e := 27) 1 ?_ z0l (z04 _)) z0c))) (z00 (z11 _ 2 rfl (z00 (z06 (e := 27) 1 ?_ z0l (z04 _)) (z00 (z06 (e := 27) 1 ?_ z0l (z04 _)) z0c))) (z00 (z11 _ 2 rfl (z00 (z06 (e := 27) 1 ?_ z0l (z04 _)) (z00 (z06 (e := 27) 1 ?_ z0l (z04 _)) (z00 (z06 (e := 23) 1 ?_ z1i rfl) (z00 (z06 (e := 27) 1 ?_ z0l (z04 _)) z0c))))) (z00 (z11 _ 2 rfl (z00 (z06 (e := 27) 1 ?_ z0l (z04 _)) (z00 (z06 (e := 27) 1 ?_ z0l (z04 _)) z0c))) z0c))))))) z0c)) ?_
  all_goals try (focus ((simp (disch := omega) only [go_sem, Nat.reduceBEq, z07]); done))
  (try (simp (disch := omega) only [go_sem, Nat.reduceBEq])); repeat' (first | refine zqn ?_ | refine zqu (by simp only [go_sem]; rfl) rfl ?_ | (refine J _ ?_; clear J K))
  exact z1e rfl
theorem zuk (u x : T) (hu : szB u = true) (hx : szB x = true) (cu : cntT u <= 1000000) (cx : cntT x <= 1000000) (du : depT u <= 1000000) (dx : depT x <= 1000000) (parent : Idv) (i : Int) :
  PC prog 26 [z0m u, z0n parent, .int .i64 i, z0m x] (.tup [z0m (if z25 u parent i x ≠ 0 then T.zero else z0p parent (z40 i.toNat x) u), .int .i64 (z25 u parent i x)]) := by
 have c1 := zuj u x hu hx cu cx du dx parent i
 refine z1g 3 (by simp only [pureD.pureL, z02, pureD, Bool.and_self]; rfl) (by simp only [pureD.pureL, z02, pureD, Bool.and_self]) (z14 [3000020, 3000021, 3000023, 5000024, 5000025] func26 rfl (by decide +kernel) rfl ?_)
 show awp _ _ (Code.seq _ _) _ _
 rw [show Tryz.f26.results.toList = [.cell 8 27, .tmp 9] from rfl]
 by_cases hw : z25 u parent i x = 0
 ·obtain ⟨hr, hm, n, rfl, hn⟩ := z3p hw
  have c2 := pc_put n x
  have c3 := zgc u hu parent (z40 n x) (g := 121) (cap := [.rptr (.int .i64 n), .rptr (z0m x)]) (by simp only [pureD.pureL, z02, pureD, Bool.and_self]) (fun q hq hid => zx6 n x hx q (zct u hu q hq) (hn q hq hid))
  rw [(show (atR parent (z40 n x) u).1 = z0p parent (z40 n x) u from by rw [zfn (z40 n x) ((z1v u).1 hr.1).2.2.2.1 hm])] at c3
  rw [hw] at c1 ⊢
  rw [if_neg (fun h => h rfl), Int.toNat_natCast]
  repeat' (first | refine zqj ?_ | ((first | refine zqh fun K J => ?_ | refine zqe (by decide +kernel) fun K J => ?_ | refine zqs (c1) ?_ | refine zqt (c2) ?_ | refine zqt (c3) ?_); (simp (disch := omega) only [go_sem, Nat.reduceBEq, Nat.reduceEqDiff, ↓reduceIte, Nat.reduceAdd, Nat.reduceLeDiff])) | ((refine zqd _ rfl (fun hc => ?_) (fun hc => ?_)) <;> (first | (cases hc; done) | ((try simp only [] at hc); (try omega)))) | refine zqb ?_ | refine zqn ?_ | refine zqu (by (simp (disch := omega) only [go_sem, Nat.reduceBEq, ↓reduceIte, Nat.reduceLeDiff]); rfl) rfl ?_ | (refine J _ ?_; clear J K))
  refine z0a ?_ (Le.refl _)
  simp only [pureD, pureD.pureL, z04, Bool.and_self]
 ·rw [if_pos hw]
  repeat' (first | refine zqj ?_ | ((first | refine zqh fun K J => ?_ | refine zqs (c1) ?_); (simp (disch := omega) only [go_sem, Nat.reduceBEq, ↓reduceIte, Nat.reduceAdd, Nat.reduceLeDiff])) | ((refine zqd _ rfl (fun hc => ?_) (fun hc => ?_)) <;> (((try simp only [z0b] at hc); (try omega)))) | refine zqg ?_ | refine zqu (by (simp (disch := omega) only [go_sem, Nat.reduceBEq, ↓reduceIte, Nat.reduceAdd, Nat.reduceLeDiff]); rfl) rfl ?_ | (refine J _ ?_; clear J K))
  exact z0a rfl (Le.tup ⟨z12, Le.refl _, trivial⟩)
theorem zks (u x : T) (hu : szB u = true) (hx : szB x = true) (cu : cntT u <= 1000000) (cx : cntT x <= 1000000) (du : depT u <= 1000000) (dx : depT x <= 1000000) (parent : Idv) :
  PC prog 36 [z0m u, z0n parent, z0m x] (.int .i64 (z25 u parent 0 x)) := by
 have c1 := zuj u x hu hx cu cx du dx parent 0
 refine z1g 1 (by simp only [pureD.pureL, z02, Bool.and_self]; rfl) rfl (z14 [] func36 rfl (by decide +kernel) rfl ?_)
 show awp _ _ (Code.seq _ _) _ _
 repeat' (first | ((first | refine zqh fun K J => ?_ | refine zqs (c1) ?_); (simp (disch := omega) only [go_sem, Nat.reduceBEq, ↓reduceIte, Nat.reduceAdd, Nat.reduceLeDiff])) | refine zqn ?_ | refine zqu (by simp only [go_sem]; rfl) rfl ?_ | (refine J _ ?_; clear J K))
 exact z1e rfl
end
section
open Abs Facts Tr
namespace Tr
theorem zic {u x : T} {parent : Idv} {n : Nat} (h1 : standsT u = true) (h2 : standsT x = true) (h3 : x.kind ≠ 0) (h4 : parent ∈ idsT u) (h5 : z1o (z05 parent u).1.kind x.kind = true) (h6 : n <= (z05 parent u).1.kids.length)
  (h7 : z3b (z05 parent u).1.kids x.kind x.label = false) (h8 : (z05 parent u).1.kids.length < 64) (h9 : (z20 parent u).length + 1 + depT x <= 8) (h10 : cntT u + cntT x <= 1024) (h11 : ∀ i ∈ idsT x, i ∉ idsT u) : z25 u parent n x = 0 := by
 unfold z25
 rw [if_neg (by rw [h1, h2]; simp [h3]), if_neg (by rw [z27, decide_eq_true h4]; simp), if_neg (by rw [h5]; simp), if_neg (by omega), if_neg (by rw [h7]; simp), if_neg (by omega), if_neg]
 rw [List.any_eq_true]
 rintro ⟨i, hi, hf⟩
 rw [z27, decide_eq_true_eq] at hf
 exact h11 i hi hf
theorem zm2 {C : Ctx} {q : T} {id : Idv} (hq : q.id = id) (h : id ∉ z79 C) : (z20 id (z2f C q)).length = zz4 C := by
 rw [zf2 (hq ▸ z1q q) C h, z8k hq, List.nil_append, zki]
theorem z17 {t : T} (h : standsT t = true) : (idsT t).Nodup := ((z1v t).1 h).2.2.2.1
theorem z7g {u x : T} {parent : Idv} {n : Nat} (h : z25 u parent n x = 0) : ∃ (C : Ctx) (q : T) (l r : List T), u = z2f C (q.setKids (l ++ r)) /\ l.length = n /\ q.id = parent /\ z0p parent (z40 n x) u = z2f C (q.setKids (l ++ x :: r)) /\
  standsT (z0p parent (z40 n x) u) = true /\ z0i x.id (z0p parent (z40 n x) u) = u /\ z05 x.id (z0p parent (z40 n x) u) = (x, true) /\ z4w x.id (z0p parent (z40 n x) u) = (parent, (n : Int), true) /\ ¬ (z0p parent (z40 n x) u).id = x.id /\
  (atR parent (z40 n x) u).1 = z0p parent (z40 n x) u /\ (∀ i ∈ idsT x, i ∉ idsT u) /\ cntT (z0p parent (z40 n x) u) = cntT u + cntT x := by
 obtain ⟨⟨h1, h2, h3, h4, h5, h7, h8, h9, h10, h11⟩, hm, n', hn, hle⟩ := z3p h
 obtain rfl : n = n' := by omega
 have hdis : ∀ i ∈ idsT x, i ∉ idsT u := fun i hi hm => by
  have := List.any_eq_false.1 h11 i hi
  rw [z27, decide_eq_true hm] at this
  exact this rfl
 have hnd := z17 h1
 obtain ⟨C, e, hq, hpre, _⟩ := focus parent u hm
 have hqn := z7o h4
 have hk := hle _ hqn hq
 generalize hq0 : (z05 parent u).1 = q at *
 have e2 : q = q.setKids (q.kids.take n ++ q.kids.drop n) := by rw [List.take_append_drop, z7s]
 generalize hl : q.kids.take n = l at *
 generalize hr : q.kids.drop n = r at *
 have hln : l.length = n := by rw [<- hl, List.length_take]; omega
 have hkr : q.kids = l ++ r := by rw [<- hl, <- hr, List.take_append_drop]
 have hue : u = z2f C (q.setKids (l ++ r)) := e.trans (congrArg (z2f C) e2)
 have hxu := hdis x.id (z1q x)
 have hmx : x.id ∈ idsT (q.setKids (l ++ x :: r)) := by rw [z2l]; exact List.mem_cons_of_mem _ (zdb.2 (.inr (.inl (z1q x))))
 rw [hue, z2m, z2l, List.flatMap_append] at hxu
 simp only [List.mem_append, List.mem_cons, not_or] at hxu
 obtain ⟨k1, ⟨k2, k3, k4⟩, k5⟩ := hxu
 have hpost : parent ∉ z3z C := (z2z (x := q) (by rw [<- e]; exact hnd) (hq ▸ z1q q)).2
 have hed : z0p parent (z40 n x) u = z2f C (q.setKids (l ++ x :: r)) := by
  rw [e, z57 (z40 n x) hq C hpre hpost]
  rw [e2, <- hln, zpl]
  rfl
 have hst : standsT (z2f C (q.setKids (l ++ x :: r))) = true := by
  refine zrm (by rw [<- hue]; exact h1) h2 h3 h5 (by rw [<- hkr]; exact h7) (by rw [<- hkr]; exact h8) ?_ (by rw [<- hue]; exact h10) (by rw [<- hue]; exact hdis)
  have := zm2 hq hpre
  rw [<- e] at this
  omega
 rw [hed]
 refine ⟨C, q, l, r, hue, hln, hq, rfl, hst, ?_, ?_, ?_, ?_, ?_, hdis, ?_⟩
 ·rw [z9u (fun e => k2 e.symm) rfl k3 k4 C k1 k5, hue]
 ·rw [z9q hmx C k1, zj1 (fun e => k2 e.symm) k3 (z1q x), z34 rfl]
 ·rw [zj2 hmx (fun e => k2 e.symm) C k1, zp7 (fun e => k2 e.symm) k3 rfl, hq, hln]
 ·intro hid
  cases C with
  | hole => exact k2 hid.symm
  | node t a c b => exact (z56 k1).1 hid
 ·rw [zfn (z40 n x) hnd hm, hed]
 ·rw [hue, z62, z62, zj5]; omega
theorem za2 {u : T} {id : Idv} (hs : standsT u = true) (h0 : ¬ u.id = id) (hm : id ∈ idsT u) : ∃ (under : Idv) (n : Nat) (x : T), z4w id u = (under, (n : Int), true) /\ z05 id u = (x, true) /\ x.id = id /\ standsT (z0i id u) = true /\ standsT x = true /\ x.kind ≠ 0 /\
  z25 (z0i id u) under n x = 0 /\ z0p under (z40 n x) (z0i id u) = u /\ (∀ i ∈ idsT x, i ∉ idsT (z0i id u)) /\ under ∈ idsT (z0i id u) /\ cntT (z0i id u) + cntT x = cntT u /\ (∀ i ∈ idsT u, i ∈ idsT x \/ i ∈ idsT (z0i id u)) := by
 obtain ⟨C, q, l, x, r, e, hx, hq, n1, n2, hf, hp⟩ := zkm h0 hm
 have hnd := z17 hs
 subst e
 have hxm : id ∈ idsT (q.setKids (l ++ x :: r)) := by rw [z2l]; exact List.mem_cons_of_mem _ (zdb.2 (.inr (.inl (hx ▸ z1q x))))
 obtain ⟨k1, k2⟩ := z2z hnd hxm
 have ns := (zbu (z8c hnd)).1 id (hx ▸ z1q x)
 have hw := z9u hq hx n2 ns.2.2 C k1 k2
 obtain ⟨d1, d2, d3, d4, d5, d6, d7, d8, d9⟩ := zrn hs
 rw [hw]
 have hnd2 := z17 d1
 have hqs : q.id ∈ idsT (q.setKids (l ++ r)) := by rw [z2l]; exact List.mem_cons_self
 obtain ⟨m1, m2⟩ := z2z hnd2 hqs
 have hfq : z05 q.id (z2f C (q.setKids (l ++ r))) = (q.setKids (l ++ r), true) := by rw [z9q hqs C m1]; exact z34 rfl
 refine ⟨q.id, l.length, x, hp, hf, hx, d1, d2, d3, ?_, ?_, d9, z8q C hqs, ?_, fun i hi => ?_⟩
 ·refine zic d1 d2 d3 (z8q C hqs) (by rw [hfq]; exact d4) ?_ (by rw [hfq]; exact d5) (by rw [hfq]; exact d6) ?_ d8 d9
  ·rw [hfq]; show l.length <= (l ++ r).length; simp
  ·rw [zm2 (id := q.id) (q := q.setKids (l ++ r)) rfl m1]; exact d7
 ·rw [z57 (id := q.id) (z40 l.length x) (q := q.setKids (l ++ r)) rfl C m1 m2, zpl]
 ·rw [z62, z62, zj5]; omega
 ·rw [z2m, z2l, List.flatMap_append, List.flatMap_cons] at hi
  rw [z2m, z2l, List.flatMap_append]
  simp only [List.mem_append, List.mem_cons] at hi ⊢
  rcases hi with h | (h | h | h | h) | h
  ·exact .inr (.inl h)
  ·exact .inr (.inr (.inl (.inl h)))
  ·exact .inr (.inr (.inl (.inr (.inl h))))
  ·exact .inl h
  ·exact .inr (.inr (.inl (.inr (.inr h))))
  ·exact .inr (.inr (.inr h))
theorem zjs {id : Idv} {t : T} (h : id ∉ idsT t) : z0i id t = t := zv3 t fun k hk hm => h (by rw [z1j]; exact List.mem_cons_of_mem _ (List.mem_flatMap.2 ⟨k, hk, hm⟩))
theorem z84 (id : Idv) (t : T) : (z0i id t).id = t.id /\ (z0i id t).kind = t.kind /\ (z0i id t).label = t.label /\ (z0i id t).head = t.head /\ (z0i id t).words = t.words := by
 rw [z4u]; exact ⟨rfl, rfl, rfl, rfl, rfl⟩
theorem zq2 (id : Idv) : ∀ t : T, ∀ i ∈ idsT (z0i id t), i ∈ idsT t := by
 refine z5c fun t ih i hi => ?_
 rw [z4u, z2l, List.mem_cons, List.mem_flatMap] at hi
 rw [z1j, List.mem_cons, List.mem_flatMap]
 rcases hi with h | ⟨k, hk, h⟩
 ·exact .inl h
 ·obtain ⟨k', hk', rfl⟩ := List.mem_map.1 hk
  exact .inr ⟨k', (List.mem_filter.1 hk').1, ih k' (List.mem_filter.1 hk').1 i h⟩
theorem zq3 {k : Idv} {u : T} : ∀ i ∈ idsT (z05 k u).1, (z05 k u).2 = true -> i ∈ idsT u := fun i hi hf => by
 have hm : k ∈ idsT u := by rw [z27, decide_eq_true_eq] at hf; exact hf
 obtain ⟨C, e, _, _, _⟩ := focus k u hm
 rw [e]
 exact z8q C hi
theorem zq4 {id : Idv} : ∀ u : T, depT (z0i id u) <= depT u := by
 have key : ∀ (l : List T) (g : T -> T) (p : T -> Bool), (∀ k ∈ l, depT (g k) <= depT k) -> zei (((l.filter p).map g).map depT) <= zei (l.map depT) := by
  intro l g p h
  induction l with
  | nil => simp
  | cons k l ih =>
   have h1 := h k (by simp)
   have h2 := ih fun k hk => h k (List.mem_cons_of_mem _ hk)
   rw [List.filter_cons, List.map_cons, zbq]
   split
   ·rw [List.map_cons, List.map_cons, zbq]; omega
   ·omega
 refine z5c fun u ih => ?_
 rw [z4u, z5w, z5w u]
 exact key u.kids (z0i id) (z4g id) ih
theorem zq5 (id : Idv) (u : T) : depT (z05 id u).1 <= depT u := by
 by_cases h : id ∈ idsT u
 ·obtain ⟨C, e, _⟩ := focus id u h
  conv => rhs; rw [e]
  rw [z8p]; omega
 ·rw [zfg h, show depT T.zero = 0 from by decide +kernel]; omega
theorem zm3 {id k : Idv} : ∀ u : T, (idsT u).Nodup -> ¬ u.id = id -> k ∈ idsT u -> (∀ y, z05 id u = (y, true) -> k ∉ idsT y) -> z05 k (z0i id u) = (z0i id (z05 k u).1, true) := by
 refine z5c fun u ih hn h0 hk hy => ?_
 by_cases hid : id ∉ idsT u
 ·rw [zjs hid]
  have hf : (z05 k u).2 = true := by rw [z27, decide_eq_true hk]
  have := zjs (id := id) (t := (z05 k u).1) fun hm => hid (zq3 id hm hf)
  rw [this, <- hf]
 rw [Classical.not_not] at hid
 by_cases hku : u.id = k
 ·rw [z34 hku]
  exact z34 (by rw [(z84 id u).1]; exact hku)
 ·obtain ⟨i, hi, h1, h2, h3⟩ := zal hku (z5o.2 hk)
  have hkm := z5o.1 h2
  rw [z4d h3 h2]
  obtain ⟨g1, g2, g3⟩ := z5z hn
  have hki := List.getElem_mem hi
  have hkeep : ¬ u.kids[i].id = id := fun e => by
   refine hy u.kids[i] ?_ hkm
   have hw : z1t id u.kids[i] = [u.kids[i]] := z4r e
   have hne : z1t id u.kids[i] ≠ [] := by rw [hw]; simp
   rw [z4d (z4x h0 hi (fun j hj h => (z5l id _).2 (g3 i j hi h (by omega) id (e ▸ z1q _))) hne) hne]
   exact z34 e
  have hin := ih _ hki (g2 _ hki) hkeep hkm (fun y hf => hy y (by
   have hne : z1t id u.kids[i] ≠ [] := z75.1 (by rw [hf])
   rw [z4d (z4x h0 hi (fun j hj h => (z5l id _).2 (g3 i j hi h (by omega) id (z5o.1 hne))) hne) hne]
   exact hf))
  have hsp : u.kids = u.kids.take i ++ u.kids[i] :: u.kids.drop (i + 1) := by rw [<- List.drop_eq_getElem_cons hi, List.take_append_drop]
  have hwk : k ∈ idsT (z0i id u.kids[i]) := by
   have : (z05 k (z0i id u.kids[i])).2 = true := by rw [hin]
   rw [z27, decide_eq_true_eq] at this; exact this
  rw [z4u]
  have e : (u.kids.filter (z4g id)).map (z0i id) = ((u.kids.take i).filter (z4g id)).map (z0i id) ++ z0i id u.kids[i] :: ((u.kids.drop (i + 1)).filter (z4g id)).map (z0i id) := by
   conv => lhs; rw [hsp]
   rw [List.filter_append, List.filter_cons, if_pos (zdh hkeep), List.map_append, List.map_cons]
  rw [e, zj1 hku ?_ hwk, hin]
  intro hm
  obtain ⟨y, hym, hyk⟩ := List.mem_flatMap.1 hm
  obtain ⟨y', hy', rfl⟩ := List.mem_map.1 hym
  have hmem := (List.mem_filter.1 hy').1
  obtain ⟨j, hj, rfl⟩ := List.getElem_of_mem hmem
  rw [List.length_take] at hj
  have := zq2 id _ k hyk
  rw [List.getElem_take] at this
  exact g3 i j hi (by omega) (by omega) k hkm this
end Tr
end
section
open Abs Facts Tr
attribute [local irreducible] awp
theorem zt1 (u : T) (hu : szB u = true) (cu : cntT u <= 1000000) (du : depT u <= 1000000) : PC prog 63 [.rptr (z0m u)] (.bool (!standsT u)) := by
 have c1 := z8d u hu (by omega) (by omega)
 refine z1g 1 (by simp only [pureD.pureL, z02, pureD, Bool.and_self]) rfl (z14 [] func63 rfl (by decide +kernel) rfl ?_)
 show awp _ _ (Code.seq _ _) _ _
 repeat' (first | ((first | refine zqh fun K J => ?_ | refine zqs (c1) ?_); (simp (disch := omega) only [go_sem, Nat.reduceBEq, ↓reduceIte, Nat.reduceAdd])) | refine zqn ?_ | refine zqu (by simp only [go_sem]; rfl) rfl ?_ | (refine J _ ?_; clear J K))
 exact z03 rfl
theorem zt2 (u : T) (hu : szB u = true) (cu : cntT u <= 1000000) (du : depT u <= 1000000) (id : Idv) : PC prog 65 [.rptr (z0m u), .rptr (z0n id)] (.bool (!(z05 id u).2)) := by
 have c1 := zl0 u (z8b u hu) (by omega) id
 refine z1g 1 (by simp only [pureD.pureL, z02, pureD]; rfl) rfl (z14 [] func65 rfl (by decide +kernel) rfl ?_)
 show awp _ _ (Code.seq _ _) _ _
 repeat' (first | ((first | refine zqh fun K J => ?_ | refine zqs (c1) ?_); (simp (disch := omega) only [go_sem, Nat.reduceBEq, ↓reduceIte, Nat.reduceAdd])) | refine zqn ?_ | refine zqu (by simp only [go_sem]; rfl) rfl ?_ | (refine J _ ?_; clear J K))
 exact z03 rfl
theorem zt3 (u : T) (id : Idv) : PC prog 67 [.rptr (z0m u), .rptr (z0n id)] (.bool (decide (u.id = id))) := by
 refine z1g 1 (by simp only [pureD.pureL, z02, pureD]; rfl) rfl (z14 [] func67 rfl (by decide +kernel) rfl ?_)
 show awp _ _ (Code.seq _ _) _ _
 repeat' (first | ((refine zqh fun K J => ?_); (simp (disch := omega) only [go_sem, Nat.reduceBEq, ↓reduceIte, reduceCtorEq, Nat.reduceAdd, Nat.reduceLeDiff])) | refine zqn ?_ | refine zqu (by simp only [go_sem]; rfl) rfl ?_ | (refine J _ ?_; clear J K))
 exact z03 rfl
theorem zt4 (u : T) (id : Idv) (f1 f2 f3 : FuncId) (c1 c2 c3 : List D) : z89 [(f1, c1, 1, !standsT u), (f2, c2, 4, !(z05 id u).2), (f3, c3, 9, decide (u.id = id))] = z4l u id := by
 unfold z4l
 cases h1 : standsT u
 ·rw [if_pos rfl]; rfl
 rw [if_neg (by simp), Bool.not_true, z4t]
 cases h2 : (z05 id u).2
 ·rw [if_pos rfl]; rfl
 rw [if_neg (by simp), Bool.not_true, z4t]
 by_cases h3 : u.id = id
 ·rw [if_pos h3, decide_eq_true h3]; rfl
 ·rw [if_neg h3, decide_eq_false h3]; rfl
theorem zg8 {u : T} {id : Idv} (h : z4l u id = 0) : standsT u = true /\ id ∈ idsT u /\ ¬ u.id = id := by
 unfold z4l at h
 split at h
 ·cases h
 rename_i h1
 split at h
 ·cases h
 rename_i h2
 split at h
 ·cases h
 rename_i h3
 rw [Bool.not_eq_false] at h1 h2
 rw [z27, decide_eq_true_eq] at h2
 exact ⟨h1, h2, h3⟩
theorem zg9 (u : T) (hu : szB u = true) (du : depT u <= 1000000) (id : Idv) (hs : standsT u = true) (hm : id ∈ idsT u) (h0 : ¬ u.id = id) : PC prog 69 [z0m u, z0n id] (z0m (z0i id u)) := by
 obtain ⟨i, hi, _, hw, q, hq, hk, hqn⟩ := at_wipe (z17 hs) h0 hm
 have h := zt8 u hu (by omega) id i hi (fun q' hq' hid => by
  have := z8m (z17 hs) hq' hid
  rw [this] at hq
  simp only [Prod.mk.injEq, and_true] at hq
  rw [hq]; exact hk)
 rw [hw] at h; exact h
theorem zx1 (u : T) (hu : szB u = true) (cu : cntT u <= 1000000) (du : depT u <= 1000000) (id : Idv) :
  PC prog 27 [z0m u, z0n id] (.tup [z0m (if z4l u id = 0 then z0i id u else T.zero), z0m (if z4l u id = 0 then (z05 id u).1 else T.zero), .int .i64 (z4l u id)]) := by
 have c3 := z93 u (z8b u hu) (by omega) id
 have c4 := zas [(63, [.rptr (z0m u)], 1, !standsT u), (65, [.rptr (z0m u), .rptr (z0n id)], 4, !(z05 id u).2), (67, [.rptr (z0m u), .rptr (z0n id)], 9, decide (u.id = id))]
  (by simp) (by
   intro c hc
   simp only [List.mem_cons, List.not_mem_nil, or_false] at hc
   rcases hc with rfl | rfl | rfl
   ·exact ⟨by simp only [pureD.pureL, z02, pureD, Bool.and_self], zt1 u hu cu du⟩
   ·exact ⟨by simp only [pureD.pureL, z02, pureD]; rfl, zt2 u hu cu du id⟩
   ·exact ⟨by simp only [pureD.pureL, z02, pureD]; rfl, zt3 u id⟩)
 rw [zt4] at c4
 refine z1g 3 (by simp only [pureD.pureL, z02]; rfl) (by simp only [pureD.pureL, z02, pureD, Bool.and_self]) (z14 [3000029, 3000030, 5000031, 5000033, 600032, 900004, 600004, 900002, 600005, 900003] func27 rfl (by decide +kernel) rfl ?_)
 show awp _ _ (Code.seq _ _) _ _
 rw [show Tryz.f27.results.toList = [.cell 4 27, .cell 5 27, .tmp 6] from rfl]
 by_cases ht : z4l u id = 0
 ·obtain ⟨h1, h2, h3⟩ := zg8 ht
  rw [ht] at c4
  rw [ht, if_pos rfl, if_pos rfl]
  have c5 := zg9 u hu du id h1 h2 h3
  have c6 := zdd (z05 id u).1 (z6k id u hu)
  repeat' (first | ((refine zqh fun K J => ?_); (simp (disch := omega) only [go_sem, Nat.reduceBEq, ↓reduceIte, reduceCtorEq, Nat.reduceAdd, Nat.reduceMul, Nat.reduceLeDiff])) | (refine J _ ?_; clear J K))
  refine z1d (PC.borrow c4 rfl 6 (z00 (z35 5 rfl (z00 (z11 _ 2 rfl (z00 (z06 (e := 27) 1 ?_ z0l (z04 _)) z0c)) (z00 (z11 _ 2 rfl (z00 (z06 (e := 27) 1 ?_ z0l (z04 _)) (z00 (z06 (e := 23) 1 ?_ z1i rfl) z0c))) (z00 (z11 _ 2 rfl (z00 (z06 (e := 27) 1 ?_ z0l (z04 _)) (z00 (z06 (e := 23) 1 ?_ z1i rfl) z0c))) z0c)))) z0c)) ?_
  all_goals try (focus ((simp (disch := omega) only [go_sem, Nat.reduceBEq, z07]); done))
  (try (simp (disch := omega) only [go_sem, Nat.reduceBEq])); repeat' (first | refine zqj ?_ | ((first | refine zqh fun K J => ?_ | refine zqe (by decide +kernel) fun K J => ?_ | refine zqs (c3) ?_ | refine zqt (c5) ?_ | refine zqt (c6) ?_); (simp (disch := omega) only [go_sem, Nat.reduceBEq, Nat.reduceEqDiff, ↓reduceIte, Nat.reduceAdd, Nat.reduceLeDiff])) | ((refine zqd _ rfl (fun hc => ?_) (fun hc => ?_)) <;> (first | (cases hc; done) | ((try simp only [] at hc); (try omega)))) | refine zqb ?_ | refine zqn ?_ | refine zqu (by (simp (disch := omega) only [go_sem, Nat.reduceBEq, ↓reduceIte, Nat.reduceLeDiff]); rfl) rfl ?_ | (refine J _ ?_; clear J K))
  refine z0a ?_ (Le.refl _)
  simp only [pureD, pureD.pureL, z04, Bool.and_self]
 ·rw [if_neg ht, if_neg ht]
  repeat' (first | ((refine zqh fun K J => ?_); (simp (disch := omega) only [go_sem, Nat.reduceBEq, ↓reduceIte, reduceCtorEq, Nat.reduceAdd, Nat.reduceMul, Nat.reduceLeDiff])) | (refine J _ ?_; clear J K))
  refine z1d (PC.borrow c4 rfl 6 (z00 (z35 5 rfl (z00 (z11 _ 2 rfl (z00 (z06 (e := 27) 1 ?_ z0l (z04 _)) z0c)) (z00 (z11 _ 2 rfl (z00 (z06 (e := 27) 1 ?_ z0l (z04 _)) (z00 (z06 (e := 23) 1 ?_ z1i rfl) z0c))) (z00 (z11 _ 2 rfl (z00 (z06 (e := 27) 1 ?_ z0l (z04 _)) (z00 (z06 (e := 23) 1 ?_ z1i rfl) z0c))) z0c)))) z0c)) ?_
  all_goals try (focus ((simp (disch := omega) only [go_sem, Nat.reduceBEq, z07]); done))
  (try (simp (disch := omega) only [go_sem, Nat.reduceBEq])); repeat' (first | refine zqj ?_ | ((refine zqh fun K J => ?_); (simp (disch := omega) only [go_sem, Nat.reduceBEq, ↓reduceIte, Nat.reduceAdd, Nat.reduceLeDiff])) | ((refine zqd _ rfl (fun hc => ?_) (fun hc => ?_)) <;> (((try simp only [z0b] at hc); (try omega)))) | refine zqg ?_ | refine zqu (by (simp (disch := omega) only [go_sem, Nat.reduceBEq, ↓reduceIte, Nat.reduceAdd, Nat.reduceLeDiff]); rfl) rfl ?_ | (refine J _ ?_; clear J K))
  exact z0a rfl (Le.tup ⟨z12, z12, Le.refl _, trivial⟩)
namespace Tr
end Tr
namespace Tr
theorem zfo {u x : T} (hu : szB u = true) (hx : szB x = true) {parent : Idv} {n : Nat} (h : z25 u parent n x = 0) : szB (z0p parent (z40 n x) u) = true := by
 obtain ⟨C, q, l, r, e, _, _, e2, hs, _⟩ := z7g h
 rw [e2] at hs ⊢
 have hq : szB (q.setKids (l ++ r)) = true := sz_in C (by rw [<- e]; exact hu)
 refine zuh (x := q.setKids (l ++ r)) ?_ C (by rw [<- e]; exact hu)
 obtain ⟨g1, g2⟩ := z6j hq
 refine zpb (t := q.setKids (l ++ r)) hq (l := l ++ x :: r) ?_ fun k hk => ?_
 ·rw [z1v, z3c] at hs
  have := (z9r hs.1.2).2
  have h2 : (l ++ x :: r).length <= 64 := this
  omega
 ·rcases List.mem_append.1 hk with hk | hk
  ·exact g2 k (List.mem_append_left _ hk)
  ·rcases List.mem_cons.1 hk with rfl | hk
   ·exact hx
   ·exact g2 k (List.mem_append_right _ hk)
theorem zrx {u x : T} (hu : szB u = true) (hx : szB x = true) (parent : Idv) (i : Int) : szB (if z25 u parent i x ≠ 0 then T.zero else z0p parent (z40 i.toNat x) u) = true := by
 by_cases h : z25 u parent i x = 0
 ·rw [if_neg (fun h2 => h2 h)]
  obtain ⟨_, _, n, rfl, _⟩ := z3p h
  exact zfo hu hx h
 ·rw [if_pos h]; exact zo8
end Tr
namespace Tr
def zgb (rest p : T) (parent : Idv) (x : T) : Bool := decide (64 <= p.kids.length \/ 8 < (z20 parent rest).length + 1 + depT x)
def z33 (u : T) (id parent : Idv) (i : Int) : Int :=
 if standsT u = false then 1 else
 if (z05 id u).2 = false \/ (z05 parent u).2 = false then 4 else
 if u.id = id \/ (z05 parent (z05 id u).1).2 = true then 9 else
 if z1o (z05 parent (z0i id u)).1.kind (z05 id u).1.kind = false then 9 else
 if i < 0 \/ ((z05 parent (z0i id u)).1.kids.length : Int) < i then 3 else
 if z3b (z05 parent (z0i id u)).1.kids (z05 id u).1.kind (z05 id u).1.label = true then 10 else
 if zgb (z0i id u) (z05 parent (z0i id u)).1 parent (z05 id u).1 = true then 6 else 0
theorem za3 {u : T} {id parent : Idv} {i : Int} (h : z33 u id parent i = 0) : standsT u = true /\ id ∈ idsT u /\ parent ∈ idsT u /\ ¬ u.id = id /\ parent ∉ idsT (z05 id u).1 /\ z25 (z0i id u) parent i (z05 id u).1 = 0 := by
 unfold z33 at h
 split at h
 ·cases h
 rename_i h1
 split at h
 ·cases h
 rename_i h2
 split at h
 ·cases h
 rename_i h3
 split at h
 ·cases h
 rename_i h4
 split at h
 ·cases h
 rename_i h5
 split at h
 ·cases h
 rename_i h6
 split at h
 ·cases h
 rename_i h7
 simp only [not_or, Bool.not_eq_false, Bool.not_eq_true] at h1 h2 h3 h4 h6 h7
 obtain ⟨h2a, h2b⟩ := h2
 obtain ⟨h3a, h3b⟩ := h3
 rw [z27, decide_eq_true_eq] at h2a h2b
 rw [z27, decide_eq_false_iff_not] at h3b
 obtain ⟨under, n, x, d1, d2, d3, d4, d5, d6, d7, d8, d9, d10, d11, d12⟩ := za2 h1 h3a h2a
 rw [d2] at h3b h4 h6 h7 ⊢
 simp only at h3b h4 h6 h7 ⊢
 have hpr : parent ∈ idsT (z0i id u) := (d12 parent h2b).resolve_left h3b
 have hc : cntT u <= 1024 := ((z1v u).1 h1).2.2.1
 unfold zgb at h7
 rw [decide_eq_false_iff_not] at h7
 refine ⟨h1, h2a, h2b, h3a, h3b, ?_⟩
 obtain ⟨m, rfl⟩ := Int.eq_ofNat_of_zero_le (show 0 <= i by omega)
 exact zic d4 d5 d6 hpr h4 (by omega) h6 (by omega) (by omega) (by omega) d9
theorem zx4 {u x : T} {id parent : Idv} {i : Int} (h1 : standsT u = true) (h2 : z05 id u = (x, true)) (h3 : parent ∈ idsT u) (h4 : ¬ u.id = id) (h5 : parent ∉ idsT x) (h6 : z25 (z0i id u) parent i x = 0) : z33 u id parent i = 0 := by
 obtain ⟨⟨w1, w2, w3, w4, w5, w6, w7, w8, w9, w10⟩, w11, n, rfl, w12⟩ := z3p h6
 have hk := w12 _ (z7o w4)
 have hq : (z05 parent (z0i id u)).1.id = parent := by
  obtain ⟨_, _, e, _, _⟩ := focus parent _ w11
  exact e
 have hk := hk hq
 unfold z33
 rw [if_neg (by rw [h1]; simp), h2]
 simp only
 rw [ if_neg (by rw [z27, decide_eq_true h3]; simp), if_neg (by rw [z27, decide_eq_false h5]; simp [h4]), if_neg (by rw [w5]; simp), if_neg (by omega), if_neg (by rw [w6]; simp), if_neg]
 unfold zgb
 rw [decide_eq_true_eq]; omega
theorem zm8 {u : T} {id parent : Idv} (h1 : standsT u = true) (h2 : id ∈ idsT u) (h3 : parent ∈ idsT u) (h4 : ¬ u.id = id) (h5 : parent ∉ idsT (z05 id u).1) : (z05 parent (z0i id u)).1.kind = (z05 parent u).1.kind := by
 have := zm3 u (z17 h1) h4 h3 (fun y hy => by rw [hy] at h5; exact h5)
 rw [this]
 exact (z84 id _).2.1
end Tr
theorem pc_Move1 (u : T) (hu : szB u = true) (cu : cntT u <= 1000000) (du : depT u <= 1000000) : PC prog 71 [.rptr (z0m u)] (.bool (!standsT u)) := by
 have c1 := z8d u hu (by omega) (by omega)
 refine z1g 1 (by simp only [pureD.pureL, z02, pureD, Bool.and_self]) rfl (z14 [] func71 rfl (by decide +kernel) rfl ?_)
 show awp _ _ (Code.seq _ _) _ _
 repeat' (first | ((first | refine zqh fun K J => ?_ | refine zqs (c1) ?_); (simp (disch := omega) only [go_sem, Nat.reduceBEq, ↓reduceIte, Nat.reduceAdd])) | refine zqn ?_ | refine zqu (by simp only [go_sem]; rfl) rfl ?_ | (refine J _ ?_; clear J K))
 exact z03 rfl
theorem pc_Move2 (u : T) (hu : szB u = true) (cu : cntT u <= 1000000) (du : depT u <= 1000000) (id parent : Idv) : PC prog 72 [.rptr (z0m u), .rptr (z0n id), .rptr (z0n parent)] (.bool (!(z05 id u).2 || !(z05 parent u).2)) := by
 have c1 := zl0 u (z8b u hu) (by omega) id
 have c2 := zl0 u (z8b u hu) (by omega) parent
 refine z1g 1 (by simp only [pureD.pureL, z02, pureD]; rfl) rfl (z14 [] func72 rfl (by decide +kernel) rfl ?_)
 show awp _ _ (Code.seq _ _) _ _
 repeat' (first | ((first | refine zqh fun K J => ?_ | refine zqs (c1) ?_ | refine zqs (c2) ?_); (simp (disch := omega) only [go_sem, Nat.reduceBEq, ↓reduceIte, Nat.reduceAdd])) | refine zqn ?_ | refine zqu (by simp only [go_sem]; rfl) rfl ?_ | (refine J _ ?_; clear J K) | (refine zqf (fun hb => ?_) (fun hb => ?_) <;> (have hb2 := hb; try simp only [z0b] at hb2) <;> ((have hb3 : (_ : Bool) = _ := hb2); (simp (disch := omega) only [go_sem, Nat.reduceBEq, ↓reduceIte, Nat.reduceAdd, hb3]); clear hb hb3; (try omega))))
 all_goals exact z03 (by simp [hb2])
theorem pc_Move3 (u p x : T) (hu : szB u = true) (hx : szB x = true) (cp : p.kids.length <= 1000000) (du : depT u <= 1000000) (dx : depT x <= 1000000) (parent : Idv) : PC prog 74 [.rptr (z0m p), .rptr (z0m u), .rptr (z0n parent), .rptr (z0m x)] (.bool (zgb u p parent x)) := by
 have c1 := zpm u (z8b u hu) (by omega) parent
 have c2 := zk4 x (zb8 x hx) (by omega)
 have ha := z4v parent u
 refine z1g 1 (by simp only [pureD.pureL, z02, pureD, Bool.and_self]; rfl) rfl (z14 [3000006, 3000010, 3000011, 5000012, 3000014, 5000015] func74 rfl (by decide +kernel) rfl ?_)
 show awp _ _ (Code.seq _ _) _ _
 repeat' (first | ((first | refine zqh fun K J => ?_ | refine zqe (by decide +kernel) fun K J => ?_ | refine zqt (c1) ?_ | refine zqt (c2) ?_); (simp (disch := omega) only [go_sem, Nat.reduceBEq, Nat.reduceEqDiff, ↓reduceIte, reduceCtorEq, Nat.reduceAdd, z13])) | refine zqn ?_ | refine zqu (by simp only [go_sem]; rfl) rfl ?_ | (refine J _ ?_; clear J K) | (refine zqf (fun hb => ?_) (fun hb => ?_) <;> (have hb2 := hb; try simp only [z0b] at hb2) <;> ((first | have hb3 := eq_false hb2 | have hb3 := eq_true hb2); (simp (disch := omega) only [go_sem, Nat.reduceBEq, Nat.reduceEqDiff, ↓reduceIte, Nat.reduceAdd, hb3]); clear hb hb3; (try omega))))
 ·exact z03 (decide_eq_decide.2 (by omega))
 ·exact z03 (decide_eq_true (by omega)).symm
theorem pc_Move4 (p : T) (i : Int) : PC prog 77 [.rptr (.int .i64 i), .rptr (z0m p)] (.bool (decide (i < 0) || decide ((p.kids.length : Int) < i))) := by
 refine z1g 1 (by simp only [pureD.pureL, z02, pureD, Bool.and_self]) rfl (z14 [] func77 rfl (by decide +kernel) rfl ?_)
 show awp _ _ (Code.seq _ _) _ _
 repeat' (first | ((refine zqh fun K J => ?_); (simp (disch := omega) only [go_sem, Nat.reduceBEq, ↓reduceIte, Nat.reduceAdd])) | refine zqn ?_ | refine zqu (by simp only [go_sem]; rfl) rfl ?_ | (refine J _ ?_; clear J K) | (refine zqf (fun hb => ?_) (fun hb => ?_) <;> (have hb2 := hb; try simp only [z0b] at hb2) <;> ((first | have hb3 := eq_false hb2 | have hb3 := eq_true hb2); (simp (disch := omega) only [go_sem, Nat.reduceBEq, ↓reduceIte, reduceCtorEq, Nat.reduceAdd, hb3, z13]); clear hb hb3; (try omega))))
 all_goals exact z03 (by simp [hb2])
theorem pc_Move5 (p x : T) (hp : szB p = true) : PC prog 78 [.rptr (z0m p), .rptr (z0m x)] (.bool (z3b p.kids x.kind x.label)) := by
 have c1 := zjc p.kids (z6j hp).1 x.kind x.label
 refine z1g 1 (by simp only [pureD.pureL, z02, pureD, Bool.and_self]) rfl (z14 [] func78 rfl (by decide +kernel) rfl ?_)
 show awp _ _ (Code.seq _ _) _ _
 repeat' (first | ((first | refine zqh fun K J => ?_ | refine zqs (c1) ?_); (simp (disch := omega) only [go_sem, Nat.reduceBEq, ↓reduceIte, reduceCtorEq, Nat.reduceAdd, z13])) | refine zqn ?_ | refine zqu (by simp only [go_sem]; rfl) rfl ?_ | (refine J _ ?_; clear J K))
 exact z03 rfl
theorem zoe (u : T) (id parent : Idv) (f1 f2 : FuncId) (c1 c2 : List D) : z89 [(f1, c1, 1, !standsT u), (f2, c2, 4, !(z05 id u).2 || !(z05 parent u).2)] = (if standsT u = false then 1 else if (z05 id u).2 = false \/ (z05 parent u).2 = false then 4 else 0) := by
 cases h1 : standsT u
 ·rw [if_pos rfl]; rfl
 rw [if_neg (by simp), Bool.not_true, z4t]
 cases h2 : (z05 id u).2
 ·rw [if_pos (.inl rfl)]; rfl
 cases h3 : (z05 parent u).2
 ·rw [if_pos (.inr rfl)]; rfl
 ·rw [if_neg (by simp)]; rfl
theorem zt5 (rest p x : T) (parent : Idv) (i : Int) (f1 f2 f3 : FuncId) (c1 c2 c3 : List D) : z89 [(f1, c1, 3, decide (i < 0) || decide ((p.kids.length : Int) < i)), (f2, c2, 10, z3b p.kids x.kind x.label), (f3, c3, 6, zgb rest p parent x)] =
  (if i < 0 \/ (p.kids.length : Int) < i then 3 else if z3b p.kids x.kind x.label = true then 10 else if zgb rest p parent x = true then 6 else 0) := by
 by_cases hi : i < 0 \/ (p.kids.length : Int) < i
 ·rw [if_pos hi, show (decide (i < 0) || decide ((p.kids.length : Int) < i)) = true from by simpa using hi]; rfl
 rw [if_neg hi, show (decide (i < 0) || decide ((p.kids.length : Int) < i)) = false from by simpa using hi, z4t]
 cases ht : z3b p.kids x.kind x.label
 ·rw [if_neg (by simp), z4t]
  cases hf : zgb rest p parent x
  ·rw [if_neg (by simp)]; rfl
  ·rw [if_pos rfl]; rfl
 ·rw [if_pos rfl]; rfl
theorem pc_Move (u : T) (hu : szB u = true) (cu : cntT u <= 1000000) (du : depT u <= 1000000) (id parent : Idv) (i : Int) :
  PC prog 28 [z0m u, z0n id, z0n parent, .int .i64 i] (.tup [z0m (if z33 u id parent i = 0 then z0p parent (z40 i.toNat (z05 id u).1) (z0i id u) else T.zero), .int .i64 (z33 u id parent i)]) := by
 have hx := z6k id u hu
 have hr := zfi (id := id) u hu
 have dr : depT (z0i id u) <= depT u := zq4 u
 have dx : depT (z05 id u).1 <= depT u := zq5 id u
 have hp := z6k parent (z0i id u) hr
 have c1 := z93 u (z8b u hu) (by omega) id
 have c2 := z93 u (z8b u hu) (by omega) parent
 have c3 := zl0 (z05 id u).1 (z8b _ hx) (by omega) parent
 have c4 := z91 (z05 parent u).1.kind (z05 id u).1.kind
 have c6 := z93 (z0i id u) (z8b _ hr) (by omega) parent
 have c7 := zas [(71, [.rptr (z0m u)], 1, !standsT u), (72, [.rptr (z0m u), .rptr (z0n id), .rptr (z0n parent)], 4, !(z05 id u).2 || !(z05 parent u).2)]
  (by simp) (by
   intro c hc
   simp only [List.mem_cons, List.not_mem_nil, or_false] at hc
   rcases hc with rfl | rfl
   ·exact ⟨by simp only [pureD.pureL, z02, pureD, Bool.and_self], pc_Move1 u hu cu du⟩
   ·exact ⟨by simp only [pureD.pureL, z02, pureD]; rfl, pc_Move2 u hu cu du id parent⟩)
 have c8 := zas [(77, [.rptr (.int .i64 i), .rptr (z0m (z05 parent (z0i id u)).1)], 3, decide (i < 0) || decide (((z05 parent (z0i id u)).1.kids.length : Int) < i)), (78, [.rptr (z0m (z05 parent (z0i id u)).1), .rptr (z0m (z05 id u).1)], 10, z3b (z05 parent (z0i id u)).1.kids (z05 id u).1.kind (z05 id u).1.label),
   (74, [.rptr (z0m (z05 parent (z0i id u)).1), .rptr (z0m (z0i id u)), .rptr (z0n parent), .rptr (z0m (z05 id u).1)], 6, zgb (z0i id u) (z05 parent (z0i id u)).1 parent (z05 id u).1)]
  (by simp) (by
   intro c hc
   simp only [List.mem_cons, List.not_mem_nil, or_false] at hc
   rcases hc with rfl | rfl | rfl
   ·exact ⟨by simp only [pureD.pureL, z02, pureD, Bool.and_self], pc_Move4 _ i⟩
   ·exact ⟨by simp only [pureD.pureL, z02, pureD, Bool.and_self], pc_Move5 _ _ hp⟩
   ·exact ⟨by simp only [pureD.pureL, z02, pureD, Bool.and_self]; rfl, pc_Move3 _ _ _ hr hx (z6j hp).1 (by omega) (by omega) parent⟩)
 rw [zoe] at c7
 rw [zt5] at c8
 refine z1g 3 (by simp only [pureD.pureL, z02, pureD, Bool.and_self]; rfl) (by simp only [pureD.pureL, z02, pureD, Bool.and_self]) (z14 [3000081, 3000082, 3000083, 3000084, 5000085, 5000086] func28 rfl (by decide +kernel) rfl ?_)
 show awp _ _ (Code.seq _ _) _ _
 rw [show Tryz.f28.results.toList = [.cell 8 27, .tmp 9] from rfl]
 by_cases h1 : standsT u = false
 ·rw [if_pos h1] at c7
  rw [show z33 u id parent i = 1 from by unfold z33; rw [if_pos h1], if_neg (by decide)]
  repeat' (first | ((refine zqh fun K J => ?_); (simp (disch := omega) only [go_sem, Nat.reduceBEq, ↓reduceIte, reduceCtorEq, Nat.reduceAdd, Nat.reduceMul, Nat.reduceLeDiff])) | (refine J _ ?_; clear J K))
  refine z1d (PC.borrow c7 rfl 6 (z00 (z35 5 rfl (z00 (z11 _ 2 rfl (z00 (z06 (e := 27) 1 ?_ z0l (z04 _)) z0c)) (z00 (z11 _ 2 rfl (z00 (z06 (e := 27) 1 ?_ z0l (z04 _)) (z00 (z06 (e := 23) 1 ?_ z1i rfl) (z00 (z06 (e := 23) 1 ?_ z1i rfl) z0c)))) z0c))) z0c)) ?_
  all_goals try (focus ((simp (disch := omega) only [go_sem, Nat.reduceBEq, z07]); done))
  (try (simp (disch := omega) only [go_sem, Nat.reduceBEq])); repeat' (first | refine zqj ?_ | ((refine zqh fun K J => ?_); (simp (disch := omega) only [go_sem, Nat.reduceBEq, ↓reduceIte, Nat.reduceAdd, Nat.reduceLeDiff, Int.reduceEq])) | ((refine zqd _ rfl (fun hc => ?_) (fun hc => ?_)) <;> (first | (cases hc; done) | ((try simp only [] at hc); (try omega)))) | refine zqg ?_ | refine zqu (by (simp (disch := omega) only [go_sem, Nat.reduceBEq, ↓reduceIte, Nat.reduceAdd, Nat.reduceLeDiff]); rfl) rfl ?_ | (refine J _ ?_; clear J K))
  exact z0a rfl (Le.tup ⟨z12, Le.refl _, trivial⟩)
 rw [if_neg h1] at c7
 by_cases h2 : (z05 id u).2 = false \/ (z05 parent u).2 = false
 ·rw [if_pos h2] at c7
  rw [show z33 u id parent i = 4 from by unfold z33; rw [if_neg h1, if_pos h2], if_neg (by decide)]
  repeat' (first | ((refine zqh fun K J => ?_); (simp (disch := omega) only [go_sem, Nat.reduceBEq, ↓reduceIte, reduceCtorEq, Nat.reduceAdd, Nat.reduceMul, Nat.reduceLeDiff])) | (refine J _ ?_; clear J K))
  refine z1d (PC.borrow c7 rfl 6 (z00 (z35 5 rfl (z00 (z11 _ 2 rfl (z00 (z06 (e := 27) 1 ?_ z0l (z04 _)) z0c)) (z00 (z11 _ 2 rfl (z00 (z06 (e := 27) 1 ?_ z0l (z04 _)) (z00 (z06 (e := 23) 1 ?_ z1i rfl) (z00 (z06 (e := 23) 1 ?_ z1i rfl) z0c)))) z0c))) z0c)) ?_
  all_goals try (focus ((simp (disch := omega) only [go_sem, Nat.reduceBEq, z07]); done))
  (try (simp (disch := omega) only [go_sem, Nat.reduceBEq])); repeat' (first | refine zqj ?_ | ((refine zqh fun K J => ?_); (simp (disch := omega) only [go_sem, Nat.reduceBEq, ↓reduceIte, Nat.reduceAdd, Nat.reduceLeDiff, Int.reduceEq])) | ((refine zqd _ rfl (fun hc => ?_) (fun hc => ?_)) <;> (first | (cases hc; done) | ((try simp only [] at hc); (try omega)))) | refine zqg ?_ | refine zqu (by (simp (disch := omega) only [go_sem, Nat.reduceBEq, ↓reduceIte, Nat.reduceAdd, Nat.reduceLeDiff]); rfl) rfl ?_ | (refine J _ ?_; clear J K))
  exact z0a rfl (Le.tup ⟨z12, Le.refl _, trivial⟩)
 rw [if_neg h2] at c7
 rw [Bool.not_eq_false] at h1
 simp only [not_or, Bool.not_eq_false] at h2
 obtain ⟨h2a, h2b⟩ := h2
 have m1 : id ∈ idsT u := by rw [z27, decide_eq_true_eq] at h2a; exact h2a
 have m2 : parent ∈ idsT u := by rw [z27, decide_eq_true_eq] at h2b; exact h2b
 have e0 : z33 u id parent i = (if u.id = id \/ (z05 parent (z05 id u).1).2 = true then 9 else
   if z1o (z05 parent (z0i id u)).1.kind (z05 id u).1.kind = false then 9 else
   if i < 0 \/ ((z05 parent (z0i id u)).1.kids.length : Int) < i then 3 else
   if z3b (z05 parent (z0i id u)).1.kids (z05 id u).1.kind (z05 id u).1.label = true then 10 else
   if zgb (z0i id u) (z05 parent (z0i id u)).1 parent (z05 id u).1 = true then 6 else 0) := by
  unfold z33; rw [if_neg (by rw [h1]; simp), if_neg (by rw [h2a, h2b]; simp)]
 have hself : decide (id = u.id) = decide (u.id = id) := decide_eq_decide.2 ⟨fun h => h.symm, fun h => h.symm⟩
 by_cases h3 : u.id = id \/ (z05 parent (z05 id u).1).2 = true \/ z1o (z05 parent u).1.kind (z05 id u).1.kind = false
 ·have e9 : z33 u id parent i = 9 := by
   rw [e0]
   by_cases h4 : u.id = id \/ (z05 parent (z05 id u).1).2 = true
   ·rw [if_pos h4]
   ·rw [if_neg h4]
    have h5 : z1o (z05 parent u).1.kind (z05 id u).1.kind = false := by
     rcases h3 with h | h | h
     ·exact (h4 (.inl h)).elim
     ·exact (h4 (.inr h)).elim
     ·exact h
    have hk := zm8 h1 m1 m2 (fun e => h4 (.inl e)) (fun hm => h4 (.inr (by rw [z27, decide_eq_true hm])))
    rw [hk, if_pos h5]
  rw [e9, if_neg (by decide)]
  repeat' (first | ((refine zqh fun K J => ?_); (simp (disch := omega) only [go_sem, Nat.reduceBEq, ↓reduceIte, reduceCtorEq, Nat.reduceAdd, Nat.reduceMul, Nat.reduceLeDiff])) | (refine J _ ?_; clear J K))
  refine z1d (PC.borrow c7 rfl 6 (z00 (z35 5 rfl (z00 (z11 _ 2 rfl (z00 (z06 (e := 27) 1 ?_ z0l (z04 _)) z0c)) (z00 (z11 _ 2 rfl (z00 (z06 (e := 27) 1 ?_ z0l (z04 _)) (z00 (z06 (e := 23) 1 ?_ z1i rfl) (z00 (z06 (e := 23) 1 ?_ z1i rfl) z0c)))) z0c))) z0c)) ?_
  all_goals try (focus ((simp (disch := omega) only [go_sem, Nat.reduceBEq, z07]); done))
  (try (simp (disch := omega) only [go_sem, Nat.reduceBEq])); repeat' (first | refine zqj ?_ | ((first | refine zqh fun K J => ?_ | refine zqs (c1) ?_ | refine zqs (c2) ?_ | refine zqs (c3) ?_ | refine zqs (c4) ?_); (simp (disch := omega) only [go_sem, Nat.reduceBEq, ↓reduceIte, reduceCtorEq, Nat.reduceAdd, Nat.reduceLeDiff, hself])) | ((refine zqd _ rfl (fun hc => ?_) (fun hc => ?_)) <;> (first | (cases hc; done) | ((try simp only [z0b] at hc); (try omega)))) | refine zqb ?_ | refine zqg ?_ | refine zqu (by (simp (disch := omega) only [go_sem, Nat.reduceBEq, ↓reduceIte, Nat.reduceAdd, Nat.reduceLeDiff]); rfl) rfl ?_ | (refine J _ ?_; clear J K) | (refine zqf (fun hb => ?_) (fun hb => ?_) <;> (have hb2 := hb; try simp only [z0b] at hb2) <;> ((first | have hb3 : (_ : Bool) = _ := hb2 | have hb3 := eq_false hb2 | have hb3 := eq_true hb2); (simp (disch := omega) only [go_sem, Nat.reduceBEq, ↓reduceIte, reduceCtorEq, Nat.reduceAdd, Nat.reduceLeDiff, hb3]); clear hb hb3; (try omega))))
  ·exact z0a rfl (Le.tup ⟨z12, Le.refl _, trivial⟩)
  ·exfalso
   rcases h3 with h | h | h
   ·exact ‹¬ u.id = id› h
   ·rw [‹(z05 parent (z05 id u).1).2 = false›] at h; cases h
   ·rw [‹z1o (z05 parent u).1.kind (z05 id u).1.kind = true›] at h; cases h
  all_goals exact z0a rfl (Le.tup ⟨z12, Le.refl _, trivial⟩)
 simp only [not_or, Bool.not_eq_true, Bool.not_eq_false] at h3
 obtain ⟨h3a, h3b, h3c⟩ := h3
 have n1 : parent ∉ idsT (z05 id u).1 := by rw [z27, decide_eq_false_iff_not] at h3b; exact h3b
 have hk := zm8 h1 m1 m2 h3a n1
 rw [if_neg (by simp [h3a, h3b]), if_neg (by rw [hk, h3c]; simp)] at e0
 rw [<- e0] at c8
 have c5 := zg9 u hu du id h1 m1 h3a
 have h3d : decide (id = u.id) = false := decide_eq_false fun e => h3a e.symm
 rw [h3b] at c3
 rw [h3c] at c4
 by_cases hw : z33 u id parent i = 0
 ·obtain ⟨_, _, _, _, _, hwr⟩ := za3 hw
  obtain ⟨hr2, hm, n, rfl, hn⟩ := z3p hwr
  have c9 := pc_put n (z05 id u).1
  have c10 := zgc (z0i id u) hr parent (z40 n (z05 id u).1) (g := 121) (cap := [.rptr (.int .i64 n), .rptr (z0m (z05 id u).1)]) (by simp only [pureD.pureL, z02, pureD, Bool.and_self]) (fun q hq hid => zx6 n _ hx q (zct _ hr q hq) (hn q hq hid))
  rw [(show (atR parent (z40 n (z05 id u).1) (z0i id u)).1 = z0p parent (z40 n (z05 id u).1) (z0i id u) from by rw [zfn _ (z17 hr2.1) hm])] at c10
  rw [hw] at c8 ⊢
  rw [if_pos rfl, Int.toNat_natCast]
  repeat' (first | ((refine zqh fun K J => ?_); (simp (disch := omega) only [go_sem, Nat.reduceBEq, ↓reduceIte, reduceCtorEq, Nat.reduceAdd, Nat.reduceMul, Nat.reduceLeDiff])) | (refine J _ ?_; clear J K))
  refine z1d (PC.borrow c7 rfl 6 (z00 (z35 5 rfl (z00 (z11 _ 2 rfl (z00 (z06 (e := 27) 1 ?_ z0l (z04 _)) z0c)) (z00 (z11 _ 2 rfl (z00 (z06 (e := 27) 1 ?_ z0l (z04 _)) (z00 (z06 (e := 23) 1 ?_ z1i rfl) (z00 (z06 (e := 23) 1 ?_ z1i rfl) z0c)))) z0c))) z0c)) ?_
  all_goals try (focus ((simp (disch := omega) only [go_sem, Nat.reduceBEq, z07]); done))
  (try (simp (disch := omega) only [go_sem, Nat.reduceBEq])); repeat' (first | refine zqj ?_ | ((first | refine zqh fun K J => ?_ | refine zqs (c1) ?_ | refine zqs (c2) ?_ | refine zqs (c3) ?_ | refine zqs (c4) ?_ | refine zqs (c5) ?_ | refine zqs (c6) ?_); (simp (disch := omega) only [go_sem, Nat.reduceBEq, ↓reduceIte, reduceCtorEq, Nat.reduceAdd, Nat.reduceMul, Nat.reduceLeDiff, h3d])) | ((refine zqd _ rfl (fun hc => ?_) (fun hc => ?_)) <;> (first | (cases hc; done) | ((try simp only [] at hc); (try omega)))) | refine zqb ?_ | (refine J _ ?_; clear J K))
  refine z1d (PC.borrow c8 rfl 6 (z00 (z35 5 rfl (z00 (z11 _ 2 rfl (z00 (z2c (e := 3) 2 ?_ z5u (z08 1 rfl)) (z00 (z06 (e := 27) 1 ?_ z0l (z04 _)) z0c))) (z00 (z11 _ 2 rfl (z00 (z06 (e := 27) 1 ?_ z0l (z04 _)) (z00 (z06 (e := 27) 1 ?_ z0l (z04 _)) z0c))) (z00 (z11 _ 2 rfl (z00 (z06 (e := 27) 1 ?_ z0l (z04 _)) (z00 (z06 (e := 27) 1 ?_ z0l (z04 _)) (z00 (z06 (e := 23) 1 ?_ z1i rfl) (z00 (z06 (e := 27) 1 ?_ z0l (z04 _)) z0c))))) z0c)))) z0c)) ?_
  all_goals try (focus ((simp (disch := omega) only [go_sem, Nat.reduceBEq, z07]); done))
  (try (simp (disch := omega) only [go_sem, Nat.reduceBEq])); repeat' (first | refine zqj ?_ | ((first | refine zqh fun K J => ?_ | refine zqe (by decide +kernel) fun K J => ?_ | refine zqt (c9) ?_ | refine zqt (c10) ?_); (simp (disch := omega) only [go_sem, Nat.reduceBEq, Nat.reduceEqDiff, ↓reduceIte, Nat.reduceAdd, Nat.reduceLeDiff])) | ((refine zqd _ rfl (fun hc => ?_) (fun hc => ?_)) <;> (first | (cases hc; done) | ((try simp only [] at hc); (try omega)))) | refine zqb ?_ | refine zqn ?_ | refine zqu (by (simp (disch := omega) only [go_sem, Nat.reduceBEq, ↓reduceIte, Nat.reduceLeDiff]); rfl) rfl ?_ | (refine J _ ?_; clear J K))
  refine z0a ?_ (Le.refl _)
  simp only [pureD, pureD.pureL, z04, Bool.and_self]
 ·rw [if_neg hw]
  repeat' (first | ((refine zqh fun K J => ?_); (simp (disch := omega) only [go_sem, Nat.reduceBEq, ↓reduceIte, reduceCtorEq, Nat.reduceAdd, Nat.reduceMul, Nat.reduceLeDiff])) | (refine J _ ?_; clear J K))
  refine z1d (PC.borrow c7 rfl 6 (z00 (z35 5 rfl (z00 (z11 _ 2 rfl (z00 (z06 (e := 27) 1 ?_ z0l (z04 _)) z0c)) (z00 (z11 _ 2 rfl (z00 (z06 (e := 27) 1 ?_ z0l (z04 _)) (z00 (z06 (e := 23) 1 ?_ z1i rfl) (z00 (z06 (e := 23) 1 ?_ z1i rfl) z0c)))) z0c))) z0c)) ?_
  all_goals try (focus ((simp (disch := omega) only [go_sem, Nat.reduceBEq, z07]); done))
  (try (simp (disch := omega) only [go_sem, Nat.reduceBEq])); repeat' (first | refine zqj ?_ | ((first | refine zqh fun K J => ?_ | refine zqs (c1) ?_ | refine zqs (c2) ?_ | refine zqs (c3) ?_ | refine zqs (c4) ?_ | refine zqs (c5) ?_ | refine zqs (c6) ?_); (simp (disch := omega) only [go_sem, Nat.reduceBEq, ↓reduceIte, reduceCtorEq, Nat.reduceAdd, Nat.reduceMul, Nat.reduceLeDiff, h3d])) | ((refine zqd _ rfl (fun hc => ?_) (fun hc => ?_)) <;> (first | (cases hc; done) | ((try simp only [] at hc); (try omega)))) | refine zqb ?_ | (refine J _ ?_; clear J K))
  refine z1d (PC.borrow c8 rfl 6 (z00 (z35 5 rfl (z00 (z11 _ 2 rfl (z00 (z2c (e := 3) 2 ?_ z5u (z08 1 rfl)) (z00 (z06 (e := 27) 1 ?_ z0l (z04 _)) z0c))) (z00 (z11 _ 2 rfl (z00 (z06 (e := 27) 1 ?_ z0l (z04 _)) (z00 (z06 (e := 27) 1 ?_ z0l (z04 _)) z0c))) (z00 (z11 _ 2 rfl (z00 (z06 (e := 27) 1 ?_ z0l (z04 _)) (z00 (z06 (e := 27) 1 ?_ z0l (z04 _)) (z00 (z06 (e := 23) 1 ?_ z1i rfl) (z00 (z06 (e := 27) 1 ?_ z0l (z04 _)) z0c))))) z0c)))) z0c)) ?_
  all_goals try (focus ((simp (disch := omega) only [go_sem, Nat.reduceBEq, z07]); done))
  (try (simp (disch := omega) only [go_sem, Nat.reduceBEq])); repeat' (first | refine zqj ?_ | ((refine zqh fun K J => ?_); (simp (disch := omega) only [go_sem, Nat.reduceBEq, ↓reduceIte, Nat.reduceAdd, Nat.reduceLeDiff])) | ((refine zqd _ rfl (fun hc => ?_) (fun hc => ?_)) <;> (((try simp only [z0b] at hc); (try omega)))) | refine zqg ?_ | refine zqu (by (simp (disch := omega) only [go_sem, Nat.reduceBEq, ↓reduceIte, Nat.reduceAdd, Nat.reduceLeDiff]); rfl) rfl ?_ | (refine J _ ?_; clear J K))
  exact z0a rfl (Le.tup ⟨z12, Le.refl _, trivial⟩)
theorem pc_MoveR (u : T) (hu : szB u = true) (cu : cntT u <= 1000000) (du : depT u <= 1000000) (id parent : Idv) (i : Int) :
  PC prog 107 [z0m u, z0n id, z0n parent, .int .i64 i] (.tup [z0m (if z33 u id parent i = 0 then z0p parent (z40 i.toNat (z05 id u).1) (z0i id u) else T.zero), .int .i64 (z33 u id parent i)]) := by
 have hx := z6k id u hu
 have hr := zfi (id := id) u hu
 have dr : depT (z0i id u) <= depT u := zq4 u
 have dx : depT (z05 id u).1 <= depT u := zq5 id u
 have hp := z6k parent (z0i id u) hr
 have hpk := (z6j hp).1
 have ha := z4v parent (z0i id u)
 have c1 := z5t u hu (by omega) (by omega)
 have c2 := z5f id u hu
 have c3 := zx7 u hu parent
 have c4 := zx7 (z05 id u).1 hx parent
 have c5 := zif id u hu
 have c6 := z5f parent (z0i id u) hr
 have c7 := zj8 (z05 parent (z0i id u)).1.kind (z05 id u).1.kind
 have c8 := zgd (z05 parent (z0i id u)).1.kids hpk (z05 id u).1.kind (z05 id u).1.label (z05 id u).1.id true
 rw [zmx] at c8
 have c9 := zql (z0i id u) hr (by omega) parent
 have c10 := zfk (z05 id u).1 hx (by omega)
 refine z1g 3 (by simp only [pureD.pureL, z02, pureD, Bool.and_self]; rfl) (by simp only [pureD.pureL, z02, pureD, Bool.and_self]) (z14 [3000081, 3000085, 3000086, 5000087, 3000089, 5000090] func107 rfl (by decide +kernel) rfl ?_)
 show awp _ _ (Code.seq _ _) _ _
 rw [show Tryz.f107.results.toList = [.cell 8 27, .tmp 9] from rfl]
 by_cases s1 : standsT u = false
 ·rw [show z33 u id parent i = 1 from by unfold z33; rw [if_pos s1], if_neg (by decide)]
  rw [s1] at c1
  repeat' (first | refine zqj ?_ | ((first | refine zqh fun K J => ?_ | refine zqs (c1) ?_); (simp (disch := omega) only [go_sem, Nat.reduceBEq, ↓reduceIte, Nat.reduceAdd, Nat.reduceLeDiff])) | ((refine zqd _ rfl (fun hc => ?_) (fun hc => ?_)) <;> (first | (cases hc; done) | ((try simp only [] at hc); (try omega)))) | refine zqg ?_ | refine zqu (by (simp (disch := omega) only [go_sem, Nat.reduceBEq, ↓reduceIte, Nat.reduceAdd, Nat.reduceLeDiff]); rfl) rfl ?_ | (refine J _ ?_; clear J K))
  exact z0a rfl (Le.tup ⟨z12, Le.refl _, trivial⟩)
 by_cases s2 : (z05 id u).2 = false \/ (z05 parent u).2 = false
 ·rw [show z33 u id parent i = 4 from by unfold z33; rw [if_neg s1, if_pos s2], if_neg (by decide)]
  rw [Bool.not_eq_false] at s1
  rw [s1] at c1
  rcases s2 with h | h
  ·rw [h] at c2
   repeat' (first | refine zqj ?_ | ((first | refine zqh fun K J => ?_ | refine zqs (c1) ?_ | refine zqs (c2) ?_); (simp (disch := omega) only [go_sem, Nat.reduceBEq, ↓reduceIte, Nat.reduceAdd, Nat.reduceLeDiff])) | ((refine zqd _ rfl (fun hc => ?_) (fun hc => ?_)) <;> (first | (cases hc; done) | ((try simp only [] at hc); (try omega)))) | refine zqb ?_ | refine zqg ?_ | refine zqu (by (simp (disch := omega) only [go_sem, Nat.reduceBEq, ↓reduceIte, Nat.reduceAdd, Nat.reduceLeDiff]); rfl) rfl ?_ | (refine J _ ?_; clear J K))
   exact z0a rfl (Le.tup ⟨z12, Le.refl _, trivial⟩)
  ·rw [h] at c3
   repeat' (first | refine zqj ?_ | ((first | refine zqh fun K J => ?_ | refine zqs (c1) ?_ | refine zqs (c2) ?_ | refine zqs (c3) ?_); (simp (disch := omega) only [go_sem, Nat.reduceBEq, ↓reduceIte, Nat.reduceAdd, Nat.reduceLeDiff])) | ((refine zqd _ rfl (fun hc => ?_) (fun hc => ?_)) <;> (first | (cases hc; done) | ((try simp only [] at hc); (try omega)))) | refine zqb ?_ | refine zqg ?_ | refine zqu (by (simp (disch := omega) only [go_sem, Nat.reduceBEq, ↓reduceIte, Nat.reduceAdd, Nat.reduceLeDiff]); rfl) rfl ?_ | (refine J _ ?_; clear J K) | (refine zqf (fun hb => ?_) (fun hb => ?_) <;> (have hb2 := hb; try simp only [z0b] at hb2) <;> ((have hb3 : (_ : Bool) = _ := hb2); (simp (disch := omega) only [go_sem, Nat.reduceBEq, ↓reduceIte, Nat.reduceAdd, Nat.reduceLeDiff, hb3]); clear hb hb3; (try omega))))
   all_goals exact z0a rfl (Le.tup ⟨z12, Le.refl _, trivial⟩)
 have e0 : z33 u id parent i = (if u.id = id \/ (z05 parent (z05 id u).1).2 = true then 9 else
   if z1o (z05 parent (z0i id u)).1.kind (z05 id u).1.kind = false then 9 else
   if i < 0 \/ ((z05 parent (z0i id u)).1.kids.length : Int) < i then 3 else
   if z3b (z05 parent (z0i id u)).1.kids (z05 id u).1.kind (z05 id u).1.label = true then 10 else
   if zgb (z0i id u) (z05 parent (z0i id u)).1 parent (z05 id u).1 = true then 6 else 0) := by
  unfold z33; rw [if_neg s1, if_neg s2]
 rw [Bool.not_eq_false] at s1
 simp only [not_or, Bool.not_eq_false] at s2
 obtain ⟨s2a, s2b⟩ := s2
 rw [s1] at c1
 rw [s2a] at c2
 rw [s2b] at c3
 by_cases s3 : u.id = id \/ (z05 parent (z05 id u).1).2 = true
 ·rw [show z33 u id parent i = 9 from by rw [e0, if_pos s3], if_neg (by decide)]
  by_cases h : u.id = id
  ·have hd : decide (u.id = id) = true := decide_eq_true h
   repeat' (first | refine zqj ?_ | ((first | refine zqh fun K J => ?_ | refine zqs (c1) ?_ | refine zqs (c2) ?_ | refine zqs (c3) ?_); (simp (disch := omega) only [go_sem, Nat.reduceBEq, ↓reduceIte, reduceCtorEq, Nat.reduceAdd, Nat.reduceLeDiff, hd])) | ((refine zqd _ rfl (fun hc => ?_) (fun hc => ?_)) <;> (first | (cases hc; done) | ((try simp only [] at hc); (try omega)))) | refine zqb ?_ | refine zqg ?_ | refine zqu (by (simp (disch := omega) only [go_sem, Nat.reduceBEq, ↓reduceIte, Nat.reduceAdd, Nat.reduceLeDiff]); rfl) rfl ?_ | (refine J _ ?_; clear J K))
   exact z0a rfl (Le.tup ⟨z12, Le.refl _, trivial⟩)
  ·have hd : decide (u.id = id) = false := decide_eq_false h
   rw [s3.resolve_left h] at c4
   repeat' (first | refine zqj ?_ | ((first | refine zqh fun K J => ?_ | refine zqs (c1) ?_ | refine zqs (c2) ?_ | refine zqs (c3) ?_ | refine zqs (c4) ?_); (simp (disch := omega) only [go_sem, Nat.reduceBEq, ↓reduceIte, reduceCtorEq, Nat.reduceAdd, Nat.reduceLeDiff, hd])) | ((refine zqd _ rfl (fun hc => ?_) (fun hc => ?_)) <;> (first | (cases hc; done) | ((try simp only [] at hc); (try omega)))) | refine zqb ?_ | refine zqg ?_ | refine zqu (by (simp (disch := omega) only [go_sem, Nat.reduceBEq, ↓reduceIte, Nat.reduceAdd, Nat.reduceLeDiff]); rfl) rfl ?_ | (refine J _ ?_; clear J K))
   exact z0a rfl (Le.tup ⟨z12, Le.refl _, trivial⟩)
 rw [if_neg s3] at e0
 rw [not_or, Bool.not_eq_true] at s3
 have hd : decide (u.id = id) = false := decide_eq_false s3.1
 rw [s3.2] at c4
 repeat' (first | refine zqj ?_ | ((first | refine z36 (N := 10) rfl fun K J => ?_ | refine zqs (c1) ?_ | refine zqs (c2) ?_ | refine zqs (c3) ?_ | refine zqs (c4) ?_ | refine zqs (c5) ?_ | refine zqs (c6) ?_); (simp (disch := omega) only [go_sem, Nat.reduceBEq, ↓reduceIte, reduceCtorEq, Nat.reduceAdd, Nat.reduceLeDiff, hd])) | ((refine zqd _ rfl (fun hc => ?_) (fun hc => ?_)) <;> (first | (cases hc; done) | ((try simp only [] at hc); (try omega)))) | refine zqb ?_ | (refine J _ ?_; clear J K))
 (refine zx5 (fun st => st.t 3 = .int .i64 i /\ st.t 6 = .ptr 2 0 /\ st.t 8 = .ptr 3 0 /\ st.t 10 = .ptr 4 0 /\ st.t 12 = .ptr 5 0 /\ st.t 13 = .ptr 6 0 /\ st.H 2 = some (.box 23 (z07 parent)) /\ st.H 3 = some (.box 27 [.int .i64 0, .int .i64 0, .int .i64 0, .int .i64 0, .str ByteArray.empty, .nil, .nil, .nil]) /\ st.H 4 = some (.box 27 (z0h (z05 id u).1)) /\ st.H 5 = some (.box 27 (z0h (z0i id u))) /\ st.H 6 = some (.box 27 (z0h (z05 parent (z0i id u)).1)) /\ st.nx = 7) ?_ ?_); rotate_left; (rintro st ⟨p3, p6, p8, p10, p12, p13, pH2, pH3, pH4, pH5, pH6, pnx⟩); rotate_left
 ·(simp (disch := omega) only [go_sem, Nat.reduceBEq, and_self, z07])
 by_cases s4 : z1o (z05 parent (z0i id u)).1.kind (z05 id u).1.kind = false
 ·rw [show z33 u id parent i = 9 from by rw [e0, if_pos s4], if_neg (by decide)]
  rw [s4] at c7
  repeat' (first | refine zqj ?_ | ((first | refine zqh fun K J => ?_ | refine zqs (c7) ?_); (simp (disch := omega) only [go_sem, Nat.reduceBEq, ↓reduceIte, reduceCtorEq, Nat.reduceAdd, Nat.reduceLeDiff, p8, p10, p13, pH3, pH4, pH6, pnx])) | ((refine zqd _ rfl (fun hc => ?_) (fun hc => ?_)) <;> (first | (cases hc; done) | ((try simp only [] at hc); (try omega)))) | refine zqg ?_ | refine zqu (by (simp (disch := omega) only [go_sem, Nat.reduceBEq, ↓reduceIte, Nat.reduceAdd, Nat.reduceLeDiff, p8, pH3]); rfl) rfl ?_ | (refine J _ ?_; clear J K))
  exact z0a rfl (Le.tup ⟨z12, Le.refl _, trivial⟩)
 rw [if_neg s4] at e0
 rw [Bool.not_eq_false] at s4
 rw [s4] at c7
 by_cases s5 : i < 0 \/ ((z05 parent (z0i id u)).1.kids.length : Int) < i
 ·rw [show z33 u id parent i = 3 from by rw [e0, if_pos s5], if_neg (by decide)]
  repeat' (first | refine zqj ?_ | ((first | refine zqh fun K J => ?_ | refine zqs (c7) ?_); (simp (disch := omega) only [go_sem, Nat.reduceBEq, ↓reduceIte, reduceCtorEq, Nat.reduceAdd, Nat.reduceLeDiff, p3, p8, p10, p13, pH3, pH4, pH6, pnx])) | ((refine zqd _ rfl (fun hc => ?_) (fun hc => ?_)) <;> (first | (cases hc; done) | ((try simp only [z0b] at hc); (try omega)))) | refine zqb ?_ | refine zqg ?_ | refine zqu (by (simp (disch := omega) only [go_sem, Nat.reduceBEq, ↓reduceIte, Nat.reduceAdd, Nat.reduceLeDiff, p8, pH3]); rfl) rfl ?_ | (refine J _ ?_; clear J K) | (refine zqf (fun hb => ?_) (fun hb => ?_) <;> (have hb2 := hb; try simp only [z0b] at hb2) <;> ((first | have hb3 := eq_false hb2 | have hb3 := eq_true hb2); (simp (disch := omega) only [go_sem, Nat.reduceBEq, ↓reduceIte, reduceCtorEq, Nat.reduceAdd, hb3, p3, p13, pH6, z13]); clear hb hb3; (try omega))))
  all_goals exact z0a rfl (Le.tup ⟨z12, Le.refl _, trivial⟩)
 rw [if_neg s5] at e0
 by_cases s6 : z3b (z05 parent (z0i id u)).1.kids (z05 id u).1.kind (z05 id u).1.label = true
 ·rw [show z33 u id parent i = 10 from by rw [e0, if_pos s6], if_neg (by decide)]
  rw [s6] at c8
  repeat' (first | refine zqj ?_ | ((first | refine zqh fun K J => ?_ | refine zqs (c7) ?_ | refine zqs (c8) ?_); (simp (disch := omega) only [go_sem, Nat.reduceBEq, ↓reduceIte, reduceCtorEq, Nat.reduceAdd, Nat.reduceLeDiff, p3, p8, p10, p13, pH3, pH4, pH6, pnx, z13])) | ((refine zqd _ rfl (fun hc => ?_) (fun hc => ?_)) <;> (first | (cases hc; done) | ((try simp only [z0b] at hc); (try omega)))) | refine zqb ?_ | refine zqg ?_ | refine zqu (by (simp (disch := omega) only [go_sem, Nat.reduceBEq, ↓reduceIte, Nat.reduceAdd, Nat.reduceLeDiff, p8, pH3]); rfl) rfl ?_ | (refine J _ ?_; clear J K) | (refine zqf (fun hb => ?_) (fun hb => ?_) <;> (have hb2 := hb; try simp only [z0b] at hb2) <;> ((first | have hb3 := eq_false hb2 | have hb3 := eq_true hb2); (simp (disch := omega) only [go_sem, Nat.reduceBEq, ↓reduceIte, reduceCtorEq, Nat.reduceAdd, hb3, p3, p13, pH6, z13]); clear hb hb3; (try omega))))
  exact z0a rfl (Le.tup ⟨z12, Le.refl _, trivial⟩)
 rw [if_neg s6] at e0
 rw [Bool.not_eq_true] at s6
 rw [s6] at c8
 unfold zgb at e0
 by_cases s7 : 64 <= (z05 parent (z0i id u)).1.kids.length \/ 8 < (z20 parent (z0i id u)).length + 1 + depT (z05 id u).1
 ·rw [show z33 u id parent i = 6 from by rw [e0, decide_eq_true s7, if_pos rfl], if_neg (by decide)]
  repeat' (first | refine zqj ?_ | ((first | refine zqh fun K J => ?_ | refine zqe (by decide +kernel) fun K J => ?_ | refine zqs (c7) ?_ | refine zqs (c8) ?_ | refine zqt (c9) ?_ | refine zqt (c10) ?_); (simp (disch := omega) only [go_sem, Nat.reduceBEq, Nat.reduceEqDiff, ↓reduceIte, reduceCtorEq, Nat.reduceAdd, Nat.reduceLeDiff, Nat.reduceLT, p3, p8, p10, p13, pH3, pH4, pH6, pnx, z13])) | ((refine zqd _ rfl (fun hc => ?_) (fun hc => ?_)) <;> (first | (cases hc; done) | ((try simp only [z0b] at hc); (try omega)))) | refine zqb ?_ | refine zqg ?_ | refine zqu (by (simp (disch := omega) only [go_sem, Nat.reduceBEq, ↓reduceIte, Nat.reduceAdd, Nat.reduceLeDiff, p8, pH3]); rfl) rfl ?_ | (refine J _ ?_; clear J K) | (refine zqf (fun hb => ?_) (fun hb => ?_) <;> (have hb2 := hb; try simp only [z0b] at hb2) <;> ((first | have hb3 := eq_false hb2 | have hb3 := eq_true hb2); (simp (disch := omega) only [go_sem, Nat.reduceBEq, Nat.reduceEqDiff, ↓reduceIte, reduceCtorEq, Nat.reduceAdd, Nat.reduceLeDiff, hb3, p3, p6, p12, p13, pH2, pH5, pH6, pnx, z07, z13]); clear hb hb3; (try omega))))
  all_goals exact z0a rfl (Le.tup ⟨z12, Le.refl _, trivial⟩)
 have em : z33 u id parent i = 0 := by rw [e0, decide_eq_false s7, if_neg (by simp)]
 obtain ⟨_, _, _, _, _, hwr⟩ := za3 em
 obtain ⟨hr2, hm, n, rfl, hn⟩ := z3p hwr
 have c11 := zq8 parent n (z05 id u).1 (z0i id u) hr hn
 rw [em, if_pos rfl, Int.toNat_natCast]
 repeat' (first | refine zqj ?_ | ((first | refine zqh fun K J => ?_ | refine zqe (by decide +kernel) fun K J => ?_ | refine zqs (c7) ?_ | refine zqs (c8) ?_ | refine zqt (c9) ?_ | refine zqt (c10) ?_ | refine zqs (c11) ?_); (simp (disch := omega) only [go_sem, Nat.reduceBEq, Nat.reduceEqDiff, ↓reduceIte, reduceCtorEq, Nat.reduceAdd, Nat.reduceLeDiff, Nat.reduceLT, p3, p6, p8, p10, p12, p13, pH2, pH3, pH4, pH5, pH6, pnx, z07, z13])) | ((refine zqd _ rfl (fun hc => ?_) (fun hc => ?_)) <;> (first | (cases hc; done) | ((try simp only [z0b] at hc); (try omega)))) | refine zqb ?_ | refine zqn ?_ | refine zqu (by (simp (disch := omega) only [go_sem, Nat.reduceBEq, ↓reduceIte, Nat.reduceLeDiff, p8, pH3]); rfl) rfl ?_ | (refine J _ ?_; clear J K) | (refine zqf (fun hb => ?_) (fun hb => ?_) <;> (have hb2 := hb; try simp only [z0b] at hb2) <;> ((first | have hb3 := eq_false hb2 | have hb3 := eq_true hb2); (simp (disch := omega) only [go_sem, Nat.reduceBEq, Nat.reduceEqDiff, ↓reduceIte, reduceCtorEq, Nat.reduceAdd, Nat.reduceLeDiff, hb3, p3, p6, p12, p13, pH2, pH5, pH6, pnx, z07, z13]); clear hb hb3; (try omega))))
 refine z0a ?_ (Le.refl _)
 simp only [pureD, pureD.pureL, z04, Bool.and_self]
namespace Tr
theorem take_zero {u x : T} {id : Idv} (h1 : standsT u = true) (h2 : z05 id u = (x, true)) (h3 : ¬ u.id = id) : z4l u id = 0 := by
 unfold z4l; rw [if_neg (by rw [h1]; simp), if_neg (by rw [h2]; simp), if_neg h3]
theorem sz_moveE {u : T} (hu : szB u = true) (id parent : Idv) (i : Int) : szB (if z33 u id parent i = 0 then z0p parent (z40 i.toNat (z05 id u).1) (z0i id u) else T.zero) = true := by
 by_cases h : z33 u id parent i = 0
 ·rw [if_pos h]
  obtain ⟨_, _, _, _, _, hw⟩ := za3 h
  obtain ⟨_, _, n, rfl, _⟩ := z3p hw
  exact zfo (zfi u hu) (z6k id u hu) hw
 ·rw [if_neg h]; exact zo8
theorem zsh {u : T} {id parent : Idv} {m : Nat} (h : z33 u id parent m = 0) : ∃ (under : Idv) (n : Nat), z4w id u = (under, (n : Int), true) /\
  z4w id (z0p parent (z40 m (z05 id u).1) (z0i id u)) = (parent, (m : Int), true) /\ z33 (z0p parent (z40 m (z05 id u).1) (z0i id u)) id under n = 0 /\
  z0p under (z40 n (z05 id (z0p parent (z40 m (z05 id u).1) (z0i id u))).1) (z0i id (z0p parent (z40 m (z05 id u).1) (z0i id u))) = u /\
  standsT (z0p parent (z40 m (z05 id u).1) (z0i id u)) = true /\ cntT (z0p parent (z40 m (z05 id u).1) (z0i id u)) = cntT u := by
 obtain ⟨h1, h2, h3, h4, h5, hw⟩ := za3 h
 obtain ⟨under, n, x, d1, d2, d3, d4, d5, d6, d7, d8, d9, d10, d11, d12⟩ := za2 h1 h4 h2
 rw [d2] at hw h5 ⊢
 simp only at hw h5 ⊢
 obtain ⟨C, q, l, r, _, _, _, _, f1, f2, f3, f4, f5, _, f7, f8⟩ := z7g hw
 rw [d3] at f2 f3 f4 f5
 refine ⟨under, n, d1, f4, ?_, by rw [f3, f2]; exact d8, f1, by omega⟩
 refine zx4 f1 f3 ?_ f5 (fun hm => d9 under hm d10) (by rw [f2]; exact d7)
 -- the old parent is still there
 have hu : under ∈ idsT (z0i id u) := d10
 obtain ⟨C', q', l', r', e1, _, _, e2, _⟩ := z7g hw
 rw [e2, z2m, z2l, List.flatMap_append, List.flatMap_cons]
 rw [e1, z2m, z2l, List.flatMap_append] at hu
 simp only [List.mem_append, List.mem_cons] at hu ⊢
 rcases hu with h | (h | h | h) | h
 ·exact .inl h
 ·exact .inr (.inl (.inl h))
 ·exact .inr (.inl (.inr (.inl h)))
 ·exact .inr (.inl (.inr (.inr (.inr h))))
 ·exact .inr (.inr h)
end Tr
end
section
open Abs Facts Tr
namespace Tr
inductive V where
 | mk (num : Nat) (row : Option Nat) (own : T) (kids : List V)
namespace V
def num : V -> Nat | .mk n _ _ _ => n
def row : V -> Option Nat | .mk _ r _ _ => r
def own : V -> T | .mk _ _ o _ => o
def kids : V -> List V | .mk _ _ _ ks => ks
end V
theorem V.eta (v : V) : V.mk v.num v.row v.own v.kids = v := by cases v; rfl
mutual
theorem zdg {p : V -> Prop} (h : ∀ v, (∀ k ∈ v.kids, p k) -> p v) : ∀ v, p v
 | .mk a b c ks => h (.mk a b c ks) (ind2V h ks)
theorem ind2V {p : V -> Prop} (h : ∀ v, (∀ k ∈ v.kids, p k) -> p v) : ∀ (ks : List V), ∀ k ∈ ks, p k
 | [], k, hk => by cases hk
 | t :: ts, k, hk => by
  rcases List.mem_cons.1 hk with e | hk
  ·rw [e]; exact zdg h t
  ·exact ind2V h ts k hk
end
mutual
def zyw {β : Type} (f : V -> List β -> β) : V -> β
 | .mk a b c ks => f (.mk a b c ks) (zzr f ks)
def zzr {β : Type} (f : V -> List β -> β) : List V -> List β
 | [] => []
 | t :: ts => zyw f t :: zzr f ts
end
theorem zpg {β : Type} (f : V -> List β -> β) : ∀ ks, zzr f ks = ks.map (zyw f)
 | [] => rfl
 | t :: ts => by simp [zzr, zpg f ts]
theorem zfl {β : Type} (f : V -> List β -> β) (v : V) : zyw f v = f v (v.kids.map (zyw f)) := by
 cases v
 rw [zyw, zpg]; rfl
def treeV (v : V) : T := zyw (fun v l => v.own.setKids l) v
theorem z2x (v : V) : treeV v = v.own.setKids (v.kids.map treeV) := by unfold treeV; rw [zfl]
def nodesV (v : V) : List V := zyw (fun v l => v :: l.flatten) v
theorem z3s (v : V) : nodesV v = v :: v.kids.flatMap nodesV := by
 unfold nodesV
 rw [zfl, List.flatMap]
theorem z41 (v : V) : v ∈ nodesV v := by rw [z3s]; exact List.mem_cons_self
theorem z2r {v k x : V} (hk : k ∈ v.kids) (hx : x ∈ nodesV k) : x ∈ nodesV v := by
 rw [z3s]; exact List.mem_cons_of_mem _ (List.mem_flatMap.2 ⟨k, hk, hx⟩)
theorem z2s (v : V) : (treeV v).id = v.own.id := by rw [z2x]; rfl
theorem z5q : ∀ v : V, z0j (treeV v) = (nodesV v).map treeV := by
 refine zdg fun v ih => ?_
 rw [z1n, z3s, List.map_cons, z2x]
 show _ :: (v.kids.map treeV).flatMap z0j = _
 congr 1
 generalize v.kids = l at ih
 induction l with
 | nil => rfl
 | cons k l ih2 =>
  simp only [List.map_cons, List.flatMap_cons, List.map_append]
  rw [ih k (by simp), ih2 fun k hk => ih k (List.mem_cons_of_mem _ hk)]
theorem z49 (v : V) : idsT (treeV v) = (nodesV v).map fun w => w.own.id := by
 unfold idsT
 rw [z5q, List.map_map]
 exact List.map_congr_left fun w _ => z2s w
theorem zf3 (v : V) : cntT (treeV v) = (nodesV v).length := by unfold cntT; rw [z5q, List.length_map]
end Tr
namespace Abs
def kdD (v : V) : D := match v.row with
 | none => .nil
 | some r => .osl r v.kids.length
def z3y (v : V) : List D := [.int .i64 v.own.id.act, .int .i64 v.own.id.item, .int .i64 v.own.id.n, .int .i64 v.own.kind, .str v.own.label, z0r v.own.head, z0r v.own.words, .nil, kdD v]
def zj9 (H : HM) (v : V) : Prop := match v.row with
 | none => v.kids = []
 | some r => H r = some (.row 75 v.kids.length (v.kids.map fun k => .ptr k.num 0))
def Stand (H : HM) (v : V) : Prop := zyw (fun v (l : List Prop) => H v.num = some (.box 117 (z3y v)) /\ zj9 H v /\ ∀ p ∈ l, p) v
theorem z29 (H : HM) (v : V) : Stand H v ↔ H v.num = some (.box 117 (z3y v)) /\ zj9 H v /\ ∀ k ∈ v.kids, Stand H k := by
 unfold Stand
 rw [zfl]
 refine ⟨fun ⟨h1, h2, h3⟩ => ⟨h1, h2, fun k hk => h3 _ (List.mem_map.2 ⟨k, hk, rfl⟩)⟩, fun ⟨h1, h2, h3⟩ => ⟨h1, h2, fun p hp => ?_⟩⟩
 obtain ⟨k, hk, rfl⟩ := List.mem_map.1 hp
 exact h3 k hk
def objsV (v : V) : List Nat := zyw (fun v l => v.num :: (v.row.toList ++ l.flatten)) v
theorem z7v (v : V) : objsV v = v.num :: (v.row.toList ++ v.kids.flatMap objsV) := by
 unfold objsV
 rw [zfl, List.flatMap]
theorem z4a (v : V) : v.num ∈ objsV v := by rw [z7v]; exact List.mem_cons_self
theorem zph {v : V} {r : Nat} (h : v.row = some r) : r ∈ objsV v := by
 rw [z7v, h]
 exact List.mem_cons_of_mem _ (List.mem_append_left _ (by simp))
theorem zja {v k : V} (hk : k ∈ v.kids) {i : Nat} (hi : i ∈ objsV k) : i ∈ objsV v := by
 rw [z7v]
 exact List.mem_cons_of_mem _ (List.mem_append_right _ (List.mem_flatMap.2 ⟨k, hk, hi⟩))
theorem zky : ∀ v : V, ∀ w ∈ nodesV v, ∀ i ∈ objsV w, i ∈ objsV v := by
 refine zdg fun v ih w hw i hi => ?_
 rw [z3s, List.mem_cons] at hw
 rcases hw with rfl | hw
 ·exact hi
 ·obtain ⟨k, hk, hw⟩ := List.mem_flatMap.1 hw
  exact zja hk (ih k hk w hw i hi)
def Under (n : Nat) (v : V) : Prop := ∀ i ∈ objsV v, i < n
def Agree (n : Nat) (H H' : HM) : Prop := ∀ id, id < n -> H' id = H id
theorem Agree.refl (n : Nat) (H : HM) : Agree n H H := fun _ _ => rfl
theorem Agree.trans {n m : Nat} {H H' H'' : HM} (h : Agree n H H') (hm : n <= m) (h' : Agree m H' H'') : Agree n H H'' := fun id hid => (h' id (by omega)).trans (h id hid)
theorem Agree.upd {n i : Nat} {H : HM} {o : Option HObj} (hi : n <= i) : Agree n H (z0k H i o) := fun id hid => by
 unfold z0k; rw [if_neg (by omega)]
theorem Stand.on {H H' : HM} : ∀ v : V, (∀ i ∈ objsV v, H' i = H i) -> Stand H v -> Stand H' v := by
 refine zdg fun v ih ha hs => ?_
 obtain ⟨s1, s2, s3⟩ := (z29 H v).1 hs
 refine (z29 H' v).2 ⟨by rw [ha _ (z4a v)]; exact s1, ?_, fun k hk => ih k hk (fun i hi => ha i (zja hk hi)) (s3 k hk)⟩
 unfold zj9 at s2 ⊢
 cases hr : v.row with
 | none => rw [hr] at s2; exact s2
 | some r =>
  rw [hr] at s2
  simp only at s2 ⊢
  rw [ha _ (zph hr)]; exact s2
theorem Stand.agree {n : Nat} {H H' : HM} (ha : Agree n H H') (v : V) (hu : Under n v) (hs : Stand H v) : Stand H' v := Stand.on v (fun i hi => ha i (hu i hi)) hs
theorem Under.le {n m : Nat} (h : n <= m) {v : V} (hu : Under n v) : Under m v := fun i hi => Nat.lt_of_lt_of_le (hu i hi) h
theorem z42 {n : Nat} {v k : V} (hu : Under n v) (hk : k ∈ v.kids) : Under n k := fun i hi => hu i (zja hk hi)
theorem z5r {H : HM} : ∀ v : V, Stand H v -> ∀ w ∈ nodesV v, Stand H w := by
 refine zdg fun v ih hs w hw => ?_
 rw [z3s, List.mem_cons] at hw
 rcases hw with rfl | hw
 ·exact hs
 ·obtain ⟨k, hk, hw⟩ := List.mem_flatMap.1 hw
  exact ih k hk (((z29 H v).1 hs).2.2 k hk) w hw
theorem z3e {n : Nat} {v : V} (hu : Under n v) {w : V} (hw : w ∈ nodesV v) : Under n w := fun i hi => hu i (zky v w hw i hi)
theorem RC_low {P : Program} {f : FuncId} {ds : List D} {H : HM} {nx : Nat} {r : D} (hr : lowD nx r = true)
  (h : AC P f ds H nx fun r' H' _ => r' = r /\ ∀ id, id < nx -> H' id = H id) : RC P f ds H nx r := by
 have h1 := zoc h (fun r' H' nx' ⟨hr', hk⟩ => by
  subst hr'
  exact ⟨hr, fun id o hid ho => .inl (by rw [<- hk id hid]; exact ho)⟩)
 refine ⟨h1.1, fun s w vs e1 e2 e3 e4 => (h1.2 s w vs e1 e2 e3 e4).mono fun e w' ⟨v, r1, s1, he, ⟨hnx, H', nx', ⟨hr', hk⟩, hcut⟩, hstep, hRH, hrel⟩ => ⟨v, r1, s1, he, ⟨hr', ?_, hnx⟩, hstep, hRH, hrel⟩⟩
 subst e1; subst e2
 rw [hcut]; exact zjm e3 hk
theorem z4o {P : Program} {own : List Nat} {n : FuncId} {args cap : List D} {g : List Oper -> (St -> Prop) -> St -> Prop} {rest : List Oper} {K : St -> Prop} {st : St} {dst : Option Nat} {r : D} {H : HM} {nx : Nat}
  (h : AC P n (args ++ cap) st.H st.nx fun r' H' nx' => r' = r /\ H' = H /\ nx' = nx) (h0 : z0o 5000000 own dst = false) (hm : z0o 4000000 own dst = true) (hN : z0o 10000000 own dst = true) (hs : zc0 st H nx) (hk : g rest K ((st.withH H nx).put dst r)) (ht : tcM own dst = none := by rfl) : zli P own (.fn n cap) args g rest K st dst :=
 .inr (.inr ⟨h0, hm, r, H, nx, h, .inl ⟨ht, .inr ⟨hN, hs⟩⟩, hk⟩)
theorem zjb {H : HM} {i : Nat} (hi : ∃ e cs, H i = some (.box e cs)) {f : Nat -> D} : ∀ l : List Nat, (∀ j ∈ l, ∃ e cs, H j = some (.box e cs)) -> i ∉ l -> zad H (.ptr i 0) (l.map fun j => (.ptr j 0, f j)) = some none
 | [], _, _ => rfl
 | j :: l, hb, hn => by
  obtain ⟨e, cs, h1⟩ := hi
  obtain ⟨e2, cs2, h2⟩ := hb j (by simp)
  have hne : ¬ i = j := fun e => hn (by simp [e])
  have ih := zjb (f := f) ⟨e, cs, h1⟩ l (fun j hj => hb j (List.mem_cons_of_mem _ hj)) fun h => hn (List.mem_cons_of_mem _ h)
  simp only [List.map_cons, zad, zhp, h1, h2, decide_eq_false hne, ih, Option.map_some, Option.map_none]
theorem zfm {H : HM} {i : Nat} (hi : ∃ e cs, H i = some (.box e cs)) {x : D} : ∀ l : List Nat, (∀ j ∈ l, ∃ e cs, H j = some (.box e cs)) -> i ∈ l -> ∃ p, p < l.length /\ zad H (.ptr i 0) (l.map fun j => (.ptr j 0, x)) = some (some (p, x))
 | [], _, hn => by cases hn
 | j :: l, hb, hn => by
  obtain ⟨e, cs, h1⟩ := hi
  obtain ⟨e2, cs2, h2⟩ := hb j (by simp)
  by_cases hne : i = j
  ·refine ⟨0, by simp, ?_⟩
   simp only [List.map_cons, zad, zhp, h1, h2, decide_eq_true hne]
  ·obtain ⟨p, hp, ih⟩ := zfm (x := x) ⟨e, cs, h1⟩ l (fun j hj => hb j (List.mem_cons_of_mem _ hj)) (by
    rcases List.mem_cons.1 hn with h | h
    ·exact (hne h).elim
    ·exact h)
   refine ⟨p + 1, by simpa using hp, ?_⟩
   simp only [List.map_cons, zad, zhp, h1, h2, decide_eq_false hne, ih, Option.map_some]
end Abs
namespace Tr
structure Nd where
 id : Idv
 by_ : Int
structure Vn where
 u : T
 l : List Nd
def ofV (u : T) (b : Int) : Vn := ⟨u, (idsT u).map fun i => ⟨i, b⟩⟩
def byN (l : List Nd) (id : Idv) : Int := match l.find? (fun x => decide (x.id = id)) with
 | some x => x.by_
 | none => -1
def z80 (old : Vn) (u : T) (made : List Idv) (n : Int) : Vn := ⟨u, (idsT u).map fun i => ⟨i, if byN old.l i < 0 \/ i ∈ made then n else byN old.l i⟩⟩
def zh2 (v old : Vn) : Nat := v.l.countP fun x => decide (¬ byN old.l x.id = x.by_)
def zz3 (v old : V) : Nat := (nodesV v).countP fun w => !decide (w.num ∈ (nodesV old).map V.num)
structure Fits (b : Nat -> Int) (v : V) (x : Vn) : Prop where
 u : treeV v = x.u
 l : x.l = (nodesV v).map fun w => ⟨w.own.id, b w.num⟩
 nd : ((nodesV v).map fun w => w.own.id).Nodup
 pos : ∀ w ∈ nodesV v, 0 <= b w.num
theorem zos {l : List V} {b : Nat -> Int} {w : V} (hn : (l.map fun w => w.own.id).Nodup) (hw : w ∈ l) : byN (l.map fun w => ⟨w.own.id, b w.num⟩) w.own.id = b w.num := by
 unfold byN
 induction l with
 | nil => cases hw
 | cons a l ih =>
  rw [List.map_cons, List.nodup_cons] at hn
  rw [List.map_cons, List.find?_cons]
  by_cases e : a.own.id = w.own.id
  ·rcases List.mem_cons.1 hw with rfl | hw
   ·simp
   ·exact (hn.1 (List.mem_map.2 ⟨w, hw, e.symm⟩)).elim
  ·rcases List.mem_cons.1 hw with rfl | hw
   ·exact (e rfl).elim
   ·simp only [decide_eq_false e]
    exact ih hn.2 hw
theorem zre {l : List V} {b : Nat -> Int} {id : Idv} (h : ∀ w ∈ l, ¬ w.own.id = id) : byN (l.map fun w => ⟨w.own.id, b w.num⟩) id = -1 := by
 unfold byN
 have : (l.map fun w : V => (⟨w.own.id, b w.num⟩ : Nd)).find? (fun x => decide (x.id = id)) = none := by
  rw [List.find?_eq_none]
  intro x hx
  obtain ⟨w, hw, rfl⟩ := List.mem_map.1 hx
  simpa using h w hw
 rw [this]
structure Apart (b : Nat -> Int) (S : List V) : Prop where
 key : ∀ v ∈ S, ∀ w ∈ S, ∀ x ∈ nodesV v, ∀ y ∈ nodesV w, x.own.id = y.own.id -> b x.num = b y.num -> x.num = y.num
 same : ∀ v ∈ S, ∀ w ∈ S, ∀ x ∈ nodesV v, ∀ y ∈ nodesV w, x.num = y.num -> x.own.id = y.own.id
theorem zyf {b : Nat -> Int} {S : List V} {v w : V} {x y : Vn} (hS : Apart b S) (hv : v ∈ S) (hw : w ∈ S) (fv : Fits b v x) (fw : Fits b w y) : zz3 v w = zh2 x y := by
 unfold zz3 zh2
 rw [fv.l, List.countP_map]
 refine List.countP_congr fun a ha => ?_
 simp only [Function.comp_apply, Bool.not_eq_true', decide_eq_false_iff_not, decide_eq_true_eq]
 refine not_congr ⟨fun hm => ?_, fun he => ?_⟩
 ·obtain ⟨c, hc, e⟩ := List.mem_map.1 hm
  have hid := hS.same v hv w hw a ha c hc e.symm
  rw [fw.l, hid, zos fw.nd hc, e]
 ·have hp := fv.pos a ha
  by_cases hex : ∃ c ∈ nodesV w, c.own.id = a.own.id
  ·obtain ⟨c, hc, e⟩ := hex
   rw [fw.l, <- e, zos fw.nd hc] at he
   exact List.mem_map.2 ⟨c, hc, (hS.key v hv w hw a ha c hc e.symm he.symm).symm⟩
  ·rw [fw.l, zre fun c hc e => hex ⟨c, hc, e⟩] at he
   omega
def Upd (lo : Nat) (made : List Idv) (v v' : V) : Prop :=
 ∀ a ∈ nodesV v', (a.num < lo /\ a ∈ nodesV v /\ a.own.id ∉ made) \/ (lo <= a.num /\ (a.own.id ∈ made \/ a.own.id ∉ idsT (treeV v)))
def byU (b : Nat -> Int) (lo : Nat) (n : Int) : Nat -> Int := fun m => if m < lo then b m else n
theorem fits_upd {b : Nat -> Int} {lo : Nat} {n : Int} {made : List Idv} {v v' : V} {x : Vn} (hn : 0 <= n) (h : Upd lo made v v') (f : Fits b v x) (hd : ((nodesV v').map fun w => w.own.id).Nodup) : Fits (byU b lo n) v' (z80 x (treeV v') made n) := by
 refine ⟨rfl, ?_, hd, fun w hw => ?_⟩
 ·unfold z80
  simp only
  rw [z49, List.map_map]
  refine List.map_congr_left fun a ha => ?_
  have hgo : (if byN x.l a.own.id < 0 \/ a.own.id ∈ made then n else byN x.l a.own.id) = byU b lo n a.num := by
   unfold byU
   rcases h a ha with ⟨h1, h2, h3⟩ | ⟨h1, h2⟩
   ·have e1 : byN x.l a.own.id = b a.num := by rw [f.l]; exact zos f.nd h2
    have := f.pos a h2
    rw [if_pos h1, if_neg, e1]
    rintro (g | g)
    ·omega
    ·exact h3 g
   ·have hlt : ¬ a.num < lo := by omega
    rw [if_neg hlt, if_pos]
    rcases h2 with h2 | h2
    ·exact .inr h2
    ·left
     rw [f.l, zre fun c hc e => h2 (by rw [z49]; exact List.mem_map.2 ⟨c, hc, e⟩)]
     decide
  show (⟨a.own.id, if byN x.l a.own.id < 0 \/ a.own.id ∈ made then n else byN x.l a.own.id⟩ : Nd) = ⟨a.own.id, byU b lo n a.num⟩
  rw [hgo]
 ·unfold byU
  split
  ·rename_i hlt
   rcases h w hw with ⟨_, h2, _⟩ | ⟨h1, _⟩
   ·exact f.pos w h2
   ·omega
  ·exact hn
theorem zyg {b : Nat -> Int} {lo : Nat} {n : Int} {v : V} {x : Vn} (hlo : ∀ w ∈ nodesV v, w.num < lo) (f : Fits b v x) : Fits (byU b lo n) v x := by
 have he : ∀ w ∈ nodesV v, byU b lo n w.num = b w.num := fun w hw => by unfold byU; rw [if_pos (hlo w hw)]
 refine ⟨f.u, ?_, f.nd, fun w hw => by rw [he w hw]; exact f.pos w hw⟩
 rw [f.l]
 exact List.map_congr_left fun w hw => by rw [he w hw]
theorem z7p {α β : Type} {f : α -> β} : ∀ {l : List α}, (l.map f).Nodup -> ∀ a ∈ l, ∀ c ∈ l, f a = f c -> a = c
 | [], _, a, ha, _, _, _ => by cases ha
 | x :: l, h, a, ha, c, hc, e => by
  rw [List.map_cons, List.nodup_cons] at h
  rcases List.mem_cons.1 ha with e1 | ha <;> rcases List.mem_cons.1 hc with e2 | hc
  ·rw [e1, e2]
  ·exact (h.1 (List.mem_map.2 ⟨c, hc, by rw [<- e, e1]⟩)).elim
  ·exact (h.1 (List.mem_map.2 ⟨a, ha, by rw [e, e2]⟩)).elim
  ·exact z7p h.2 a ha c hc e
theorem zyh {b : Nat -> Int} {lo : Nat} {n : Int} {made : List Idv} {S : List V} {v v' : V} (hS : Apart b S) (hv : v ∈ S) (hlo : ∀ w ∈ S, ∀ a ∈ nodesV w, a.num < lo /\ b a.num < n) (h : Upd lo made v v')
  (hd : ((nodesV v').map fun w => w.own.id).Nodup) (hnum : ∀ x ∈ nodesV v', ∀ y ∈ nodesV v', x.num = y.num -> x.own.id = y.own.id) : Apart (byU b lo n) (v' :: S) := by
 have hold : ∀ w ∈ S, ∀ a ∈ nodesV w, byU b lo n a.num = b a.num := fun w hw a ha => by unfold byU; rw [if_pos (hlo w hw a ha).1]
 -- a node of the new tree: an old one, or one that was made
 have hnew : ∀ a ∈ nodesV v', (a.num < lo /\ a ∈ nodesV v) \/ (lo <= a.num /\ byU b lo n a.num = n) := fun a ha => by
  rcases h a ha with ⟨h1, h2, _⟩ | ⟨h1, _⟩
  ·exact .inl ⟨h1, h2⟩
  ·exact .inr ⟨h1, by unfold byU; rw [if_neg (by omega)]⟩
 have cross : ∀ w ∈ S, ∀ x ∈ nodesV v', ∀ y ∈ nodesV w, (x.own.id = y.own.id -> byU b lo n x.num = byU b lo n y.num -> x.num = y.num) /\ (x.num = y.num -> x.own.id = y.own.id) := fun w hw x hx y hy => by
  have hy2 := hlo w hw y hy
  rcases hnew x hx with ⟨h1, h2⟩ | ⟨h1, h2⟩
  ·rw [hold v hv x h2, hold w hw y hy]
   exact ⟨hS.key v hv w hw x h2 y hy, hS.same v hv w hw x h2 y hy⟩
  ·refine ⟨fun _ e => ?_, fun e => by omega⟩
   rw [h2, hold w hw y hy] at e
   omega
 refine ⟨fun p hp q hq x hx y hy hid hb => ?_, fun p hp q hq x hx y hy he => ?_⟩
 ·rcases List.mem_cons.1 hp with e1 | hp <;> rcases List.mem_cons.1 hq with e2 | hq
  ·rw [e1] at hx; rw [e2] at hy
   rw [z7p hd x hx y hy hid]
  ·rw [e1] at hx
   exact (cross q hq x hx y hy).1 hid hb
  ·rw [e2] at hy
   exact ((cross p hp y hy x hx).1 hid.symm hb.symm).symm
  ·rw [hold p hp x hx, hold q hq y hy] at hb
   exact hS.key p hp q hq x hx y hy hid hb
 ·rcases List.mem_cons.1 hp with e1 | hp <;> rcases List.mem_cons.1 hq with e2 | hq
  ·rw [e1] at hx; rw [e2] at hy
   exact hnum x hx y hy he
  ·rw [e1] at hx
   exact (cross q hq x hx y hy).2 he
  ·rw [e2] at hy
   exact ((cross p hp y hy x hx).2 he.symm).symm
  ·exact hS.same p hp q hq x hx y hy he
theorem ziv {H : HM} {v w : V} (hv : Stand H v) (hw : Stand H w) {x y : V} (hx : x ∈ nodesV v) (hy : y ∈ nodesV w) (e : x.num = y.num) : x.own.id = y.own.id := by
 have h1 := ((z29 H x).1 (z5r v hv x hx)).1
 have h2 := ((z29 H y).1 (z5r w hw y hy)).1
 rw [e, h2] at h1
 simp only [Option.some.injEq, HObj.box.injEq, z3y, List.cons.injEq, D.int.injEq, true_and] at h1
 obtain ⟨h3, h4, h5, _⟩ := h1
 cases hx : x.own.id
 cases hy : y.own.id
 simp_all
end Tr
namespace Abs
def unitB (t : T) : HObj := .box 27 (z0h t)
def nodeB (t : T) (kd : D) : HObj := .box 117 [.int .i64 t.id.act, .int .i64 t.id.item, .int .i64 t.id.n, .int .i64 t.kind, .str t.label, z0r t.head, z0r t.words, .nil, kd]
def rowV (vs : List V) : HObj := .row 75 vs.length (vs.map fun v => .ptr v.num 0)
abbrev Gr := HM -> Nat -> V × HM × Nat
structure GS where
 r : Option Nat
 vs : List V
 H : HM
 n : Nat
def kdG (g : GS) : D := match g.r with
 | none => .nil
 | some r => .osl r g.vs.length
def stG (t : T) (b : Nat) (g : GS) (kf : T × Gr) : GS :=
 let o := kf.2 (z0k g.H g.n (some (unitB kf.1))) (g.n + 1)
 match g.r with
 | none => ⟨some o.2.2, g.vs ++ [o.1], z0k (z0k o.2.1 o.2.2 (some (rowV (g.vs ++ [o.1])))) b (some (nodeB t (.osl o.2.2 (g.vs.length + 1)))), o.2.2 + 1⟩
 | some r => ⟨some r, g.vs ++ [o.1], z0k (z0k o.2.1 r (some (rowV (g.vs ++ [o.1])))) b (some (nodeB t (.osl r (g.vs.length + 1)))), o.2.2⟩
def gs0 (t : T) (H : HM) (nx : Nat) : GS := ⟨none, [], z0k (z0k H nx (some (unitB t))) (nx + 1) (some (nodeB t .nil)), nx + 2⟩
def growF (t : T) (l : List Gr) : Gr := fun H nx =>
 let g := (t.kids.zip l).foldl (stG t (nx + 1)) (gs0 t H nx)
 (.mk (nx + 1) g.r (t.setKids []) g.vs, g.H, g.n)
def z67 (t : T) : Gr := zhl growF t
def znm (t : T) (H : HM) (nx i : Nat) : GS := ((t.kids.take i).map fun k => (k, z67 k)).foldl (stG t (nx + 1)) (gs0 t H nx)
theorem zuw (l : List T) : l.zip (l.map z67) = l.map fun k => (k, z67 k) := by
 induction l with
 | nil => rfl
 | cons k l ih => simp only [List.map_cons, List.zip_cons_cons, ih]
theorem zat (t : T) (H : HM) (nx : Nat) : z67 t H nx = (.mk (nx + 1) (znm t H nx t.kids.length).r (t.setKids []) (znm t H nx t.kids.length).vs, (znm t H nx t.kids.length).H, (znm t H nx t.kids.length).n) := by
 have h : z67 t = growF t (t.kids.map z67) := by unfold z67; rw [z4i]
 rw [h]
 unfold growF znm
 rw [zuw, List.take_length]
theorem zkw (t : T) (H : HM) (nx : Nat) : znm t H nx 0 = gs0 t H nx := rfl
theorem zkx (t : T) (H : HM) (nx : Nat) {i : Nat} (hi : i < t.kids.length) : znm t H nx (i + 1) = stG t (nx + 1) (znm t H nx i) (t.kids[i], z67 t.kids[i]) := by
 unfold znm
 rw [List.take_succ_eq_append_getElem hi, List.map_append, List.foldl_append]; rfl
structure Grown (t : T) (H : HM) (nx : Nat) (o : V × HM × Nat) : Prop where
 tree : treeV o.1 = t
 le : nx + 2 <= o.2.2
 agree : Agree nx H o.2.1
 stand : Stand o.2.1 o.1
 under : Under o.2.2 o.1
 over : ∀ i ∈ objsV o.1, nx <= i
 nd : (objsV o.1).Nodup
structure GInv (t : T) (H : HM) (nx i : Nat) (g : GS) : Prop where
 vs : g.vs.map treeV = t.kids.take i
 le : nx + 2 <= g.n
 agree : Agree nx H g.H
 unit : g.H nx = some (unitB t)
 node : g.H (nx + 1) = some (nodeB t (kdG g))
 none_ : g.r = none -> g.vs = []
 row : ∀ r, g.r = some r -> nx + 2 <= r /\ r < g.n /\ g.H r = some (rowV g.vs) /\ r ∉ g.vs.flatMap objsV
 stand : ∀ v ∈ g.vs, Stand g.H v
 under : ∀ i ∈ g.vs.flatMap objsV, nx + 2 <= i /\ i < g.n
 nd : (g.vs.flatMap objsV).Nodup
theorem z28 (H : HM) (i : Nat) (o : Option HObj) : z0k H i o i = o := if_pos rfl
theorem z01 {H : HM} {i j : Nat} (o : Option HObj) (h : ¬ j = i) : z0k H i o j = H j := if_neg h
theorem zux {t : T} {H : HM} {nx i : Nat} {g : GS} (hg : GInv t H nx i g) (hi : i < t.kids.length) (ho : ∀ H n, Grown t.kids[i] H n (z67 t.kids[i] H n)) : GInv t H nx (i + 1) (stG t (nx + 1) g (t.kids[i], z67 t.kids[i])) := by
 have h0 := ho (z0k g.H g.n (some (unitB t.kids[i]))) (g.n + 1)
 unfold stG
 simp only
 generalize z67 t.kids[i] (z0k g.H g.n (some (unitB t.kids[i]))) (g.n + 1) = o at h0 ⊢
 obtain ⟨v, H2, n2⟩ := o
 obtain ⟨a1, a2, a3, a4, a5, a6, a7⟩ := h0
 simp only at a1 a2 a3 a4 a5 a6 a7
 have hle := hg.le
 -- what lay below g.n is as it was
 have keep : ∀ j, j < g.n -> H2 j = g.H j := fun j hj => (a3 j (by omega)).trans (z01 _ (by omega))
 have hvs : (g.vs ++ [v]).map treeV = t.kids.take (i + 1) := by
  rw [List.map_append, hg.vs, List.take_succ_eq_append_getElem hi]
  simp [a1]
 have hfl : (g.vs ++ [v]).flatMap objsV = g.vs.flatMap objsV ++ objsV v := by simp
 have hund : ∀ m, n2 <= m -> ∀ j ∈ (g.vs ++ [v]).flatMap objsV, nx + 2 <= j /\ j < m := fun m hm j hj => by
  rw [hfl, List.mem_append] at hj
  rcases hj with hj | hj
  ·have := hg.under j hj; omega
  ·have := a6 j hj; have := a5 j hj; omega
 have hnd : ((g.vs ++ [v]).flatMap objsV).Nodup := by
  rw [hfl, List.nodup_append]
  refine ⟨hg.nd, a7, fun x hx y hy e => ?_⟩
  have := hg.under x hx; have := a6 y hy; omega
 cases hr : g.r with
 | none =>
  have hv0 := hg.none_ hr
  simp only
  have hst : ∀ (o1 o2 : Option HObj), ∀ w ∈ g.vs ++ [v], Stand (z0k (z0k H2 n2 o1) (nx + 1) o2) w := fun o1 o2 w hw => by
   have hwo : ∀ j ∈ objsV w, nx + 2 <= j /\ j < n2 := fun j hj => hund n2 (Nat.le_refl _) j (List.mem_flatMap.2 ⟨w, hw, hj⟩)
   rcases List.mem_append.1 hw with hw | hw
   ·rw [hv0] at hw; cases hw
   ·rw [List.mem_singleton] at hw
    subst hw
    refine Stand.on w (fun j hj => ?_) a4
    have := hwo j hj
    rw [z01 _ (by omega), z01 _ (by omega)]
  refine ⟨hvs, by simp only; omega, ?_, ?_, ?_, (fun h => by cases h), ?_, fun w hw => hst _ _ w hw, hund _ (by simp only; omega), hnd⟩
  ·refine fun j hj => ?_
   simp only
   rw [z01 _ (by omega), z01 _ (by omega), keep j (by omega)]
   exact hg.agree j hj
  ·simp only
   rw [z01 _ (by omega), z01 _ (by omega), keep nx (by omega)]
   exact hg.unit
  ·simp only
   rw [z28]
   unfold kdG
   simp only [List.length_append, List.length_cons, List.length_nil]
  ·intro r h
   simp only [Option.some.injEq] at h; subst h
   simp only
   refine ⟨by omega, by omega, ?_, fun hm => ?_⟩
   ·rw [z01 _ (by omega), z28]
   ·have := hund n2 (Nat.le_refl _) _ hm; omega
 | some r =>
  obtain ⟨b1, b2, b3, b4⟩ := hg.row r hr
  simp only
  have hst : ∀ (o1 o2 : Option HObj), ∀ w ∈ g.vs ++ [v], Stand (z0k (z0k H2 r o1) (nx + 1) o2) w := fun o1 o2 w hw => by
   rcases List.mem_append.1 hw with hw | hw
   ·refine Stand.on w (fun j hj => ?_) (hg.stand w hw)
    have hm : j ∈ g.vs.flatMap objsV := List.mem_flatMap.2 ⟨w, hw, hj⟩
    have := hg.under j hm
    have hne : ¬ j = r := fun e => b4 (e ▸ hm)
    rw [z01 _ (by omega), z01 _ hne, keep j (by omega)]
   ·rw [List.mem_singleton] at hw
    subst hw
    refine Stand.on w (fun j hj => ?_) a4
    have := a6 j hj
    rw [z01 _ (by omega), z01 _ (by omega)]
  refine ⟨hvs, by simp only; omega, ?_, ?_, ?_, (fun h => by cases h), ?_, fun w hw => hst _ _ w hw, hund _ (by simp only; omega), hnd⟩
  ·refine fun j hj => ?_
   simp only
   rw [z01 _ (by omega), z01 _ (by omega), keep j (by omega)]
   exact hg.agree j hj
  ·simp only
   rw [z01 _ (by omega), z01 _ (by omega), keep nx (by omega)]
   exact hg.unit
  ·simp only
   rw [z28]
   unfold kdG
   simp only [List.length_append, List.length_cons, List.length_nil]
  ·intro r' h
   simp only [Option.some.injEq] at h; subst h
   simp only
   refine ⟨by omega, by omega, ?_, fun hm => ?_⟩
   ·rw [z01 _ (by omega), z28]
   ·rw [hfl, List.mem_append] at hm
    rcases hm with hm | hm
    ·exact b4 hm
    ·have := a6 _ hm; omega
theorem zuy {t : T} (ih : ∀ k ∈ t.kids, ∀ H n, Grown k H n (z67 k H n)) (H : HM) (nx : Nat) : ∀ i, i <= t.kids.length -> GInv t H nx i (znm t H nx i) := by
 intro i
 induction i with
 | zero =>
  intro _
  rw [zkw]
  refine ⟨by simp [gs0], Nat.le_refl _, fun j hj => ?_, ?_, ?_, fun _ => rfl, (fun r h => by cases h), (fun v hv => by cases hv), (fun j hj => by cases hj), List.nodup_nil⟩
  ·show z0k (z0k H nx _) (nx + 1) _ j = _
   rw [z01 _ (by omega), z01 _ (by omega)]
  ·show z0k (z0k H nx _) (nx + 1) _ nx = _
   rw [z01 _ (by omega), z28]
  ·show z0k (z0k H nx _) (nx + 1) _ (nx + 1) = _
   rw [z28]; rfl
 | succ i ihi =>
  intro hi
  rw [zkx t H nx (by omega)]
  exact zux (ihi (by omega)) (by omega) (ih _ (List.getElem_mem _))
theorem z7a : ∀ t : T, ∀ H n, Grown t H n (z67 t H n) := by
 refine z5c fun t ih H nx => ?_
 have hg := zuy ih H nx t.kids.length (Nat.le_refl _)
 rw [zat]
 generalize znm t H nx t.kids.length = g at hg ⊢
 have hvs := hg.vs
 rw [List.take_length] at hvs
 have hobj : objsV (.mk (nx + 1) g.r (t.setKids []) g.vs) = (nx + 1) :: (g.r.toList ++ g.vs.flatMap objsV) := z7v _
 have hle := hg.le
 refine ⟨?_, hle, hg.agree, ?_, fun j hj => ?_, fun j hj => ?_, ?_⟩
 ·rw [z2x]
  show (t.setKids []).setKids (g.vs.map treeV) = t
  rw [hvs]; exact T.eta t
 ·refine (z29 _ _).2 ⟨?_, ?_, fun k hk => hg.stand k hk⟩
  ·exact hg.node
  ·unfold zj9
   cases hr : g.r with
   | none => exact hg.none_ hr
   | some r => exact (hg.row r hr).2.2.1
 ·rw [hobj, List.mem_cons, List.mem_append] at hj
  rcases hj with rfl | hj | hj
  ·simp only; omega
  ·cases hr : g.r with
   | none => rw [hr] at hj; cases hj
   | some r => rw [hr] at hj; simp at hj; subst hj; exact (hg.row _ hr).2.1
  ·exact (hg.under j hj).2
 ·rw [hobj, List.mem_cons, List.mem_append] at hj
  rcases hj with rfl | hj | hj
  ·omega
  ·cases hr : g.r with
   | none => rw [hr] at hj; cases hj
   | some r => rw [hr] at hj; simp at hj; subst hj; have := (hg.row _ hr).1; omega
  ·have := (hg.under j hj).1; omega
 ·rw [hobj, List.nodup_cons, List.mem_append, List.nodup_append]
  refine ⟨?_, ?_, hg.nd, fun x hx y hy e => ?_⟩
  ·rintro (h | h)
   ·cases hr : g.r with
    | none => rw [hr] at h; cases h
    | some r => rw [hr] at h; simp at h; subst h; have := (hg.row _ hr).1; omega
   ·have := (hg.under _ h).1; omega
  ·cases g.r <;> simp
  ·cases hr : g.r with
   | none => rw [hr] at hx; cases hx
   | some r =>
    rw [hr] at hx; simp at hx; subst hx
    exact (hg.row _ hr).2.2.2 (e ▸ hy)
end Abs
namespace Tr
inductive Chg (lo : Nat) (id : Idv) (E : V -> V -> Prop) : V -> V -> Prop
 | here {v v' : V} : v.own.id = id -> lo <= v'.num -> v'.own.id = v.own.id -> E v v' -> Chg lo id E v v'
 | down {v k k' v' : V} {l r : List V} : ¬ v.own.id = id -> v.kids = l ++ k :: r -> (∀ x ∈ l, id ∉ idsT (treeV x)) -> Chg lo id E k k' -> v'.own = v.own -> v'.kids = l ++ k' :: r -> lo <= v'.num -> Chg lo id E v v'
theorem Chg.hit {lo : Nat} {id : Idv} {E : V -> V -> Prop} {v v' : V} (h : Chg lo id E v v') : id ∈ idsT (treeV v) := by
 induction h with
 | here h1 _ _ _ => rw [<- h1, <- z2s]; exact z1q _
 | @down v k k' v' l r h1 h2 h3 h4 h5 h6 h7 ih =>
  rw [z1j, z2x]
  refine List.mem_cons_of_mem _ (List.mem_flatMap.2 ⟨treeV k, ?_, ih⟩)
  show treeV k ∈ v.kids.map treeV
  rw [h2]; simp
theorem Chg.root {lo : Nat} {id : Idv} {E : V -> V -> Prop} {v v' : V} (h : Chg lo id E v v') : lo <= v'.num /\ v'.own.id = v.own.id := by
 cases h with
 | here h1 h2 h3 _ => exact ⟨h2, h3⟩
 | down _ _ _ _ h5 _ h7 => exact ⟨h7, by rw [h5]⟩
theorem Chg.mono {lo lo2 : Nat} (hl : lo2 <= lo) {id : Idv} {E F : V -> V -> Prop} (hE : ∀ v v', v.own.id = id -> E v v' -> F v v') {v v' : V} (h : Chg lo id E v v') : Chg lo2 id F v v' := by
 induction h with
 | here h1 h2 h3 h4 => exact .here h1 (by omega) h3 (hE _ _ h1 h4)
 | down h1 h2 h3 _ h5 h6 h7 ih => exact .down h1 h2 h3 ih h5 h6 (by omega)
theorem zq0 {id : Idv} {f : T -> T} : ∀ t : T, id ∉ idsT t -> z0p id f t = t := by
 refine z5c fun t ih h => ?_
 rw [z1j, List.mem_cons, not_or] at h
 rw [z4b, if_neg fun e => h.1 e.symm]
 have : t.kids.map (z0p id f) = t.kids := by
  conv => rhs; rw [<- List.map_id t.kids]
  exact List.map_congr_left fun k hk => ih k hk fun hm => h.2 (List.mem_flatMap.2 ⟨k, hk, hm⟩)
 rw [this]
 exact T.eta t
theorem z1p (v : V) : (treeV v).kids = v.kids.map treeV := by rw [z2x]; rfl
theorem zf9 {lo : Nat} {id : Idv} {E : V -> V -> Prop} {f : T -> T} {v v' : V} (h : Chg lo id E v v') (hn : (idsT (treeV v)).Nodup) (hE : ∀ w ∈ nodesV v, ∀ w', w.own.id = id -> E w w' -> treeV w' = f (treeV w)) : treeV v' = z0p id f (treeV v) := by
 induction h with
 | here h1 h2 h3 h4 =>
  rw [z4b, if_pos (by rw [z2s]; exact h1)]
  exact hE _ (z41 _) _ h1 h4
 | @down v k k' v' l r h1 h2 h3 h4 h5 h6 h7 ih =>
  obtain ⟨n1, n2, n3⟩ := z5z hn
  have hkm : treeV k ∈ (treeV v).kids := by rw [z1p, h2]; simp
  have ihk := ih (n2 _ hkm) fun w hw w' => hE w (z2r (by rw [h2]; simp) hw) w'
  rw [z4b, if_neg (by rw [z2s]; exact h1), z2x v', h5, h6, z1p, h2]
  rw [z2x v]
  show v.own.setKids _ = v.own.setKids _
  congr 1
  rw [List.map_append, List.map_append, List.map_append, List.map_cons, List.map_cons, List.map_cons, ihk]
  congr 1
  ·rw [List.map_map]
   exact List.map_congr_left fun x hx => (zq0 _ (h3 x hx)).symm
  ·congr 1
   rw [List.map_map]
   refine List.map_congr_left fun x hx => (zq0 _ fun hm => ?_).symm
   -- the identifier is below k
   obtain ⟨j, hj, rfl⟩ := List.getElem_of_mem hx
   have hlen : (treeV v).kids.length = l.length + (r.length + 1) := by rw [z1p, h2]; simp
   refine n3 l.length (l.length + 1 + j) (by omega) (by omega) (by omega) id ?_ ?_
   ·have : (treeV v).kids[l.length]'(by omega) = treeV k := by simp only [z1p, h2, List.getElem_map]; congr 1; rw [List.getElem_append_right (Nat.le_refl _)]; simp
    rw [this]; exact h4.hit
   ·have : (treeV v).kids[l.length + 1 + j]'(by omega) = treeV r[j] := by
     simp only [z1p, h2, List.getElem_map]; congr 1
     rw [List.getElem_append_right (by omega), List.getElem_cons, dif_neg (by omega)]
     congr 1; omega
    rw [this]; exact hm
def zbi (id : Idv) (v : V) : List Idv := (z1t id (treeV v)).map T.id
theorem zcj {lo : Nat} {id : Idv} {E : V -> V -> Prop} {New : V -> Prop} {v v' : V} (h : Chg lo id E v v') (hn : (idsT (treeV v)).Nodup) (hlo : ∀ a ∈ nodesV v, a.num < lo)
  (hE : ∀ w ∈ nodesV v, ∀ w', w.own.id = id -> E w w' -> ∀ c ∈ w'.kids, ∀ a ∈ nodesV c, (∃ d ∈ w.kids, a ∈ nodesV d) \/ New a) :
  ∀ a ∈ nodesV v', (lo <= a.num /\ a.own.id ∈ zbi id v) \/ (a.num < lo /\ a ∈ nodesV v /\ a.own.id ∉ zbi id v) \/ New a := by
 induction h with
 | @here v v' h1 h2 h3 h4 =>
  intro a ha
  have hp : zbi id v = [id] := by unfold zbi; rw [z4r (by rw [z2s]; exact h1)]; simp [z2s, h1]
  obtain ⟨n1, _, _⟩ := z5z hn
  rw [z3s, List.mem_cons] at ha
  rcases ha with rfl | ha
  ·exact .inl ⟨h2, by rw [hp, h3, h1]; simp⟩
  ·obtain ⟨c, hc, ha⟩ := List.mem_flatMap.1 ha
   rcases hE _ (z41 _) _ h1 h4 c hc a ha with ⟨d, hd, hda⟩ | hN
   ·have hav := z2r hd hda
    refine .inr (.inl ⟨hlo a hav, hav, ?_⟩)
    rw [hp, List.mem_singleton]
    intro e
    refine n1 (treeV d) (by rw [z1p]; exact List.mem_map.2 ⟨d, hd, rfl⟩) ?_
    rw [z2s, h1, <- e, z49]
    exact List.mem_map.2 ⟨a, hda, rfl⟩
   ·exact .inr (.inr hN)
 | @down v k k' v' l r h1 h2 h3 h4 h5 h6 h7 ih =>
  intro a ha
  obtain ⟨n1, n2, n3⟩ := z5z hn
  have hk : k ∈ v.kids := by rw [h2]; simp
  have hkm : treeV k ∈ (treeV v).kids := by rw [z1p]; exact List.mem_map.2 ⟨k, hk, rfl⟩
  have hlen : (treeV v).kids.length = l.length + (r.length + 1) := by rw [z1p, h2]; simp
  have hgk : (treeV v).kids[l.length]'(by omega) = treeV k := by simp only [z1p, h2, List.getElem_map]; congr 1; rw [List.getElem_append_right (Nat.le_refl _)]; simp
  have hway : z1t id (treeV v) = treeV v :: z1t id (treeV k) := by
   rw [<- hgk]
   refine z4x (by rw [z2s]; exact h1) (i := l.length) (by omega) (fun j hj hjl => ?_) (by rw [hgk]; exact z5o.2 h4.hit)
   have : (treeV v).kids[j] = treeV l[j] := by simp only [z1p, h2, List.getElem_map]; congr 1; rw [List.getElem_append_left hj]
   rw [this]
   exact (z5l _ _).2 (h3 _ (List.getElem_mem hj))
  have hp : zbi id v = v.own.id :: zbi id k := by unfold zbi; rw [hway, List.map_cons, z2s]
  have hsub : ∀ i ∈ zbi id k, i ∈ idsT (treeV k) := fun i hi => by
   obtain ⟨z, hz, rfl⟩ := List.mem_map.1 hi
   exact List.mem_map.2 ⟨z, zdr _ _ z hz, rfl⟩
  -- a node below another kid
  have beside : ∀ j (hj : j < (treeV v).kids.length), j ≠ l.length -> ∀ i ∈ idsT (treeV v).kids[j], i ∉ zbi id v := fun j hj hne i hi hm => by
   rw [hp, List.mem_cons] at hm
   rcases hm with rfl | hm
   ·exact n1 _ (List.getElem_mem hj) (by rw [z2s]; exact hi)
   ·exact n3 j l.length hj (by omega) hne i hi (by rw [hgk]; exact hsub i hm)
  rw [z3s, List.mem_cons] at ha
  rcases ha with rfl | ha
  ·exact .inl ⟨h7, by rw [hp, h5]; simp⟩
  ·obtain ⟨c, hc, ha⟩ := List.mem_flatMap.1 ha
   rw [h6] at hc
   have old : ∀ j (hj : j < v.kids.length), j ≠ l.length -> c = v.kids[j] -> (a.num < lo /\ a ∈ nodesV v /\ a.own.id ∉ zbi id v) := fun j hj hne e => by
    have hav := z2r (List.getElem_mem hj) (e ▸ ha)
    refine ⟨hlo a hav, hav, beside j (by rw [z1p, List.length_map]; exact hj) hne _ ?_⟩
    simp only [z1p, List.getElem_map]
    rw [z49]
    exact List.mem_map.2 ⟨a, e ▸ ha, rfl⟩
   have hvl : v.kids.length = l.length + (r.length + 1) := by rw [h2]; simp
   rcases List.mem_append.1 hc with hc | hc
   ·obtain ⟨j, hj, rfl⟩ := List.getElem_of_mem hc
    exact .inr (.inl (old j (by omega) (by omega) (by simp only [h2]; rw [List.getElem_append_left hj])))
   ·rcases List.mem_cons.1 hc with rfl | hc
    ·rcases ih (n2 _ hkm) (fun x hx => hlo x (z2r hk hx)) (fun w hw => hE w (z2r hk hw)) a ha with ⟨g1, g2⟩ | ⟨g1, g2, g3⟩ | g
     ·exact .inl ⟨g1, by rw [hp]; exact List.mem_cons_of_mem _ g2⟩
     ·refine .inr (.inl ⟨g1, z2r hk g2, ?_⟩)
      rw [hp, List.mem_cons, not_or]
      refine ⟨fun e => n1 _ hkm ?_, g3⟩
      rw [z2s, <- e, z49]
      exact List.mem_map.2 ⟨a, g2, rfl⟩
     ·exact .inr (.inr g)
    ·obtain ⟨j, hj, rfl⟩ := List.getElem_of_mem hc
     refine .inr (.inl (old (l.length + 1 + j) (by omega) (by omega) ?_))
     simp only [h2]
     rw [List.getElem_append_right (by omega), List.getElem_cons, dif_neg (by omega)]
     congr 1; omega
end Tr
namespace Abs
abbrev Ch := HM -> Nat -> Option Nat × HM × Nat
abbrev zsm := V -> Nat -> Option Nat -> HM -> Nat -> HM × Nat
def idB (i : Idv) : HObj := .box 23 (z07 i)
def kdR (r : Option Nat) (n : Nat) : D := match r with
 | none => .nil
 | some r => .osl r n
def row0 : HObj := .row 75 0 []
def zcc (v : V) (H : HM) (n : Nat) : Option Nat × HM × Nat := match v.row with
 | none => (none, H, n)
 | some _ => (some (n + 1), z0k (z0k H n (some row0)) (n + 1) (some (rowV v.kids)), n + 2)
def setK (v : V) (r : Option Nat) (i x : Nat) (H : HM) : HM := match r with
 | none => H
 | some r => z0k H r (some (.row 75 v.kids.length ((v.kids.map fun k => .ptr k.num 0).set i (.ptr x 0))))
def zo2 (v : V) (c : Nat) (r : Option Nat) : List Ch -> Nat -> Ch
 | [], _, H, n => (none, H, n)
 | f :: l, i, H, n => if (f H n).1.isSome = true then (some c, setK v r i ((f H n).1.getD 0) (f H n).2.1, (f H n).2.2) else zo2 v c r l (i + 1) (f H n).2.1 (f H n).2.2
def chgF (id : Idv) (E : zsm) (v : V) (l : List Ch) : Ch := fun H n =>
 let k := zcc v (z0k H n (some (idB id))) (n + 1)
 let H3 := z0k k.2.1 k.2.2 (some (nodeB v.own (kdR k.1 v.kids.length)))
 if v.own.id = id then (some k.2.2, E v k.2.2 k.1 H3 (k.2.2 + 1)) else zo2 v k.2.2 k.1 l 0 H3 (k.2.2 + 1)
def zo3 (id : Idv) (E : zsm) (v : V) : Ch := zyw (chgF id E) v
theorem zw3 (id : Idv) (E : zsm) (v : V) : zo3 id E v = chgF id E v (v.kids.map (zo3 id E)) := by unfold zo3; rw [zfl]
structure PreE (lo m : Nat) (H : HM) (n c : Nat) (r : Option Nat) (v : V) : Prop where
 lom : lo <= m
 mc : m <= c
 cn : c < n
 box : H c = some (nodeB v.own (kdR r v.kids.length))
 nor : r = none -> v.kids = []
 row : ∀ q, r = some q -> m <= q /\ q < c /\ H q = some (rowV v.kids)
 kids : ∀ k ∈ v.kids, Stand H k /\ Under lo k
structure PostE (lo m : Nat) (H : HM) (n c : Nat) (w : V) (Q : V -> V -> Prop) (o : HM × Nat) (w' : V) : Prop where
 num : w'.num = c
 id : w'.own.id = w.own.id
 stand : Stand o.1 w'
 under : Under o.2 w'
 objs : ∀ j ∈ objsV w', j < lo \/ m <= j
 le : n <= o.2
 agree : Agree m H o.1
 q : Q w w'
def zo4 (lo : Nat) (H0 : HM) (E : zsm) (Q : V -> V -> Prop) (w : V) : Prop := ∀ m H n c r, PreE lo m H n c r w -> Agree lo H0 H -> ∃ w', PostE lo m H n c w Q (E w c r H n) w'
structure ChgOK (lo : Nat) (id : Idv) (Q : V -> V -> Prop) (v : V) (H : HM) (n : Nat) (o : Option Nat × HM × Nat) : Prop where
 le : n <= o.2.2
 agree : Agree n H o.2.1
 no : id ∉ idsT (treeV v) -> o.1 = none
 yes : id ∈ idsT (treeV v) -> ∃ v', o.1 = some v'.num /\ Chg n id Q v v' /\ Stand o.2.1 v' /\ Under o.2.2 v' /\ ∀ j ∈ objsV v', j < lo \/ n <= j
theorem zjf (v : V) (id : Idv) : id ∈ idsT (treeV v) ↔ v.own.id = id \/ ∃ k ∈ v.kids, id ∈ idsT (treeV k) := by
 rw [z1j, List.mem_cons, z2s, z1p, List.mem_flatMap]
 refine or_congr eq_comm ⟨fun ⟨a, ha, h⟩ => ?_, fun ⟨k, hk, h⟩ => ⟨_, List.mem_map.2 ⟨k, hk, rfl⟩, h⟩⟩
 obtain ⟨k, hk, rfl⟩ := List.mem_map.1 ha
 exact ⟨k, hk, h⟩
theorem zo5 {lo : Nat} {id : Idv} {E : zsm} {Q : V -> V -> Prop} {v : V} {m : Nat} {H3 : HM} {n3 c : Nat} {r : Option Nat} (hp : PreE lo m H3 n3 c r v) {H0 : HM} (h03 : Agree lo H0 H3) (hid : ¬ v.own.id = id)
  (ih : ∀ k ∈ v.kids, ∀ H n, lo <= n -> Agree lo H0 H -> Stand H k -> Under lo k -> ChgOK lo id Q k H n (zo3 id E k H n)) :
  ∀ (K L : List V), v.kids = L ++ K -> (∀ x ∈ L, id ∉ idsT (treeV x)) -> ∀ H n, n3 <= n -> Agree n3 H3 H ->
   let o := zo2 v c r (K.map (zo3 id E)) L.length H n
   n <= o.2.2 /\ Agree m H3 o.2.1 /\ ((∀ x ∈ K, id ∉ idsT (treeV x)) -> o.1 = none) /\
   ((∃ x ∈ K, id ∈ idsT (treeV x)) -> ∃ v', o.1 = some v'.num /\ Chg m id Q v v' /\ Stand o.2.1 v' /\ Under o.2.2 v' /\ ∀ j ∈ objsV v', j < lo \/ m <= j) := by
 have hlom := hp.lom
 have hmc := hp.mc
 have hcn := hp.cn
 intro K
 induction K with
 | nil =>
  intro L hL hno H n hn ha
  exact ⟨Nat.le_refl _, fun j hj => ha j (by omega), fun _ => rfl, fun ⟨x, hx, _⟩ => by cases hx⟩
 | cons k K ihK =>
  intro L hL hno H n hn ha
  have hkv : k ∈ v.kids := by rw [hL]; simp
  obtain ⟨hks, hku⟩ := hp.kids k hkv
  have hsk : ∀ x ∈ v.kids, Stand H x := fun x hx => Stand.agree (n := lo) (fun j hj => ha j (by omega)) x (hp.kids x hx).2 (hp.kids x hx).1
  have hk := ih k hkv H n (by omega) (fun j hj => (ha j (by omega)).trans (h03 j hj)) (hsk k hkv) hku
  simp only [List.map_cons, zo2]
  generalize zo3 id E k H n = o1 at hk ⊢
  obtain ⟨x1, H1, n1⟩ := o1
  obtain ⟨k1, k2, k3, k4⟩ := hk
  simp only at k1 k2 k3 k4 ⊢
  have hag : Agree n3 H3 H1 := fun j hj => (k2 j (by omega)).trans (ha j hj)
  by_cases hin : id ∈ idsT (treeV k)
  ·obtain ⟨k', rfl, hch, hst, hun, hob⟩ := k4 hin
   simp only [Option.isSome_some, if_true, Option.getD_some]
   obtain ⟨q, hq⟩ : ∃ q, r = some q := by
    cases hr : r with
    | none => rw [hp.nor hr] at hkv; cases hkv
    | some q => exact ⟨q, rfl⟩
   subst hq
   obtain ⟨r1, r2, r3⟩ := hp.row q rfl
   have hset : setK v (some q) L.length k'.num H1 = z0k H1 q (some (rowV (L ++ k' :: K))) := by
    unfold setK rowV
    simp only
    rw [hL]
    simp
   rw [hset]
   refine ⟨by omega, fun j hj => ?_, fun h => (h k (by simp) hin).elim, fun _ => ⟨.mk c (some q) v.own (L ++ k' :: K), rfl, ?_, ?_, ?_, ?_⟩⟩
   ·rw [z01 _ (by omega)]
    exact hag j (by omega)
   ·exact .down hid hL hno (Chg.mono (by omega) (fun _ _ _ h => h) hch) rfl rfl hmc
   ·refine (z29 _ _).2 ⟨?_, ?_, fun x hx => ?_⟩
    ·show z0k H1 q _ c = _
     rw [z01 _ (by omega), hag c (by omega), hp.box]
     show some (nodeB v.own (.osl q v.kids.length)) = _
     have hl : (L ++ k' :: K).length = v.kids.length := by rw [hL]; simp
     show _ = some (HObj.box _ (z3y (.mk c (some q) v.own (L ++ k' :: K))))
     unfold z3y kdD
     simp only [V.row, V.kids, V.own]
     rw [hl]; rfl
    ·show z0k H1 q _ q = _
     rw [z28]; rfl
    ·have old : ∀ x ∈ v.kids, Stand (z0k H1 q (some (rowV (L ++ k' :: K)))) x := fun x hx => by
      refine Stand.on x (fun j hj => ?_) (hp.kids x hx).1
      have := (hp.kids x hx).2 j hj
      rw [z01 _ (by omega)]
      exact hag j (by omega)
     rcases List.mem_append.1 hx with hx | hx
     ·exact old x (by rw [hL]; exact List.mem_append_left _ hx)
     ·rcases List.mem_cons.1 hx with rfl | hx
      ·refine Stand.on x (fun j hj => ?_) hst
       have := hob j hj
       rw [z01 _ (by omega)]
      ·exact old x (by rw [hL]; exact List.mem_append_right _ (List.mem_cons_of_mem _ hx))
   all_goals
    intro j hj
    rw [z7v, List.mem_cons, List.mem_append] at hj
    rcases hj with e | hj | hj
    ·have e : j = c := e
     omega
    ·have hj : j ∈ (some q).toList := hj
     simp only [Option.toList_some, List.mem_singleton] at hj
     omega
    ·obtain ⟨x, hx, hj2⟩ := List.mem_flatMap.1 hj
     clear hj
     rcases List.mem_append.1 hx with hx | hx
     ·have := (hp.kids x (by rw [hL]; exact List.mem_append_left _ hx)).2 j hj2; omega
     ·rcases List.mem_cons.1 hx with e | hx
      ·rw [e] at hj2
       have := hob j hj2; have := hun j hj2; omega
      ·have := (hp.kids x (by rw [hL]; exact List.mem_append_right _ (List.mem_cons_of_mem _ hx))).2 j hj2; omega
  ·have hx1 := k3 hin
   subst hx1
   simp only [Option.isSome_none, Bool.false_eq_true, if_false]
   have hL2 : v.kids = (L ++ [k]) ++ K := by rw [hL]; simp
   have hno2 : ∀ x ∈ L ++ [k], id ∉ idsT (treeV x) := fun x hx => by
    rcases List.mem_append.1 hx with hx | hx
    ·exact hno x hx
    ·rw [List.mem_singleton] at hx; subst hx; exact hin
   have h := ihK (L ++ [k]) hL2 hno2 H1 n1 (by omega) hag
   rw [List.length_append, List.length_singleton] at h
   obtain ⟨g1, g2, g3, g4⟩ := h
   refine ⟨by omega, g2, fun hall => g3 fun x hx => hall x (List.mem_cons_of_mem _ hx), fun ⟨x, hx, hxi⟩ => g4 ?_⟩
   rcases List.mem_cons.1 hx with rfl | hx
   ·exact (hin hxi).elim
   ·exact ⟨x, hx, hxi⟩
theorem zlm {lo n : Nat} {id : Idv} {H : HM} {v : V} (hlo : lo <= n) (hs : Stand H v) (hu : Under lo v) :
  let k := zcc v (z0k H n (some (idB id))) (n + 1)
  let H3 := z0k k.2.1 k.2.2 (some (nodeB v.own (kdR k.1 v.kids.length)))
  PreE lo n H3 (k.2.2 + 1) k.2.2 k.1 v /\ Agree n H H3 /\ n < k.2.2 /\ H3 n = some (idB id) := by
 obtain ⟨s1, s2, s3⟩ := (z29 H v).1 hs
 unfold zcc
 unfold zj9 at s2
 cases hr : v.row with
 | none =>
  rw [hr] at s2
  simp only at s2 ⊢
  have hag : ∀ o : Option HObj, Agree n H (z0k (z0k H n (some (idB id))) (n + 1) o) := fun o j hj => by rw [z01 _ (by omega), z01 _ (by omega)]
  refine ⟨⟨hlo, by omega, by omega, z28 _ _ _, fun _ => s2, (fun q h => by cases h), fun k hk => ?_⟩, hag _, by omega, by rw [z01 _ (by omega), z28]⟩
  rw [s2] at hk; cases hk
 | some r =>
  simp only
  have hag : ∀ o : Option HObj, Agree n H (z0k (z0k (z0k (z0k H n (some (idB id))) (n + 1) (some row0)) (n + 1 + 1) (some (rowV v.kids))) (n + 1 + 2) o) := fun o j hj => by
   rw [z01 _ (by omega), z01 _ (by omega), z01 _ (by omega), z01 _ (by omega)]
  refine ⟨⟨hlo, by omega, by omega, z28 _ _ _, (fun h => by cases h), fun q h => ?_, fun k hk => ?_⟩, hag _, by omega, by rw [z01 _ (by omega), z01 _ (by omega), z01 _ (by omega), z28]⟩
  ·simp only [Option.some.injEq] at h
   subst h
   refine ⟨by omega, by omega, ?_⟩
   rw [z01 _ (by omega), z28]
  ·exact ⟨Stand.agree (fun j hj => hag _ j (by omega)) k (z42 hu hk) (s3 k hk), z42 hu hk⟩
theorem zln {lo : Nat} {id : Idv} {E : zsm} {Q : V -> V -> Prop} {H0 : HM} : ∀ v : V, (∀ w ∈ nodesV v, w.own.id = id -> zo4 lo H0 E Q w) -> ∀ H n, lo <= n -> Agree lo H0 H -> Stand H v -> Under lo v -> ChgOK lo id Q v H n (zo3 id E v H n) := by
 refine zdg fun v ih hE H n hlo h0 hs hu => ?_
 obtain ⟨hp, hag, hnk, _⟩ := zlm (id := id) hlo hs hu
 rw [zw3]
 unfold chgF
 simp only
 generalize hk : zcc v (z0k H n (some (idB id))) (n + 1) = k at hp hag hnk ⊢
 obtain ⟨r, Hk, c⟩ := k
 simp only at hp hag hnk ⊢
 have h03 : Agree lo H0 (z0k Hk c (some (nodeB v.own (kdR r v.kids.length)))) := fun j hj => (hag j (by omega)).trans (h0 j hj)
 by_cases hid : v.own.id = id
 ·rw [if_pos hid]
  obtain ⟨w', hw⟩ := hE v (z41 v) hid _ _ _ _ _ hp h03
  generalize E v c r (z0k Hk c (some (nodeB v.own (kdR r v.kids.length)))) (c + 1) = o at hw ⊢
  have hle := hw.le
  refine ⟨by simp only; omega, fun j hj => (hw.agree j hj).trans (hag j hj), fun h => (h ((zjf v id).2 (.inl hid))).elim, fun _ => ⟨w', by rw [hw.num], .here hid (by rw [hw.num]; omega) hw.id hw.q, hw.stand, hw.under, hw.objs⟩⟩
 ·rw [if_neg hid]
  have h := zo5 (id := id) (E := E) (Q := Q) hp h03 hid (fun k hk H n h1 h2 h3 h4 => ih k hk (fun w hw => hE w (z2r hk hw)) H n h1 h2 h3 h4) v.kids [] rfl (fun x hx => by cases hx) _ _ (Nat.le_refl _) (Agree.refl _ _)
  simp only [List.length_nil] at h
  obtain ⟨g1, g2, g3, g4⟩ := h
  refine ⟨by omega, fun j hj => (g2 j hj).trans (hag j hj), fun hno => g3 fun x hx hxi => hno ((zjf v id).2 (.inr ⟨x, hx, hxi⟩)), fun hin => g4 ?_⟩
  rcases (zjf v id).1 hin with e | h
  ·exact (hid e).elim
  ·exact h
end Abs
end
section
open Abs Facts Tr
attribute [local irreducible] awp
set_option maxRecDepth 100000
theorem za1 {a b : Nat} (h : ¬ a = b) : (a == b) = false := by simpa using h
def zba (v : V) (q : Nat) (i : Nat) : List D := [.int .i64 v.own.id.act, .int .i64 v.own.id.item, .int .i64 v.own.id.n, .int .i64 v.own.kind, .str v.own.label, z0r v.own.head, z0r v.own.words, .osl q i]
theorem zf7 {H : HM} {v : V} (hst : Stand H v) {nx : Nat} (hu : Under nx v) : (v.row = none /\ v.kids = []) \/ ∃ r, v.row = some r /\ r < nx /\ H r = some (.row 75 v.kids.length (v.kids.map fun k => .ptr k.num 0)) := by
 obtain ⟨s1, s2, s3⟩ := (z29 H v).1 hst
 unfold zj9 at s2
 cases hr : v.row with
 | none => rw [hr] at s2; exact .inl ⟨rfl, s2⟩
 | some r => rw [hr] at s2; exact .inr ⟨r, rfl, hu r (zph hr), s2⟩
theorem ac_tree1 (v : V) (hs : szB (treeV v) = true) (ih : ∀ k ∈ v.kids, ∀ H nx, Under nx k -> Stand H k -> RC prog 41 [.ptr k.num 0] H nx (z0m (treeV k))) (H : HM) (nx : Nat) (hu : Under nx v) (hst : Stand H v) :
  AC prog 41 [.ptr v.num 0] H nx fun r H' nx' => r = .agg (zba v (nx + 2) v.kids.length) /\ nx + 3 <= nx' /\ H' (nx + 2) = some (.row 27 v.kids.length ((v.kids.map treeV).flatMap z0h)) /\ ∀ j, j < nx -> H' j = H j := by
 obtain ⟨s1, s2, s3⟩ := (z29 H v).1 hst
 have hnum := hu _ (z4a v)
 obtain ⟨h0, h1, g1, h2, g2, h3, h4⟩ := (z2i _).1 hs
 have hk0 := zf7 hst hu
 have hh : (treeV v).head = v.own.head /\ (treeV v).words = v.own.words /\ (treeV v).kids = v.kids.map treeV := by rw [z2x]; exact ⟨rfl, rfl, rfl⟩
 rw [hh.1] at h1; rw [hh.2.1] at h2; rw [hh.2.2, List.length_map] at h3
 have c1 := z6a v.own.head (by omega)
 have c2 := z6a v.own.words (by omega)
 refine (z14 [3000028] func41 rfl (by decide +kernel) rfl ?_)
 show awp _ _ (Code.seq _ _) _ _
 rw [show Tryz.f41.results.toList = [.cell 2 27] from rfl]
 have hnb := z4h hnum
 repeat' (first | refine zqj ?_ | ((first | refine z36 (N := 3) rfl fun K J => ?_ | refine zbw (N := 3) rfl (by decide +kernel) fun K J => ?_ | refine zqt (c1) ?_ | refine zqt (c2) ?_); (simp (disch := omega) only [go_sem, Nat.reduceBEq, ↓reduceIte, reduceCtorEq, Nat.reduceAdd, Nat.reduceLeDiff, Nat.reduceLT, s1, hnb, z3y, z0r])) | (refine J _ ?_; clear J K))
 refine z3j fun K J => ?_
 rcases hk0 with ⟨hr, hnil⟩ | ⟨r, hr, hrn, hrow⟩
 ·have e1 : kdD v = .nil := by unfold kdD; rw [hr]
  (simp (disch := omega) only [go_sem, Nat.reduceBEq, ↓reduceIte, reduceCtorEq, Nat.reduceAdd, s1, hnb, z3y, e1])
  refine J _ _ (z71 (b := nx + 1) (off := 7) (e := 27) 27 (by (simp (disch := omega) only [go_sem, hnb]); rfl) rfl) ?_
  clear J K
  repeat' (refine zqa ?_)
  (refine z4m (fun U st => ∃ (i : Nat), U = 1 - i /\ st.t 2 = .ptr nx 0 /\ st.t 3 = .ptr (nx + 1) 0 /\ st.t 22 = .int .i64 0 /\ st.t 23 = .int .i64 0 /\ st.H (nx) = some (.box 27 [.int .i64 0, .int .i64 0, .int .i64 0, .int .i64 0, .str ByteArray.empty, .nil, .nil, .nil]) /\ st.H (nx + 1) = some (.box 27 (zba v (nx + 2) 0)) /\ st.H (nx + 2) = some (.row 27 0 []) /\ (nx + 3 <= st.nx) /\ (∀ j, j < nx -> st.H j = H j)) ?_ ?_); rotate_left; (rintro U st ⟨i, rfl, q2, q3, q22, q23, qHnx, qHnx1, qHnx2, qp0, qp1⟩); rotate_left
  ·(refine ⟨_, 0, rfl, ?_⟩); (simp (disch := omega) only [go_sem, Nat.reduceBEq, Nat.reduceLeDiff, true_and, z0r, List.set_cons_succ, List.set_cons_zero, zba, hnb])
   exact ⟨by omega, fun j hj => by simp (disch := omega) only [z3m]⟩
  repeat' (first | ((refine zqh fun K J => ?_); (simp (disch := omega) only [go_sem, Nat.reduceBEq, ↓reduceIte, Nat.reduceAdd, Nat.reduceLeDiff, Int.reduceLT, q2, q3, q22, q23, qHnx, qHnx1, zba, List.set_cons_succ, List.set_cons_zero])) | ((refine zqd _ rfl (fun hc => ?_) (fun hc => ?_)) <;> (first | (cases hc; done) | ((try simp only [] at hc); (try omega)))) | refine zqc ?_ | refine zqn ?_ | refine zqv ?_ | refine zqz ?_ | refine zqp ?_ | refine zqu (by (simp (disch := omega) only [go_sem, Nat.reduceBEq, ↓reduceIte, Nat.reduceAdd, Nat.reduceLeDiff, q2, qHnx]); rfl) rfl ?_ | (refine J _ ?_; clear J K))
  (simp (disch := omega) only [go_sem, qHnx2, hnb])
  rw [hnil]
  exact ⟨rfl, qp0, rfl, fun j hj => by simp (disch := omega) only [z3m]; exact qp1 j hj⟩
 ·have e1 : kdD v = .osl r v.kids.length := by unfold kdD; rw [hr]
  have hrb := z4h hrn
  (simp (disch := omega) only [go_sem, Nat.reduceBEq, ↓reduceIte, reduceCtorEq, Nat.reduceAdd, s1, hnb, z3y, e1])
  refine J _ _ (z71 (b := nx + 1) (off := 7) (e := 27) 27 (by (simp (disch := omega) only [go_sem, hnb]); rfl) rfl) ?_
  clear J K
  repeat' (refine zqa ?_)
  (refine z4m (fun U st => ∃ (i : _), U = v.kids.length - i /\ st.t 2 = .ptr nx 0 /\ st.t 3 = .ptr (nx + 1) 0 /\ st.t 21 = .osl r v.kids.length /\ st.t 22 = .int .i64 v.kids.length /\ st.t 23 = .int .i64 i /\ st.H (nx) = some (.box 27 [.int .i64 0, .int .i64 0, .int .i64 0, .int .i64 0, .str ByteArray.empty, .nil, .nil, .nil]) /\ st.H (nx + 1) = some (.box 27 (zba v (nx + 2) i)) /\ st.H (nx + 2) = some (.row 27 i (((v.kids.take i).map treeV).flatMap z0h)) /\ (i <= v.kids.length) /\ (nx + 3 <= st.nx) /\ (∀ j, j < nx -> st.H j = H j)) ?_ ?_); rotate_left; (rintro U st ⟨i, rfl, q2, q3, q21, q22, q23, qHnx, qHnx1, qHnx2, qp0, qp1, qp2⟩); rotate_left
  ·(refine ⟨_, 0, rfl, ?_⟩); (simp (disch := omega) only [go_sem, Nat.reduceBEq, Nat.reduceLeDiff, true_and, Int.natCast_zero, List.flatMap_nil, List.map_nil, z0r, List.set_cons_succ, List.set_cons_zero, zba, hnb])
   exact ⟨by omega, fun j hj => by simp (disch := omega) only [z3m]⟩
  have hqr : st.H r = some (.row 75 v.kids.length (v.kids.map fun k => .ptr k.num 0)) := (qp2 r hrn).trans hrow
  by_cases hi : i < v.kids.length
  ·have hin := ih v.kids[i] (List.getElem_mem hi) st.H st.nx (fun j hj => by have := z42 hu (List.getElem_mem hi) j hj; omega) (Stand.on _ (fun j hj => qp2 j (z42 hu (List.getElem_mem hi) j hj)) (s3 _ (List.getElem_mem hi)))
   have htk := List.take_succ_eq_append_getElem hi
   have hgt : v.kids[i]? = some v.kids[i] := List.getElem?_eq_getElem hi
   repeat' (first | ((first | refine zqh fun K J => ?_ | refine zqr fun K J => ?_ | refine zqq (by decide +kernel) fun K J => ?_ | refine zc8 (hin) rfl ?_); (simp (disch := omega) only [go_sem, Nat.reduceBEq, ↓reduceIte, reduceCtorEq, Nat.reduceAdd, Nat.reduceMul, Nat.reduceLeDiff, Nat.reduceLT, q3, q21, q22, q23, qHnx1, qHnx2, hnb, hqr, hgt, zba, List.set_cons_succ, List.set_cons_zero])) | ((refine zqd _ rfl (fun hc => ?_) (fun hc => ?_)) <;> (((try simp only [z0b] at hc); (try omega)))) | refine zqa ?_ | refine zqb ?_ | refine zqv ?_ | refine zqy ?_ | (refine J _ ?_; clear J K))
   (refine Exists.intro _ (And.intro ?_ ⟨i + 1, rfl, ?_⟩)); rotate_left; (simp (disch := omega) only [go_sem, Nat.reduceBEq, q2, q3, q21, q22, q23, qHnx, qHnx1, qHnx2, true_and, Int.natCast_add, Int.natCast_one, List.flatMap_append, List.flatMap_cons, List.flatMap_nil, List.map_append, List.map_cons, List.map_nil, List.append_nil, hnb, htk, zba]); rotate_left
   ·omega
   ·exact ⟨by omega, by omega, fun j hj => by simp (disch := omega) only [z3m]; exact qp2 j hj⟩
  ·repeat' (first | ((refine zqh fun K J => ?_); (simp (disch := omega) only [go_sem, Nat.reduceBEq, ↓reduceIte, Nat.reduceAdd, Nat.reduceLeDiff, q2, q3, q22, q23, qHnx, qHnx1, zba, List.set_cons_succ, List.set_cons_zero])) | ((refine zqd _ rfl (fun hc => ?_) (fun hc => ?_)) <;> (((try simp only [z0b] at hc); (try omega)))) | refine zqc ?_ | refine zqn ?_ | refine zqv ?_ | refine zqz ?_ | refine zqp ?_ | refine zqu (by (simp (disch := omega) only [go_sem, Nat.reduceBEq, ↓reduceIte, Nat.reduceAdd, Nat.reduceLeDiff, q2, qHnx]); rfl) rfl ?_ | (refine J _ ?_; clear J K))
   have hi2 : i = v.kids.length := by omega
   subst hi2
   rw [List.take_length] at qHnx2
   (simp (disch := omega) only [go_sem, qHnx2, hnb])
   repeat' (first | exact rfl | omega | (intro j hj; simp (disch := omega) only [z3m]; exact qp2 j hj) | refine And.intro ?_ ?_)
theorem zlr {v k : V} (hs : szB (treeV v) = true) (hk : k ∈ v.kids) : szB (treeV k) = true := by
 obtain ⟨_, _, _, _, _, _, h⟩ := (z2i _).1 hs
 exact h _ (by rw [z1p]; exact List.mem_map.2 ⟨k, hk, rfl⟩)
theorem rc_tree : ∀ v : V, szB (treeV v) = true -> ∀ H nx, Under nx v -> Stand H v -> RC prog 41 [.ptr v.num 0] H nx (z0m (treeV v)) := by
 refine zdg fun v ih hs H nx hu hst => ?_
 refine RC_fin (k := 4) (z02 _) ((ac_tree1 v hs (fun k hk => ih k hk (zlr hs hk)) H nx hu hst).mono fun r H' nx' ⟨h1, h2, h3, h4⟩ => ⟨?_, h4⟩)
 subst h1
 rw [z2x, z0m, z0f]
 refine ⟨_, z5d (k := 3) (by simp [zba, pureD.pureL, pureD]) (z00 (z08 2 rfl) (z00 (z08 2 rfl) (z00 (z08 2 rfl) (z00 (z08 2 rfl) (z00 (z08 2 rfl) (z00 (z08 2 (z0d _)) (z00 (z08 2 (z0d _)) (z00 ?_ z0c)))))))), Le.refl _⟩
 have hlen : v.kids.length = (v.kids.map treeV).length := by simp
 rw [hlen]
 refine z2j (f := z0h) (l := v.kids.map treeV) 1 ?_ z0l z30 z0q z04
 rw [hi_get (by omega), h3, <- hlen]
theorem z6b (H : HM) (i : Nat) (a b : Option HObj) : z0k (z0k H i a) i b = z0k H i b := by
 funext j; unfold z0k; split <;> rfl
def zce (step : V -> HObj -> HObj) (l : List V) (o : HObj) : HObj := l.foldl (fun o w => step w o) o
theorem zls (step : V -> HObj -> HObj) (l m : List V) (o : HObj) : zce step (l ++ m) o = zce step m (zce step l o) := List.foldl_append
theorem zwe {step : V -> HObj -> HObj} {I : HObj -> Prop} {S : V -> Prop} (hI : ∀ w o, S w -> I o -> I (step w o)) : ∀ (l : List V), (∀ w ∈ l, S w) -> ∀ (o : HObj), I o -> I (zce step l o)
 | [], _, _, h => h
 | w :: l, hS, o, h => zwe hI l (fun x hx => hS x (List.mem_cons_of_mem _ hx)) (step w o) (hI w o (hS w (by simp)) h)
theorem zoa {g : FuncId} {cap : List D} {k : Nat} (step : V -> HObj -> HObj) (I : HObj -> Prop) (F : HM -> Prop) (hF : ∀ H o, F H -> F (z0k H k (some o))) (S : V -> Prop) (hI : ∀ w o, S w -> I o -> I (step w o)) :
  ∀ v : V, szB (treeV v) = true -> (∀ w ∈ nodesV v, S w) -> (∀ H, F H -> ∀ w ∈ nodesV v, Stand H w) ->
  (∀ w ∈ nodesV v, ∀ H nx o, Under nx w -> k < nx -> H k = some o -> I o -> F H -> AC prog g (.ptr w.num 0 :: cap) H nx fun r H' nx' => r = .tup [] /\ H' = z0k H k (some (step w o)) /\ nx' = nx) ->
  ∀ H nx o, Under nx v -> k < nx -> H k = some o -> I o -> F H -> AC prog 42 [.ptr v.num 0, .fn g cap] H nx fun r H' nx' => r = .tup [] /\ H' = z0k H k (some (zce step (nodesV v) o)) /\ nx' = nx := by
 refine zdg fun v ih hs hSv hS hv H nx o hu hk hH hIo hFH => ?_
 have h3 : v.kids.length <= 1000000 := by
  obtain ⟨_, _, _, _, _, h3, _⟩ := (z2i _).1 hs
  rw [z1p, List.length_map] at h3; exact h3
 have c1 := hv v (z41 v) H nx o hu hk hH hIo hFH
 have hF1 := hF H (step v o) hFH
 have hst1 := hS _ hF1 v (z41 v)
 obtain ⟨s1, s2, s3⟩ := (z29 _ v).1 hst1
 have hk0 := zf7 hst1 hu
 have hnum := hu _ (z4a v)
 refine (z14 [] func42 rfl (by decide +kernel) rfl ?_)
 show awp _ _ (Code.seq _ _) _ _
 repeat' (((refine zqh fun K J => ?_); (simp (disch := omega) only [go_sem, Nat.reduceBEq])))
 refine z1m (c1.mono fun r H' nx' ⟨e1, e2, e3⟩ => ?_)
 subst e1; subst e3
 rw [<- e2] at s1 hk0 hF1 hst1
 have hHk : H' k = some (step v o) := by rw [e2]; exact z2u
 rcases hk0 with ⟨hr, hnil⟩ | ⟨r, hr, hrn, hrow⟩
 ·have e1 : kdD v = .nil := by unfold kdD; rw [hr]
  (try (simp (disch := omega) only [go_sem])); repeat' (first | ((refine zqh fun K J => ?_); (simp (disch := omega) only [go_sem, Nat.reduceBEq, ↓reduceIte, reduceCtorEq, Nat.reduceAdd, s1, z3y, e1])) | refine zqi ?_ | (refine J _ ?_; clear J K))
  (refine z4m (fun U st => ∃ (i : Nat), U = 1 - i /\ st.t 13 = .int .i64 0 /\ st.t 14 = .int .i64 0 /\ st.nx = nx' /\ (st.H = H')) ?_ ?_); rotate_left; (rintro U st ⟨i, rfl, q13, q14, qnx, qp0⟩); rotate_left
  ·(refine ⟨_, 0, rfl, ?_⟩); (simp (disch := omega) only [go_sem, Nat.reduceBEq, and_self])
  repeat' (first | ((refine zqh fun K J => ?_); (simp (disch := omega) only [go_sem, ↓reduceIte, Int.reduceLT, q13, q14])) | ((refine zqd _ rfl (fun hc => ?_) (fun hc => ?_)) <;> (first | (cases hc; done) | ((try simp only [] at hc); (try omega)))) | refine zqc ?_ | refine zqz ?_ | refine zqp ?_ | refine zqu (by simp only [go_sem]; rfl) rfl ?_ | (refine J _ ?_; clear J K))
  (simp (disch := omega) only [go_sem, qnx])
  rw [qp0, e2, z3s, hnil]
  rfl
 ·have e1 : kdD v = .osl r v.kids.length := by unfold kdD; rw [hr]
  (try (simp (disch := omega) only [go_sem])); repeat' (first | ((refine zqh fun K J => ?_); (simp (disch := omega) only [go_sem, Nat.reduceBEq, ↓reduceIte, reduceCtorEq, Nat.reduceAdd, s1, z3y, e1])) | refine zqi ?_ | (refine J _ ?_; clear J K))
  (refine z4m (fun U st => ∃ (i : _), U = v.kids.length - i /\ st.t 1 = .fn g cap /\ st.t 12 = .osl r v.kids.length /\ st.t 13 = .int .i64 v.kids.length /\ st.t 14 = .int .i64 i /\ st.nx = nx' /\ (i <= v.kids.length) /\ (st.H = z0k H k (some (zce step ((v.kids.take i).flatMap nodesV) (step v o))))) ?_ ?_); rotate_left; (rintro U st ⟨i, rfl, q1, q12, q13, q14, qnx, qp0, qp1⟩); rotate_left
  ·(refine ⟨_, 0, rfl, ?_⟩); (simp (disch := omega) only [go_sem, Nat.reduceBEq, true_and, Int.natCast_zero, List.flatMap_nil])
   exact e2
  have hFi : F st.H := by rw [qp1]; exact hF _ _ hFH
  have hsti := hS _ hFi v (z41 v)
  obtain ⟨_, s2i, s3i⟩ := (z29 _ v).1 hsti
  have hri : st.H r = some (.row 75 v.kids.length (v.kids.map fun k => .ptr k.num 0)) := by
   unfold zj9 at s2i; rw [hr] at s2i; exact s2i
  by_cases hi : i < v.kids.length
  ·have hgt : v.kids[i]? = some v.kids[i] := List.getElem?_eq_getElem hi
   have hkm := List.getElem_mem hi
   have hin := ih v.kids[i] hkm (zlr hs hkm) (fun w hw => hSv w (z2r hkm hw)) (fun H hFH w hw => hS H hFH w (z2r hkm hw)) (fun w hw => hv w (z2r hkm hw)) st.H nx' (zce step ((v.kids.take i).flatMap nodesV) (step v o)) (z42 hu hkm) hk (by rw [qp1]; exact z2u) (zwe hI _ (fun w hw => by
     obtain ⟨k2, hk2, hw2⟩ := List.mem_flatMap.1 hw
     exact hSv w (z2r (List.mem_of_mem_take hk2) hw2)) _ (hI _ _ (hSv v (z41 v)) hIo)) hFi
   repeat' (first | ((first | refine zqh fun K J => ?_ | refine zqr fun K J => ?_); (simp (disch := omega) only [go_sem, Nat.reduceBEq, ↓reduceIte, reduceCtorEq, Nat.reduceAdd, q1, q12, q13, q14, qnx, hri, hgt])) | ((refine zqd _ rfl (fun hc => ?_) (fun hc => ?_)) <;> (((try simp only [z0b] at hc); (try omega)))) | refine zqa ?_ | refine zqb ?_ | (refine J _ ?_; clear J K))
   refine z1m (hin.mono fun r2 H2 n2 ⟨e3, e4, e5⟩ => ?_)
   subst e3; subst e5
   (try (simp (disch := omega) only [go_sem])); repeat' (first | ((refine zqr fun K J => ?_); (simp (disch := omega) only [go_sem, Nat.reduceBEq, ↓reduceIte, q14])) | refine zqv ?_ | refine zqy ?_ | (refine J _ ?_; clear J K))
   have htk := List.take_succ_eq_append_getElem hi
   (refine Exists.intro _ (And.intro ?_ ⟨i + 1, rfl, ?_⟩)); rotate_left; (simp (disch := omega) only [go_sem, Nat.reduceBEq, q1, q12, q13, q14, true_and, Int.natCast_add, Int.natCast_one]); rotate_left
   ·omega
   ·refine ⟨by omega, ?_⟩
    rw [e4, qp1, z6b, htk, List.flatMap_append, zls]
    simp only [List.flatMap_cons, List.flatMap_nil, List.append_nil]
  ·repeat' (first | ((refine zqh fun K J => ?_); (simp (disch := omega) only [go_sem, ↓reduceIte, q13, q14])) | ((refine zqd _ rfl (fun hc => ?_) (fun hc => ?_)) <;> (((try simp only [z0b] at hc); (try omega)))) | refine zqc ?_ | refine zqz ?_ | refine zqp ?_ | refine zqu (by simp only [go_sem]; rfl) rfl ?_ | (refine J _ ?_; clear J K))
   have hi2 : i = v.kids.length := by omega
   subst hi2
   rw [List.take_length] at qp1
   refine ⟨rfl, ?_, qnx⟩
   (simp (disch := omega) only [go_sem])
   rw [qp1, z3s]; rfl
def z9l (id : Idv) (v : V) : D := match (nodesV v).find? (fun w => decide (w.own.id = id)) with
 | some w => .ptr w.num 0
 | none => .nptr
theorem rc_find (id : Idv) : ∀ v : V, szB (treeV v) = true -> ∀ H nx, Under nx v -> Stand H v -> RC prog 44 [.ptr v.num 0, z0n id] H nx (z9l id v) := by
 refine zdg fun v ih hs H nx hu hst => ?_
 obtain ⟨s1, s2, s3⟩ := (z29 H v).1 hst
 have hnum := hu _ (z4a v)
 have h3 : v.kids.length <= 1000000 := by
  obtain ⟨_, _, _, _, _, h3, _⟩ := (z2i _).1 hs
  rw [z1p, List.length_map] at h3; exact h3
 have hk0 := zf7 hst hu
 have hnb := z4h hnum
 have hlow : lowD nx (z9l id v) = true := by
  unfold z9l
  split
  ·rename_i w hw
   have := z3e hu (List.mem_of_find?_eq_some hw) _ (z4a w)
   simpa [lowD] using this
  ·rfl
 refine RC_low hlow (z14 [3000012, 3000013] func44 rfl (by decide +kernel) rfl ?_)
 show awp _ _ (Code.seq _ _) _ _
 have hfd : z9l id v = if v.own.id = id then .ptr v.num 0 else match (v.kids.flatMap nodesV).find? (fun w => decide (w.own.id = id)) with
  | some w => .ptr w.num 0
  | none => .nptr := by
  unfold z9l
  rw [z3s, List.find?_cons]
  by_cases e : v.own.id = id <;> simp [e]
 have hid : ∀ w : V, z9l id w = .nptr /\ (nodesV w).find? (fun w => decide (w.own.id = id)) = none \/ ∃ x, z9l id w = .ptr x.num 0 /\ (nodesV w).find? (fun w => decide (w.own.id = id)) = some x := fun w => by
  unfold z9l
  cases (nodesV w).find? (fun w => decide (w.own.id = id)) with
  | none => exact .inl ⟨rfl, rfl⟩
  | some x => exact .inr ⟨x, rfl, rfl⟩
 rcases hk0 with ⟨hr, hnil⟩ | ⟨r, hr, hrn, hrow⟩
 ·have e1 : kdD v = .nil := by unfold kdD; rw [hr]
  repeat' (first | refine zqj ?_ | ((first | refine zqh fun K J => ?_ | refine zqe (by decide +kernel) fun K J => ?_); (simp (disch := omega) only [go_sem, Nat.reduceBEq, Nat.reduceEqDiff, ↓reduceIte, reduceCtorEq, Nat.reduceAdd, Nat.reduceLeDiff, s1, hnb, z3y, e1])) | ((refine zqd _ rfl (fun hc => ?_) (fun hc => ?_)) <;> (((try simp only [z0b] at hc); (try omega)))) | refine zqa ?_ | refine zqb ?_ | refine zqg ?_ | refine zqu (by simp only [go_sem]; rfl) rfl ?_ | (refine J _ ?_; clear J K))
  ·(simp (disch := omega) only [go_sem, Nat.reduceBEq])
   rw [hfd, if_pos hc]
   exact ⟨rfl, fun j hj => by simp (disch := omega) only [z3m]⟩
  ·(refine z4m (fun U st => ∃ (i : Nat), U = 1 - i /\ st.t 20 = .int .i64 0 /\ st.t 21 = .int .i64 0 /\ (∀ j, j < nx -> st.H j = H j)) ?_ ?_); rotate_left; (rintro U st ⟨i, rfl, q20, q21, qp0⟩); rotate_left
   ·(refine ⟨_, 0, rfl, ?_⟩); (simp (disch := omega) only [go_sem, Nat.reduceBEq, true_and])
    exact fun j hj => by simp (disch := omega) only [z3m]
   repeat' (first | ((refine zqh fun K J => ?_); (simp (disch := omega) only [go_sem, ↓reduceIte, Int.reduceLT, q20, q21])) | ((refine zqd _ rfl (fun hc => ?_) (fun hc => ?_)) <;> (first | (cases hc; done) | ((try simp only [] at hc); (try omega)))) | refine zqc ?_ | refine zqn ?_ | refine zqv ?_ | refine zqz ?_ | refine zqp ?_ | refine zqu (by simp only [go_sem]; rfl) rfl ?_ | (refine J _ ?_; clear J K))
   (simp (disch := omega) only [go_sem, Nat.reduceBEq])
   rw [hfd, if_neg (by assumption), hnil]
   exact ⟨rfl, qp0⟩
 ·have e1 : kdD v = .osl r v.kids.length := by unfold kdD; rw [hr]
  have hrb := z4h hrn
  repeat' (first | refine zqj ?_ | ((first | refine zqh fun K J => ?_ | refine zqe (by decide +kernel) fun K J => ?_); (simp (disch := omega) only [go_sem, Nat.reduceBEq, Nat.reduceEqDiff, ↓reduceIte, reduceCtorEq, Nat.reduceAdd, Nat.reduceLeDiff, s1, hnb, z3y, e1])) | ((refine zqd _ rfl (fun hc => ?_) (fun hc => ?_)) <;> (((try simp only [z0b] at hc); (try omega)))) | refine zqa ?_ | refine zqb ?_ | refine zqg ?_ | refine zqu (by simp only [go_sem]; rfl) rfl ?_ | (refine J _ ?_; clear J K))
  ·(simp (disch := omega) only [go_sem, Nat.reduceBEq])
   rw [hfd, if_pos hc]
   exact ⟨rfl, fun j hj => by simp (disch := omega) only [z3m]⟩
  ·rw [hfd, if_neg (by assumption)]
   (refine z4m (fun U st => ∃ (i : _), U = v.kids.length - i /\ st.t 3 = .ptr nx 0 /\ st.t 19 = .osl r v.kids.length /\ st.t 20 = .int .i64 v.kids.length /\ st.t 21 = .int .i64 i /\ st.H (nx) = some (.box 23 [.int .i64 id.act, .int .i64 id.item, .int .i64 id.n]) /\ (i <= v.kids.length) /\ (nx + 1 <= st.nx) /\ (∀ j, j < nx -> st.H j = H j) /\ (((v.kids.take i).flatMap nodesV).find? (fun w => decide (w.own.id = id)) = none)) ?_ ?_); rotate_left; (rintro U st ⟨i, rfl, q3, q19, q20, q21, qHnx, qp0, qp1, qp2, qp3⟩); rotate_left
   ·(refine ⟨_, 0, rfl, ?_⟩); (simp (disch := omega) only [go_sem, Nat.reduceBEq, Nat.reduceLeDiff, true_and, Int.natCast_zero, List.flatMap_nil])
    exact ⟨Nat.le_refl _, (fun j hj => by simp (disch := omega) only [z3m]), rfl⟩
   have hri : st.H r = some (.row 75 v.kids.length (v.kids.map fun k => .ptr k.num 0)) := (qp2 r hrn).trans hrow
   by_cases hi : i < v.kids.length
   ·have hgt : v.kids[i]? = some v.kids[i] := List.getElem?_eq_getElem hi
    have hkm := List.getElem_mem hi
    have htk := List.take_succ_eq_append_getElem hi
    have hin := ih v.kids[i] hkm (zlr hs hkm) st.H st.nx (fun j hj => by have := z42 hu hkm j hj; omega) (Stand.on _ (fun j hj => qp2 j (z42 hu hkm j hj)) (s3 _ hkm))
    rcases hid v.kids[i] with ⟨hf, hfn⟩ | ⟨x, hf, hfn⟩
    ·rw [hf] at hin
     repeat' (first | ((first | refine zqh fun K J => ?_ | refine zqr fun K J => ?_ | refine z1d (hin) ?_); (simp (disch := omega) only [go_sem, Nat.reduceBEq, ↓reduceIte, reduceCtorEq, Nat.reduceAdd, Nat.reduceLeDiff, q3, q19, q20, q21, qHnx, hri, hgt])) | ((first | refine zqd _ rfl (fun hc => ?_) (fun hc => ?_) | refine zqm _ rfl (fun hc => ?_) (fun hc => ?_)) <;> (first | (cases hc; done) | ((try simp only [z0b] at hc); (try omega)))) | refine zqa ?_ | refine zqb ?_ | refine zqk ?_ | refine zqv ?_ | refine zqy ?_ | (refine J _ ?_; clear J K))
     (refine Exists.intro _ (And.intro ?_ ⟨i + 1, rfl, ?_⟩)); rotate_left; (simp (disch := omega) only [go_sem, Nat.reduceBEq, q3, q19, q20, q21, qHnx, true_and, Int.natCast_add, Int.natCast_one]); rotate_left
     ·omega
     ·refine ⟨by omega, by omega, qp2, ?_⟩
      rw [htk, List.flatMap_append, List.find?_append, qp3]
      simp [hfn]
    ·rw [hf] at hin
     repeat' (first | ((first | refine zqh fun K J => ?_ | refine z1d (hin) ?_); (simp (disch := omega) only [go_sem, Nat.reduceBEq, ↓reduceIte, reduceCtorEq, Nat.reduceAdd, Nat.reduceLeDiff, q3, q19, q20, q21, qHnx, hri, hgt])) | ((first | refine zqd _ rfl (fun hc => ?_) (fun hc => ?_) | refine zqm _ rfl (fun hc => ?_) (fun hc => ?_)) <;> (first | (cases hc; done) | ((try simp only [z0b] at hc); (try omega)))) | refine zqa ?_ | refine zqb ?_ | refine zqn ?_ | refine zqx ?_ | refine z6q ?_ | refine zqo ?_ | refine zqu (by simp only [go_sem]; rfl) rfl ?_ | (refine J _ ?_; clear J K))
     (simp (disch := omega) only [go_sem, Nat.reduceBEq])
     have : v.kids.flatMap nodesV = (v.kids.take i).flatMap nodesV ++ (nodesV v.kids[i] ++ (v.kids.drop (i + 1)).flatMap nodesV) := by
      rw [<- List.flatMap_cons, List.getElem_cons_drop, <- List.flatMap_append, List.take_append_drop]
     rw [this, List.find?_append, qp3, List.find?_append, hfn]
     exact ⟨rfl, qp2⟩
   ·repeat' (first | ((refine zqh fun K J => ?_); (simp (disch := omega) only [go_sem, ↓reduceIte, q20, q21])) | ((refine zqd _ rfl (fun hc => ?_) (fun hc => ?_)) <;> (((try simp only [z0b] at hc); (try omega)))) | refine zqc ?_ | refine zqn ?_ | refine zqv ?_ | refine zqz ?_ | refine zqp ?_ | refine zqu (by simp only [go_sem]; rfl) rfl ?_ | (refine J _ ?_; clear J K))
    have hi2 : i = v.kids.length := by omega
    subst hi2
    rw [List.take_length] at qp3
    (simp (disch := omega) only [go_sem, Nat.reduceBEq])
    rw [qp3]
    exact ⟨rfl, qp2⟩
end
section
open Abs Facts Go.Lib Go.RowKit
namespace Abs
variable {P : Program}
theorem z8a {N : Nat} {own : List Nat} {ops : Array Oper} {K : St -> Prop} {Q : Exit -> Act -> World -> Prop} {l2 : List Oper} : ∀ (l : List Oper) (st : St) (s : RS) (a : Act) (w : World),
  (∀ o ∈ l, z6s N o = true) -> z2p P own (znr ops) l K st -> Fr P N st s a w ->
  (∀ st' s' a' w', K st' -> Fr P N st' s' a' w' -> Step s w s' w' -> wpList P ops Q l2 a' w') -> wpList P ops Q (l ++ l2) a w
 | [], st, s, a, w, _, h, hf, hk => hk st s a w h hf (Step.refl s w)
 | o :: rest, st, s, a, w, hdst, h, hf, hk => by
  have ho := hdst o (by simp)
  have hrest : ∀ o' ∈ rest, z6s N o' = true := fun o' h' => hdst o' (List.mem_cons_of_mem _ h')
  simp only [z2p] at h
  rw [List.cons_append]
  unfold wpList
  rw [zbz] at h
  split at h
  ·rename_i hg
   rw [if_pos (z43 hf hg)]
   exact .inl (zby hf ho h fun st' s' a' w' J hf' hstep =>
    z8a rest st' s' a' w' hrest J hf' fun st2 s2 a2 w2 hK2 hf2 hstep2 => hk st2 s2 a2 w2 hK2 hf2 (hstep.trans hstep2))
  ·rename_i hg
   rw [if_neg (by rw [z43 hf hg]; simp)]
   exact z8a rest _ s _ w hrest h (hf.put0 ho zbx) hk
  ·cases h
theorem zpe {s : RS} : ∀ (n : Nat) (vs : List Value), vs.length = n -> relAll s (List.replicate n D.any) vs
 | 0, vs, h => by
  have : vs = [] := List.eq_nil_of_length_eq_zero h
  subst this; exact z15
 | n + 1, [], h => by simp at h
 | n + 1, v :: vs, h => by
  rw [List.replicate_succ]
  exact z0w (by simp [rel]) (zpe n vs (by simpa using h))
theorem zut {N rid : Nat} {own : List Nat} {l1 : List Oper} {ops : Array Oper} {x lo : Operand} {d : Nat} {t e ty ty2 : TypeId} {pos pos2 : String} {aft aft2 : Array Edge} {z : Value} {Q : Exit -> St -> Prop} {st : St}
  (hops : ops.toList = l1 ++ [⟨some d, .slice t x (some lo) none none, ty, pos, aft, none⟩, ⟨none, .call { callee := .builtin .clear, args := #[.tmp d], argTypes := #[t] }, ty2, pos2, aft2, none⟩])
  (hN : ∀ o ∈ l1, z6s N o = true) (hd : d < N) (ht : z1c P t = some e) (hsz : z09 P e ≠ 0) (hz : (P.info? e).bind (·.zero) = some z) (hzs : z.cells.size = z09 P e) (hz1 : ∀ v ∈ z.cells.toList, v.oneCell' = true)
  (h : z2p P own (znr ops) l1 (fun st1 => ∃ id n i cs, st1.ev x = .osl id n /\ st1.ev lo = .int .i64 (i : Nat) /\ st1.H id = some (.row e n cs) /\ i < n /\
   Q .normal (({ st1 with H := z0k st1.H id (some (.row e n (cs.take (i * z09 P e) ++ List.replicate ((n - i) * z09 P e) .any))) } : St).put (some d) .any)) st) : Sem P N (.region rid ops false) Q st := by
 intro s0 w0 s a w hf hs
 refine wp_region_list ?_
 rw [hops]
 refine z8a l1 st s a w hN h hf ?_
 rintro st1 s1 a1 w1 ⟨id, n, i, cs, hx, hlo, hH, hi, hQ⟩ hf1 hs1
 have hu := z2h ht
 obtain ⟨inf, hinf⟩ := z24 hsz
 have hso := z1w (P := P) hinf
 have hH1 : s1.H id = some (.row e n cs) := by rw [hf1.H]; exact hH
 have hvx := hf1.ev x
 rw [hx] at hvx
 have hvlo := hf1.ev lo
 rw [hlo] at hvlo
 simp only [rel] at hvx hvlo
 obtain ⟨hid, _, hlive⟩ := hvx
 have hv := (hlive _ _ _ hH1).2 rfl
 obtain ⟨vs, ho, hr, h1, hcl, _⟩ := z3g hf1.heap hH1
 have hvl := ho.1
 rcases ho.2 with ⟨_, rfl⟩ | ⟨g, cap, cur, hκ, _, hg, hnc, hcm, hcs, htake⟩
 ·omega
 rw [hκ] at hv
 have hgs : g < w1.heap.size := by
  rcases Nat.lt_or_ge g w1.heap.size with h9 | h9
  ·exact h9
  ·rw [Array.getElem?_eq_none h9] at hg; cases hg
 have hb := z47 (P := P) (len := n) (cap := cap) (lo := some (a1.eval lo)) (hi := none) (l := (i : Int)) (h := (n : Nat)) (w := w1) hnc (.inr ⟨.i64, by rw [hvlo]⟩) (.inl ⟨rfl, rfl⟩) (by omega) (by omega) (by omega)
 have hci : ¬ cap = i := by omega
 have hrun1 : (Instr.sliceAt t (a1.eval x) (some (a1.eval lo)) none none).run P w1 = .ok (.slice (some ⟨g, i * z09 P e, none⟩) (n - i) (cap - i)) w1 := by
  rw [hv]
  simp [Instr.sliceAt, Instr.slice, run_underlying hu, hb, hso, hci]
  simp [Addr.add]
  try exact fun h => h.symm
 have hzv : ∀ w, (zeroValue e).run P w = .ok z w := fun w => by
  cases hq : P.info? e with
  | none => rw [hq] at hz; cases hz
  | some i0 =>
   rw [hq] at hz
   have hz : i0.zero = some z := hz
   simp [zeroValue, typeInfo, hq, hz]
 have hcap : cur.size = cap * z09 P e := hcs
 have hmul : i * z09 P e + (n - i) * z09 P e = n * z09 P e := by rw [<- Nat.add_mul]; congr 1; omega
 have hmul2 : n * z09 P e <= cap * z09 P e := Nat.mul_le_mul_right _ hnc
 have hrun2 : ∀ dc, (Builtin.clear_ #[t] ty2 #[.slice (some ⟨g, i * z09 P e, none⟩) (n - i) dc]).run P w1 = .ok (.tuple #[]) (w1.setRow g (cur.toList.take (i * z09 P e) ++ (Builtin.zeroCells z.cells (n - i)).toList ++ cur.toList.drop (i * z09 P e + (n - i) * z09 P e)).toArray) := fun dc =>
  zca (P := P) w1 t e ty2 z (z09 P e) g (i * z09 P e) (n - i) dc cur hu hzv hzs hz1 (by omega) hg (by omega)
 unfold wpList
 have hw1 : Region.wanted (⟨some d, .slice t x (some lo) none none, ty, pos, aft, none⟩ : Oper) (yielded ops a1.tmps) = true := by simp [Region.wanted]
 rw [if_pos hw1]
 refine .inl ?_
 unfold Oper.wp
 have he1 : (execOp a1.eval ⟨some d, .slice t x (some lo) none none, ty, pos, aft, none⟩).run P w1 = .ok (.value (.slice (some ⟨g, i * z09 P e, none⟩) (n - i) (cap - i))) w1 := by
  unfold execOp
  simp [hrun1]
 rw [he1, Oper.upon_value]
 have hsz1 : d < a1.tmps.size := by rw [hf1.size]; exact hd
 have hdv : (a1.put (some d) (.slice (some ⟨g, i * z09 P e, none⟩) (n - i) (cap - i))).eval (.tmp d) = .slice (some ⟨g, i * z09 P e, none⟩) (n - i) (cap - i) := by
  simp [Act.put, Act.eval, Array.getD, hsz1]
 refine z8i _ rfl _ _ rfl _ hdv (hrun2 _) ?_
 unfold wpList
 have hzl : (Builtin.zeroCells z.cells (n - i)).toList.length = (n - i) * z09 P e := by rw [Array.length_toList, size_zeroCells, hzs]
 obtain ⟨zs, hzs2, hzl2⟩ : ∃ zs, zs = (Builtin.zeroCells z.cells (n - i)).toList /\ zs.length = (n - i) * z09 P e := ⟨_, rfl, hzl⟩
 have hz1' : z6i zs := by
  intro v hv'
  rw [hzs2] at hv'
  simp only [Builtin.zeroCells, Array.toList_map, Array.toList_range, List.mem_map, List.mem_range] at hv'
  obtain ⟨k, hk, rfl⟩ := hv'
  have h0 : 0 < z.cells.size := by omega
  have hkm := Nat.mod_lt k h0
  rw [getElem!_pos z.cells _ hkm]
  exact hz1 _ (by simp)
 rw [<- hzs2]
 have hcl2 : cur.toList.take (i * z09 P e) = vs.take (i * z09 P e) := by
  rw [<- htake, List.take_take]; congr 1; omega
 have hnew : ∀ (s' : RS), relAll s' cs vs -> relAll s' (cs.take (i * z09 P e) ++ List.replicate ((n - i) * z09 P e) .any) (vs.take (i * z09 P e) ++ zs) := fun s' hr' =>
  z1a (z3n _ hr') (zpe _ _ hzl2)
 have hbk : blockOf (s1.κ id) = some g := by rw [hκ]; rfl
 obtain ⟨g1, g2⟩ := z87 (w' := w1.setRow g (cur.toList.take (i * z09 P e) ++ zs ++ cur.toList.drop (i * z09 P e + (n - i) * z09 P e)).toArray) hf1.heap id (.row e n cs) (.row e n (cs.take (i * z09 P e) ++ List.replicate ((n - i) * z09 P e) .any)) (s1.κ id) hH1 rfl rfl rfl (by simp [World.setRow])
  (fun k hk hne => by
   simp only [World.setRow, Array.getElem?_modify]
   rw [if_neg (fun h => hne (by rw [hbk, h]))])
  (.inr ⟨n, _, rfl, Nat.le_refl _, fun _ => rfl⟩) (fun b hb => .inl hb)
  (fun hl => ⟨vs.take (i * z09 P e) ++ zs, ⟨by rw [List.length_append, List.length_take, hzl2]; omega, .inr ⟨g, cap, (cur.toList.take (i * z09 P e) ++ zs ++ cur.toList.drop (i * z09 P e + (n - i) * z09 P e)).toArray, hκ, Nat.zero_le _, by
    simp [World.setRow, Array.getElem?_modify, hg], hnc, hcm, by
    rw [List.size_toArray, List.length_append, List.length_append, List.length_take, hzl2, List.length_drop, Array.length_toList]; omega, by
    have hll : (cur.toList.take (i * z09 P e) ++ zs).length = n * z09 P e := by rw [List.length_append, List.length_take, hzl2, Array.length_toList]; omega
    rw [<- hcl2]
    show List.take _ (cur.toList.take (i * z09 P e) ++ zs ++ cur.toList.drop (i * z09 P e + (n - i) * z09 P e)) = _
    exact List.take_left' hll⟩⟩, hnew _ (relAll.later hl _ _ hr), z32 (z7l h1 _) hz1'⟩)
 refine ⟨_, _, hQ, ?_, hs.trans (hs1.trans g1)⟩
 have hp := hf1.put (o := ⟨some d, .slice t x (some lo) none none, ty, pos, aft, none⟩) g1.later g2 (by simp only [z6s, decide_eq_true_eq]; exact hd) (d := .any) (v := .slice (some ⟨g, i * z09 P e, none⟩) (n - i) (cap - i)) (by simp [rel]) (H := z0k st1.H id (some (.row e n (cs.take (i * z09 P e) ++ List.replicate ((n - i) * z09 P e) .any)))) (nx := st1.nx) (by simp only [RS.set, hf1.H]) (by simp only [RS.set, hf1.nx])
 exact hp
theorem zuu {N rid : Nat} {own : List Nat} {l1 : List Oper} {ops : Array Oper} {x : Operand} {d : Nat} {t e ty ty2 : TypeId} {pos : String} {aft : Array Edge} {Q : Exit -> St -> Prop} {st : St}
  (hops : ops.toList = l1 ++ [⟨some d, .binOp .eql t x (.const (.slice none 0 0)) ty2, ty, pos, aft, none⟩])
  (hN : ∀ o ∈ l1, z6s N o = true) (hd : d < N) (ht : z1c P t = some e)
  (h : z2p P own (znr ops) l1 (fun st1 => ∃ id n cs, st1.ev x = .osl id n /\ st1.H id = some (.row e n cs) /\ Q .normal (st1.put (some d) (.bool false)) /\ (n = 0 -> Q .normal (st1.put (some d) (.bool true)))) st) : Sem P N (.region rid ops false) Q st := by
 intro s0 w0 s a w hf hs
 refine wp_region_list ?_
 rw [hops]
 refine z8a l1 st s a w hN h hf ?_
 rintro st1 s1 a1 w1 ⟨id, n, cs, hx, hH, hQf, hQt⟩ hf1 hs1
 have hu := z2h ht
 have hH1 : s1.H id = some (.row e n cs) := by rw [hf1.H]; exact hH
 have hvx := hf1.ev x
 rw [hx] at hvx
 simp only [rel] at hvx
 obtain ⟨hid, _, hlive⟩ := hvx
 have hv := (hlive _ _ _ hH1).2 rfl
 obtain ⟨vs, ho, hr, h1, hcl, _⟩ := z3g hf1.heap hH1
 obtain ⟨ad, m, c, hsl, hb⟩ : ∃ ad m c, a1.eval x = .slice ad m c /\ (ad.isNone = true -> n = 0) := by
  rcases ho.2 with ⟨h0, e1⟩ | ⟨g, cap, cur, hκ, _⟩
  ·exact ⟨none, 0, 0, by rw [hv, h0], fun _ => e1⟩
  ·exact ⟨_, _, _, by rw [hv, hκ], fun h => by cases h⟩
 have hcv : a1.eval (.const (.slice none 0 0)) = .slice none 0 0 := rfl
 have hbin : (binOp .eql t (.slice ad m c) (.slice none 0 0)).run P w1 = .ok (.bool ad.isNone) w1 := z8n (z9g hu ad m c w1) (by simp) (by simp) (by simp) (by simp)
 unfold wpList
 have hw1 : Region.wanted (⟨some d, .binOp .eql t x (.const (.slice none 0 0)) ty2, ty, pos, aft, none⟩ : Oper) (yielded ops a1.tmps) = true := by simp [Region.wanted]
 rw [if_pos hw1]
 refine .inl ?_
 unfold Oper.wp
 have he1 : (execOp a1.eval ⟨some d, .binOp .eql t x (.const (.slice none 0 0)) ty2, ty, pos, aft, none⟩).run P w1 = .ok (.value (.bool ad.isNone)) w1 := by
  unfold execOp
  simp [hsl, hcv, z48, hbin]
 rw [he1, Oper.upon_value]
 unfold wpList
 have hp := hf1.put0 (o := ⟨some d, .binOp .eql t x (.const (.slice none 0 0)) ty2, ty, pos, aft, none⟩) (by simp only [z6s, decide_eq_true_eq]; exact hd) (d := .bool ad.isNone) (v := .bool ad.isNone) (by simp [rel])
 refine ⟨_, _, ?_, hp, hs.trans hs1⟩
 cases ha : ad.isNone with
 | true => exact hQt (hb ha)
 | false => exact hQf
theorem zrs {N rid : Nat} {own : List Nat} {l1 : List Oper} {ops : Array Oper} {x hiO : Operand} {d d2 : Nat} {t e ty ty2 : TypeId} {pos pos2 : String} {aft aft2 : Array Edge} {Q : Exit -> St -> Prop} {st : St}
  (hops : ops.toList = l1 ++ [⟨some d, .slice t x none (some hiO) none, ty, pos, aft, none⟩, ⟨some d2, .assign (.tmp d), ty2, pos2, aft2, none⟩])
  (hN : ∀ o ∈ l1, z6s N o = true) (hd : d < N) (hd2 : d2 < N) (ht : z1c P t = some e) (hsz : z09 P e ≠ 0)
  (h : z2p P own (znr ops) l1 (fun st1 => ∃ id n i cs, st1.ev x = .osl id n /\ st1.ev hiO = .int .i64 (i : Nat) /\ st1.H id = some (.row e n cs) /\ i <= n /\ 0 < n /\
   Q .normal ((({ st1 with H := z0k (z0k st1.H id none) st1.nx (some (.row e i (cs.take (i * z09 P e)))), nx := st1.nx + 1 } : St).put (some d) (.osl st1.nx i)).put (some d2) (.osl st1.nx i))) st) : Sem P N (.region rid ops false) Q st := by
 intro s0 w0 s a w hf hs
 refine wp_region_list ?_
 rw [hops]
 refine z8a l1 st s a w hN h hf ?_
 rintro st1 s1 a1 w1 ⟨id, n, i, cs, hx, hhi, hH, hi, hn, hQ⟩ hf1 hs1
 have hu := z2h ht
 obtain ⟨inf, hinf⟩ := z24 hsz
 have hso := z1w (P := P) hinf
 have hH1 : s1.H id = some (.row e n cs) := by rw [hf1.H]; exact hH
 have hvx := hf1.ev x
 rw [hx] at hvx
 have hvhi := hf1.ev hiO
 rw [hhi] at hvhi
 simp only [rel] at hvx hvhi
 obtain ⟨hid, _, hlive⟩ := hvx
 have hv := (hlive _ _ _ hH1).2 rfl
 obtain ⟨vs, ho, hr, h1, hcl, _⟩ := z3g hf1.heap hH1
 have hvl := ho.1
 rcases ho.2 with ⟨_, h0⟩ | ⟨g, cap, cur, hκ, _, hg, hnc, hcm, hcs, htake⟩
 ·omega
 rw [hκ] at hv
 have hb := z47 (P := P) (len := n) (cap := cap) (lo := none) (hi := some (a1.eval hiO)) (l := 0) (h := (i : Nat)) (w := w1) hnc (.inl ⟨rfl, rfl⟩) (.inr ⟨.i64, by rw [hvhi]⟩) (by omega) (by omega) (by omega)
 have hrun1 : (Instr.sliceAt t (a1.eval x) none (some (a1.eval hiO)) none).run P w1 = .ok (.slice (some ⟨g, 0, none⟩) i cap) w1 := by
  rw [hv]
  simp [Instr.sliceAt, Instr.slice, run_underlying hu, hb, hso]
  exact fun _ => by simp [Addr.add]
 let v' : Value := .slice (some ⟨g, 0, none⟩) i cap
 unfold wpList
 have hw1 : Region.wanted (⟨some d, .slice t x none (some hiO) none, ty, pos, aft, none⟩ : Oper) (yielded ops a1.tmps) = true := by simp [Region.wanted]
 rw [if_pos hw1]
 refine .inl ?_
 unfold Oper.wp
 have he1 : (execOp a1.eval ⟨some d, .slice t x none (some hiO) none, ty, pos, aft, none⟩).run P w1 = .ok (.value v') w1 := by
  unfold execOp
  simp [hrun1]
  rfl
 rw [he1, Oper.upon_value]
 have hsz1 : d < a1.tmps.size := by rw [hf1.size]; exact hd
 have hdv : (a1.put (some d) v').eval (.tmp d) = v' := by
  simp [Act.put, Act.eval, Array.getD, hsz1]
 have hbk : blockOf (s1.κ id) = some g := by rw [hκ]; rfl
 obtain ⟨g1, g2⟩ := zr8 (w' := w1) hf1.heap id (.row e i (cs.take (i * z09 P e))) v' hH1 rfl rfl rfl (Nat.le_refl _) (fun _ _ _ => rfl) (fun b hb => .inl (by rw [hbk]; exact hb))
  (fun hl => ⟨vs.take (i * z09 P e), ⟨by rw [List.length_take, Nat.min_eq_left]; rw [hvl]; exact Nat.mul_le_mul_right _ hi, .inr ⟨g, cap, cur, rfl, Nat.zero_le _, hg, by omega, hcm, hcs, by
   rw [<- htake, List.take_take, Nat.min_eq_left]; exact Nat.mul_le_mul_right _ hi⟩⟩, z3n _ (relAll.later hl _ _ hr), z7l h1 _⟩)
 have hrelv : rel (mvS s1 id v' (.row e i (cs.take (i * z09 P e)))) (.osl s1.nx i) v' := by
  simp only [rel]
  refine ⟨Nat.lt_succ_self _, ⟨_, _, rfl⟩, fun e2 k2 cs2 hH2 => ?_⟩
  simp only [mvS, z0k, if_true, Option.some.injEq, HObj.row.injEq] at hH2
  obtain ⟨_, rfl, _⟩ := hH2
  exact ⟨Nat.le_refl _, fun _ => by simp [mvS]⟩
 have hp := hf1.put (o := ⟨some d, .slice t x none (some hiO) none, ty, pos, aft, none⟩) g1.later g2 (by simp only [z6s, decide_eq_true_eq]; exact hd) (d := .osl s1.nx i) (v := v') hrelv (H := z0k (z0k st1.H id none) st1.nx (some (.row e i (cs.take (i * z09 P e))))) (nx := st1.nx + 1) (by simp only [mvS, hf1.H, hf1.nx]) (by simp only [mvS, hf1.nx])
 have hp2 := hp.put0 (o := ⟨some d2, .assign (.tmp d), ty2, pos2, aft2, none⟩) (by simp only [z6s, decide_eq_true_eq]; exact hd2) (d := .osl s1.nx i) (v := v') hrelv
 unfold wpList
 have hw2 : Region.wanted (⟨some d2, .assign (.tmp d), ty2, pos2, aft2, none⟩ : Oper) (yielded ops (a1.put (some d) v').tmps) = true := by simp [Region.wanted]
 rw [if_pos hw2]
 refine .inl ?_
 unfold Oper.wp
 have he2 : (execOp (a1.put (some d) v').eval ⟨some d2, .assign (.tmp d), ty2, pos2, aft2, none⟩).run P w1 = .ok (.value v') w1 := by
  unfold execOp
  simp [hdv]
 rw [he2, Oper.upon_value]
 unfold wpList
 rw [hf1.nx] at hp2
 exact ⟨_, _, hQ, hp2, hs.trans (hs1.trans g1)⟩
end Abs
end
end Go.Proofs.YtmnabhhdiinfaaaGreatDoor
