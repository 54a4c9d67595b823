import Derived.Test.YtlfohdkfpdkhhaaGreatDoorWD
/-
 Lemmas of the claim. No condition but those that each names.
-/
set_option linter.unusedSimpArgs false
set_option linter.unusedVariables false
set_option maxRecDepth 100000
set_option maxHeartbeats 8000000
set_option linter.unusedSectionVars false
namespace Go.Proofs.YtlfohdkfpdkhhaaGreatDoor
section
open Abs Facts Tr
attribute [local irreducible] awp
namespace Abs
theorem znu {P : Program} {own : List Nat} {n : FuncId} {args cap : List D} {g : List Oper -> (St -> Prop) -> St -> Prop} {rest : List Oper} {K : St -> Prop} {st : St} {dst : Option Nat} {r : D} {H : HM} {nx : Nat}
  (h : AC P n (args ++ cap) st.H st.nx fun r' H' nx' => r' = r /\ H' = H /\ nx' = nx) (h0 : z0v 5000000 own dst = false) (hm : z0v 4000000 own dst = true) (hs : z8p st H nx) (hk : g rest K ((st.withH H nx).put dst r)) (ht : tcM own dst = none := by rfl) : zmk P own (.fn n cap) args g rest K st dst :=
 .inr (.inr ⟨h0, hm, r, H, nx, h, .inl ⟨ht, hs⟩, hk⟩)
theorem zjp {P : Program} {st : St} {b j : Nat} {e : TypeId} {cs : List D} {d : D} (hb : st.H b = some (.box e cs)) (V : cs = [d] \/ d = .agg cs) (hp : pureD d = true) (hj : st.t j = .ptr b 0) :
  SealTo P st ((st.withH (z14 st.H b none) st.nx).put (some j) (.rptr d)) := by
 intro N s a w hf
 have hHb : s.H b = some (.box e cs) := by rw [hf.H]; exact hb
 obtain ⟨k, vs, hk, _, hr, h1, hc⟩ := zc7 hf.heap hHb
 obtain ⟨g1, g2⟩ := zal hf.heap (id := b) (by rw [hHb]; simp)
 refine ⟨s.shut1 w b, ⟨?_, hf.nx, hf.size, hf.defers, fun i => ?_, g2⟩, g1⟩
 ·show z14 s.H b none = _
  rw [hf.H]; rfl
 ·by_cases hij : i = j
  ·subst hij
   have ht := hf.tmps i
   rw [hj] at ht
   simp only [rel] at ht
   obtain ⟨_, _, h3⟩ := ht
   obtain ⟨k', hk', hv⟩ := h3 _ _ hHb
   rw [hk] at hk'
   simp only [Value.pointer.injEq, Option.some.injEq, Addr.mk.injEq, and_true] at hk'
   subst hk'
   show rel _ (zzs st.t i (.rptr d) i) _
   rw [show zzs st.t i (.rptr d) i = .rptr d from if_pos rfl]
   simp only [rel]
   have hm : ∀ (q : Nat) c, vs[q]? = some c -> (s.shut1 w b).m ⟨k, q, none⟩ = some c := fun q c hq => by
    unfold RS.shut1
    simp only
    rw [if_pos (by rw [hk]; rfl)]
    exact hc q c hq
   rcases V with V | V
   ·subst V
    simp only [relAll] at hr
    obtain ⟨v, r, rfl, hrv, rfl⟩ := hr
    refine ⟨_, v, hv, rel.later g1.later _ _ hrv, fun q c hq => ?_⟩
    rw [z25 (h1 v (by simp))] at hq
    rw [z13, Nat.zero_add]
    exact hm q c (by simpa using hq)
   ·subst V
    refine ⟨_, .agg vs.toArray, hv, ?_, fun q c hq => ?_⟩
    ·simp only [rel]
     exact ⟨vs, rfl, relAll.later g1.later _ _ hr, h1⟩
    ·rw [z13, Nat.zero_add]
     exact hm q c (by simpa [Value.cells] using hq)
  ·show rel _ (zzs st.t j (.rptr d) i) _
   rw [show zzs st.t j (.rptr d) i = st.t i from if_neg hij]
   exact rel.later g1.later _ _ (hf.tmps i)
theorem zpi {st : St} {id : Nat} {o o' : HObj} (h0 : st.H id = some o) (hid : id < st.nx) (hb : ∀ e cs, o ≠ .box e cs) (hb' : ∀ e cs, o' ≠ .box e cs) : z8p st (z14 (z14 st.H id none) st.nx (some o')) (st.nx + 1) := by
 have h := zh3 st (zfd st hb') (id0 := id) (o := o) (by unfold z14; rw [if_neg (by omega)]; exact h0) hb
 have e : z14 (z14 st.H st.nx (some o')) id none = z14 (z14 st.H id none) st.nx (some o') := by
  funext j
  unfold z14
  by_cases h1 : j = id
  ·rw [if_pos h1, if_neg (by omega), if_pos h1]
  ·rw [if_neg h1]
   by_cases h2 : j = st.nx
   ·rw [if_pos h2, if_pos h2]
   ·rw [if_neg h2, if_neg h2, if_neg h1]
 rw [e] at h; exact h
def z1a (t : T) : List D := [.int .i64 t.id.act, .int .i64 t.id.item, .int .i64 t.id.n, .int .i64 t.kind, .str t.label, z0q t.head, z0q t.words, z18 t.kids]
end Abs
theorem zcl {P : Program} {H : HM} (k : Nat) {t : T} {d : D} (V : z2p P H (k + 1) d = some (z18 t.kids)) (hp : pureD d = false) :
  z2p P H (k + 2) (.agg [.int .i64 t.id.act, .int .i64 t.id.item, .int .i64 t.id.n, .int .i64 t.kind, .str t.label, z0q t.head, z0q t.words, d]) = some (z0h t) := by
 rw [z0h, z0s]
 refine z58 (k + 1) ?_ (z00 (z03 k rfl) (z00 (z03 k rfl) (z00 (z03 k rfl) (z00 (z03 k rfl) (z00 (z03 k rfl) (z00 (z03 k (z0k _)) (z00 (z03 k (z0k _)) (z00 V z08))))))))
 simp only [pureD.pureL, hp, Bool.and_false, Bool.false_and]
theorem pc_at (id : Idv) (f : T -> T) {g : FuncId} {cap : List D} (hc : pureD.pureL cap = true) : ∀ t : T, szB t = true -> (∀ x ∈ z0l t, x.id = id -> PC Tryz.prog g (z0h x :: cap) (z0h (f x))) ->
  PC Tryz.prog 170 [z0h t, z0p id, .fn g cap] (.tup [z0h (atR id f t).1, .bool (atR id f t).2]) := by
 refine z5p fun t ih hs hg => ?_
 obtain ⟨h0, h1, g1, h2, g2, h3, h4⟩ := (z2w t).1 hs
 have ct := z7l t.kids h3
 refine z1c 5 (by simp only [pureD.pureL, z01, pureD, hc, Bool.and_self]; rfl) (by simp only [pureD, pureD.pureL, z01, Bool.and_self]) (z17 [] Tryz.func170 rfl (by decide +kernel) z0e (by decide +kernel) (by simp [Tryz.ntmps170]) ?_)
 show awp _ _ (Code.seq _ _) _ _
 rw [show Tryz.f170.results.toList = [.cell 6 27, .tmp 7] from rfl]
 rw [show z0h t = .agg _ from by rw [z0h, z0s]]
 by_cases hid : t.id = id
 ·have hgt := hg t (z2j t) hid
  rw [show z0h t = .agg _ from by rw [z0h, z0s]] at hgt
  rw [zoa hid]
  have hidd : decide (t.id = id) = true := decide_eq_true hid
  repeat' (first | refine zqj ?_ | ((first | refine zqh fun K J => ?_ | refine zqs (hgt) ?_); (simp (disch := omega) only [go_sem, Nat.reduceBEq, ↓reduceIte, reduceCtorEq, Nat.reduceAdd, Nat.reduceLeDiff, hidd])) | ((refine zqd _ rfl (fun hc => ?_) (fun hc => ?_)) <;> (first | (cases hc; done) | ((try simp only [] at hc); (try (exfalso; omega))))) | refine zqg ?_ | refine zqu (by (simp (disch := omega) only [go_sem, Nat.reduceBEq, ↓reduceIte, Nat.reduceLeDiff]); rfl) rfl ?_ | (refine J _ ?_; clear J K))
  exact z0j (by simp only [pureD, pureD.pureL, z05, Bool.and_self]) (Le.refl _)
 ·have hidd : decide (t.id = id) = false := decide_eq_false hid
  repeat' (first | refine zqj ?_ | ((refine zqh fun K J => ?_); (simp (disch := omega) only [go_sem, Nat.reduceBEq, ↓reduceIte, reduceCtorEq, Nat.reduceAdd, Nat.reduceLeDiff, hidd])) | ((refine zqd _ rfl (fun hc => ?_) (fun hc => ?_)) <;> (first | (cases hc; done) | ((try simp only [] at hc); (try (exfalso; omega))))) | refine zqa ?_ | refine zqb ?_ | (refine J _ ?_; clear J K))
  (refine z4t (fun U st => ∃ (i : _), U = t.kids.length - i /\ st.t 2 = .fn g cap /\ st.t 3 = .ptr 0 0 /\ st.t 4 = .ptr 1 0 /\ st.t 6 = .ptr 2 0 /\ st.t 20 = z18 t.kids /\ st.t 21 = .int .i64 t.kids.length /\ st.t 22 = .int .i64 i /\ st.H 0 = some (.box 27 (z1a t)) /\ st.H 1 = some (.box 23 (z0d id)) /\ st.H 2 = some (.box 27 [.int .i64 0, .int .i64 0, .int .i64 0, .int .i64 0, .str ByteArray.empty, .nil, .nil, .nil]) /\ (i <= t.kids.length) /\ (3 <= st.nx) /\ (∀ j, (hj : j < i) -> (h : j < t.kids.length) -> (atR id f t.kids[j]).2 = false)) ?_ ?_); rotate_left; (rintro U st ⟨i, rfl, q2, q3, q4, q6, q20, q21, q22, qH0, qH1, qH2, qp0, qp1, qp2⟩); rotate_left
  ·(refine ⟨_, 0, rfl, ?_⟩); (simp (disch := omega) only [go_sem, Nat.reduceBEq, Nat.reduceLeDiff, true_and, Int.natCast_zero, z1a, z0d, z18])
   intro j hj; omega
  by_cases hi : i < t.kids.length
  ·have hin := ih t.kids[i] (List.getElem_mem hi) (h4 _ (List.getElem_mem hi)) (fun x hx => hg x (z34 (List.getElem_mem hi) hx))
   have hst : z1e (t.kids.flatMap z0b) (i * 8) (z0b (atR id f t.kids[i]).1) = (t.kids.set i (atR id f t.kids[i]).1).flatMap z0b := z9n z0f hi
   have hln := zfi t.kids
   by_cases hf : (atR id f t.kids[i]).2 = true
   ·rw [hf] at hin
    repeat' (first | ((first | refine zqh fun K J => ?_ | refine zqs (hin) ?_ | refine z5s (ct) ?_); (simp (disch := omega) only [go_sem, Nat.reduceBEq, Nat.reduceBeqDiff, ↓reduceIte, reduceCtorEq, Nat.reduceAdd, Nat.reduceLeDiff, Nat.reduceLT, q2, q3, q4, q6, q20, q21, q22, qH0, qH1, qH2, z1a, z18, z0d, zgi, hst, hln, List.set_cons_succ, List.set_cons_zero])) | ((first | refine zqd _ rfl (fun hc => ?_) (fun hc => ?_) | refine zqm _ rfl (fun hc => ?_) (fun hc => ?_)) <;> (first | (cases hc; done) | ((try simp only [z09] at hc); (try (exfalso; omega))))) | refine zqa ?_ | refine zqb ?_ | refine zqn ?_ | refine zqx ?_ | refine z7e ?_ | refine zqo ?_ | refine zqu (by (simp (disch := omega) only [go_sem, Nat.reduceBEq, Nat.reduceBeqDiff, ↓reduceIte, Nat.reduceAdd, Nat.reduceLeDiff, q6, qH2]); rfl) rfl ?_ | (refine J _ ?_; clear J K))
    rw [zva hid hi qp2 hf]
    refine z57 (zt6 4 (by simp only [pureD.pureL, pureD, Bool.and_false, Bool.false_and]) (z00 (zcl 2 (t := t.setKids (t.kids.set i (atR id f t.kids[i]).1)) (z1q (f := z0b) (l := t.kids.set i (atR id f t.kids[i]).1) 1 (by simp) ?_ z0i z31 z0f z05) rfl) (z00 (z03 3 rfl) z08)))
    (simp (disch := omega) only [go_sem])
   ·rw [Bool.not_eq_true] at hf
    rw [hf] at hin
    repeat' (first | ((first | refine zqh fun K J => ?_ | refine zqr fun K J => ?_ | refine zqs (hin) ?_); (simp (disch := omega) only [go_sem, Nat.reduceBEq, ↓reduceIte, reduceCtorEq, Nat.reduceAdd, Nat.reduceLeDiff, q2, q4, q20, q21, q22, qH1, z18, z0d])) | ((first | refine zqd _ rfl (fun hc => ?_) (fun hc => ?_) | refine zqm _ rfl (fun hc => ?_) (fun hc => ?_)) <;> (first | (cases hc; done) | ((try simp only [z09] at hc); (try (exfalso; omega))))) | refine zqa ?_ | refine zqb ?_ | refine zqk ?_ | refine zqv ?_ | refine zqy ?_ | (refine J _ ?_; clear J K))
    (refine Exists.intro _ (And.intro ?_ ⟨i + 1, rfl, ?_⟩)); rotate_left; (simp (disch := omega) only [go_sem, Nat.reduceBEq, Nat.reduceLeDiff, q2, q3, q4, q6, q20, q21, q22, qH0, qH1, qH2, true_and, Int.natCast_add, Int.natCast_one, z1a, z18, z0d]); rotate_left
    ·omega
    ·refine ⟨by omega, by omega, fun j hj h => ?_⟩
     by_cases e : j = i
     ·subst e; exact hf
     ·exact qp2 j (by omega) h
  ·repeat' (first | ((refine zqh fun K J => ?_); (simp (disch := omega) only [go_sem, Nat.reduceBEq, ↓reduceIte, Nat.reduceAdd, Nat.reduceLeDiff, q3, q6, q21, q22, qH0, qH2, z1a, z18])) | ((refine zqd _ rfl (fun hc => ?_) (fun hc => ?_)) <;> (((try simp only [z09] at hc); (try (exfalso; omega))))) | refine zqc ?_ | refine zqn ?_ | refine zqv ?_ | refine zqz ?_ | refine zqp ?_ | refine zqu (by (simp (disch := omega) only [go_sem, Nat.reduceBEq, ↓reduceIte, Nat.reduceAdd, Nat.reduceLeDiff, q6, qH2]); rfl) rfl ?_ | (refine J _ ?_; clear J K))
   rw [zob hid fun j h => qp2 j (by omega) h, z0h, z0s]
   exact z0j (by simp only [pureD, pureD.pureL, z0k, zr1, Bool.and_self]) (Le.refl _)
theorem zex (t : T) (hs : szB t = true) (id : Idv) (f : T -> T) {g : FuncId} {cap : List D} (hc : pureD.pureL cap = true) (hg : ∀ x ∈ z0l t, x.id = id -> PC Tryz.prog g (z0h x :: cap) (z0h (f x))) :
  PC Tryz.prog 120 [z0h t, z0p id, .fn g cap] (z0h (atR id f t).1) := by
 have c1 := zcy t hs
 have c2 := pc_at id f hc t hs hg
 refine z1c 1 (by simp only [pureD.pureL, z01, pureD, hc, Bool.and_self]; rfl) (z01 _) (z17 [3000010, 5000011, 3000012, 5000014] Tryz.func120 rfl (by decide +kernel) z0e (by decide +kernel) (by simp [Tryz.ntmps120]) ?_)
 show awp _ _ (Code.seq _ _) _ _
 rw [show Tryz.f120.results.toList = [.cell 6 27] from rfl]
 repeat' (first | ((first | refine zqh fun K J => ?_ | refine zqe (by decide +kernel) fun K J => ?_ | refine zqt (c1) ?_ | refine zqt (c2) ?_); (simp (disch := omega) only [go_sem, Nat.reduceBEq, Nat.reduceEqDiff, ↓reduceIte, Nat.reduceAdd, Nat.reduceLeDiff])) | refine zqn ?_ | refine zqu (by (simp (disch := omega) only [go_sem, Nat.reduceBEq, ↓reduceIte, Nat.reduceLeDiff]); rfl) rfl ?_ | (refine J _ ?_; clear J K))
 exact z0j (z01 _) (Le.refl _)
theorem zy7 (l : List T) (i : Nat) (x : T) : (l.flatMap z0b).take (i * 8) ++ z0b x ++ (l.flatMap z0b).drop (i * 8) = (l.take i ++ x :: l.drop i).flatMap z0b := by
 have h1 : (l.flatMap z0b).take (i * 8) = (l.take i).flatMap z0b := by
  by_cases hi : i <= l.length
  ·have e : l.flatMap z0b = (l.take i).flatMap z0b ++ (l.drop i).flatMap z0b := by rw [<- List.flatMap_append, List.take_append_drop]
   rw [e, List.take_append_of_le_length (by rw [z55 z0f, List.length_take]; omega), List.take_of_length_le (by rw [z55 z0f, List.length_take]; omega)]
  ·rw [List.take_of_length_le (by rw [z55 z0f]; omega), List.take_of_length_le (by omega)]
 rw [h1, zca z0f, List.flatMap_append, List.flatMap_cons, List.append_assoc]
theorem zy8 (l : List T) (i : Nat) : (l.flatMap z0b).take (i * 8) ++ (l.flatMap z0b).drop ((i + 1) * 8) = (l.eraseIdx i).flatMap z0b := by
 have h1 : (l.flatMap z0b).take (i * 8) = (l.take i).flatMap z0b := by
  by_cases hi : i <= l.length
  ·have e : l.flatMap z0b = (l.take i).flatMap z0b ++ (l.drop i).flatMap z0b := by rw [<- List.flatMap_append, List.take_append_drop]
   rw [e, List.take_append_of_le_length (by rw [z55 z0f, List.length_take]; omega), List.take_of_length_le (by rw [z55 z0f, List.length_take]; omega)]
  ·rw [List.take_of_length_le (by rw [z55 z0f]; omega), List.take_of_length_le (by omega)]
 rw [h1, zca z0f, <- List.flatMap_append, List.eraseIdx_eq_take_drop_succ]
theorem zth (i : Nat) (x : T) (hx : szB x = true) (q : T) (hq : szB q = true) (hi : i <= q.kids.length) : PC Tryz.prog 179 [z0h q, .rptr (.int .i64 i), .rptr (z0h x)] (z0h (z8q i x q)) := by
 obtain ⟨h0, h1, g1, h2, g2, h3, h4⟩ := (z2w q).1 hq
 have c1 := zcy x hx
 have ct := z7l q.kids h3
 refine z1c 5 (by simp only [pureD.pureL, z01, pureD, Bool.and_self]) (z01 _) (z17 [3000006, 4000007, 3000008, 3000009, 5000010, 4000012] Tryz.func179 rfl (by decide +kernel) z0e (by decide +kernel) (by simp [Tryz.ntmps179]) ?_)
 show awp _ _ (Code.seq _ _) _ _
 rw [show Tryz.f179.results.toList = [.cell 4 27] from rfl]
 rw [show z0h q = .agg _ from by rw [z0h, z0s]]
 repeat' (first | ((first | refine zqh fun K J => ?_ | refine zqe (by decide +kernel) fun K J => ?_ | refine zqt (c1) ?_ | refine z50 (ct) rfl rfl rfl ?_); (simp (disch := omega) only [go_sem, Nat.reduceBEq, Nat.reduceEqDiff, ↓reduceIte, reduceCtorEq, Nat.reduceAdd, Nat.reduceMul, Nat.reduceLeDiff, zgi])) | (refine J _ ?_; clear J K))
 refine znu (ztj (n := q.kids.length) (i := i) (cs := q.kids.flatMap z0b) (us := z0b x) ?_ hi (by simp) ?_ (by simp; omega)) rfl rfl (zka _ (o := .row 27 q.kids.length (q.kids.flatMap z0b)) ?_ (by intro e cs h; cases h) (by intro e cs h; cases h)) ?_
 ·(simp (disch := omega) only [go_sem, Nat.reduceBEq])
 ·simp only [z1j, z49, z0f, if_true, List.append_nil]
 ·(simp (disch := omega) only [go_sem, Nat.reduceBEq])
 rw [zy7]
 (try (simp (disch := omega) only [go_sem, Nat.reduceBEq, Nat.reduceEqDiff, ↓reduceIte, reduceCtorEq, Nat.reduceAdd, Nat.reduceLeDiff, Nat.reduceLT, List.set_cons_succ, List.set_cons_zero])); repeat' (first | ((refine zqh fun K J => ?_); (simp (disch := omega) only [go_sem, Nat.reduceBEq, ↓reduceIte, Nat.reduceAdd, Nat.reduceLeDiff, List.set_cons_succ, List.set_cons_zero])) | refine zqn ?_ | refine zqu (by (simp (disch := omega) only [go_sem, Nat.reduceBEq, ↓reduceIte, Nat.reduceAdd, Nat.reduceLeDiff]); rfl) rfl ?_ | (refine J _ ?_; clear J K))
 refine z57 (zcl 3 (t := z8q i x q) (z1q (f := z0b) (l := q.kids.take i ++ x :: q.kids.drop i) 2 ?_ ?_ z0i z31 z0f z05) rfl)
 ·simp; omega
 ·(simp (disch := omega) only [go_sem, Nat.reduceBEq])
theorem zlu (i : Nat) (q : T) (hq : szB q = true) (hi : i < q.kids.length) : PC Tryz.prog 181 [z0h q, .rptr (.int .i64 i)] (z0h (zzc i q)) := by
 obtain ⟨h0, h1, g1, h2, g2, h3, h4⟩ := (z2w q).1 hq
 have ct := z7l q.kids h3
 have cd := fun (H : HM) (nx : Nat) (hid : H 2 = some (.row 27 q.kids.length (q.kids.flatMap z0b))) => ztk (nx := nx) (i := i) (j := i + 1) hid (by omega) (by omega)
 rw [zy8] at cd
 simp only [Int.natCast_add, Int.natCast_one] at cd
 refine z1c 5 (by simp only [pureD.pureL, z01, pureD, Bool.and_self]) (z01 _) (z17 [3000005, 4000006, 3000007, 3000008, 4000010] Tryz.func181 rfl (by decide +kernel) z0e (by decide +kernel) (by simp [Tryz.ntmps181]) ?_)
 show awp _ _ (Code.seq _ _) _ _
 rw [show Tryz.f181.results.toList = [.cell 3 27] from rfl]
 rw [show z0h q = .agg _ from by rw [z0h, z0s]]
 repeat' (first | ((first | refine zqh fun K J => ?_ | refine zqe (by decide +kernel) fun K J => ?_ | refine z50 (ct) rfl rfl rfl ?_); (simp (disch := omega) only [go_sem, Nat.reduceBEq, Nat.reduceEqDiff, ↓reduceIte, reduceCtorEq, Nat.reduceAdd, zgi])) | (refine J _ ?_; clear J K))
 refine znu (cd _ _ ?_) rfl rfl (zpi (o := .row 27 q.kids.length (q.kids.flatMap z0b)) ?_ ?_ (by intro e cs h; cases h) (by intro e cs h; cases h)) ?_
 ·(simp (disch := omega) only [go_sem, Nat.reduceBEq])
 ·(simp (disch := omega) only [go_sem, Nat.reduceBEq])
 ·(simp (disch := omega) only [go_sem, Nat.reduceLT])
 (try (simp (disch := omega) only [go_sem, Nat.reduceBEq, Nat.reduceEqDiff, ↓reduceIte, reduceCtorEq, Nat.reduceAdd, Nat.reduceLeDiff, Nat.reduceLT, List.set_cons_succ, List.set_cons_zero])); repeat' (first | ((refine zqh fun K J => ?_); (simp (disch := omega) only [go_sem, Nat.reduceBEq, ↓reduceIte, Nat.reduceAdd, Nat.reduceLeDiff, List.set_cons_succ, List.set_cons_zero])) | refine zqn ?_ | refine zqu (by (simp (disch := omega) only [go_sem, Nat.reduceBEq, ↓reduceIte, Nat.reduceAdd, Nat.reduceLeDiff]); rfl) rfl ?_ | (refine J _ ?_; clear J K))
 refine z57 (zcl 3 (t := zzc i q) (z1q (f := z0b) (l := q.kids.eraseIdx i) 2 ?_ ?_ z0i z31 z0f z05) rfl)
 ·rw [List.length_eraseIdx_of_lt hi]; omega
 ·(simp (disch := omega) only [go_sem, Nat.reduceBEq])
theorem z00a (i : Int) (x : T) : PC Tryz.prog 126 [.int .i64 i, z0h x] (.fn 179 [.rptr (.int .i64 i), .rptr (z0h x)]) := by
 refine z1c 4 (by simp only [pureD.pureL, z01, pureD, Bool.and_self]) (by simp only [pureD.pureL, z01, pureD, Bool.and_self]) (z17 [] Tryz.func126 rfl (by decide +kernel) z0e (by decide +kernel) (by simp [Tryz.ntmps126]) ?_)
 show awp _ _ (Code.seq _ _) _ _
 repeat' (first | ((refine zqh fun K J => ?_); (simp (disch := omega) only [go_sem, Nat.reduceBEq, Nat.reduceAdd])) | refine zqn ?_ | refine zqu (by (simp (disch := omega) only [go_sem]); rfl) rfl ?_ | (refine J _ ?_; clear J K))
 refine z57 (zb2 3 rfl (z00 (z15 (e := 3) 2 ?_ z3p (z03 1 rfl)) (z00 (z04 (e := 27) 1 ?_ z0i (z05 x)) z08)))
 ·(simp (disch := omega) only [go_sem, Nat.reduceBEq])
 ·(simp (disch := omega) only [go_sem, Nat.reduceBEq])
theorem zpj (t : T) (hs : szB t = true) (V : depT t <= 1000000000) (id : Idv) (i : Nat) (hp : (z70 id t).2.1 = i) (hq : ∀ q ∈ z0l t, q.id = (z70 id t).1 -> i < q.kids.length) : PC Tryz.prog 131 [z0h t, z0p id] (z0h (atR (z70 id t).1 (zzc i) t).1) := by
 have c1 := zl9 t (z7g t hs) V id
 have c2 := zex t hs (z70 id t).1 (zzc i) (g := 181) (cap := [.rptr (.int .i64 i)]) rfl (fun q hq1 hq2 => zlu i q (z9o t hs q hq1) (hq q hq1 hq2))
 rw [hp] at c1
 refine z1c 1 (by simp only [pureD.pureL, z01]; rfl) (z01 _) (z17 [] Tryz.func131 rfl (by decide +kernel) z0e (by decide +kernel) (by simp [Tryz.ntmps131]) ?_)
 show awp _ _ (Code.seq _ _) _ _
 rw [show Tryz.f131.results.toList = [.cell 4 27] from rfl]
 repeat' (first | ((refine z2g (N := 1) rfl fun K J => ?_); (simp (disch := omega) only [go_sem, Nat.reduceBEq, Nat.reduceAdd])) | (refine J _ ?_; clear J K))
 refine z1s fun K J => ?_
 (simp (disch := omega) only [go_sem, Nat.reduceBEq, ↓reduceIte, Nat.reduceAdd, Nat.reduceLeDiff])
 refine zqs c1 ?_
 (simp (disch := omega) only [go_sem, Nat.reduceBEq, ↓reduceIte, Nat.reduceAdd, Nat.reduceLeDiff, Nat.reduceLT])
 refine J _ _ (zjp (b := 4) (j := 6) (e := 3) (cs := [.int .i64 i]) (d := .int .i64 i) (by (simp (disch := omega) only [go_sem, Nat.reduceBEq])) (.inl rfl) rfl (by (simp (disch := omega) only [go_sem, Nat.reduceBEq]))) ?_
 clear J K
 repeat' (first | ((first | refine zqh fun K J => ?_ | refine zqs (c2) ?_); (simp (disch := omega) only [go_sem, Nat.reduceBEq, ↓reduceIte, Nat.reduceAdd, Nat.reduceLeDiff])) | refine zqn ?_ | refine zqu (by (simp (disch := omega) only [go_sem, Nat.reduceBEq, ↓reduceIte, Nat.reduceLeDiff]); rfl) rfl ?_ | (refine J _ ?_; clear J K))
 exact z0j (z01 _) (Le.refl _)

namespace Tr
def z47 (u : T) (parent : Idv) (i : Int) (x : T) : Int :=
 if standsT u = false \/ standsT x = false \/ x.kind = 0 then 1 else
 if (z06 parent u).2 = false then 4 else
 if z1n (z06 parent u).1.kind x.kind = false then 9 else
 if i < 0 \/ ((z06 parent u).1.kids.length : Int) < i then 3 else
 if z3z (z06 parent u).1.kids x.kind x.label = true then 10 else
 if 64 <= (z06 parent u).1.kids.length \/ 8 < (zag parent u).length + 1 + depT x \/ 1024 < cntT u + cntT x then 6 else
 if ((z0g x).any fun i => (z06 i u).2) = true then 5 else 0
theorem zeq {id : Idv} {u : T} (h : (z06 id u).2 = true) : (z06 id u).1 ∈ z0l u := by
 have hm := zce.1 h
 unfold z06
 rw [zej _ hm]
 exact zj4 id u _ (List.getElem_mem _)
theorem zay {id : Idv} {u q : T} (hn : (z0g u).Nodup) (hq : q ∈ z0l u) (hid : q.id = id) : z06 id u = (q, true) := by
 have key : ∀ u : T, (z0g u).Nodup -> q ∈ z0l u -> z06 id u = (q, true) := by
  refine z5p fun u ih hn hq => ?_
  rw [z21, List.mem_cons] at hq
  rcases hq with rfl | hq
  ·exact z2u hid
  ·obtain ⟨k, hk, hqk⟩ := List.mem_flatMap.1 hq
   obtain ⟨i, hi, rfl⟩ := List.getElem_of_mem hk
   obtain ⟨g1, g2, g3⟩ := zcx hn
   have hin : id ∈ z0g u.kids[i] := List.mem_map.2 ⟨q, hqk, hid⟩
   have h2 := ih _ hk (g2 _ hk) hqk
   have hw : z2h id u.kids[i] ≠ [] := z94.2 hin
   rw [z4s (z5r (fun e => g1 _ hk (e ▸ hin)) hi (fun j hj h => (z89 id _).2 (g3 i j hi h (by omega) id hin)) hw) hw, h2]
 exact key u hn hq
def zaz (u : T) (id : Idv) : Int := if standsT u = false then 1 else if (z06 id u).2 = false then 4 else if u.id = id then 9 else 0
theorem zhy {u x : T} {parent : Idv} {i : Int} (h : z47 u parent i x = 0) : (standsT u = true /\ standsT x = true /\ x.kind ≠ 0 /\ (z06 parent u).2 = true /\ z1n (z06 parent u).1.kind x.kind = true /\ z3z (z06 parent u).1.kids x.kind x.label = false /\ (z06 parent u).1.kids.length < 64 /\ (zag parent u).length + 1 + depT x <= 8 /\ cntT u + cntT x <= 1024 /\ ((z0g x).any fun i => (z06 i u).2) = false) /\
  parent ∈ z0g u /\ ∃ n : Nat, i = n /\ ∀ q ∈ z0l u, q.id = parent -> n <= q.kids.length := by
 unfold z47 at h
 split at h
 ·cases h
 rename_i h1
 split at h
 ·cases h
 rename_i h2
 split at h
 ·cases h
 rename_i h3
 split at h
 ·cases h
 rename_i h4
 split at h
 ·cases h
 rename_i h5
 split at h
 ·cases h
 rename_i h6
 split at h
 ·cases h
 rename_i h7
 simp only [not_or, Bool.not_eq_false, Bool.not_eq_true] at h1 h2 h3 h5 h7
 refine ⟨⟨h1.1, h1.2.1, h1.2.2, h2, h3, h5, by omega, by omega, by omega, h7⟩, ?_, i.toNat, by omega, fun q hq hid => ?_⟩
 ·rw [z2z, decide_eq_true_eq] at h2; exact h2
 ·rw [zay ((z1v u).1 h1.1).2.2.2.1 hq hid] at h4
  simp only at h4
  omega
end Tr
namespace Abs
theorem z2y {P : Program} {H : HM} {nn : Bool} {sz : Nat} {els els' : List D} (k : Nat) (hp : pureD.pureL els = false) (hc : zcv (z2p P H k) els = some els') : z2p P H (k + 1) (.rsl nn sz els) = some (.rsl nn sz els') := by
 unfold z2p
 simp only [pureD, hp, Bool.false_eq_true, if_false, hc, Option.map_some]
abbrev Chk := FuncId × List D × Int × Bool
def zs6 (c : Chk) : D := .agg [.fn c.1 c.2.1, .int .i64 c.2.2.1]
def z7m (l : List Chk) : Int := match l.find? (fun c => c.2.2.2) with
 | some c => c.2.2.1
 | none => 0
theorem zr5 {l : List Chk} {i : Nat} (hi : i < l.length) (h1 : ∀ j, (hj : j < i) -> (h : j < l.length) -> l[j].2.2.2 = false) (h2 : l[i].2.2.2 = true) : z7m l = l[i].2.2.1 := by
 unfold z7m
 have : l.find? (fun c => c.2.2.2) = some l[i] := List.find?_eq_some_iff_getElem.2 ⟨h2, i, hi, rfl, fun j hj => by rw [h1 j hj (by omega)]; rfl⟩
 rw [this]
theorem zmo {l : List Chk} (h1 : ∀ j, (h : j < l.length) -> l[j].2.2.2 = false) : z7m l = 0 := by
 unfold z7m
 have : l.find? (fun c => c.2.2.2) = none := by
  rw [List.find?_eq_none]
  intro c hc
  obtain ⟨j, hj, rfl⟩ := List.getElem_of_mem hc
  rw [h1 j hj]; simp
 rw [this]
theorem z43 (f : FuncId) (c : List D) (e : Int) (l : List Chk) : z7m ((f, c, e, false) :: l) = z7m l := rfl
theorem z0u {P : Program} {H : HM} {f : FuncId} {cap cap' : List D} {e : Int} (b : Bool) (k : Nat) (hp : pureD.pureL cap = false) (hc : zcv (z2p P H (k + 1)) cap = some cap') : z2p P H (k + 3) (.agg [.fn f cap, .int .i64 e]) = some (zs6 (f, cap', e, b)) :=
 z58 (k + 2) (by simp only [pureD.pureL, pureD, hp, Bool.false_and]) (z00 (zb2 (k + 1) hp hc) (z00 (z03 (k + 1) rfl) z08))
end Abs
theorem za1 (l : List Chk) (hl : l.length <= 1000) (hp : ∀ c ∈ l, pureD.pureL c.2.1 = true /\ PC Tryz.prog c.1 c.2.1 (.bool c.2.2.2)) : PC Tryz.prog 117 [.rsl true 2 (l.map zs6)] (.int .i64 (z7m l)) := by
 have hpu : ∀ c ∈ l, pureD (zs6 c) = true := fun c hc => by simp only [zs6, pureD, pureD.pureL, (hp c hc).1, Bool.and_self]
 refine z1c 1 (by
  simp only [pureD.pureL, pureD, Bool.and_true]
  clear hl
  induction l with
  | nil => rfl
  | cons c l ih =>
   simp only [List.map_cons, pureD.pureL, Bool.and_eq_true]
   exact ⟨hpu c (by simp), ih (fun c hc => hp c (List.mem_cons_of_mem _ hc)) (fun c hc => hpu c (List.mem_cons_of_mem _ hc))⟩) rfl (z17 [] Tryz.func117 rfl (by decide +kernel) z0e (by decide +kernel) (by simp [Tryz.ntmps117]) ?_)
 show awp _ _ (Code.seq _ _) _ _
 repeat' (first | refine zqj ?_ | ((refine zqh fun K J => ?_); (simp (disch := omega) only [go_sem, Nat.reduceBEq])) | refine zqa ?_ | (refine J _ ?_; clear J K))
 (refine z4t (fun U st => ∃ (i : _), U = l.length - i /\ st.t 5 = .rsl true 2 (l.map zs6) /\ st.t 6 = .int .i64 l.length /\ st.t 7 = .int .i64 i /\ (i <= l.length) /\ (∀ j, (hj : j < i) -> (h : j < l.length) -> l[j].2.2.2 = false)) ?_ ?_); rotate_left; (rintro U st ⟨i, rfl, q5, q6, q7, qp0, qp1⟩); rotate_left
 ·(refine ⟨_, 0, rfl, ?_⟩); (simp (disch := omega) only [go_sem, Nat.reduceBEq, true_and, Int.natCast_zero])
  intro j hj; omega
 by_cases hi : i < l.length
 ·have hci := (hp l[i] (List.getElem_mem hi)).2
  repeat' (first | ((first | refine zqh fun K J => ?_ | refine zqr fun K J => ?_ | refine zqs (hci) ?_); (simp (disch := omega) only [go_sem, Nat.reduceBEq, ↓reduceIte, reduceCtorEq, Nat.reduceAdd, Nat.reduceLeDiff, q5, q6, q7, zs6])) | ((first | refine zqd _ rfl (fun hc => ?_) (fun hc => ?_) | refine zqm _ rfl (fun hc => ?_) (fun hc => ?_)) <;> (((try simp only [z09] at hc); (try (exfalso; omega))))) | refine zqa ?_ | refine zqb ?_ | refine zqk ?_ | refine zqn ?_ | refine zqv ?_ | refine zqx ?_ | refine zqy ?_ | refine z7e ?_ | refine zqo ?_ | refine zqu (by (simp (disch := omega) only [go_sem]); rfl) rfl ?_ | (refine J _ ?_; clear J K))
  ·rw [zr5 hi qp1 (by assumption)]; exact z1g rfl
  ·(refine Exists.intro _ (And.intro ?_ ⟨i + 1, rfl, ?_⟩)); rotate_left; (simp (disch := omega) only [go_sem, Nat.reduceBEq, q5, q6, q7, true_and, Int.natCast_add, Int.natCast_one]); rotate_left
   ·omega
   ·refine ⟨by omega, fun j hj h => ?_⟩
    by_cases e : j = i
    ·subst e; assumption
    ·exact qp1 j (by omega) h
 ·repeat' (first | ((refine zqh fun K J => ?_); (simp (disch := omega) only [go_sem, ↓reduceIte, q6, q7])) | ((refine zqd _ rfl (fun hc => ?_) (fun hc => ?_)) <;> (((try simp only [z09] at hc); (try (exfalso; omega))))) | refine zqc ?_ | refine zqn ?_ | refine zqv ?_ | refine zqz ?_ | refine zqp ?_ | refine zqu (by (simp (disch := omega) only [go_sem]); rfl) rfl ?_ | (refine J _ ?_; clear J K))
  rw [zmo fun j h => qp1 j (by omega) h]; exact z1g rfl
theorem zz4 (ok : Bool) : PC Tryz.prog 175 [.rptr (.bool ok)] (.bool (!ok)) := by
 refine z1c 1 rfl rfl (z17 [] Tryz.func175 rfl (by decide +kernel) z0e (by decide +kernel) (by simp [Tryz.ntmps175]) ?_)
 show awp _ _ (Code.seq _ _) _ _
 repeat' (first | ((refine zqh fun K J => ?_); (simp (disch := omega) only [go_sem, Nat.reduceBEq, ↓reduceIte, Nat.reduceAdd])) | refine zqn ?_ | refine zqu (by (simp (disch := omega) only [go_sem]); rfl) rfl ?_ | (refine J _ ?_; clear J K))
 exact z02 rfl
theorem zz5 (p x : T) : PC Tryz.prog 176 [.rptr (z0h p), .rptr (z0h x)] (.bool (!z1n p.kind x.kind)) := by
 have c1 := z8a p.kind x.kind
 refine z1c 1 (by simp only [pureD.pureL, z01, pureD, Bool.and_self]) rfl (z17 [] Tryz.func176 rfl (by decide +kernel) z0e (by decide +kernel) (by simp [Tryz.ntmps176]) ?_)
 show awp _ _ (Code.seq _ _) _ _
 repeat' (first | ((first | refine zqh fun K J => ?_ | refine zqs (c1) ?_); (simp (disch := omega) only [go_sem, Nat.reduceBEq, ↓reduceIte, reduceCtorEq, Nat.reduceAdd])) | refine zqn ?_ | refine zqu (by (simp (disch := omega) only [go_sem]); rfl) rfl ?_ | (refine J _ ?_; clear J K))
 exact z02 rfl
theorem zz6 (p : T) (i : Int) : PC Tryz.prog 177 [.rptr (.int .i64 i), .rptr (z0h p)] (.bool (decide (i < 0) || decide ((p.kids.length : Int) < i))) := by
 refine z1c 1 (by simp only [pureD.pureL, z01, pureD, Bool.and_self]) rfl (z17 [] Tryz.func177 rfl (by decide +kernel) z0e (by decide +kernel) (by simp [Tryz.ntmps177]) ?_)
 show awp _ _ (Code.seq _ _) _ _
 repeat' (first | ((refine zqh fun K J => ?_); (simp (disch := omega) only [go_sem, Nat.reduceBEq, ↓reduceIte, Nat.reduceAdd])) | refine zqn ?_ | refine zqu (by (simp (disch := omega) only [go_sem]); rfl) rfl ?_ | (refine J _ ?_; clear J K) | (refine zqf (fun hb => ?_) (fun hb => ?_) <;> (have hb2 := hb; try simp only [z09] at hb2) <;> ((first | have F := eq_false hb2 | have F := eq_true hb2); (simp (disch := omega) only [go_sem, Nat.reduceBEq, ↓reduceIte, reduceCtorEq, Nat.reduceAdd, F, z18]); clear hb F; (try (exfalso; omega)))))
 all_goals exact z02 (by simp [hb2])
theorem zz7 (p x : T) (hp : szB p = true) : PC Tryz.prog 178 [.rptr (z0h p), .rptr (z0h x)] (.bool (z3z p.kids x.kind x.label)) := by
 have c1 := zii p.kids (zd2 hp).1 x.kind x.label
 refine z1c 1 (by simp only [pureD.pureL, z01, pureD, Bool.and_self]) rfl (z17 [] Tryz.func178 rfl (by decide +kernel) z0e (by decide +kernel) (by simp [Tryz.ntmps178]) ?_)
 show awp _ _ (Code.seq _ _) _ _
 repeat' (first | ((first | refine zqh fun K J => ?_ | refine zqs (c1) ?_); (simp (disch := omega) only [go_sem, Nat.reduceBEq, ↓reduceIte, reduceCtorEq, Nat.reduceAdd, z18])) | refine zqn ?_ | refine zqu (by (simp (disch := omega) only [go_sem]); rfl) rfl ?_ | (refine J _ ?_; clear J K))
 exact z02 rfl
def zz8 (u p : T) (parent : Idv) (x : T) : Bool := decide (64 <= p.kids.length \/ 8 < (zag parent u).length + 1 + depT x \/ 1024 < cntT u + cntT x)
theorem zz9 (u p x : T) (hu : szB u = true) (hx : szB x = true) (cu : cntT u <= 1000000) (cx : cntT x <= 1000000) (du : depT u <= 1000000) (dx : depT x <= 1000000) (parent : Idv) :
  PC Tryz.prog 174 [.rptr (z0h p), .rptr (z0h u), .rptr (z0p parent), .rptr (z0h x)] (.bool (zz8 u p parent x)) := by
 have c1 := zo9 u (z7g u hu) (by omega) parent
 have c2 := zj9 x (z7h x hx) (by omega)
 have c3 := zeh u (z7h u hu) (by omega)
 have c4 := zeh x (z7h x hx) (by omega)
 have ha := zov parent u
 refine z1c 1 (by simp only [pureD.pureL, z01, pureD, Bool.and_self]; rfl) rfl (z17 [8000000, 3000006, 3000010, 3000011, 5000012, 3000014, 5000015, 3000020, 5000021, 3000022, 5000023] Tryz.func174 rfl (by decide +kernel) z0e (by decide +kernel) (by simp [Tryz.ntmps174]) ?_)
 show awp _ _ (Code.seq _ _) _ _
 repeat' (first | ((first | refine zqh fun K J => ?_ | refine zqe (by decide +kernel) fun K J => ?_ | refine zqt (c1) ?_ | refine zqt (c2) ?_ | refine zqt (c3) ?_ | refine zqt (c4) ?_); (simp (disch := omega) only [go_sem, Nat.reduceBEq, Nat.reduceEqDiff, ↓reduceIte, reduceCtorEq, Nat.reduceAdd, z18])) | refine zqn ?_ | refine zqu (by (simp (disch := omega) only [go_sem]); rfl) rfl ?_ | (refine J _ ?_; clear J K) | (refine zqf (fun hb => ?_) (fun hb => ?_) <;> (have hb2 := hb; try simp only [z09] at hb2) <;> ((first | have F := eq_false hb2 | have F := eq_true hb2); (simp (disch := omega) only [go_sem, Nat.reduceBEq, Nat.reduceEqDiff, ↓reduceIte, Nat.reduceAdd, F]); clear hb F; (try (exfalso; omega)))))
 ·exact z02 (decide_eq_decide.2 (by omega))
 ·exact z02 (decide_eq_true (by omega)).symm
 ·exact z02 (decide_eq_true (by omega)).symm
theorem zv4 (u : T) (hu : szB u = true) (du : depT u <= 1000000) (id : Idv) : PC Tryz.prog 173 [z0p id, .rptr (z0h u)] (.bool (z06 id u).2) := by
 have c1 := zkr u (z7g u hu) (by omega) id
 refine z1c 1 (by simp only [pureD.pureL, z01, pureD, Bool.and_self]; rfl) rfl (z17 [] Tryz.func173 rfl (by decide +kernel) z0e (by decide +kernel) (by simp [Tryz.ntmps173]) ?_)
 show awp _ _ (Code.seq _ _) _ _
 repeat' (first | ((first | refine zqh fun K J => ?_ | refine zqs (c1) ?_); (simp (disch := omega) only [go_sem, Nat.reduceBEq, ↓reduceIte, Nat.reduceAdd, Nat.reduceLeDiff])) | refine zqn ?_ | refine zqu (by (simp (disch := omega) only [go_sem]); rfl) rfl ?_ | (refine J _ ?_; clear J K))
 exact z02 rfl
theorem zza (u x : T) (hu : szB u = true) (hx : szB x = true) (cx : cntT x <= 1000000) (du : depT u <= 1000000) : PC Tryz.prog 172 [.rptr (z0h x), .rptr (z0h u)] (.bool ((z0g x).any fun i => (z06 i u).2)) := by
 have c1 := zom x (z7h x hx) (by omega)
 have hl := z2m x
 have c2 := z44 false (z0g x) (by unfold maxLen; omega) (g := 173) (cap := [.rptr (z0h u)]) (fun i => (z06 i u).2) (by simp only [pureD.pureL, z01, pureD, Bool.and_self]) (fun i _ => zv4 u hu du i)
 refine z1c 1 (by simp only [pureD.pureL, z01, pureD, Bool.and_self]) rfl (z17 [] Tryz.func172 rfl (by decide +kernel) z0e (by decide +kernel) (by simp [Tryz.ntmps172]) ?_)
 show awp _ _ (Code.seq _ _) _ _
 repeat' (first | ((first | refine zqh fun K J => ?_ | refine zqs (c1) ?_ | refine zqs (c2) ?_); (simp (disch := omega) only [go_sem, Nat.reduceBEq, ↓reduceIte, Nat.reduceAdd])) | refine zqn ?_ | refine zqu (by (simp (disch := omega) only [go_sem]); rfl) rfl ?_ | (refine J _ ?_; clear J K))
 exact z02 rfl
theorem zmp (u p x : T) (ok : Bool) (parent : Idv) (i : Int) (hs : standsT u = true) (hx : standsT x = true) (hk : x.kind ≠ 0) (hf : z06 parent u = (p, ok)) (f3 f4 f5 f6 f2 f1 : FuncId) (c3 c4 c5 c6 c2 c1 : List D) :
  z7m [(f3, c3, 4, !ok), (f4, c4, 9, !z1n p.kind x.kind), (f5, c5, 3, decide (i < 0) || decide ((p.kids.length : Int) < i)), (f6, c6, 10, z3z p.kids x.kind x.label), (f2, c2, 6, zz8 u p parent x), (f1, c1, 5, (z0g x).any fun i => (z06 i u).2)] = z47 u parent i x := by
 unfold z47
 rw [if_neg (by rw [hs, hx]; simp [hk]), hf]
 cases ok
 ·rw [if_pos rfl]; rfl
 rw [if_neg (by simp), Bool.not_true, z43]
 cases hn : z1n p.kind x.kind
 ·rw [if_pos rfl]; rfl
 rw [if_neg (by simp), Bool.not_true, z43]
 by_cases hi : i < 0 \/ (p.kids.length : Int) < i
 ·rw [if_pos hi, show (decide (i < 0) || decide ((p.kids.length : Int) < i)) = true from by simpa using hi]; rfl
 rw [if_neg hi, show (decide (i < 0) || decide ((p.kids.length : Int) < i)) = false from by simpa using hi, z43]
 cases ht : z3z p.kids x.kind x.label
 ·rw [if_neg (by simp), z43]
  unfold zz8
  by_cases hfu : 64 <= p.kids.length \/ 8 < (zag parent u).length + 1 + depT x \/ 1024 < cntT u + cntT x
  ·rw [if_pos hfu, decide_eq_true hfu]; rfl
  ·rw [if_neg hfu, decide_eq_false hfu, z43]
   cases ha : (z0g x).any fun i => (z06 i u).2
   ·rw [if_neg (by simp)]; rfl
   ·rw [if_pos rfl]; rfl
 ·rw [if_pos rfl]; rfl
theorem pc_fits (u x : T) (hu : szB u = true) (hx : szB x = true) (cu : cntT u <= 1000000) (cx : cntT x <= 1000000) (du : depT u <= 1000000) (dx : depT x <= 1000000) (parent : Idv) (i : Int) :
  PC Tryz.prog 125 [z0h u, z0p parent, .int .i64 i, z0h x] (.int .i64 (z47 u parent i x)) := by
 have c1 := z7n u hu (by omega) (by omega)
 have c2 := z7n x hx (by omega) (by omega)
 have c3 := z6e u (z7g u hu) (by omega) parent
 have hf := z9e parent u hu
 generalize hfe : z06 parent u = q at *
 obtain ⟨p, ok⟩ := q
 have c4 := za1 [(175, [.rptr (.bool ok)], 4, !ok), (176, [.rptr (z0h p), .rptr (z0h x)], 9, !z1n p.kind x.kind), (177, [.rptr (.int .i64 i), .rptr (z0h p)], 3, decide (i < 0) || decide ((p.kids.length : Int) < i)),
   (178, [.rptr (z0h p), .rptr (z0h x)], 10, z3z p.kids x.kind x.label), (174, [.rptr (z0h p), .rptr (z0h u), .rptr (z0p parent), .rptr (z0h x)], 6, zz8 u p parent x), (172, [.rptr (z0h x), .rptr (z0h u)], 5, (z0g x).any fun i => (z06 i u).2)]
  (by simp) (by
   intro c hc
   simp only [List.mem_cons, List.not_mem_nil, or_false] at hc
   rcases hc with rfl | rfl | rfl | rfl | rfl | rfl
   ·exact ⟨rfl, zz4 ok⟩
   ·exact ⟨by simp only [pureD.pureL, z01, pureD, Bool.and_self], zz5 p x⟩
   ·exact ⟨by simp only [pureD.pureL, z01, pureD, Bool.and_self], zz6 p i⟩
   ·exact ⟨by simp only [pureD.pureL, z01, pureD, Bool.and_self], zz7 p x hf⟩
   ·exact ⟨by simp only [pureD.pureL, z01, pureD, Bool.and_self]; rfl, zz9 u p x hu hx cu cx du dx parent⟩
   ·exact ⟨by simp only [pureD.pureL, z01, pureD, Bool.and_self], zza u x hu hx cx du⟩)
 refine z1c 1 (by simp only [pureD.pureL, z01, pureD, Bool.and_self]; rfl) rfl (z17 [] Tryz.func125 rfl (by decide +kernel) z0e (by decide +kernel) (by simp [Tryz.ntmps125]) ?_)
 show awp _ _ (Code.seq _ _) _ _
 by_cases hw : standsT u = false \/ standsT x = false \/ x.kind = 0
 ·rw [show z47 u parent i x = 1 from if_pos hw]
  rcases hw with h | h | h
  ·rw [h] at c1
   repeat' (first | refine zqj ?_ | ((first | refine zqh fun K J => ?_ | refine zqs (c1) ?_); (simp (disch := omega) only [go_sem, Nat.reduceBEq, ↓reduceIte, Nat.reduceAdd, Nat.reduceLeDiff])) | ((refine zqd _ rfl (fun hc => ?_) (fun hc => ?_)) <;> (first | (cases hc; done) | ((try simp only [] at hc); (try (exfalso; omega))))) | refine zqg ?_ | refine zqu (by (simp (disch := omega) only [go_sem]); rfl) rfl ?_ | (refine J _ ?_; clear J K))
   exact z1g rfl
  ·rw [h] at c2
   repeat' (first | refine zqj ?_ | ((first | refine zqh fun K J => ?_ | refine zqs (c1) ?_ | refine zqs (c2) ?_); (simp (disch := omega) only [go_sem, Nat.reduceBEq, ↓reduceIte, Nat.reduceAdd, Nat.reduceLeDiff])) | ((refine zqd _ rfl (fun hc => ?_) (fun hc => ?_)) <;> (first | (cases hc; done) | ((try simp only [] at hc); (try (exfalso; omega))))) | refine zqg ?_ | refine zqu (by (simp (disch := omega) only [go_sem]); rfl) rfl ?_ | (refine J _ ?_; clear J K) | (refine zqf (fun hb => ?_) (fun hb => ?_) <;> (have hb2 := hb; try simp only [z09] at hb2) <;> ((have F : (_ : Bool) = _ := hb2); (simp (disch := omega) only [go_sem, Nat.reduceBEq, ↓reduceIte, Nat.reduceAdd, Nat.reduceLeDiff, F]); clear hb F; (try (exfalso; omega)))))
   all_goals exact z1g rfl
  ·have w3d : decide (x.kind = 0) = true := decide_eq_true h
   repeat' (first | refine zqj ?_ | ((first | refine zqh fun K J => ?_ | refine zqs (c1) ?_ | refine zqs (c2) ?_); (simp (disch := omega) only [go_sem, Nat.reduceBEq, ↓reduceIte, Nat.reduceAdd, Nat.reduceLeDiff])) | ((refine zqd _ rfl (fun hc => ?_) (fun hc => ?_)) <;> (first | (cases hc; done) | ((try simp only [] at hc); (try (exfalso; omega))))) | refine zqg ?_ | refine zqu (by (simp (disch := omega) only [go_sem]); rfl) rfl ?_ | (refine J _ ?_; clear J K) | (refine zqf (fun hb => ?_) (fun hb => ?_) <;> (have hb2 := hb; try simp only [z09] at hb2) <;> ((have F : (_ : Bool) = _ := hb2); (simp (disch := omega) only [go_sem, Nat.reduceBEq, ↓reduceIte, reduceCtorEq, Nat.reduceAdd, Nat.reduceLeDiff, F, w3d]); clear hb F; (try (exfalso; omega)))))
   all_goals exact z1g rfl
 ·simp only [not_or, Bool.not_eq_false] at hw
  obtain ⟨w1, w2, w3⟩ := hw
  rw [w1] at c1
  rw [w2] at c2
  rw [zmp u p x ok parent i w1 w2 w3 hfe] at c4
  have w3d : decide (x.kind = 0) = false := decide_eq_false w3
  repeat' (first | refine zqj ?_ | ((first | refine zqh fun K J => ?_ | refine zqs (c1) ?_ | refine zqs (c2) ?_ | refine zqs (c3) ?_); (simp (disch := omega) only [go_sem, Nat.reduceBEq, ↓reduceIte, reduceCtorEq, Nat.reduceAdd, Nat.reduceMul, Nat.reduceLeDiff, Nat.reduceLT, w3d])) | ((refine zqd _ rfl (fun hc => ?_) (fun hc => ?_)) <;> (first | (cases hc; done) | ((try simp only [] at hc); (try (exfalso; omega))))) | refine zqb ?_ | (refine J _ ?_; clear J K))
  refine z0x (PC.borrow c4 rfl 6 (z00 (z2y 5 rfl (z00 (z0u _ 2 rfl (z00 (z15 (e := 4) 2 ?_ zen (z03 1 rfl)) z08)) (z00 (z0u _ 2 rfl (z00 (z04 (e := 27) 1 ?_ z0i (z05 _)) (z00 (z04 (e := 27) 1 ?_ z0i (z05 _)) z08))) (z00 (z0u _ 2 rfl (z00 (z15 (e := 3) 2 ?_ z3p (z03 1 rfl)) (z00 (z04 (e := 27) 1 ?_ z0i (z05 _)) z08))) (z00 (z0u _ 2 rfl (z00 (z04 (e := 27) 1 ?_ z0i (z05 _)) (z00 (z04 (e := 27) 1 ?_ z0i (z05 _)) z08))) (z00 (z0u _ 2 rfl (z00 (z04 (e := 27) 1 ?_ z0i (z05 _)) (z00 (z04 (e := 27) 1 ?_ z0i (z05 _)) (z00 (z04 (e := 23) 1 ?_ z1p rfl) (z00 (z04 (e := 27) 1 ?_ z0i (z05 _)) z08))))) (z00 (z0u _ 2 rfl (z00 (z04 (e := 27) 1 ?_ z0i (z05 _)) (z00 (z04 (e := 27) 1 ?_ z0i (z05 _)) z08))) z08))))))) z08)) ?_
  all_goals try (focus ((simp (disch := omega) only [go_sem, Nat.reduceBEq, z0d]); done))
  (try (simp (disch := omega) only [go_sem, Nat.reduceBEq])); repeat' (first | refine zqn ?_ | refine zqu (by (simp (disch := omega) only [go_sem]); rfl) rfl ?_ | (refine J _ ?_; clear J K))
  exact z1g rfl
theorem zv5 (u x : T) (hu : szB u = true) (hx : szB x = true) (cu : cntT u <= 1000000) (cx : cntT x <= 1000000) (du : depT u <= 1000000) (dx : depT x <= 1000000) (parent : Idv) (i : Int) :
  PC Tryz.prog 87 [z0h u, z0p parent, .int .i64 i, z0h x] (.tup [z0h (if z47 u parent i x ≠ 0 then T.zero else z1y parent (z8q i.toNat x) u), .int .i64 (z47 u parent i x)]) := by
 have c1 := pc_fits u x hu hx cu cx du dx parent i
 refine z1c 3 (by simp only [pureD.pureL, z01, pureD, Bool.and_self]; rfl) (by simp only [pureD.pureL, z01, pureD, Bool.and_self]) (z17 [3000020, 3000021, 3000023, 5000024, 5000025] Tryz.func87 rfl (by decide +kernel) z0e (by decide +kernel) (by simp [Tryz.ntmps87]) ?_)
 show awp _ _ (Code.seq _ _) _ _
 rw [show Tryz.f87.results.toList = [.cell 8 27, .tmp 9] from rfl]
 by_cases hw : z47 u parent i x = 0
 ·obtain ⟨hr, hm, n, rfl, hn⟩ := zhy hw
  have c2 := z00a n x
  have c3 := zex u hu parent (z8q n x) (g := 179) (cap := [.rptr (.int .i64 n), .rptr (z0h x)]) (by simp only [pureD.pureL, z01, pureD, Bool.and_self]) (fun q hq hid => zth n x hx q (z9o u hu q hq) (hn q hq hid))
  rw [(show (atR parent (z8q n x) u).1 = z1y parent (z8q n x) u from by rw [zfm (z8q n x) ((z1v u).1 hr.1).2.2.2.1 hm])] at c3
  rw [hw] at c1 ⊢
  rw [if_neg (fun h => h rfl), Int.toNat_natCast]
  repeat' (first | refine zqj ?_ | ((first | refine zqh fun K J => ?_ | refine zqe (by decide +kernel) fun K J => ?_ | refine zqs (c1) ?_ | refine zqt (c2) ?_ | refine zqt (c3) ?_); (simp (disch := omega) only [go_sem, Nat.reduceBEq, Nat.reduceEqDiff, ↓reduceIte, Nat.reduceAdd, Nat.reduceLeDiff])) | ((refine zqd _ rfl (fun hc => ?_) (fun hc => ?_)) <;> (first | (cases hc; done) | ((try simp only [] at hc); (try (exfalso; omega))))) | refine zqb ?_ | refine zqn ?_ | refine zqu (by (simp (disch := omega) only [go_sem, Nat.reduceBEq, ↓reduceIte, Nat.reduceLeDiff]); rfl) rfl ?_ | (refine J _ ?_; clear J K))
  refine z0j ?_ (Le.refl _)
  simp only [pureD, pureD.pureL, z05, Bool.and_self]
 ·rw [if_pos hw]
  repeat' (first | refine zqj ?_ | ((first | refine zqh fun K J => ?_ | refine zqs (c1) ?_); (simp (disch := omega) only [go_sem, Nat.reduceBEq, ↓reduceIte, Nat.reduceAdd, Nat.reduceLeDiff])) | ((refine zqd _ rfl (fun hc => ?_) (fun hc => ?_)) <;> (((try simp only [z09] at hc); (try (exfalso; omega))))) | refine zqg ?_ | refine zqu (by (simp (disch := omega) only [go_sem, Nat.reduceBEq, ↓reduceIte, Nat.reduceAdd, Nat.reduceLeDiff]); rfl) rfl ?_ | (refine J _ ?_; clear J K))
  exact z0j rfl (Le.tup ⟨z3c, Le.refl _, trivial⟩)
end
section
open Abs Facts Tr
namespace Tr
theorem zgs {u x : T} {parent : Idv} {n : Nat} (h1 : standsT u = true) (h2 : standsT x = true) (h3 : x.kind ≠ 0) (h4 : parent ∈ z0g u) (h5 : z1n (z06 parent u).1.kind x.kind = true) (h6 : n <= (z06 parent u).1.kids.length)
  (h7 : z3z (z06 parent u).1.kids x.kind x.label = false) (h8 : (z06 parent u).1.kids.length < 64) (h9 : (zag parent u).length + 1 + depT x <= 8) (h10 : cntT u + cntT x <= 1024) (h11 : ∀ i ∈ z0g x, i ∉ z0g u) : z47 u parent n x = 0 := by
 unfold z47
 rw [if_neg (by rw [h1, h2]; simp [h3]), if_neg (by rw [z2z, decide_eq_true h4]; simp), if_neg (by rw [h5]; simp), if_neg (by omega), if_neg (by rw [h7]; simp), if_neg (by omega), if_neg]
 rw [List.any_eq_true]
 rintro ⟨i, hi, hf⟩
 rw [z2z, decide_eq_true_eq] at hf
 exact h11 i hi hf
theorem zjg {C : Ctx} {q : T} {id : Idv} (hq : q.id = id) (h : id ∉ z69 C) : (zag id (z2b C q)).length = zya C := by
 rw [znw (hq ▸ z26 q) C h, zsv hq, List.nil_append, zjq]
theorem z1f {t : T} (h : standsT t = true) : (z0g t).Nodup := ((z1v t).1 h).2.2.2.1
theorem zjh {u x : T} {parent : Idv} {n : Nat} (h : z47 u parent n x = 0) : ∃ (C : Ctx) (q : T) (l r : List T), u = z2b C (q.setKids (l ++ r)) /\ l.length = n /\ q.id = parent /\ z1y parent (z8q n x) u = z2b C (q.setKids (l ++ x :: r)) /\
  standsT (z1y parent (z8q n x) u) = true /\ z0w x.id (z1y parent (z8q n x) u) = u /\ z06 x.id (z1y parent (z8q n x) u) = (x, true) /\ z70 x.id (z1y parent (z8q n x) u) = (parent, (n : Int), true) /\ ¬ (z1y parent (z8q n x) u).id = x.id /\
  (atR parent (z8q n x) u).1 = z1y parent (z8q n x) u /\ (∀ i ∈ z0g x, i ∉ z0g u) /\ cntT (z1y parent (z8q n x) u) = cntT u + cntT x := by
 obtain ⟨⟨h1, h2, h3, h4, h5, h7, h8, h9, h10, h11⟩, hm, n', hn, hle⟩ := zhy h
 obtain rfl : n = n' := by omega
 have hdis : ∀ i ∈ z0g x, i ∉ z0g u := fun i hi hm => by
  have := List.any_eq_false.1 h11 i hi
  rw [z2z, decide_eq_true hm] at this
  exact this rfl
 have hnd := z1f h1
 obtain ⟨C, e, hq, hpre, _⟩ := focus parent u hm
 have hqn := zeq h4
 have hk := hle _ hqn hq
 generalize hq0 : (z06 parent u).1 = q at *
 have e2 : q = q.setKids (q.kids.take n ++ q.kids.drop n) := by rw [List.take_append_drop, z6p]
 generalize hl : q.kids.take n = l at *
 generalize hr : q.kids.drop n = r at *
 have hln : l.length = n := by rw [<- hl, List.length_take]; omega
 have hkr : q.kids = l ++ r := by rw [<- hl, <- hr, List.take_append_drop]
 have hue : u = z2b C (q.setKids (l ++ r)) := e.trans (congrArg (z2b C) e2)
 have hxu := hdis x.id (z26 x)
 have hmx : x.id ∈ z0g (q.setKids (l ++ x :: r)) := by rw [z2t]; exact List.mem_cons_of_mem _ (zey.2 (.inr (.inl (z26 x))))
 rw [hue, z2i, z2t, List.flatMap_append] at hxu
 simp only [List.mem_append, List.mem_cons, not_or] at hxu
 obtain ⟨k1, ⟨k2, k3, k4⟩, k5⟩ := hxu
 have hpost : parent ∉ z3g C := (z2q (x := q) (by rw [<- e]; exact hnd) (hq ▸ z26 q)).2
 have hed : z1y parent (z8q n x) u = z2b C (q.setKids (l ++ x :: r)) := by
  rw [e, z40 (z8q n x) hq C hpre hpost]
  rw [e2, <- hln, zod]
  rfl
 have hst : standsT (z2b C (q.setKids (l ++ x :: r))) = true := by
  refine zra (by rw [<- hue]; exact h1) h2 h3 h5 (by rw [<- hkr]; exact h7) (by rw [<- hkr]; exact h8) ?_ (by rw [<- hue]; exact h10) (by rw [<- hue]; exact hdis)
  have := zjg hq hpre
  rw [<- e] at this
  omega
 rw [hed]
 refine ⟨C, q, l, r, hue, hln, hq, rfl, hst, ?_, ?_, ?_, ?_, ?_, hdis, ?_⟩
 ·rw [zbr (fun e => k2 e.symm) rfl k3 k4 C k1 k5, hue]
 ·rw [z7f hmx C k1, zi4 (fun e => k2 e.symm) k3 (z26 x), z2u rfl]
 ·rw [zi5 hmx (fun e => k2 e.symm) C k1, znv (fun e => k2 e.symm) k3 rfl, hq, hln]
 ·intro hid
  cases C with
  | hole => exact k2 hid.symm
  | node t a c b => exact (z4g k1).1 hid
 ·rw [zfm (z8q n x) hnd hm, hed]
 ·rw [hue, z52, z52, zio]; omega
theorem zew {u : T} {id : Idv} (hs : standsT u = true) (h0 : ¬ u.id = id) (hm : id ∈ z0g u) : ∃ (under : Idv) (n : Nat) (x : T), z70 id u = (under, (n : Int), true) /\ z06 id u = (x, true) /\ x.id = id /\ standsT (z0w id u) = true /\ standsT x = true /\ x.kind ≠ 0 /\
  z47 (z0w id u) under n x = 0 /\ z1y under (z8q n x) (z0w id u) = u /\ (∀ i ∈ z0g x, i ∉ z0g (z0w id u)) /\ under ∈ z0g (z0w id u) /\ cntT (z0w id u) + cntT x = cntT u /\ (∀ i ∈ z0g u, i ∈ z0g x \/ i ∈ z0g (z0w id u)) := by
 obtain ⟨C, q, l, x, r, e, hx, hq, n1, n2, hf, hp⟩ := znx h0 hm
 have hnd := z1f hs
 subst e
 have hxm : id ∈ z0g (q.setKids (l ++ x :: r)) := by rw [z2t]; exact List.mem_cons_of_mem _ (zey.2 (.inr (.inl (hx ▸ z26 x))))
 obtain ⟨k1, k2⟩ := z2q hnd hxm
 have ns := (zfl (zd0 hnd)).1 id (hx ▸ z26 x)
 have hw := zbr hq hx n2 ns.2.2 C k1 k2
 obtain ⟨d1, d2, d3, d4, d5, d6, d7, d8, d9⟩ := zrb hs
 rw [hw]
 have hnd2 := z1f d1
 have hqs : q.id ∈ z0g (q.setKids (l ++ r)) := by rw [z2t]; exact List.mem_cons_self
 obtain ⟨m1, m2⟩ := z2q hnd2 hqs
 have hfq : z06 q.id (z2b C (q.setKids (l ++ r))) = (q.setKids (l ++ r), true) := by rw [z7f hqs C m1]; exact z2u rfl
 refine ⟨q.id, l.length, x, hp, hf, hx, d1, d2, d3, ?_, ?_, d9, z9q C hqs, ?_, fun i hi => ?_⟩
 ·refine zgs d1 d2 d3 (z9q C hqs) (by rw [hfq]; exact d4) ?_ (by rw [hfq]; exact d5) (by rw [hfq]; exact d6) ?_ d8 d9
  ·rw [hfq]; show l.length <= (l ++ r).length; simp
  ·rw [zjg (id := q.id) (q := q.setKids (l ++ r)) rfl m1]; exact d7
 ·rw [z40 (id := q.id) (z8q l.length x) (q := q.setKids (l ++ r)) rfl C m1 m2, zod]
 ·rw [z52, z52, zio]; omega
 ·rw [z2i, z2t, List.flatMap_append, List.flatMap_cons] at hi
  rw [z2i, z2t, List.flatMap_append]
  simp only [List.mem_append, List.mem_cons] at hi ⊢
  rcases hi with h | (h | h | h | h) | h
  ·exact .inr (.inl h)
  ·exact .inr (.inr (.inl (.inl h)))
  ·exact .inr (.inr (.inl (.inr (.inl h))))
  ·exact .inl h
  ·exact .inr (.inr (.inl (.inr (.inr h))))
  ·exact .inr (.inr (.inr h))
theorem znq {id : Idv} {t : T} (h : id ∉ z0g t) : z0w id t = t := zvb t fun k hk hm => h (by rw [z1x]; exact List.mem_cons_of_mem _ (List.mem_flatMap.2 ⟨k, hk, hm⟩))
theorem z7v (id : Idv) (t : T) : (z0w id t).id = t.id /\ (z0w id t).kind = t.kind /\ (z0w id t).label = t.label /\ (z0w id t).head = t.head /\ (z0w id t).words = t.words := by
 rw [z54]; exact ⟨rfl, rfl, rfl, rfl, rfl⟩
theorem zxv (id : Idv) : ∀ t : T, ∀ i ∈ z0g (z0w id t), i ∈ z0g t := by
 refine z5p fun t ih i hi => ?_
 rw [z54, z2t, List.mem_cons, List.mem_flatMap] at hi
 rw [z1x, List.mem_cons, List.mem_flatMap]
 rcases hi with h | ⟨k, hk, h⟩
 ·exact .inl h
 ·obtain ⟨k', hk', rfl⟩ := List.mem_map.1 hk
  exact .inr ⟨k', (List.mem_filter.1 hk').1, ih k' (List.mem_filter.1 hk').1 i h⟩
theorem zxw {k : Idv} {u : T} : ∀ i ∈ z0g (z06 k u).1, (z06 k u).2 = true -> i ∈ z0g u := fun i hi hf => by
 have hm : k ∈ z0g u := by rw [z2z, decide_eq_true_eq] at hf; exact hf
 obtain ⟨C, e, _, _, _⟩ := focus k u hm
 rw [e]
 exact z9q C hi
theorem zxx {id : Idv} : ∀ u : T, depT (z0w id u) <= depT u := by
 have key : ∀ (l : List T) (g : T -> T) (p : T -> Bool), (∀ k ∈ l, depT (g k) <= depT k) -> zdd (((l.filter p).map g).map depT) <= zdd (l.map depT) := by
  intro l g p h
  induction l with
  | nil => simp
  | cons k l ih =>
   have h1 := h k (by simp)
   have h2 := ih fun k hk => h k (List.mem_cons_of_mem _ hk)
   rw [List.filter_cons, List.map_cons, zb5]
   split
   ·rw [List.map_cons, List.map_cons, zb5]; omega
   ·omega
 refine z5p fun u ih => ?_
 rw [z54, z46, z46 u]
 exact key u.kids (z0w id) (z8b id) ih
theorem zxy (id : Idv) (u : T) : depT (z06 id u).1 <= depT u := by
 by_cases h : id ∈ z0g u
 ·obtain ⟨C, e, _⟩ := focus id u h
  conv => rhs; rw [e]
  rw [z7y]; omega
 ·rw [zju h, show depT T.zero = 0 from by decide +kernel]; omega
theorem zsz {id k : Idv} : ∀ u : T, (z0g u).Nodup -> ¬ u.id = id -> k ∈ z0g u -> (∀ y, z06 id u = (y, true) -> k ∉ z0g y) -> z06 k (z0w id u) = (z0w id (z06 k u).1, true) := by
 refine z5p fun u ih hn h0 hk hy => ?_
 by_cases hid : id ∉ z0g u
 ·rw [znq hid]
  have hf : (z06 k u).2 = true := by rw [z2z, decide_eq_true hk]
  have := znq (id := id) (t := (z06 k u).1) fun hm => hid (zxw id hm hf)
  rw [this, <- hf]
 rw [Classical.not_not] at hid
 by_cases hku : u.id = k
 ·rw [z2u hku]
  exact z2u (by rw [(z7v id u).1]; exact hku)
 ·obtain ⟨i, hi, h1, h2, h3⟩ := zkn hku (z94.2 hk)
  have hkm := z94.1 h2
  rw [z4s h3 h2]
  obtain ⟨g1, g2, g3⟩ := zcx hn
  have hki := List.getElem_mem hi
  have hkeep : ¬ u.kids[i].id = id := fun e => by
   refine hy u.kids[i] ?_ hkm
   have hw : z2h id u.kids[i] = [u.kids[i]] := z7b e
   have hne : z2h id u.kids[i] ≠ [] := by rw [hw]; simp
   rw [z4s (z5r h0 hi (fun j hj h => (z89 id _).2 (g3 i j hi h (by omega) id (e ▸ z26 _))) hne) hne]
   exact z2u e
  have hin := ih _ hki (g2 _ hki) hkeep hkm (fun y hf => hy y (by
   have hne : z2h id u.kids[i] ≠ [] := zce.1 (by rw [hf])
   rw [z4s (z5r h0 hi (fun j hj h => (z89 id _).2 (g3 i j hi h (by omega) id (z94.1 hne))) hne) hne]
   exact hf))
  have hsp : u.kids = u.kids.take i ++ u.kids[i] :: u.kids.drop (i + 1) := by rw [<- List.drop_eq_getElem_cons hi, List.take_append_drop]
  have hwk : k ∈ z0g (z0w id u.kids[i]) := by
   have : (z06 k (z0w id u.kids[i])).2 = true := by rw [hin]
   rw [z2z, decide_eq_true_eq] at this; exact this
  rw [z54]
  have e : (u.kids.filter (z8b id)).map (z0w id) = ((u.kids.take i).filter (z8b id)).map (z0w id) ++ z0w id u.kids[i] :: ((u.kids.drop (i + 1)).filter (z8b id)).map (z0w id) := by
   conv => lhs; rw [hsp]
   rw [List.filter_append, List.filter_cons, if_pos (zil hkeep), List.map_append, List.map_cons]
  rw [e, zi4 hku ?_ hwk, hin]
  intro hm
  obtain ⟨y, hym, hyk⟩ := List.mem_flatMap.1 hm
  obtain ⟨y', hy', rfl⟩ := List.mem_map.1 hym
  have hmem := (List.mem_filter.1 hy').1
  obtain ⟨j, hj, rfl⟩ := List.getElem_of_mem hmem
  rw [List.length_take] at hj
  have := zxv id _ k hyk
  rw [List.getElem_take] at this
  exact g3 i j hi (by omega) (by omega) k hkm this
end Tr
end
section
open Abs Facts Tr
attribute [local irreducible] awp
theorem zp0 (u : T) (hu : szB u = true) (cu : cntT u <= 1000000) (du : depT u <= 1000000) : PC Tryz.prog 127 [.rptr (z0h u)] (.bool (!standsT u)) := by
 have c1 := z7n u hu (by omega) (by omega)
 refine z1c 1 (by simp only [pureD.pureL, z01, pureD, Bool.and_self]) rfl (z17 [] Tryz.func127 rfl (by decide +kernel) z0e (by decide +kernel) (by simp [Tryz.ntmps127]) ?_)
 show awp _ _ (Code.seq _ _) _ _
 repeat' (first | ((first | refine zqh fun K J => ?_ | refine zqs (c1) ?_); (simp (disch := omega) only [go_sem, Nat.reduceBEq, ↓reduceIte, Nat.reduceAdd])) | refine zqn ?_ | refine zqu (by (simp (disch := omega) only [go_sem]); rfl) rfl ?_ | (refine J _ ?_; clear J K))
 exact z02 rfl
theorem zp1 (u : T) (hu : szB u = true) (cu : cntT u <= 1000000) (du : depT u <= 1000000) (id : Idv) : PC Tryz.prog 128 [.rptr (z0h u), .rptr (z0p id)] (.bool (!(z06 id u).2)) := by
 have c1 := zkr u (z7g u hu) (by omega) id
 refine z1c 1 (by simp only [pureD.pureL, z01, pureD]; rfl) rfl (z17 [] Tryz.func128 rfl (by decide +kernel) z0e (by decide +kernel) (by simp [Tryz.ntmps128]) ?_)
 show awp _ _ (Code.seq _ _) _ _
 repeat' (first | ((first | refine zqh fun K J => ?_ | refine zqs (c1) ?_); (simp (disch := omega) only [go_sem, Nat.reduceBEq, ↓reduceIte, Nat.reduceAdd])) | refine zqn ?_ | refine zqu (by (simp (disch := omega) only [go_sem]); rfl) rfl ?_ | (refine J _ ?_; clear J K))
 exact z02 rfl
theorem zp2 (u : T) (id : Idv) : PC Tryz.prog 130 [.rptr (z0h u), .rptr (z0p id)] (.bool (decide (u.id = id))) := by
 refine z1c 1 (by simp only [pureD.pureL, z01, pureD]; rfl) rfl (z17 [] Tryz.func130 rfl (by decide +kernel) z0e (by decide +kernel) (by simp [Tryz.ntmps130]) ?_)
 show awp _ _ (Code.seq _ _) _ _
 repeat' (first | ((refine zqh fun K J => ?_); (simp (disch := omega) only [go_sem, Nat.reduceBEq, ↓reduceIte, reduceCtorEq, Nat.reduceAdd, Nat.reduceLeDiff])) | refine zqn ?_ | refine zqu (by (simp (disch := omega) only [go_sem]); rfl) rfl ?_ | (refine J _ ?_; clear J K))
 exact z02 rfl
theorem zp3 (u : T) (id : Idv) (f1 f2 f3 : FuncId) (c1 c2 c3 : List D) : z7m [(f1, c1, 1, !standsT u), (f2, c2, 4, !(z06 id u).2), (f3, c3, 9, decide (u.id = id))] = zaz u id := by
 unfold zaz
 cases h1 : standsT u
 ·rw [if_pos rfl]; rfl
 rw [if_neg (by simp), Bool.not_true, z43]
 cases h2 : (z06 id u).2
 ·rw [if_pos rfl]; rfl
 rw [if_neg (by simp), Bool.not_true, z43]
 by_cases h3 : u.id = id
 ·rw [if_pos h3, decide_eq_true h3]; rfl
 ·rw [if_neg h3, decide_eq_false h3]; rfl
theorem zs9 {u : T} {id : Idv} (h : zaz u id = 0) : standsT u = true /\ id ∈ z0g u /\ ¬ u.id = id := by
 unfold zaz at h
 split at h
 ·cases h
 rename_i h1
 split at h
 ·cases h
 rename_i h2
 split at h
 ·cases h
 rename_i h3
 rw [Bool.not_eq_false] at h1 h2
 rw [z2z, decide_eq_true_eq] at h2
 exact ⟨h1, h2, h3⟩
theorem zem (u : T) (hu : szB u = true) (du : depT u <= 1000000) (id : Idv) (hs : standsT u = true) (hm : id ∈ z0g u) (h0 : ¬ u.id = id) : PC Tryz.prog 131 [z0h u, z0p id] (z0h (z0w id u)) := by
 obtain ⟨i, hi, _, hw, q, hq, hk, hqn⟩ := at_wipe (z1f hs) h0 hm
 have h := zpj u hu (by omega) id i hi (fun q' hq' hid => by
  have := zay (z1f hs) hq' hid
  rw [this] at hq
  simp only [Prod.mk.injEq, and_true] at hq
  rw [hq]; exact hk)
 rw [hw] at h; exact h
theorem zsa (u : T) (hu : szB u = true) (cu : cntT u <= 1000000) (du : depT u <= 1000000) (id : Idv) :
  PC Tryz.prog 89 [z0h u, z0p id] (.tup [z0h (if zaz u id = 0 then z0w id u else T.zero), z0h (if zaz u id = 0 then (z06 id u).1 else T.zero), .int .i64 (zaz u id)]) := by
 have c3 := z6e u (z7g u hu) (by omega) id
 have c4 := za1 [(127, [.rptr (z0h u)], 1, !standsT u), (128, [.rptr (z0h u), .rptr (z0p id)], 4, !(z06 id u).2), (130, [.rptr (z0h u), .rptr (z0p id)], 9, decide (u.id = id))]
  (by simp) (by
   intro c hc
   simp only [List.mem_cons, List.not_mem_nil, or_false] at hc
   rcases hc with rfl | rfl | rfl
   ·exact ⟨by simp only [pureD.pureL, z01, pureD, Bool.and_self], zp0 u hu cu du⟩
   ·exact ⟨by simp only [pureD.pureL, z01, pureD]; rfl, zp1 u hu cu du id⟩
   ·exact ⟨by simp only [pureD.pureL, z01, pureD]; rfl, zp2 u id⟩)
 rw [zp3] at c4
 refine z1c 3 (by simp only [pureD.pureL, z01]; rfl) (by simp only [pureD.pureL, z01, pureD, Bool.and_self]) (z17 [3000029, 3000030, 5000031, 5000033, 600032, 900004, 600004, 900002, 600005, 900003] Tryz.func89 rfl (by decide +kernel) z0e (by decide +kernel) (by simp [Tryz.ntmps89]) ?_)
 show awp _ _ (Code.seq _ _) _ _
 rw [show Tryz.f89.results.toList = [.cell 4 27, .cell 5 27, .tmp 6] from rfl]
 by_cases ht : zaz u id = 0
 ·obtain ⟨h1, h2, h3⟩ := zs9 ht
  rw [ht] at c4
  rw [ht, if_pos rfl, if_pos rfl]
  have c5 := zem u hu du id h1 h2 h3
  have c6 := zcy (z06 id u).1 (z9e id u hu)
  repeat' (first | ((refine zqh fun K J => ?_); (simp (disch := omega) only [go_sem, Nat.reduceBEq, ↓reduceIte, reduceCtorEq, Nat.reduceAdd, Nat.reduceMul, Nat.reduceLeDiff])) | (refine J _ ?_; clear J K))
  refine z0x (PC.borrow c4 rfl 6 (z00 (z2y 5 rfl (z00 (z0u _ 2 rfl (z00 (z04 (e := 27) 1 ?_ z0i (z05 _)) z08)) (z00 (z0u _ 2 rfl (z00 (z04 (e := 27) 1 ?_ z0i (z05 _)) (z00 (z04 (e := 23) 1 ?_ z1p rfl) z08))) (z00 (z0u _ 2 rfl (z00 (z04 (e := 27) 1 ?_ z0i (z05 _)) (z00 (z04 (e := 23) 1 ?_ z1p rfl) z08))) z08)))) z08)) ?_
  all_goals try (focus ((simp (disch := omega) only [go_sem, Nat.reduceBEq, z0d]); done))
  (try (simp (disch := omega) only [go_sem, Nat.reduceBEq])); repeat' (first | refine zqj ?_ | ((first | refine zqh fun K J => ?_ | refine zqe (by decide +kernel) fun K J => ?_ | refine zqs (c3) ?_ | refine zqt (c5) ?_ | refine zqt (c6) ?_); (simp (disch := omega) only [go_sem, Nat.reduceBEq, Nat.reduceEqDiff, ↓reduceIte, Nat.reduceAdd, Nat.reduceLeDiff])) | ((refine zqd _ rfl (fun hc => ?_) (fun hc => ?_)) <;> (first | (cases hc; done) | ((try simp only [] at hc); (try (exfalso; omega))))) | refine zqb ?_ | refine zqn ?_ | refine zqu (by (simp (disch := omega) only [go_sem, Nat.reduceBEq, ↓reduceIte, Nat.reduceLeDiff]); rfl) rfl ?_ | (refine J _ ?_; clear J K))
  refine z0j ?_ (Le.refl _)
  simp only [pureD, pureD.pureL, z05, Bool.and_self]
 ·rw [if_neg ht, if_neg ht]
  repeat' (first | ((refine zqh fun K J => ?_); (simp (disch := omega) only [go_sem, Nat.reduceBEq, ↓reduceIte, reduceCtorEq, Nat.reduceAdd, Nat.reduceMul, Nat.reduceLeDiff])) | (refine J _ ?_; clear J K))
  refine z0x (PC.borrow c4 rfl 6 (z00 (z2y 5 rfl (z00 (z0u _ 2 rfl (z00 (z04 (e := 27) 1 ?_ z0i (z05 _)) z08)) (z00 (z0u _ 2 rfl (z00 (z04 (e := 27) 1 ?_ z0i (z05 _)) (z00 (z04 (e := 23) 1 ?_ z1p rfl) z08))) (z00 (z0u _ 2 rfl (z00 (z04 (e := 27) 1 ?_ z0i (z05 _)) (z00 (z04 (e := 23) 1 ?_ z1p rfl) z08))) z08)))) z08)) ?_
  all_goals try (focus ((simp (disch := omega) only [go_sem, Nat.reduceBEq, z0d]); done))
  (try (simp (disch := omega) only [go_sem, Nat.reduceBEq])); repeat' (first | refine zqj ?_ | ((refine zqh fun K J => ?_); (simp (disch := omega) only [go_sem, Nat.reduceBEq, ↓reduceIte, Nat.reduceAdd, Nat.reduceLeDiff])) | ((refine zqd _ rfl (fun hc => ?_) (fun hc => ?_)) <;> (((try simp only [z09] at hc); (try (exfalso; omega))))) | refine zqg ?_ | refine zqu (by (simp (disch := omega) only [go_sem, Nat.reduceBEq, ↓reduceIte, Nat.reduceAdd, Nat.reduceLeDiff]); rfl) rfl ?_ | (refine J _ ?_; clear J K))
  exact z0j rfl (Le.tup ⟨z3c, z3c, Le.refl _, trivial⟩)
namespace Tr
def T.setLabel (t : T) (s : ByteArray) : T := .mk t.id t.kind s t.head t.words t.kids
def T.setWords (t : T) (l : List Wd) : T := .mk t.id t.kind t.label t.head l t.kids
def T.setHead (t : T) (l : List Wd) : T := .mk t.id t.kind t.label l t.words t.kids
def zcq (u : T) (id : Idv) (name : ByteArray) : Bool := decide ((z06 id u).1.label = name) || ((z70 id u).2.2 && z3z (z06 (z70 id u).1 u).1.kids (z06 id u).1.kind name)
def zm2 (u : T) (id : Idv) (name : ByteArray) : Int :=
 if standsT u = false \/ z41 name = false then 1 else
 if (z06 id u).2 = false then 4 else
 if (z06 id u).1.kind = 0 then 9 else
 if zcq u id name = true then 10 else 0
end Tr
theorem zm3 (u : T) (hu : szB u = true) (cu : cntT u <= 1000000) (du : depT u <= 1000000) (x : T) (id : Idv) (name : ByteArray) : PC Tryz.prog 114 [.rptr (z0h u), .rptr (z0p id), .rptr (z0h x), .rptr (.str name)] (.bool (decide (x.label = name) || ((z70 id u).2.2 && z3z (z06 (z70 id u).1 u).1.kids x.kind name))) := by
 have hp := z9e (z70 id u).1 u hu
 have c1 := zl9 u (z7g u hu) (by omega) id
 have c2 := z6e u (z7g u hu) (by omega) (z70 id u).1
 have c3 := zii (z06 (z70 id u).1 u).1.kids (zd2 hp).1 x.kind name
 refine z1c 1 (by simp only [pureD.pureL, z01, pureD, Bool.and_self]; rfl) rfl (z17 [] Tryz.func114 rfl (by decide +kernel) z0e (by decide +kernel) (by simp [Tryz.ntmps114]) ?_)
 show awp _ _ (Code.seq _ _) _ _
 repeat' (first | ((first | refine zqh fun K J => ?_ | refine zqs (c1) ?_ | refine zqs (c2) ?_ | refine zqs (c3) ?_); (simp (disch := omega) only [go_sem, Nat.reduceBEq, ↓reduceIte, reduceCtorEq, Nat.reduceAdd, Nat.reduceLeDiff])) | refine zqn ?_ | refine zqu (by (simp (disch := omega) only [go_sem]); rfl) rfl ?_ | (refine J _ ?_; clear J K) | (refine zqf (fun hb => ?_) (fun hb => ?_) <;> (have hb2 := hb; try simp only [z09] at hb2) <;> ((first | have F : (_ : Bool) = _ := hb2 | have F := eq_false hb2 | have F := eq_true hb2); (simp (disch := omega) only [go_sem, Nat.reduceBEq, ↓reduceIte, reduceCtorEq, Nat.reduceAdd, hb, F, z18]); clear hb F; (try (exfalso; omega)))))
 all_goals exact z02 (by simp [*])
theorem zm4 (ok : Bool) : PC Tryz.prog 118 [.rptr (.bool ok)] (.bool (!ok)) := by
 refine z1c 1 (by simp only [pureD.pureL, pureD, Bool.and_self]) rfl (z17 [] Tryz.func118 rfl (by decide +kernel) z0e (by decide +kernel) (by simp [Tryz.ntmps118]) ?_)
 show awp _ _ (Code.seq _ _) _ _
 repeat' (first | ((refine zqh fun K J => ?_); (simp (disch := omega) only [go_sem, Nat.reduceBEq, ↓reduceIte, Nat.reduceAdd])) | refine zqn ?_ | refine zqu (by (simp (disch := omega) only [go_sem]); rfl) rfl ?_ | (refine J _ ?_; clear J K))
 exact z02 rfl
theorem zm5 (x : T) : PC Tryz.prog 119 [.rptr (z0h x)] (.bool (decide (x.kind = 0))) := by
 refine z1c 1 (by simp only [pureD.pureL, z01, pureD, Bool.and_self]) rfl (z17 [] Tryz.func119 rfl (by decide +kernel) z0e (by decide +kernel) (by simp [Tryz.ntmps119]) ?_)
 show awp _ _ (Code.seq _ _) _ _
 repeat' (first | ((refine zqh fun K J => ?_); (simp (disch := omega) only [go_sem, Nat.reduceBEq, ↓reduceIte, reduceCtorEq, Nat.reduceAdd])) | refine zqn ?_ | refine zqu (by (simp (disch := omega) only [go_sem]); rfl) rfl ?_ | (refine J _ ?_; clear J K))
 exact z02 rfl
theorem zm6 (q : T) (name : ByteArray) : PC Tryz.prog 121 [z0h q, .rptr (.str name)] (z0h (q.setLabel name)) := by
 refine z1c 1 (by simp only [pureD.pureL, z01, pureD, Bool.and_self]) (z01 _) (z17 [] Tryz.func121 rfl (by decide +kernel) z0e (by decide +kernel) (by simp [Tryz.ntmps121]) ?_)
 show awp _ _ (Code.seq _ _) _ _
 rw [show Tryz.f121.results.toList = [.cell 3 27] from rfl]
 rw [show z0h q = .agg _ from by rw [z0h, z0s]]
 repeat' (first | ((refine zqh fun K J => ?_); (simp (disch := omega) only [go_sem, Nat.reduceBEq, ↓reduceIte, reduceCtorEq, Nat.reduceAdd, Nat.reduceLeDiff, Nat.reduceLT, List.set_cons_succ, List.set_cons_zero])) | refine zqn ?_ | refine zqu (by (simp (disch := omega) only [go_sem, Nat.reduceBEq, ↓reduceIte, Nat.reduceAdd, Nat.reduceLeDiff]); rfl) rfl ?_ | (refine J _ ?_; clear J K))
 rw [z0h, z0s]
 exact z0j (by simp only [pureD, pureD.pureL, z0k, z48, Bool.and_self]) (Le.refl _)
theorem zu1 (ok : Bool) (x : T) (b : Bool) (f1 f2 f3 : FuncId) (c1 c2 c3 : List D) : z7m [(f1, c1, 4, !ok), (f2, c2, 9, decide (x.kind = 0)), (f3, c3, 10, b)] = (if ok = false then 4 else if x.kind = 0 then 9 else if b = true then 10 else 0) := by
 cases ok
 ·rw [if_pos rfl]; rfl
 rw [if_neg (by simp), Bool.not_true, z43]
 by_cases h : x.kind = 0
 ·rw [if_pos h, decide_eq_true h]; rfl
 rw [if_neg h, decide_eq_false h, z43]
 cases b
 ·rw [if_neg (by simp)]; rfl
 ·rw [if_pos rfl]; rfl
theorem zpu (u : T) (hu : szB u = true) (cu : cntT u <= 1000000) (du : depT u <= 1000000) (id : Idv) (name : ByteArray) (hn : name.size <= 1000000) :
  PC Tryz.prog 85 [z0h u, z0p id, .str name] (.tup [z0h (if zm2 u id name = 0 then z1y id (fun q => q.setLabel name) u else T.zero), .int .i64 (zm2 u id name)]) := by
 have c1 := z7n u hu (by omega) (by omega)
 have c2 := zby name (by unfold maxLen; omega)
 have c3 := z6e u (z7g u hu) (by omega) id
 have c4 := za1 [(118, [.rptr (.bool (z06 id u).2)], 4, !(z06 id u).2), (119, [.rptr (z0h (z06 id u).1)], 9, decide ((z06 id u).1.kind = 0)), (114, [.rptr (z0h u), .rptr (z0p id), .rptr (z0h (z06 id u).1), .rptr (.str name)], 10, zcq u id name)]
  (by simp) (by
   intro c hc
   simp only [List.mem_cons, List.not_mem_nil, or_false] at hc
   rcases hc with rfl | rfl | rfl
   ·exact ⟨rfl, zm4 _⟩
   ·exact ⟨by simp only [pureD.pureL, z01, pureD, Bool.and_self], zm5 _⟩
   ·exact ⟨by simp only [pureD.pureL, z01, pureD, Bool.and_self]; rfl, zm3 u hu cu du _ id name⟩)
 rw [zu1] at c4
 refine z1c 3 (by simp only [pureD.pureL, z01, pureD, Bool.and_self]; rfl) (by simp only [pureD.pureL, z01, pureD, Bool.and_self]) (z17 [] Tryz.func85 rfl (by decide +kernel) z0e (by decide +kernel) (by simp [Tryz.ntmps85]) ?_)
 show awp _ _ (Code.seq _ _) _ _
 rw [show Tryz.f85.results.toList = [.cell 6 27, .tmp 7] from rfl]
 by_cases h1 : standsT u = false
 ·rw [show zm2 u id name = 1 from by unfold zm2; rw [if_pos (.inl h1)], if_neg (by decide)]
  rw [h1] at c1
  repeat' (first | refine zqj ?_ | ((first | refine zqh fun K J => ?_ | refine zqs (c1) ?_); (simp (disch := omega) only [go_sem, Nat.reduceBEq, ↓reduceIte, Nat.reduceAdd, Nat.reduceLeDiff])) | ((refine zqd _ rfl (fun hc => ?_) (fun hc => ?_)) <;> (first | (cases hc; done) | ((try simp only [] at hc); (try (exfalso; omega))))) | refine zqg ?_ | refine zqu (by (simp (disch := omega) only [go_sem, Nat.reduceBEq, ↓reduceIte, Nat.reduceAdd, Nat.reduceLeDiff]); rfl) rfl ?_ | (refine J _ ?_; clear J K))
  exact z0j rfl (Le.tup ⟨z3c, Le.refl _, trivial⟩)
 by_cases h2 : z41 name = false
 ·rw [show zm2 u id name = 1 from by unfold zm2; rw [if_pos (.inr h2)], if_neg (by decide)]
  rw [Bool.not_eq_false] at h1
  rw [h1] at c1
  rw [h2] at c2
  repeat' (first | refine zqj ?_ | ((first | refine zqh fun K J => ?_ | refine zqs (c1) ?_ | refine zqs (c2) ?_); (simp (disch := omega) only [go_sem, Nat.reduceBEq, ↓reduceIte, Nat.reduceAdd, Nat.reduceLeDiff])) | ((refine zqd _ rfl (fun hc => ?_) (fun hc => ?_)) <;> (first | (cases hc; done) | ((try simp only [] at hc); (try (exfalso; omega))))) | refine zqg ?_ | refine zqu (by (simp (disch := omega) only [go_sem, Nat.reduceBEq, ↓reduceIte, Nat.reduceAdd, Nat.reduceLeDiff]); rfl) rfl ?_ | (refine J _ ?_; clear J K))
  exact z0j rfl (Le.tup ⟨z3c, Le.refl _, trivial⟩)
 have e0 : zm2 u id name = (if (z06 id u).2 = false then 4 else if (z06 id u).1.kind = 0 then 9 else if zcq u id name = true then 10 else 0) := by unfold zm2; rw [if_neg (by rw [not_or]; exact ⟨h1, h2⟩)]
 rw [<- e0] at c4
 rw [Bool.not_eq_false] at h1 h2
 rw [h1] at c1
 rw [h2] at c2
 by_cases hw : zm2 u id name = 0
 ·have hmf : (z06 id u).2 = true := by
   rw [e0] at hw
   by_cases h : (z06 id u).2 = false
   ·rw [if_pos h] at hw; cases hw
   ·simpa using h
  have hm : id ∈ z0g u := by rw [z2z, decide_eq_true_eq] at hmf; exact hmf
  have c5 := zex u hu id (fun q => q.setLabel name) (g := 121) (cap := [.rptr (.str name)]) rfl (fun q _ _ => zm6 q name)
  rw [(show (atR id (fun q => q.setLabel name) u).1 = z1y id (fun q => q.setLabel name) u from by rw [zfm _ (z1f h1) hm])] at c5
  rw [hw] at c4 ⊢
  rw [if_pos rfl]
  repeat' (first | refine zqj ?_ | ((first | refine z2g (N := 5) rfl fun K J => ?_ | refine zqs (c1) ?_ | refine zqs (c2) ?_ | refine zqs (c3) ?_); (simp (disch := omega) only [go_sem, Nat.reduceBEq, ↓reduceIte, Nat.reduceAdd, Nat.reduceLeDiff, Nat.reduceLT])) | ((refine zqd _ rfl (fun hc => ?_) (fun hc => ?_)) <;> (first | (cases hc; done) | ((try simp only [] at hc); (try (exfalso; omega))))) | refine zqb ?_ | (refine J _ ?_; clear J K))
  refine z1s fun K J => ?_
  (simp (disch := omega) only [go_sem, Nat.reduceBEq, ↓reduceIte, reduceCtorEq, Nat.reduceAdd, Nat.reduceMul, Nat.reduceLeDiff])
  refine z0x (PC.borrow c4 rfl 6 (z00 (z2y 5 rfl (z00 (z0u _ 2 rfl (z00 (z15 (e := 4) 2 ?_ zen (z03 1 rfl)) z08)) (z00 (z0u _ 2 rfl (z00 (z04 (e := 27) 1 ?_ z0i (z05 _)) z08)) (z00 (z0u _ 2 rfl (z00 (z04 (e := 27) 1 ?_ z0i (z05 _)) (z00 (z04 (e := 23) 1 ?_ z1p rfl) (z00 (z04 (e := 27) 1 ?_ z0i (z05 _)) (z00 (z15 (e := 9) 2 ?_ z7r (z03 1 rfl)) z08))))) z08)))) z08)) ?_
  all_goals try (focus ((simp (disch := omega) only [go_sem, Nat.reduceBEq, z0d]); done))
  (simp (disch := omega) only [go_sem, Nat.reduceBEq])
  refine J _ _ (zjp (b := 2) (j := 5) (e := 9) (cs := [.str name]) (d := .str name) (by (simp (disch := omega) only [go_sem, Nat.reduceBEq])) (.inl rfl) rfl (by (simp (disch := omega) only [go_sem, Nat.reduceBEq]))) ?_
  clear J K
  repeat' (first | refine zqj ?_ | ((first | refine zqh fun K J => ?_ | refine zqs (c5) ?_); (simp (disch := omega) only [go_sem, Nat.reduceBEq, ↓reduceIte, Nat.reduceAdd, Nat.reduceLeDiff])) | ((refine zqd _ rfl (fun hc => ?_) (fun hc => ?_)) <;> (first | (cases hc; done) | ((try simp only [] at hc); (try (exfalso; omega))))) | refine zqb ?_ | refine zqn ?_ | refine zqu (by (simp (disch := omega) only [go_sem, Nat.reduceBEq, ↓reduceIte, Nat.reduceLeDiff]); rfl) rfl ?_ | (refine J _ ?_; clear J K))
  refine z0j ?_ (Le.refl _)
  simp only [pureD, pureD.pureL, z05, Bool.and_self]
 ·rw [if_neg hw]
  repeat' (first | refine zqj ?_ | ((first | refine zqh fun K J => ?_ | refine zqs (c1) ?_ | refine zqs (c2) ?_ | refine zqs (c3) ?_); (simp (disch := omega) only [go_sem, Nat.reduceBEq, ↓reduceIte, reduceCtorEq, Nat.reduceAdd, Nat.reduceMul, Nat.reduceLeDiff, Nat.reduceLT])) | ((refine zqd _ rfl (fun hc => ?_) (fun hc => ?_)) <;> (first | (cases hc; done) | ((try simp only [] at hc); (try (exfalso; omega))))) | refine zqb ?_ | (refine J _ ?_; clear J K))
  refine z0x (PC.borrow c4 rfl 6 (z00 (z2y 5 rfl (z00 (z0u _ 2 rfl (z00 (z15 (e := 4) 2 ?_ zen (z03 1 rfl)) z08)) (z00 (z0u _ 2 rfl (z00 (z04 (e := 27) 1 ?_ z0i (z05 _)) z08)) (z00 (z0u _ 2 rfl (z00 (z04 (e := 27) 1 ?_ z0i (z05 _)) (z00 (z04 (e := 23) 1 ?_ z1p rfl) (z00 (z04 (e := 27) 1 ?_ z0i (z05 _)) (z00 (z15 (e := 9) 2 ?_ z7r (z03 1 rfl)) z08))))) z08)))) z08)) ?_
  all_goals try (focus ((simp (disch := omega) only [go_sem, Nat.reduceBEq, z0d]); done))
  (try (simp (disch := omega) only [go_sem, Nat.reduceBEq])); repeat' (first | refine zqj ?_ | ((refine zqh fun K J => ?_); (simp (disch := omega) only [go_sem, Nat.reduceBEq, ↓reduceIte, Nat.reduceAdd, Nat.reduceLeDiff])) | ((refine zqd _ rfl (fun hc => ?_) (fun hc => ?_)) <;> (((try simp only [z09] at hc); (try (exfalso; omega))))) | refine zqg ?_ | refine zqu (by (simp (disch := omega) only [go_sem, Nat.reduceBEq, ↓reduceIte, Nat.reduceAdd, Nat.reduceLeDiff]); rfl) rfl ?_ | (refine J _ ?_; clear J K))
  exact z0j rfl (Le.tup ⟨z3c, Le.refl _, trivial⟩)
namespace Tr
def zze (l : List Wd) : Bool := l.any fun w => !z74 w.text
def z4q (u : T) (id : Idv) (l : List Wd) : Int :=
 if standsT u = false \/ zze l = true then 1 else
 if (z06 id u).2 = false then 4 else
 if (z06 id u).1.kind = 0 then 9 else
 if 256 < l.length then 6 else 0
theorem zbs {u : T} {id : Idv} {l : List Wd} (h : z4q u id l = 0) : standsT u = true /\ id ∈ z0g u /\ zze l = false /\ ¬ (z06 id u).1.kind = 0 /\ l.length <= 256 := by
 unfold z4q at h
 split at h
 ·cases h
 rename_i h1
 split at h
 ·cases h
 rename_i h2
 split at h
 ·cases h
 rename_i h3
 split at h
 ·cases h
 rename_i h4
 rw [not_or, Bool.not_eq_false, Bool.not_eq_true] at h1
 rw [Bool.not_eq_false, z2z, decide_eq_true_eq] at h2
 exact ⟨h1.1, h2, h1.2, h3, by omega⟩
end Tr
theorem zvd (w : Wd) (hw : w.text.size <= maxLen) : PC Tryz.prog 157 [z4b w] (.bool (!z74 w.text)) := by
 have c1 := zhb true [w.text] (by unfold maxLen; simp) (by intro s hs; simp at hs; subst hs; exact hw)
 rw [show zvi [w.text] = z74 w.text from by unfold zvi; simp] at c1
 refine z1c 1 rfl rfl (z17 [] Tryz.func157 rfl (by decide +kernel) z0e (by decide +kernel) (by simp [Tryz.ntmps157]) ?_)
 show awp _ _ (Code.seq _ _) _ _
 repeat' (first | ((first | refine zqh fun K J => ?_ | refine zqs (c1) ?_); (simp (disch := omega) only [go_sem, Nat.reduceBEq, ↓reduceIte, reduceCtorEq, Nat.reduceAdd, Nat.reduceLeDiff])) | refine zqn ?_ | refine zqu (by (simp (disch := omega) only [go_sem]); rfl) rfl ?_ | (refine J _ ?_; clear J K))
 exact z02 rfl
theorem zve (u : T) (hu : szB u = true) (cu : cntT u <= 1000000) (du : depT u <= 1000000) (l : List Wd) (hl : l.length <= 1000000) (hw : ∀ w ∈ l, w.text.size <= maxLen) : PC Tryz.prog 158 [.rptr (z0h u), .rptr (z0q l), .rptr (.fn 157 [])] (.bool (!standsT u || zze l)) := by
 have c1 := z7n u hu (by omega) (by omega)
 have c2 := z5i false l (by unfold maxLen; omega) (g := 157) (cap := []) (fun w => !z74 w.text) rfl (fun w h => zvd w (hw w h))
 refine z1c 1 (by simp only [pureD.pureL, z01, z0k, pureD, Bool.and_self]) rfl (z17 [] Tryz.func158 rfl (by decide +kernel) z0e (by decide +kernel) (by simp [Tryz.ntmps158]) ?_)
 show awp _ _ (Code.seq _ _) _ _
 repeat' (first | ((first | refine zqh fun K J => ?_ | refine zqs (c1) ?_ | refine zqs (c2) ?_); (simp (disch := omega) only [go_sem, Nat.reduceBEq, ↓reduceIte, Nat.reduceAdd, z0q])) | refine zqn ?_ | refine zqu (by (simp (disch := omega) only [go_sem]); rfl) rfl ?_ | (refine J _ ?_; clear J K) | (refine zqf (fun hb => ?_) (fun hb => ?_) <;> (have hb2 := hb; try simp only [z09] at hb2) <;> ((have F : (_ : Bool) = _ := hb2); (simp (disch := omega) only [go_sem, Nat.reduceBEq, ↓reduceIte, Nat.reduceAdd, F]); clear hb F; (try (exfalso; omega)))))
 all_goals exact z02 (by simp [hb2, zze])
theorem zvf (ok : Bool) : PC Tryz.prog 159 [.rptr (.bool ok)] (.bool (!ok)) := by
 refine z1c 1 (by simp only [pureD.pureL, pureD, Bool.and_self]) rfl (z17 [] Tryz.func159 rfl (by decide +kernel) z0e (by decide +kernel) (by simp [Tryz.ntmps159]) ?_)
 show awp _ _ (Code.seq _ _) _ _
 repeat' (first | ((refine zqh fun K J => ?_); (simp (disch := omega) only [go_sem, Nat.reduceBEq, ↓reduceIte, Nat.reduceAdd])) | refine zqn ?_ | refine zqu (by (simp (disch := omega) only [go_sem]); rfl) rfl ?_ | (refine J _ ?_; clear J K))
 exact z02 rfl
theorem zvg (x : T) : PC Tryz.prog 160 [.rptr (z0h x)] (.bool (decide (x.kind = 0))) := by
 refine z1c 1 (by simp only [pureD.pureL, z01, pureD, Bool.and_self]) rfl (z17 [] Tryz.func160 rfl (by decide +kernel) z0e (by decide +kernel) (by simp [Tryz.ntmps160]) ?_)
 show awp _ _ (Code.seq _ _) _ _
 repeat' (first | ((refine zqh fun K J => ?_); (simp (disch := omega) only [go_sem, Nat.reduceBEq, ↓reduceIte, reduceCtorEq, Nat.reduceAdd])) | refine zqn ?_ | refine zqu (by (simp (disch := omega) only [go_sem]); rfl) rfl ?_ | (refine J _ ?_; clear J K))
 exact z02 rfl
theorem zvh (l : List Wd) : PC Tryz.prog 161 [.rptr (z0q l)] (.bool (decide (256 < l.length))) := by
 refine z1c 1 (by simp only [pureD.pureL, z0k, pureD, Bool.and_self]) rfl (z17 [] Tryz.func161 rfl (by decide +kernel) z0e (by decide +kernel) (by simp [Tryz.ntmps161]) ?_)
 show awp _ _ (Code.seq _ _) _ _
 repeat' (first | ((refine zqh fun K J => ?_); (simp (disch := omega) only [go_sem, Nat.reduceBEq, ↓reduceIte, Nat.reduceAdd, z0q])) | refine zqn ?_ | refine zqu (by (simp (disch := omega) only [go_sem]); rfl) rfl ?_ | (refine J _ ?_; clear J K))
 exact z02 (decide_eq_decide.2 (by omega))
theorem zmr (u : T) (id : Idv) (l : List Wd) (f1 f2 f3 f4 : FuncId) (c1 c2 c3 c4 : List D) : z7m [(f1, c1, 1, !standsT u || zze l), (f2, c2, 4, !(z06 id u).2), (f3, c3, 9, decide ((z06 id u).1.kind = 0)), (f4, c4, 6, decide (256 < l.length))] = z4q u id l := by
 unfold z4q
 cases h1 : standsT u
 ·rw [if_pos (.inl rfl)]; rfl
 by_cases h2 : zze l = true
 ·rw [if_pos (.inr h2), h2]; rfl
 rw [Bool.not_eq_true] at h2
 rw [h2]
 rw [if_neg (by simp)]
 cases h3 : (z06 id u).2
 ·rw [if_pos rfl]; rfl
 rw [if_neg (by simp)]
 by_cases h4 : (z06 id u).1.kind = 0
 ·rw [if_pos h4, decide_eq_true h4]; rfl
 rw [if_neg h4, decide_eq_false h4]
 by_cases h5 : 256 < l.length
 ·rw [if_pos h5, decide_eq_true h5]; rfl
 ·rw [if_neg h5, decide_eq_false h5]; rfl
theorem zoe (u : T) (hu : szB u = true) (cu : cntT u <= 1000000) (du : depT u <= 1000000) (id : Idv) (l : List Wd) (hl : l.length <= 1000000) (hw : ∀ w ∈ l, w.text.size <= maxLen) (f : T -> T) {g : FuncId} {cp : List D} (hc : pureD.pureL cp = true)
  (hg : ∀ q : T, PC Tryz.prog g (z0h q :: cp) (z0h (f q))) :
  PC Tryz.prog 109 [z0h u, z0p id, z0q l, .fn g cp] (.tup [z0h (if z4q u id l = 0 then z1y id f u else T.zero), .int .i64 (z4q u id l)]) := by
 have c3 := z6e u (z7g u hu) (by omega) id
 have c4 := za1 [(158, [.rptr (z0h u), .rptr (z0q l), .rptr (.fn 157 [])], 1, !standsT u || zze l), (159, [.rptr (.bool (z06 id u).2)], 4, !(z06 id u).2), (160, [.rptr (z0h (z06 id u).1)], 9, decide ((z06 id u).1.kind = 0)), (161, [.rptr (z0q l)], 6, decide (256 < l.length))]
  (by simp) (by
   intro c hc
   simp only [List.mem_cons, List.not_mem_nil, or_false] at hc
   rcases hc with rfl | rfl | rfl | rfl
   ·exact ⟨by simp only [pureD.pureL, z01, z0k, pureD, Bool.and_self], zve u hu cu du l hl hw⟩
   ·exact ⟨rfl, zvf _⟩
   ·exact ⟨by simp only [pureD.pureL, z01, pureD, Bool.and_self], zvg _⟩
   ·exact ⟨by simp only [pureD.pureL, z0k, pureD, Bool.and_self], zvh l⟩)
 rw [zmr] at c4
 refine z1c 3 (by simp only [pureD.pureL, z01, z0k, pureD, hc, Bool.and_self]; rfl) (by simp only [pureD.pureL, z01, pureD, Bool.and_self]) (z17 [] Tryz.func109 rfl (by decide +kernel) z0e (by decide +kernel) (by simp [Tryz.ntmps109]) ?_)
 show awp _ _ (Code.seq _ _) _ _
 rw [show Tryz.f109.results.toList = [.cell 8 27, .tmp 9] from rfl]
 by_cases ht : z4q u id l = 0
 ·obtain ⟨h1, hm, _, _, _⟩ := zbs ht
  have c5 := zex u hu id f hc (fun q _ _ => hg q)
  rw [(show (atR id f u).1 = z1y id f u from by rw [zfm _ (z1f h1) hm])] at c5
  rw [ht] at c4 ⊢
  rw [if_pos rfl]
  repeat' (first | ((first | refine zqh fun K J => ?_ | refine zqs (c3) ?_); (simp (disch := omega) only [go_sem, Nat.reduceBEq, ↓reduceIte, reduceCtorEq, Nat.reduceAdd, Nat.reduceMul, Nat.reduceLeDiff, Nat.reduceLT])) | (refine J _ ?_; clear J K))
  refine z0x (PC.borrow c4 rfl 6 (z00 (z2y 5 rfl (z00 (z0u _ 2 rfl (z00 (z04 (e := 27) 1 ?_ z0i (z05 _)) (z00 (z15 (e := 24) 2 ?_ ze9 (z03 1 (z0k _))) (z00 (z15 (e := 137) 2 ?_ zja (z03 1 rfl)) z08)))) (z00 (z0u _ 2 rfl (z00 (z15 (e := 4) 2 ?_ zen (z03 1 rfl)) z08)) (z00 (z0u _ 2 rfl (z00 (z04 (e := 27) 1 ?_ z0i (z05 _)) z08)) (z00 (z0u _ 2 rfl (z00 (z15 (e := 24) 2 ?_ ze9 (z03 1 (z0k _))) z08)) z08))))) z08)) ?_
  all_goals try (focus ((simp (disch := omega) only [go_sem, Nat.reduceBEq]); done))
  (try (simp (disch := omega) only [go_sem, Nat.reduceBEq])); repeat' (first | refine zqj ?_ | ((first | refine zqh fun K J => ?_ | refine zqs (c5) ?_); (simp (disch := omega) only [go_sem, Nat.reduceBEq, ↓reduceIte, Nat.reduceAdd, Nat.reduceLeDiff])) | ((refine zqd _ rfl (fun hc => ?_) (fun hc => ?_)) <;> (first | (cases hc; done) | ((try simp only [] at hc); (try (exfalso; omega))))) | refine zqb ?_ | refine zqn ?_ | refine zqu (by (simp (disch := omega) only [go_sem, Nat.reduceBEq, ↓reduceIte, Nat.reduceLeDiff]); rfl) rfl ?_ | (refine J _ ?_; clear J K))
  refine z0j ?_ (Le.refl _)
  simp only [pureD, pureD.pureL, z05, Bool.and_self]
 ·rw [if_neg ht]
  repeat' (first | ((first | refine zqh fun K J => ?_ | refine zqs (c3) ?_); (simp (disch := omega) only [go_sem, Nat.reduceBEq, ↓reduceIte, reduceCtorEq, Nat.reduceAdd, Nat.reduceMul, Nat.reduceLeDiff, Nat.reduceLT])) | (refine J _ ?_; clear J K))
  refine z0x (PC.borrow c4 rfl 6 (z00 (z2y 5 rfl (z00 (z0u _ 2 rfl (z00 (z04 (e := 27) 1 ?_ z0i (z05 _)) (z00 (z15 (e := 24) 2 ?_ ze9 (z03 1 (z0k _))) (z00 (z15 (e := 137) 2 ?_ zja (z03 1 rfl)) z08)))) (z00 (z0u _ 2 rfl (z00 (z15 (e := 4) 2 ?_ zen (z03 1 rfl)) z08)) (z00 (z0u _ 2 rfl (z00 (z04 (e := 27) 1 ?_ z0i (z05 _)) z08)) (z00 (z0u _ 2 rfl (z00 (z15 (e := 24) 2 ?_ ze9 (z03 1 (z0k _))) z08)) z08))))) z08)) ?_
  all_goals try (focus ((simp (disch := omega) only [go_sem, Nat.reduceBEq]); done))
  (try (simp (disch := omega) only [go_sem, Nat.reduceBEq])); repeat' (first | refine zqj ?_ | ((refine zqh fun K J => ?_); (simp (disch := omega) only [go_sem, Nat.reduceBEq, ↓reduceIte, Nat.reduceAdd, Nat.reduceLeDiff])) | ((refine zqd _ rfl (fun hc => ?_) (fun hc => ?_)) <;> (((try simp only [z09] at hc); (try (exfalso; omega))))) | refine zqg ?_ | refine zqu (by (simp (disch := omega) only [go_sem, Nat.reduceBEq, ↓reduceIte, Nat.reduceAdd, Nat.reduceLeDiff]); rfl) rfl ?_ | (refine J _ ?_; clear J K))
  exact z0j rfl (Le.tup ⟨z3c, Le.refl _, trivial⟩)
theorem zkt (q : T) (l : List Wd) (hl : l.length <= 1000000) : PC Tryz.prog 110 [z0h q, .rptr (z0q l)] (z0h (q.setWords l)) := by
 have c1 := z7k l hl
 refine z1c 5 (by simp only [pureD.pureL, z01, z0k, pureD, Bool.and_self]) (z01 _) (z17 [] Tryz.func110 rfl (by decide +kernel) z0e (by decide +kernel) (by simp [Tryz.ntmps110]) ?_)
 show awp _ _ (Code.seq _ _) _ _
 rw [show Tryz.f110.results.toList = [.cell 3 27] from rfl]
 rw [show z0h q = .agg _ from by rw [z0h, z0s]]
 repeat' (first | ((first | refine zqh fun K J => ?_ | refine z5s (c1) ?_); (simp (disch := omega) only [go_sem, Nat.reduceBEq, ↓reduceIte, reduceCtorEq, Nat.reduceAdd, Nat.reduceLeDiff, Nat.reduceLT, z0q, zko, List.set_cons_succ, List.set_cons_zero])) | refine zqn ?_ | refine zqu (by (simp (disch := omega) only [go_sem, Nat.reduceBEq, ↓reduceIte, Nat.reduceAdd, Nat.reduceLeDiff]); rfl) rfl ?_ | (refine J _ ?_; clear J K))
 rw [z0h, z0s]
 refine z57 (z58 4 (by simp only [pureD.pureL, pureD, Bool.and_false, Bool.false_and]) (z00 (z03 3 rfl) (z00 (z03 3 rfl) (z00 (z03 3 rfl) (z00 (z03 3 rfl) (z00 (z03 3 rfl) (z00 (z03 3 (z0k _)) (z00 (z1q (f := z0z) (l := l) 2 rfl ?_ z6m z8t (fun _ => rfl) (fun _ => rfl)) (z00 (z03 3 (z48 _)) z08)))))))))
 (simp (disch := omega) only [go_sem, Nat.reduceBEq])
theorem zms (u : T) (hu : szB u = true) (cu : cntT u <= 1000000) (du : depT u <= 1000000) (id : Idv) (l : List Wd) (hl : l.length <= 1000000) (hw : ∀ w ∈ l, w.text.size <= maxLen) :
  PC Tryz.prog 82 [z0h u, z0p id, z0q l] (.tup [z0h (if z4q u id l = 0 then z1y id (fun q => q.setWords l) u else T.zero), .int .i64 (z4q u id l)]) := by
 have c1 := zoe u hu cu du id l hl hw (fun q => q.setWords l) (g := 110) (cp := [.rptr (z0q l)]) (by simp only [pureD.pureL, z0k, pureD, Bool.and_self]) (fun q => zkt q l hl)
 refine z1c 3 (by simp only [pureD.pureL, z01, z0k, Bool.and_self]; rfl) (by simp only [pureD.pureL, z01, pureD, Bool.and_self]) (z17 [] Tryz.func82 rfl (by decide +kernel) z0e (by decide +kernel) (by simp [Tryz.ntmps82]) ?_)
 show awp _ _ (Code.seq _ _) _ _
 rw [show Tryz.f82.results.toList = [.cell 6 27, .tmp 7] from rfl]
 refine z1s fun K J => ?_
 (simp (disch := omega) only [go_sem, Nat.reduceBEq, Nat.reduceAdd])
 refine J _ _ (zjp (b := 2) (j := 5) (e := 24) (cs := [z0q l]) (d := z0q l) (by (simp (disch := omega) only [go_sem, Nat.reduceBEq, Nat.reduceAdd])) (.inl rfl) (z0k _) (by (simp (disch := omega) only [go_sem, Nat.reduceBEq, Nat.reduceAdd]))) ?_
 clear J K
 repeat' (first | ((first | refine zqh fun K J => ?_ | refine zqs (c1) ?_); (simp (disch := omega) only [go_sem, Nat.reduceBEq, ↓reduceIte, Nat.reduceAdd, Nat.reduceLeDiff, z0q])) | refine zqn ?_ | refine zqu (by (simp (disch := omega) only [go_sem, Nat.reduceBEq, ↓reduceIte, Nat.reduceLeDiff]); rfl) rfl ?_ | (refine J _ ?_; clear J K))
 refine z0j ?_ (Le.refl _)
 simp only [pureD, pureD.pureL, z05, Bool.and_self]
theorem zgk (q : T) (l : List Wd) (hl : l.length <= 1000000) : PC Tryz.prog 112 [z0h q, .rptr (z0q l)] (z0h (q.setHead l)) := by
 have c1 := z7k l hl
 refine z1c 5 (by simp only [pureD.pureL, z01, z0k, pureD, Bool.and_self]) (z01 _) (z17 [] Tryz.func112 rfl (by decide +kernel) z0e (by decide +kernel) (by simp [Tryz.ntmps112]) ?_)
 show awp _ _ (Code.seq _ _) _ _
 rw [show Tryz.f112.results.toList = [.cell 3 27] from rfl]
 rw [show z0h q = .agg _ from by rw [z0h, z0s]]
 repeat' (first | ((first | refine zqh fun K J => ?_ | refine z5s (c1) ?_); (simp (disch := omega) only [go_sem, Nat.reduceBEq, ↓reduceIte, reduceCtorEq, Nat.reduceAdd, Nat.reduceLeDiff, Nat.reduceLT, z0q, zko, List.set_cons_succ, List.set_cons_zero])) | refine zqn ?_ | refine zqu (by (simp (disch := omega) only [go_sem, Nat.reduceBEq, ↓reduceIte, Nat.reduceAdd, Nat.reduceLeDiff]); rfl) rfl ?_ | (refine J _ ?_; clear J K))
 rw [z0h, z0s]
 refine z57 (z58 4 (by simp only [pureD.pureL, pureD, Bool.and_false, Bool.false_and]) (z00 (z03 3 rfl) (z00 (z03 3 rfl) (z00 (z03 3 rfl) (z00 (z03 3 rfl) (z00 (z03 3 rfl) (z00 (z1q (f := z0z) (l := l) 2 rfl ?_ z6m z8t (fun _ => rfl) (fun _ => rfl)) (z00 (z03 3 (z0k _)) (z00 (z03 3 (z48 _)) z08)))))))))
 (simp (disch := omega) only [go_sem, Nat.reduceBEq])
theorem zim (u : T) (hu : szB u = true) (cu : cntT u <= 1000000) (du : depT u <= 1000000) (id : Idv) (l : List Wd) (hl : l.length <= 1000000) (hw : ∀ w ∈ l, w.text.size <= maxLen) :
  PC Tryz.prog 84 [z0h u, z0p id, z0q l] (.tup [z0h (if z4q u id l = 0 then z1y id (fun q => q.setHead l) u else T.zero), .int .i64 (z4q u id l)]) := by
 have c1 := zoe u hu cu du id l hl hw (fun q => q.setHead l) (g := 112) (cp := [.rptr (z0q l)]) (by simp only [pureD.pureL, z0k, pureD, Bool.and_self]) (fun q => zgk q l hl)
 refine z1c 3 (by simp only [pureD.pureL, z01, z0k, Bool.and_self]; rfl) (by simp only [pureD.pureL, z01, pureD, Bool.and_self]) (z17 [] Tryz.func84 rfl (by decide +kernel) z0e (by decide +kernel) (by simp [Tryz.ntmps84]) ?_)
 show awp _ _ (Code.seq _ _) _ _
 rw [show Tryz.f84.results.toList = [.cell 6 27, .tmp 7] from rfl]
 refine z1s fun K J => ?_
 (simp (disch := omega) only [go_sem, Nat.reduceBEq, Nat.reduceAdd])
 refine J _ _ (zjp (b := 2) (j := 5) (e := 24) (cs := [z0q l]) (d := z0q l) (by (simp (disch := omega) only [go_sem, Nat.reduceBEq, Nat.reduceAdd])) (.inl rfl) (z0k _) (by (simp (disch := omega) only [go_sem, Nat.reduceBEq, Nat.reduceAdd]))) ?_
 clear J K
 repeat' (first | ((first | refine zqh fun K J => ?_ | refine zqs (c1) ?_); (simp (disch := omega) only [go_sem, Nat.reduceBEq, ↓reduceIte, Nat.reduceAdd, Nat.reduceLeDiff, z0q])) | refine zqn ?_ | refine zqu (by (simp (disch := omega) only [go_sem, Nat.reduceBEq, ↓reduceIte, Nat.reduceLeDiff]); rfl) rfl ?_ | (refine J _ ?_; clear J K))
 refine z0j ?_ (Le.refl _)
 simp only [pureD, pureD.pureL, z05, Bool.and_self]
namespace Tr
end Tr
namespace Tr
end Tr
namespace Tr
end Tr
namespace Tr
def zk2 (rest p : T) (parent : Idv) (x : T) : Bool := decide (64 <= p.kids.length \/ 8 < (zag parent rest).length + 1 + depT x)
def z8o (u : T) (id parent : Idv) (i : Int) : Int :=
 if standsT u = false then 1 else
 if (z06 id u).2 = false \/ (z06 parent u).2 = false then 4 else
 if u.id = id \/ (z06 parent (z06 id u).1).2 = true then 9 else
 if z1n (z06 parent (z0w id u)).1.kind (z06 id u).1.kind = false then 9 else
 if i < 0 \/ ((z06 parent (z0w id u)).1.kids.length : Int) < i then 3 else
 if z3z (z06 parent (z0w id u)).1.kids (z06 id u).1.kind (z06 id u).1.label = true then 10 else
 if zk2 (z0w id u) (z06 parent (z0w id u)).1 parent (z06 id u).1 = true then 6 else 0
theorem zm8 {u : T} {id parent : Idv} {i : Int} (h : z8o u id parent i = 0) : standsT u = true /\ id ∈ z0g u /\ parent ∈ z0g u /\ ¬ u.id = id /\ parent ∉ z0g (z06 id u).1 /\ z47 (z0w id u) parent i (z06 id u).1 = 0 := by
 unfold z8o at h
 split at h
 ·cases h
 rename_i h1
 split at h
 ·cases h
 rename_i h2
 split at h
 ·cases h
 rename_i h3
 split at h
 ·cases h
 rename_i h4
 split at h
 ·cases h
 rename_i h5
 split at h
 ·cases h
 rename_i h6
 split at h
 ·cases h
 rename_i h7
 simp only [not_or, Bool.not_eq_false, Bool.not_eq_true] at h1 h2 h3 h4 h6 h7
 obtain ⟨h2a, h2b⟩ := h2
 obtain ⟨h3a, h3b⟩ := h3
 rw [z2z, decide_eq_true_eq] at h2a h2b
 rw [z2z, decide_eq_false_iff_not] at h3b
 obtain ⟨under, n, x, d1, d2, d3, d4, d5, d6, d7, d8, d9, d10, d11, d12⟩ := zew h1 h3a h2a
 rw [d2] at h3b h4 h6 h7 ⊢
 simp only at h3b h4 h6 h7 ⊢
 have hpr : parent ∈ z0g (z0w id u) := (d12 parent h2b).resolve_left h3b
 have hc : cntT u <= 1024 := ((z1v u).1 h1).2.2.1
 unfold zk2 at h7
 rw [decide_eq_false_iff_not] at h7
 refine ⟨h1, h2a, h2b, h3a, h3b, ?_⟩
 obtain ⟨m, rfl⟩ := Int.eq_ofNat_of_zero_le (show 0 <= i by omega)
 exact zgs d4 d5 d6 hpr h4 (by omega) h6 (by omega) (by omega) (by omega) d9
theorem zk3 {u : T} {id parent : Idv} (h1 : standsT u = true) (h2 : id ∈ z0g u) (h3 : parent ∈ z0g u) (h4 : ¬ u.id = id) (h5 : parent ∉ z0g (z06 id u).1) : (z06 parent (z0w id u)).1.kind = (z06 parent u).1.kind := by
 have := zsz u (z1f h1) h4 h3 (fun y hy => by rw [hy] at h5; exact h5)
 rw [this]
 exact (z7v id _).2.1
end Tr
theorem zyh (u : T) (hu : szB u = true) (cu : cntT u <= 1000000) (du : depT u <= 1000000) : PC Tryz.prog 133 [.rptr (z0h u)] (.bool (!standsT u)) := by
 have c1 := z7n u hu (by omega) (by omega)
 refine z1c 1 (by simp only [pureD.pureL, z01, pureD, Bool.and_self]) rfl (z17 [] Tryz.func133 rfl (by decide +kernel) z0e (by decide +kernel) (by simp [Tryz.ntmps133]) ?_)
 show awp _ _ (Code.seq _ _) _ _
 repeat' (first | ((first | refine zqh fun K J => ?_ | refine zqs (c1) ?_); (simp (disch := omega) only [go_sem, Nat.reduceBEq, ↓reduceIte, Nat.reduceAdd])) | refine zqn ?_ | refine zqu (by (simp (disch := omega) only [go_sem]); rfl) rfl ?_ | (refine J _ ?_; clear J K))
 exact z02 rfl
theorem zyi (u : T) (hu : szB u = true) (cu : cntT u <= 1000000) (du : depT u <= 1000000) (id parent : Idv) : PC Tryz.prog 134 [.rptr (z0h u), .rptr (z0p id), .rptr (z0p parent)] (.bool (!(z06 id u).2 || !(z06 parent u).2)) := by
 have c1 := zkr u (z7g u hu) (by omega) id
 have c2 := zkr u (z7g u hu) (by omega) parent
 refine z1c 1 (by simp only [pureD.pureL, z01, pureD]; rfl) rfl (z17 [] Tryz.func134 rfl (by decide +kernel) z0e (by decide +kernel) (by simp [Tryz.ntmps134]) ?_)
 show awp _ _ (Code.seq _ _) _ _
 repeat' (first | ((first | refine zqh fun K J => ?_ | refine zqs (c1) ?_ | refine zqs (c2) ?_); (simp (disch := omega) only [go_sem, Nat.reduceBEq, ↓reduceIte, Nat.reduceAdd])) | refine zqn ?_ | refine zqu (by (simp (disch := omega) only [go_sem]); rfl) rfl ?_ | (refine J _ ?_; clear J K) | (refine zqf (fun hb => ?_) (fun hb => ?_) <;> (have hb2 := hb; try simp only [z09] at hb2) <;> ((have F : (_ : Bool) = _ := hb2); (simp (disch := omega) only [go_sem, Nat.reduceBEq, ↓reduceIte, Nat.reduceAdd, F]); clear hb F; (try (exfalso; omega)))))
 all_goals exact z02 (by simp [hb2])
theorem zyj (u p x : T) (hu : szB u = true) (hx : szB x = true) (cp : p.kids.length <= 1000000) (du : depT u <= 1000000) (dx : depT x <= 1000000) (parent : Idv) : PC Tryz.prog 135 [.rptr (z0h p), .rptr (z0h u), .rptr (z0p parent), .rptr (z0h x)] (.bool (zk2 u p parent x)) := by
 have c1 := zo9 u (z7g u hu) (by omega) parent
 have c2 := zj9 x (z7h x hx) (by omega)
 have ha := zov parent u
 refine z1c 1 (by simp only [pureD.pureL, z01, pureD, Bool.and_self]; rfl) rfl (z17 [3000006, 3000010, 3000011, 5000012, 3000014, 5000015] Tryz.func135 rfl (by decide +kernel) z0e (by decide +kernel) (by simp [Tryz.ntmps135]) ?_)
 show awp _ _ (Code.seq _ _) _ _
 repeat' (first | ((first | refine zqh fun K J => ?_ | refine zqe (by decide +kernel) fun K J => ?_ | refine zqt (c1) ?_ | refine zqt (c2) ?_); (simp (disch := omega) only [go_sem, Nat.reduceBEq, Nat.reduceEqDiff, ↓reduceIte, reduceCtorEq, Nat.reduceAdd, z18])) | refine zqn ?_ | refine zqu (by (simp (disch := omega) only [go_sem]); rfl) rfl ?_ | (refine J _ ?_; clear J K) | (refine zqf (fun hb => ?_) (fun hb => ?_) <;> (have hb2 := hb; try simp only [z09] at hb2) <;> ((first | have F := eq_false hb2 | have F := eq_true hb2); (simp (disch := omega) only [go_sem, Nat.reduceBEq, Nat.reduceEqDiff, ↓reduceIte, Nat.reduceAdd, F]); clear hb F; (try (exfalso; omega)))))
 ·exact z02 (decide_eq_decide.2 (by omega))
 ·exact z02 (decide_eq_true (by omega)).symm
theorem zyk (p : T) (i : Int) : PC Tryz.prog 137 [.rptr (.int .i64 i), .rptr (z0h p)] (.bool (decide (i < 0) || decide ((p.kids.length : Int) < i))) := by
 refine z1c 1 (by simp only [pureD.pureL, z01, pureD, Bool.and_self]) rfl (z17 [] Tryz.func137 rfl (by decide +kernel) z0e (by decide +kernel) (by simp [Tryz.ntmps137]) ?_)
 show awp _ _ (Code.seq _ _) _ _
 repeat' (first | ((refine zqh fun K J => ?_); (simp (disch := omega) only [go_sem, Nat.reduceBEq, ↓reduceIte, Nat.reduceAdd])) | refine zqn ?_ | refine zqu (by (simp (disch := omega) only [go_sem]); rfl) rfl ?_ | (refine J _ ?_; clear J K) | (refine zqf (fun hb => ?_) (fun hb => ?_) <;> (have hb2 := hb; try simp only [z09] at hb2) <;> ((first | have F := eq_false hb2 | have F := eq_true hb2); (simp (disch := omega) only [go_sem, Nat.reduceBEq, ↓reduceIte, reduceCtorEq, Nat.reduceAdd, F, z18]); clear hb F; (try (exfalso; omega)))))
 all_goals exact z02 (by simp [hb2])
theorem zyl (p x : T) (hp : szB p = true) : PC Tryz.prog 138 [.rptr (z0h p), .rptr (z0h x)] (.bool (z3z p.kids x.kind x.label)) := by
 have c1 := zii p.kids (zd2 hp).1 x.kind x.label
 refine z1c 1 (by simp only [pureD.pureL, z01, pureD, Bool.and_self]) rfl (z17 [] Tryz.func138 rfl (by decide +kernel) z0e (by decide +kernel) (by simp [Tryz.ntmps138]) ?_)
 show awp _ _ (Code.seq _ _) _ _
 repeat' (first | ((first | refine zqh fun K J => ?_ | refine zqs (c1) ?_); (simp (disch := omega) only [go_sem, Nat.reduceBEq, ↓reduceIte, reduceCtorEq, Nat.reduceAdd, z18])) | refine zqn ?_ | refine zqu (by (simp (disch := omega) only [go_sem]); rfl) rfl ?_ | (refine J _ ?_; clear J K))
 exact z02 rfl
theorem zm9 (u : T) (id parent : Idv) (f1 f2 : FuncId) (c1 c2 : List D) : z7m [(f1, c1, 1, !standsT u), (f2, c2, 4, !(z06 id u).2 || !(z06 parent u).2)] = (if standsT u = false then 1 else if (z06 id u).2 = false \/ (z06 parent u).2 = false then 4 else 0) := by
 cases h1 : standsT u
 ·rw [if_pos rfl]; rfl
 rw [if_neg (by simp), Bool.not_true, z43]
 cases h2 : (z06 id u).2
 ·rw [if_pos (.inl rfl)]; rfl
 cases h3 : (z06 parent u).2
 ·rw [if_pos (.inr rfl)]; rfl
 ·rw [if_neg (by simp)]; rfl
theorem zpx (rest p x : T) (parent : Idv) (i : Int) (f1 f2 f3 : FuncId) (c1 c2 c3 : List D) : z7m [(f1, c1, 3, decide (i < 0) || decide ((p.kids.length : Int) < i)), (f2, c2, 10, z3z p.kids x.kind x.label), (f3, c3, 6, zk2 rest p parent x)] =
  (if i < 0 \/ (p.kids.length : Int) < i then 3 else if z3z p.kids x.kind x.label = true then 10 else if zk2 rest p parent x = true then 6 else 0) := by
 by_cases hi : i < 0 \/ (p.kids.length : Int) < i
 ·rw [if_pos hi, show (decide (i < 0) || decide ((p.kids.length : Int) < i)) = true from by simpa using hi]; rfl
 rw [if_neg hi, show (decide (i < 0) || decide ((p.kids.length : Int) < i)) = false from by simpa using hi, z43]
 cases ht : z3z p.kids x.kind x.label
 ·rw [if_neg (by simp), z43]
  cases hf : zk2 rest p parent x
  ·rw [if_neg (by simp)]; rfl
  ·rw [if_pos rfl]; rfl
 ·rw [if_pos rfl]; rfl
theorem pc_Move (u : T) (hu : szB u = true) (cu : cntT u <= 1000000) (du : depT u <= 1000000) (id parent : Idv) (i : Int) :
  PC Tryz.prog 90 [z0h u, z0p id, z0p parent, .int .i64 i] (.tup [z0h (if z8o u id parent i = 0 then z1y parent (z8q i.toNat (z06 id u).1) (z0w id u) else T.zero), .int .i64 (z8o u id parent i)]) := by
 have hx := z9e id u hu
 have hr := sz_wipe (id := id) u hu
 have dr : depT (z0w id u) <= depT u := zxx u
 have dx : depT (z06 id u).1 <= depT u := zxy id u
 have hp := z9e parent (z0w id u) hr
 have c1 := z6e u (z7g u hu) (by omega) id
 have c2 := z6e u (z7g u hu) (by omega) parent
 have c3 := zkr (z06 id u).1 (z7g _ hx) (by omega) parent
 have c4 := z8a (z06 parent u).1.kind (z06 id u).1.kind
 have c6 := z6e (z0w id u) (z7g _ hr) (by omega) parent
 have c7 := za1 [(133, [.rptr (z0h u)], 1, !standsT u), (134, [.rptr (z0h u), .rptr (z0p id), .rptr (z0p parent)], 4, !(z06 id u).2 || !(z06 parent u).2)]
  (by simp) (by
   intro c hc
   simp only [List.mem_cons, List.not_mem_nil, or_false] at hc
   rcases hc with rfl | rfl
   ·exact ⟨by simp only [pureD.pureL, z01, pureD, Bool.and_self], zyh u hu cu du⟩
   ·exact ⟨by simp only [pureD.pureL, z01, pureD]; rfl, zyi u hu cu du id parent⟩)
 have c8 := za1 [(137, [.rptr (.int .i64 i), .rptr (z0h (z06 parent (z0w id u)).1)], 3, decide (i < 0) || decide (((z06 parent (z0w id u)).1.kids.length : Int) < i)), (138, [.rptr (z0h (z06 parent (z0w id u)).1), .rptr (z0h (z06 id u).1)], 10, z3z (z06 parent (z0w id u)).1.kids (z06 id u).1.kind (z06 id u).1.label),
   (135, [.rptr (z0h (z06 parent (z0w id u)).1), .rptr (z0h (z0w id u)), .rptr (z0p parent), .rptr (z0h (z06 id u).1)], 6, zk2 (z0w id u) (z06 parent (z0w id u)).1 parent (z06 id u).1)]
  (by simp) (by
   intro c hc
   simp only [List.mem_cons, List.not_mem_nil, or_false] at hc
   rcases hc with rfl | rfl | rfl
   ·exact ⟨by simp only [pureD.pureL, z01, pureD, Bool.and_self], zyk _ i⟩
   ·exact ⟨by simp only [pureD.pureL, z01, pureD, Bool.and_self], zyl _ _ hp⟩
   ·exact ⟨by simp only [pureD.pureL, z01, pureD, Bool.and_self]; rfl, zyj _ _ _ hr hx (zd2 hp).1 (by omega) (by omega) parent⟩)
 rw [zm9] at c7
 rw [zpx] at c8
 refine z1c 3 (by simp only [pureD.pureL, z01, pureD, Bool.and_self]; rfl) (by simp only [pureD.pureL, z01, pureD, Bool.and_self]) (z17 [3000081, 3000082, 3000083, 3000084, 5000085, 5000086] Tryz.func90 rfl (by decide +kernel) z0e (by decide +kernel) (by simp [Tryz.ntmps90]) ?_)
 show awp _ _ (Code.seq _ _) _ _
 rw [show Tryz.f90.results.toList = [.cell 8 27, .tmp 9] from rfl]
 by_cases h1 : standsT u = false
 ·rw [if_pos h1] at c7
  rw [show z8o u id parent i = 1 from by unfold z8o; rw [if_pos h1], if_neg (by decide)]
  repeat' (first | ((refine zqh fun K J => ?_); (simp (disch := omega) only [go_sem, Nat.reduceBEq, ↓reduceIte, reduceCtorEq, Nat.reduceAdd, Nat.reduceMul, Nat.reduceLeDiff])) | (refine J _ ?_; clear J K))
  refine z0x (PC.borrow c7 rfl 6 (z00 (z2y 5 rfl (z00 (z0u _ 2 rfl (z00 (z04 (e := 27) 1 ?_ z0i (z05 _)) z08)) (z00 (z0u _ 2 rfl (z00 (z04 (e := 27) 1 ?_ z0i (z05 _)) (z00 (z04 (e := 23) 1 ?_ z1p rfl) (z00 (z04 (e := 23) 1 ?_ z1p rfl) z08)))) z08))) z08)) ?_
  all_goals try (focus ((simp (disch := omega) only [go_sem, Nat.reduceBEq, z0d]); done))
  (try (simp (disch := omega) only [go_sem, Nat.reduceBEq])); repeat' (first | refine zqj ?_ | ((refine zqh fun K J => ?_); (simp (disch := omega) only [go_sem, Nat.reduceBEq, ↓reduceIte, Nat.reduceAdd, Nat.reduceLeDiff, Int.reduceEq])) | ((refine zqd _ rfl (fun hc => ?_) (fun hc => ?_)) <;> (first | (cases hc; done) | ((try simp only [] at hc); (try (exfalso; omega))))) | refine zqg ?_ | refine zqu (by (simp (disch := omega) only [go_sem, Nat.reduceBEq, ↓reduceIte, Nat.reduceAdd, Nat.reduceLeDiff]); rfl) rfl ?_ | (refine J _ ?_; clear J K))
  exact z0j rfl (Le.tup ⟨z3c, Le.refl _, trivial⟩)
 rw [if_neg h1] at c7
 by_cases h2 : (z06 id u).2 = false \/ (z06 parent u).2 = false
 ·rw [if_pos h2] at c7
  rw [show z8o u id parent i = 4 from by unfold z8o; rw [if_neg h1, if_pos h2], if_neg (by decide)]
  repeat' (first | ((refine zqh fun K J => ?_); (simp (disch := omega) only [go_sem, Nat.reduceBEq, ↓reduceIte, reduceCtorEq, Nat.reduceAdd, Nat.reduceMul, Nat.reduceLeDiff])) | (refine J _ ?_; clear J K))
  refine z0x (PC.borrow c7 rfl 6 (z00 (z2y 5 rfl (z00 (z0u _ 2 rfl (z00 (z04 (e := 27) 1 ?_ z0i (z05 _)) z08)) (z00 (z0u _ 2 rfl (z00 (z04 (e := 27) 1 ?_ z0i (z05 _)) (z00 (z04 (e := 23) 1 ?_ z1p rfl) (z00 (z04 (e := 23) 1 ?_ z1p rfl) z08)))) z08))) z08)) ?_
  all_goals try (focus ((simp (disch := omega) only [go_sem, Nat.reduceBEq, z0d]); done))
  (try (simp (disch := omega) only [go_sem, Nat.reduceBEq])); repeat' (first | refine zqj ?_ | ((refine zqh fun K J => ?_); (simp (disch := omega) only [go_sem, Nat.reduceBEq, ↓reduceIte, Nat.reduceAdd, Nat.reduceLeDiff, Int.reduceEq])) | ((refine zqd _ rfl (fun hc => ?_) (fun hc => ?_)) <;> (first | (cases hc; done) | ((try simp only [] at hc); (try (exfalso; omega))))) | refine zqg ?_ | refine zqu (by (simp (disch := omega) only [go_sem, Nat.reduceBEq, ↓reduceIte, Nat.reduceAdd, Nat.reduceLeDiff]); rfl) rfl ?_ | (refine J _ ?_; clear J K))
  exact z0j rfl (Le.tup ⟨z3c, Le.refl _, trivial⟩)
 rw [if_neg h2] at c7
 rw [Bool.not_eq_false] at h1
 simp only [not_or, Bool.not_eq_false] at h2
 obtain ⟨h2a, h2b⟩ := h2
 have m1 : id ∈ z0g u := by rw [z2z, decide_eq_true_eq] at h2a; exact h2a
 have m2 : parent ∈ z0g u := by rw [z2z, decide_eq_true_eq] at h2b; exact h2b
 have e0 : z8o u id parent i = (if u.id = id \/ (z06 parent (z06 id u).1).2 = true then 9 else
   if z1n (z06 parent (z0w id u)).1.kind (z06 id u).1.kind = false then 9 else
   if i < 0 \/ ((z06 parent (z0w id u)).1.kids.length : Int) < i then 3 else
   if z3z (z06 parent (z0w id u)).1.kids (z06 id u).1.kind (z06 id u).1.label = true then 10 else
   if zk2 (z0w id u) (z06 parent (z0w id u)).1 parent (z06 id u).1 = true then 6 else 0) := by
  unfold z8o; rw [if_neg (by rw [h1]; simp), if_neg (by rw [h2a, h2b]; simp)]
 have hself : decide (id = u.id) = decide (u.id = id) := decide_eq_decide.2 ⟨fun h => h.symm, fun h => h.symm⟩
 by_cases h3 : u.id = id \/ (z06 parent (z06 id u).1).2 = true \/ z1n (z06 parent u).1.kind (z06 id u).1.kind = false
 ·have e9 : z8o u id parent i = 9 := by
   rw [e0]
   by_cases h4 : u.id = id \/ (z06 parent (z06 id u).1).2 = true
   ·rw [if_pos h4]
   ·rw [if_neg h4]
    have h5 : z1n (z06 parent u).1.kind (z06 id u).1.kind = false := by
     rcases h3 with h | h | h
     ·exact (h4 (.inl h)).elim
     ·exact (h4 (.inr h)).elim
     ·exact h
    have hk := zk3 h1 m1 m2 (fun e => h4 (.inl e)) (fun hm => h4 (.inr (by rw [z2z, decide_eq_true hm])))
    rw [hk, if_pos h5]
  rw [e9, if_neg (by decide)]
  repeat' (first | ((refine zqh fun K J => ?_); (simp (disch := omega) only [go_sem, Nat.reduceBEq, ↓reduceIte, reduceCtorEq, Nat.reduceAdd, Nat.reduceMul, Nat.reduceLeDiff])) | (refine J _ ?_; clear J K))
  refine z0x (PC.borrow c7 rfl 6 (z00 (z2y 5 rfl (z00 (z0u _ 2 rfl (z00 (z04 (e := 27) 1 ?_ z0i (z05 _)) z08)) (z00 (z0u _ 2 rfl (z00 (z04 (e := 27) 1 ?_ z0i (z05 _)) (z00 (z04 (e := 23) 1 ?_ z1p rfl) (z00 (z04 (e := 23) 1 ?_ z1p rfl) z08)))) z08))) z08)) ?_
  all_goals try (focus ((simp (disch := omega) only [go_sem, Nat.reduceBEq, z0d]); done))
  (try (simp (disch := omega) only [go_sem, Nat.reduceBEq])); repeat' (first | refine zqj ?_ | ((first | refine zqh fun K J => ?_ | refine zqs (c1) ?_ | refine zqs (c2) ?_ | refine zqs (c3) ?_ | refine zqs (c4) ?_); (simp (disch := omega) only [go_sem, Nat.reduceBEq, ↓reduceIte, reduceCtorEq, Nat.reduceAdd, Nat.reduceLeDiff, hself])) | ((refine zqd _ rfl (fun hc => ?_) (fun hc => ?_)) <;> (first | (cases hc; done) | ((try simp only [z09] at hc); (try (exfalso; omega))))) | refine zqb ?_ | refine zqg ?_ | refine zqu (by (simp (disch := omega) only [go_sem, Nat.reduceBEq, ↓reduceIte, Nat.reduceAdd, Nat.reduceLeDiff]); rfl) rfl ?_ | (refine J _ ?_; clear J K) | (refine zqf (fun hb => ?_) (fun hb => ?_) <;> (have hb2 := hb; try simp only [z09] at hb2) <;> ((first | have F : (_ : Bool) = _ := hb2 | have F := eq_false hb2 | have F := eq_true hb2); (simp (disch := omega) only [go_sem, Nat.reduceBEq, ↓reduceIte, reduceCtorEq, Nat.reduceAdd, Nat.reduceLeDiff, F]); clear hb F; (try (exfalso; omega)))))
  ·exact z0j rfl (Le.tup ⟨z3c, Le.refl _, trivial⟩)
  ·exfalso
   rcases h3 with h | h | h
   ·exact ‹¬ u.id = id› h
   ·rw [‹(z06 parent (z06 id u).1).2 = false›] at h; cases h
   ·rw [‹z1n (z06 parent u).1.kind (z06 id u).1.kind = true›] at h; cases h
  all_goals exact z0j rfl (Le.tup ⟨z3c, Le.refl _, trivial⟩)
 simp only [not_or, Bool.not_eq_true, Bool.not_eq_false] at h3
 obtain ⟨h3a, h3b, h3c⟩ := h3
 have n1 : parent ∉ z0g (z06 id u).1 := by rw [z2z, decide_eq_false_iff_not] at h3b; exact h3b
 have hk := zk3 h1 m1 m2 h3a n1
 rw [if_neg (by simp [h3a, h3b]), if_neg (by rw [hk, h3c]; simp)] at e0
 rw [<- e0] at c8
 have c5 := zem u hu du id h1 m1 h3a
 have h3d : decide (id = u.id) = false := decide_eq_false fun e => h3a e.symm
 rw [h3b] at c3
 rw [h3c] at c4
 by_cases hw : z8o u id parent i = 0
 ·obtain ⟨_, _, _, _, _, hwr⟩ := zm8 hw
  obtain ⟨hr2, hm, n, rfl, hn⟩ := zhy hwr
  have c9 := z00a n (z06 id u).1
  have c10 := zex (z0w id u) hr parent (z8q n (z06 id u).1) (g := 179) (cap := [.rptr (.int .i64 n), .rptr (z0h (z06 id u).1)]) (by simp only [pureD.pureL, z01, pureD, Bool.and_self]) (fun q hq hid => zth n _ hx q (z9o _ hr q hq) (hn q hq hid))
  rw [(show (atR parent (z8q n (z06 id u).1) (z0w id u)).1 = z1y parent (z8q n (z06 id u).1) (z0w id u) from by rw [zfm _ (z1f hr2.1) hm])] at c10
  rw [hw] at c8 ⊢
  rw [if_pos rfl, Int.toNat_natCast]
  repeat' (first | ((refine zqh fun K J => ?_); (simp (disch := omega) only [go_sem, Nat.reduceBEq, ↓reduceIte, reduceCtorEq, Nat.reduceAdd, Nat.reduceMul, Nat.reduceLeDiff])) | (refine J _ ?_; clear J K))
  refine z0x (PC.borrow c7 rfl 6 (z00 (z2y 5 rfl (z00 (z0u _ 2 rfl (z00 (z04 (e := 27) 1 ?_ z0i (z05 _)) z08)) (z00 (z0u _ 2 rfl (z00 (z04 (e := 27) 1 ?_ z0i (z05 _)) (z00 (z04 (e := 23) 1 ?_ z1p rfl) (z00 (z04 (e := 23) 1 ?_ z1p rfl) z08)))) z08))) z08)) ?_
  all_goals try (focus ((simp (disch := omega) only [go_sem, Nat.reduceBEq, z0d]); done))
  (try (simp (disch := omega) only [go_sem, Nat.reduceBEq])); repeat' (first | refine zqj ?_ | ((first | refine zqh fun K J => ?_ | refine zqs (c1) ?_ | refine zqs (c2) ?_ | refine zqs (c3) ?_ | refine zqs (c4) ?_ | refine zqs (c5) ?_ | refine zqs (c6) ?_); (simp (disch := omega) only [go_sem, Nat.reduceBEq, ↓reduceIte, reduceCtorEq, Nat.reduceAdd, Nat.reduceMul, Nat.reduceLeDiff, h3d])) | ((refine zqd _ rfl (fun hc => ?_) (fun hc => ?_)) <;> (first | (cases hc; done) | ((try simp only [] at hc); (try (exfalso; omega))))) | refine zqb ?_ | (refine J _ ?_; clear J K))
  refine z0x (PC.borrow c8 rfl 6 (z00 (z2y 5 rfl (z00 (z0u _ 2 rfl (z00 (z15 (e := 3) 2 ?_ z3p (z03 1 rfl)) (z00 (z04 (e := 27) 1 ?_ z0i (z05 _)) z08))) (z00 (z0u _ 2 rfl (z00 (z04 (e := 27) 1 ?_ z0i (z05 _)) (z00 (z04 (e := 27) 1 ?_ z0i (z05 _)) z08))) (z00 (z0u _ 2 rfl (z00 (z04 (e := 27) 1 ?_ z0i (z05 _)) (z00 (z04 (e := 27) 1 ?_ z0i (z05 _)) (z00 (z04 (e := 23) 1 ?_ z1p rfl) (z00 (z04 (e := 27) 1 ?_ z0i (z05 _)) z08))))) z08)))) z08)) ?_
  all_goals try (focus ((simp (disch := omega) only [go_sem, Nat.reduceBEq, z0d]); done))
  (try (simp (disch := omega) only [go_sem, Nat.reduceBEq])); repeat' (first | refine zqj ?_ | ((first | refine zqh fun K J => ?_ | refine zqe (by decide +kernel) fun K J => ?_ | refine zqt (c9) ?_ | refine zqt (c10) ?_); (simp (disch := omega) only [go_sem, Nat.reduceBEq, Nat.reduceEqDiff, ↓reduceIte, Nat.reduceAdd, Nat.reduceLeDiff])) | ((refine zqd _ rfl (fun hc => ?_) (fun hc => ?_)) <;> (first | (cases hc; done) | ((try simp only [] at hc); (try (exfalso; omega))))) | refine zqb ?_ | refine zqn ?_ | refine zqu (by (simp (disch := omega) only [go_sem, Nat.reduceBEq, ↓reduceIte, Nat.reduceLeDiff]); rfl) rfl ?_ | (refine J _ ?_; clear J K))
  refine z0j ?_ (Le.refl _)
  simp only [pureD, pureD.pureL, z05, Bool.and_self]
 ·rw [if_neg hw]
  repeat' (first | ((refine zqh fun K J => ?_); (simp (disch := omega) only [go_sem, Nat.reduceBEq, ↓reduceIte, reduceCtorEq, Nat.reduceAdd, Nat.reduceMul, Nat.reduceLeDiff])) | (refine J _ ?_; clear J K))
  refine z0x (PC.borrow c7 rfl 6 (z00 (z2y 5 rfl (z00 (z0u _ 2 rfl (z00 (z04 (e := 27) 1 ?_ z0i (z05 _)) z08)) (z00 (z0u _ 2 rfl (z00 (z04 (e := 27) 1 ?_ z0i (z05 _)) (z00 (z04 (e := 23) 1 ?_ z1p rfl) (z00 (z04 (e := 23) 1 ?_ z1p rfl) z08)))) z08))) z08)) ?_
  all_goals try (focus ((simp (disch := omega) only [go_sem, Nat.reduceBEq, z0d]); done))
  (try (simp (disch := omega) only [go_sem, Nat.reduceBEq])); repeat' (first | refine zqj ?_ | ((first | refine zqh fun K J => ?_ | refine zqs (c1) ?_ | refine zqs (c2) ?_ | refine zqs (c3) ?_ | refine zqs (c4) ?_ | refine zqs (c5) ?_ | refine zqs (c6) ?_); (simp (disch := omega) only [go_sem, Nat.reduceBEq, ↓reduceIte, reduceCtorEq, Nat.reduceAdd, Nat.reduceMul, Nat.reduceLeDiff, h3d])) | ((refine zqd _ rfl (fun hc => ?_) (fun hc => ?_)) <;> (first | (cases hc; done) | ((try simp only [] at hc); (try (exfalso; omega))))) | refine zqb ?_ | (refine J _ ?_; clear J K))
  refine z0x (PC.borrow c8 rfl 6 (z00 (z2y 5 rfl (z00 (z0u _ 2 rfl (z00 (z15 (e := 3) 2 ?_ z3p (z03 1 rfl)) (z00 (z04 (e := 27) 1 ?_ z0i (z05 _)) z08))) (z00 (z0u _ 2 rfl (z00 (z04 (e := 27) 1 ?_ z0i (z05 _)) (z00 (z04 (e := 27) 1 ?_ z0i (z05 _)) z08))) (z00 (z0u _ 2 rfl (z00 (z04 (e := 27) 1 ?_ z0i (z05 _)) (z00 (z04 (e := 27) 1 ?_ z0i (z05 _)) (z00 (z04 (e := 23) 1 ?_ z1p rfl) (z00 (z04 (e := 27) 1 ?_ z0i (z05 _)) z08))))) z08)))) z08)) ?_
  all_goals try (focus ((simp (disch := omega) only [go_sem, Nat.reduceBEq, z0d]); done))
  (try (simp (disch := omega) only [go_sem, Nat.reduceBEq])); repeat' (first | refine zqj ?_ | ((refine zqh fun K J => ?_); (simp (disch := omega) only [go_sem, Nat.reduceBEq, ↓reduceIte, Nat.reduceAdd, Nat.reduceLeDiff])) | ((refine zqd _ rfl (fun hc => ?_) (fun hc => ?_)) <;> (((try simp only [z09] at hc); (try (exfalso; omega))))) | refine zqg ?_ | refine zqu (by (simp (disch := omega) only [go_sem, Nat.reduceBEq, ↓reduceIte, Nat.reduceAdd, Nat.reduceLeDiff]); rfl) rfl ?_ | (refine J _ ?_; clear J K))
  exact z0j rfl (Le.tup ⟨z3c, Le.refl _, trivial⟩)
namespace Tr
theorem take_zero {u x : T} {id : Idv} (h1 : standsT u = true) (h2 : z06 id u = (x, true)) (h3 : ¬ u.id = id) : zaz u id = 0 := by
 unfold zaz; rw [if_neg (by rw [h1]; simp), if_neg (by rw [h2]; simp), if_neg h3]
end Tr
end
section
open Abs Facts Tr
namespace Tr
def zfs (t : T) : T := t.setKids []
def ziy (id : Idv) (a b : T) : Prop := ∀ p ∈ z0l a, ∃ p' ∈ z0l b, p'.id = p.id /\ (p.id ≠ id -> zfs p' = zfs p) /\ ∀ y ∈ p.kids, ∃ y' ∈ p'.kids, y'.id = y.id
theorem zbw : ∀ u x : T, x ∈ z0l u -> ∀ y ∈ z0l x, y ∈ z0l u := by
 refine fun u => z5p (p := fun u => ∀ x : T, x ∈ z0l u -> ∀ y ∈ z0l x, y ∈ z0l u) (fun u ih x hx y hy => ?_) u
 rw [z21, List.mem_cons] at hx
 rcases hx with rfl | hx
 ·exact hy
 ·obtain ⟨k, hk, hxk⟩ := List.mem_flatMap.1 hx
  exact z34 hk (ih k hk x hxk y hy)
theorem zhh : ∀ t : T, (z0g t).Nodup -> ∀ p ∈ z0l t, ∀ y ∈ p.kids, (z70 y.id t).1 = p.id := by
 refine z5p fun t ih hn p hp y hy => ?_
 obtain ⟨g1, g2, g3⟩ := zcx hn
 rw [z21, List.mem_cons] at hp
 rcases hp with rfl | hp
 ·obtain ⟨i, hi, rfl⟩ := List.getElem_of_mem hy
  rw [zjf (id := p.kids[i].id) (t := p) (i := i) (fun e => g1 _ hy (e ▸ z26 _)) hi (fun j hj h => (z89 _ _).2 (g3 i j hi h (by omega) _ (z26 _))) rfl]
 ·obtain ⟨k, hk, hpk⟩ := List.mem_flatMap.1 hp
  obtain ⟨i, hi, rfl⟩ := List.getElem_of_mem hk
  have hyi : y.id ∈ z0g t.kids[i] := List.mem_map.2 ⟨y, zbw _ p hpk y (z34 hy (z2j y)), rfl⟩
  have hne : ¬ t.kids[i].id = y.id := by
   intro e
   have hn2 := g2 _ hk
   have key : ∀ t : T, (z0g t).Nodup -> ∀ p ∈ z0l t, ∀ y ∈ p.kids, t.id ≠ y.id := by
    intro t hn p hp y hy e
    rw [z1x, List.nodup_cons] at hn
    refine hn.1 ?_
    rw [e]
    rw [z21, List.mem_cons] at hp
    rcases hp with rfl | hp
    ·exact List.mem_flatMap.2 ⟨y, hy, z26 y⟩
    ·obtain ⟨k, hk, hpk⟩ := List.mem_flatMap.1 hp
     refine List.mem_flatMap.2 ⟨k, hk, List.mem_map.2 ⟨y, ?_, rfl⟩⟩
     exact zbw k p hpk y (z34 hy (z2j y))
   exact key _ hn2 p hpk y hy e
  rw [zsu (id := y.id) (t := t) (i := i) (fun e => g1 _ hk (e ▸ hyi)) hi (fun j hj h => (z89 _ _).2 (g3 i j hi h (by omega) _ hyi)) hne (z94.2 hyi)]
  exact ih _ hk (g2 _ hk) p hpk y hy
theorem zw5 (C : Ctx) {x y : T} (h : y ∈ z0l x) : y ∈ z0l (z2b C x) := by
 induction C with
 | hole => exact h
 | node t l c r ih => exact z34 (t := z2b (.node t l c r) x) (k := z2b c x) (by show _ ∈ l ++ _ :: r; simp) ih
theorem zw6 {t : T} {k : Idv} (hk : k ∈ z0g t) (h0 : ¬ t.id = k) : ∃ p ∈ z0l t, ∃ y ∈ p.kids, y.id = k := by
 obtain ⟨C, q, l, x, r, e, hx, _⟩ := znx h0 hk
 refine ⟨q.setKids (l ++ x :: r), ?_, x, by show x ∈ l ++ x :: r; simp, hx⟩
 rw [e]
 exact zw5 C (z2j _)
theorem z4v {id : Idv} {a b : T} (J : ziy id a b) (ha : (z0g a).Nodup) (hb : (z0g b).Nodup) {k : Idv} (hk : k ∈ z0g a) :
  (z06 k b).2 = true /\ (k ≠ id -> zfs (z06 k a).1 = zfs (z06 k b).1) /\ (¬ a.id = k -> (z70 k a).1 = (z70 k b).1) := by
 obtain ⟨p, hp, hpk⟩ := List.mem_map.1 hk
 obtain ⟨p', hp', e1, e2, _⟩ := J p hp
 have h1 := zay ha hp hpk
 have h2 := zay hb hp' (e1.trans hpk)
 refine ⟨by rw [h2], fun hne => ?_, fun h0 => ?_⟩
 ·rw [h1, h2]; exact (e2 (by rw [hpk]; exact hne)).symm
 ·obtain ⟨q, hq, y, hy, hyk⟩ := zw6 hk h0
  obtain ⟨q', hq', f1, _, f3⟩ := J q hq
  obtain ⟨y', hy', f4⟩ := f3 y hy
  have g1 := zhh a ha q hq y hy
  have g2 := zhh b hb q' hq' y' hy'
  rw [hyk] at g1
  rw [f4, hyk] at g2
  rw [g1, g2, f1]
def zgl : Ctx -> Ctx -> Ctx
 | .hole, D => D
 | .node t l c r, D => .node t l (zgl c D) r
theorem zft (D : Ctx) (x : T) : ∀ C, z2b (zgl C D) x = z2b C (z2b D x)
 | .hole => rfl
 | .node t l c r => by rw [zgl, z2b, zft D x c, z2b]
theorem zor (D : Ctx) : ∀ C, z69 (zgl C D) = z69 C ++ z69 D
 | .hole => by simp [zgl, z69]
 | .node t l c r => by rw [zgl, z69, z69, zor D c, List.cons_append, List.append_assoc]
theorem zl3 (D : Ctx) : ∀ C, z3g (zgl C D) = z3g D ++ z3g C
 | .hole => by simp [zgl, z3g]
 | .node t l c r => by rw [zgl, z3g, z3g, zl3 D c, List.append_assoc]
theorem zl4 {id : Idv} {a b : T} (h : ∀ p ∈ z0l a, p ∈ z0l b) : ziy id a b := fun p hp => ⟨p, h p hp, rfl, fun _ => rfl, fun y hy => ⟨y, hy, rfl⟩⟩
theorem zd6 {id : Idv} {a b : T} (J : ziy id a b) (hid : b.id = a.id) : ∀ C, ziy id (z2b C a) (z2b C b)
 | .hole => J
 | .node t l c r => by
  have ih := zd6 J hid c
  have hr : (z2b c b).id = (z2b c a).id := by
   cases c with
   | hole => exact hid
   | node t' l' c' r' => rfl
  intro p hp
  rw [z2b, z21, List.mem_cons] at hp
  rcases hp with rfl | hp
  ·refine ⟨z2b (.node t l c r) b, z2j _, rfl, fun _ => rfl, fun y hy => ?_⟩
   have hy : y ∈ l ++ z2b c a :: r := hy
   show ∃ y' ∈ l ++ z2b c b :: r, y'.id = y.id
   rcases List.mem_append.1 hy with h | h
   ·exact ⟨y, List.mem_append_left _ h, rfl⟩
   ·rcases List.mem_cons.1 h with rfl | h
    ·exact ⟨z2b c b, by simp, hr⟩
    ·exact ⟨y, List.mem_append_right _ (List.mem_cons_of_mem _ h), rfl⟩
  ·have hp : p ∈ (l ++ z2b c a :: r).flatMap z0l := hp
   rw [List.flatMap_append, List.flatMap_cons, List.mem_append, List.mem_append] at hp
   have sub : ∀ k ∈ l ++ z2b c b :: r, ∀ y ∈ z0l k, y ∈ z0l (z2b (.node t l c r) b) := fun k hk y hy => z34 (t := z2b (.node t l c r) b) hk hy
   rcases hp with h | h | h
   ·obtain ⟨k, hk, hpk⟩ := List.mem_flatMap.1 h
    exact ⟨p, sub k (List.mem_append_left _ hk) p hpk, rfl, fun _ => rfl, fun y hy => ⟨y, hy, rfl⟩⟩
   ·obtain ⟨p', hp', e⟩ := ih p h
    exact ⟨p', sub _ (by simp) p' hp', e⟩
   ·obtain ⟨k, hk, hpk⟩ := List.mem_flatMap.1 h
    exact ⟨p, sub k (List.mem_append_right _ (List.mem_cons_of_mem _ hk)) p hpk, rfl, fun _ => rfl, fun y hy => ⟨y, hy, rfl⟩⟩
theorem zw7 {id : Idv} (q x : T) (l r : List T) : ziy id (q.setKids (l ++ r)) (q.setKids (l ++ x :: r)) := by
 intro p hp
 have sub : ∀ k ∈ l ++ x :: r, ∀ y ∈ z0l k, y ∈ z0l (q.setKids (l ++ x :: r)) := fun k hk y hy => z34 (t := q.setKids (l ++ x :: r)) hk hy
 have mem : ∀ k ∈ l ++ r, k ∈ l ++ x :: r := fun k hk => by
  rcases List.mem_append.1 hk with h | h
  ·exact List.mem_append_left _ h
  ·exact List.mem_append_right _ (List.mem_cons_of_mem _ h)
 rw [z21, List.mem_cons] at hp
 rcases hp with rfl | hp
 ·exact ⟨_, z2j _, rfl, fun _ => rfl, fun y hy => ⟨y, mem y hy, rfl⟩⟩
 ·obtain ⟨k, hk, hpk⟩ := List.mem_flatMap.1 hp
  exact ⟨p, sub k (mem k hk) p hpk, rfl, fun _ => rfl, fun y hy => ⟨y, hy, rfl⟩⟩
theorem zw8 {q q' : T} (h1 : q'.id = q.id) (h2 : q'.kids = q.kids) : ziy q.id q q' := by
 intro p hp
 rw [z21, List.mem_cons] at hp
 rcases hp with rfl | hp
 ·exact ⟨q', z2j _, h1, fun h => (h rfl).elim, fun y hy => ⟨y, by rw [h2]; exact hy, rfl⟩⟩
 ·refine ⟨p, ?_, rfl, fun _ => rfl, fun y hy => ⟨y, hy, rfl⟩⟩
  rw [z21, h2]; exact List.mem_cons_of_mem _ hp
theorem zrj (id : Idv) : ∀ u : T, ∀ p ∈ z0l (z0w id u), ∃ q ∈ z0l u, p = z0w id q := by
 refine z5p fun u ih p hp => ?_
 by_cases hpu : p = z0w id u
 ·exact ⟨u, z2j u, hpu⟩
 ·have hp2 : p ∈ ((u.kids.filter (z8b id)).map (z0w id)).flatMap z0l := by
   have e : z0l (z0w id u) = z0w id u :: ((u.kids.filter (z8b id)).map (z0w id)).flatMap z0l := by
    conv => lhs; rw [z21]
    rw [show (z0w id u).kids = (u.kids.filter (z8b id)).map (z0w id) from by rw [z54]; rfl]
   rw [e, List.mem_cons] at hp
   exact hp.resolve_left hpu
  obtain ⟨k, hk, hpk⟩ := List.mem_flatMap.1 hp2
  obtain ⟨k', hk', rfl⟩ := List.mem_map.1 hk
  have hm := (List.mem_filter.1 hk').1
  obtain ⟨q, hq, e⟩ := ih k' hm p hpk
  exact ⟨q, z34 hm hq, e⟩
theorem zhi (id : Idv) (j : Idv) (u : T) : ziy id (z0w j u) u := by
 intro p hp
 obtain ⟨q, hq, rfl⟩ := zrj j u p hp
 refine ⟨q, hq, (z7v j q).1.symm, fun _ => ?_, fun y hy => ?_⟩
 ·unfold zfs
  obtain ⟨h1, h2, h3, h4, h5⟩ := z7v j q
  unfold T.setKids
  rw [h1, h2, h3, h4, h5]
 ·rw [z54] at hy
  obtain ⟨y', hy', rfl⟩ := List.mem_map.1 hy
  exact ⟨y', (List.mem_filter.1 hy').1, (z7v j y').1.symm⟩
theorem zd7 {C : Ctx} {q q' : T} (hs : standsT (z2b C q) = true) (h1 : q'.id = q.id) (h2 : q'.kind = q.kind) (h3 : q'.kids = q.kids) (ha : z32 q' = true) (hC : ctxR C (z5n q) -> ctxR C (z5n q')) : standsT (z2b C q') = true := by
 rw [z1v] at hs ⊢
 obtain ⟨u1, u2, u3, u4, u5, u6⟩ := hs
 rw [z3k] at u1
 obtain ⟨hr, hp⟩ := z98 C (x := q') (y := q) h1 h2
 have hi : z0g q' = z0g q := by rw [z1x, z1x, h1, h3]
 have V : depT q' = depT q := by rw [z46, z46 q, h3]
 have hc : cntT q' = cntT q := by rw [<- z2m, <- z2m, hi]
 refine ⟨?_, ?_, ?_, ?_, by rw [hr, hp]; exact u5, ?_⟩
 ·rw [z3k]
  refine ⟨hC u1.1, ?_⟩
  have := u1.2
  rw [z3y] at this ⊢
  rw [h3, h2]
  simp only [Bool.and_eq_true] at this ⊢
  exact ⟨ha, this.2⟩
 ·rw [z7y] at u2 ⊢; omega
 ·rw [z52] at u3 ⊢; omega
 ·rw [z2i, hi, <- z2i]; exact u4
 ·rw [z6w, hi, <- z6w]; exact u6
def LRP (u v : T) (id : Idv) (gone : List Idv) : Prop := standsT v = true /\ cntT v + gone.length = cntT u /\ gone.Nodup /\
 ∀ k ∈ z0g u, (z06 k v).2 = (!decide (k ∈ gone)) /\ ((z06 k v).2 = true -> k ≠ id -> zfs (z06 k u).1 = zfs (z06 k v).1 /\ (z70 k u).1 = (z70 k v).1)
theorem zrk {u : T} {id : Idv} (h : zaz u id = 0) : LRP u (z0w id u) id (z0g (z06 id u).1) := by
 obtain ⟨h1, h2, h3⟩ := zs9 h
 obtain ⟨under, n, x, d1, d2, d3, d4, d5, d6, d7, d8, d9, d10, d11, d12⟩ := zew h1 h3 h2
 rw [d2]
 refine ⟨d4, by rw [z2m]; exact d11, z1f d5, fun k hk => ?_⟩
 by_cases hx : k ∈ z0g x
 ·have : k ∉ z0g (z0w id u) := d9 k hx
  rw [z2z, decide_eq_false this, decide_eq_true hx]
  exact ⟨rfl, fun h => by cases h⟩
 ·have hr : k ∈ z0g (z0w id u) := (d12 k hk).resolve_left hx
  rw [z2z, decide_eq_true hr, decide_eq_false hx]
  refine ⟨rfl, fun _ hne => ?_⟩
  obtain ⟨_, f2, f3⟩ := z4v (zhi id id u) (z1f d4) (z1f h1) hr
  refine ⟨(f2 hne).symm, ?_⟩
  by_cases hu : u.id = k
  ·rw [z7c hu, z7c (by rw [(z7v id u).1]; exact hu)]
  ·exact (f3 (by rw [(z7v id u).1]; exact hu)).symm
theorem zzp {u : T} {id parent : Idv} {m : Nat} (h : z8o u id parent m = 0) : LRP u (z1y parent (z8q m (z06 id u).1) (z0w id u)) id [] := by
 obtain ⟨h1, h2, h3, h4, h5, hw⟩ := zm8 h
 obtain ⟨under, n, x, d1, d2, d3, d4, d5, d6, d7, d8, d9, d10, d11, d12⟩ := zew h1 h4 h2
 rw [d2] at hw h5 ⊢
 simp only at hw h5 ⊢
 obtain ⟨C, q, l, r, e1, e2, e3, e4, f1, f2, f3, f4, f5, _, f7, f8⟩ := zjh hw
 refine ⟨f1, by simp; omega, List.nodup_nil, fun k hk => ?_⟩
 have hnv := z1f f1
 have hxu : x ∈ z0l u := by have := zeq (id := id) (u := u) (by rw [d2]); rw [d2] at this; exact this
 have hxv : x ∈ z0l (z1y parent (z8q m x) (z0w id u)) := by have := zeq (id := x.id) (u := z1y parent (z8q m x) (z0w id u)) (by rw [f3]); rw [f3] at this; exact this
 by_cases hx : k ∈ z0g x
 ·obtain ⟨a1, a2, a3⟩ := z4v (id := id) (zl4 fun p hp => zbw u x hxu p hp) (z1f d5) (z1f h1) hx
  obtain ⟨b1, b2, b3⟩ := z4v (id := id) (zl4 fun p hp => zbw _ x hxv p hp) (z1f d5) hnv hx
  refine ⟨by rw [b1]; rfl, fun _ hne => ⟨(a2 hne).symm.trans (b2 hne), ?_⟩⟩
  have hr : ¬ x.id = k := fun e => hne (e.symm.trans d3)
  exact (a3 hr).symm.trans (b3 hr)
 ·have hr : k ∈ z0g (z0w id u) := (d12 k hk).resolve_left hx
  obtain ⟨a1, a2, a3⟩ := z4v (zhi id id u) (z1f d4) (z1f h1) hr
  have J : ziy id (z0w id u) (z1y parent (z8q m x) (z0w id u)) := by
   have := zd6 (id := id) (zw7 q x l r) rfl C
   rw [<- e1, <- e4] at this
   exact this
  obtain ⟨b1, b2, b3⟩ := z4v J (z1f d4) hnv hr
  refine ⟨by rw [b1]; rfl, fun _ hne => ⟨(a2 hne).symm.trans (b2 hne), ?_⟩⟩
  by_cases hu : u.id = k
  ·have h0 : (z0w id u).id = k := by rw [(z7v id u).1]; exact hu
   have hv : (z1y parent (z8q m x) (z0w id u)).id = (z0w id u).id := by
    rw [e4]; conv => rhs; rw [e1]
    exact (z98 C (x := q.setKids (l ++ x :: r)) (y := q.setKids (l ++ r)) rfl rfl).1
   rw [z7c hu, z7c (hv.trans h0)]
  ·have h0 : ¬ (z0w id u).id = k := by rw [(z7v id u).1]; exact hu
   exact (a3 h0).symm.trans (b3 h0)
theorem zw9 {u : T} {id : Idv} {f : T -> T} (h1 : standsT u = true) (hm : id ∈ z0g u) (hf : ∀ q : T, (f q).id = q.id /\ (f q).kids = q.kids) (hs : standsT (z1y id f u) = true) : LRP u (z1y id f u) id [] := by
 obtain ⟨C, e, hq, hpre, _⟩ := focus id u hm
 generalize (z06 id u).1 = q at e hq
 have hpost : id ∉ z3g C := (z2q (x := q) (by rw [<- e]; exact z1f h1) (hq ▸ z26 q)).2
 have e4 : z1y id f u = z2b C (f q) := by rw [e, z40 f hq C hpre hpost]
 have hi : z0g (f q) = z0g q := by rw [z1x, z1x q, (hf q).1, (hf q).2]
 have hids : z0g (z1y id f u) = z0g u := by rw [e4, z2i, hi, <- z2i, <- e]
 refine ⟨hs, by rw [<- z2m, <- z2m, hids]; rfl, List.nodup_nil, fun k hk => ?_⟩
 have J : ziy id u (z1y id f u) := by
  have := zd6 (zw8 (hf q).1 (hf q).2) (hf q).1 C
  rw [hq, <- e, <- e4] at this
  exact this
 obtain ⟨b1, b2, b3⟩ := z4v J (z1f h1) (z1f hs) hk
 refine ⟨by rw [b1]; rfl, fun _ hne => ⟨b2 hne, ?_⟩⟩
 by_cases hu : u.id = k
 ·have hv : (z1y id f u).id = u.id := by
   rw [e4]; conv => rhs; rw [e]
   cases C with
   | hole => exact (hf q).1
   | node t l c r => rfl
  rw [z7c hu, z7c (hv.trans hu)]
 ·exact b3 hu
theorem zwa {u : T} {id : Idv} {l : List Wd} (h : z4q u id l = 0) : LRP u (z1y id (fun q => q.setWords l) u) id [] := by
 obtain ⟨h1, hm, h3, h4, h5⟩ := zbs h
 refine zw9 h1 hm (fun q => ⟨rfl, rfl⟩) ?_
 obtain ⟨C, e, hq, hpre, _⟩ := focus id u hm
 generalize (z06 id u).1 = q at e hq h4
 have hpost : id ∉ z3g C := (z2q (x := q) (by rw [<- e]; exact z1f h1) (hq ▸ z26 q)).2
 rw [e, z40 (fun q => q.setWords l) hq C hpre hpost]
 rw [e] at h1
 refine zd7 h1 rfl rfl rfl ?_ (fun h => h)
 have hr := ((z1v _).1 h1).1
 rw [z3k] at hr
 have ha := (zbu hr.2).1
 unfold z32 at ha ⊢
 simp only [Bool.and_eq_true, decide_eq_true_eq] at ha ⊢
 obtain ⟨a1, a2, a3, a4, a5⟩ := ha
 refine ⟨a1, a2, a3, ?_, ?_⟩
 ·show zhd l = true
  unfold zhd
  rw [decide_eq_true h5, Bool.true_and, List.all_eq_true]
  intro w hw
  unfold zze at h3
  have := List.any_eq_false.1 h3 w hw
  simpa using this
 ·rw [if_neg h4] at a5
  rw [if_neg (show ¬ (q.setWords l).kind = 0 from h4)]; exact a5
theorem rel_ok {u : T} {id : Idv} {name : ByteArray} (h : zm2 u id name = 0) : standsT u = true /\ z41 name = true /\ id ∈ z0g u /\ ¬ (z06 id u).1.kind = 0 /\ zcq u id name = false := by
 unfold zm2 at h
 split at h
 ·cases h
 rename_i h1
 split at h
 ·cases h
 rename_i h2
 split at h
 ·cases h
 rename_i h3
 split at h
 ·cases h
 rename_i h4
 rw [not_or, Bool.not_eq_false, Bool.not_eq_false] at h1
 rw [Bool.not_eq_false, z2z, decide_eq_true_eq] at h2
 exact ⟨h1.1, h1.2, h2, h3, by simpa using h4⟩
theorem zwb {u : T} {id : Idv} {name : ByteArray} (h : zm2 u id name = 0) : LRP u (z1y id (fun q => q.setLabel name) u) id [] := by
 obtain ⟨h1, h2, hm, h4, h5⟩ := rel_ok h
 refine zw9 h1 hm (fun q => ⟨rfl, rfl⟩) ?_
 have alone : ∀ q : T, z32 q = true -> ¬ q.kind = 0 -> z32 (q.setLabel name) = true := fun q ha hk => by
  unfold z32 at ha ⊢
  simp only [Bool.and_eq_true, decide_eq_true_eq] at ha ⊢
  obtain ⟨a1, a2, a3, a4, _⟩ := ha
  refine ⟨a1, a2, a3, a4, ?_⟩
  rw [if_neg (show ¬ (q.setLabel name).kind = 0 from hk)]; exact h2
 by_cases h0 : u.id = id
 ·rw [z2u h0] at h4
  rw [zef, if_pos h0]
  refine zd7 (C := .hole) h1 rfl rfl rfl (alone u (zbu ((z1v u).1 h1).1).1 h4) (fun _ => trivial)
 ·obtain ⟨C, q, l, x, r, e, hx, hq, n1, n2, hf, hp⟩ := znx h0 hm
  have hnd := z1f h1
  have hnd' := hnd
  rw [e] at hnd
  have hqs : q.id ∈ z0g (q.setKids (l ++ x :: r)) := by rw [z2t]; exact List.mem_cons_self
  obtain ⟨m1, m2⟩ := z2q hnd hqs
  have hxm : id ∈ z0g (q.setKids (l ++ x :: r)) := by rw [z2t]; exact List.mem_cons_of_mem _ (zey.2 (.inr (.inl (hx ▸ z26 x))))
  obtain ⟨k1, k2⟩ := z2q hnd hxm
  have ns := (zfl (zd0 hnd)).1 id (hx ▸ z26 x)
  have hfq : z06 q.id u = (q.setKids (l ++ x :: r), true) := by rw [e, z7f hqs C m1]; exact z2u rfl
  -- the edit at x, seen from above it
  have he : z1y id (fun q => q.setLabel name) u = z2b C (q.setKids (l ++ x.setLabel name :: r)) := by
   have hC2 : u = z2b (zgl C (.node q l .hole r)) x := by rw [zft]; exact e
   rw [hC2, z40 (fun q => q.setLabel name) hx _ ?_ ?_, zft]; rfl
   ·rw [zor, List.mem_append]
    rintro (h | h)
    ·exact k1 h
    ·simp only [z69, List.append_nil, List.mem_cons] at h
     rcases h with h | h
     ·exact hq h.symm
     ·exact n2 h
   ·rw [zl3, List.mem_append]
    rintro (h | h)
    ·simp only [z3g, List.nil_append] at h
     exact ns.2.2 h
    ·exact k2 h
  rw [he]
  rw [hf] at h4
  have hb : zcq u id name = false := h5
  unfold zcq at hb
  rw [hp, hf, hfq] at hb
  simp only [Bool.true_and, Bool.or_eq_false_iff, decide_eq_false_iff_not] at hb
  obtain ⟨_, hb⟩ := hb
  have htk : (name, x.kind) = (name, x.kind) := rfl
  have hs := h1
  rw [e, z1v] at hs
  obtain ⟨u1, u2, u3, u4, u5, u6⟩ := hs
  have hi : z0g (q.setKids (l ++ x.setLabel name :: r)) = z0g (q.setKids (l ++ x :: r)) := by
   rw [z2t, z2t, List.flatMap_append, List.flatMap_append, List.flatMap_cons, List.flatMap_cons, z1x (x.setLabel name), z1x x]; rfl
  have hdx : depT (x.setLabel name) = depT x := by rw [z46, z46 x]; rfl
  obtain ⟨hr, hk⟩ := z98 C (x := q.setKids (l ++ x.setLabel name :: r)) (y := q.setKids (l ++ x :: r)) rfl rfl
  rw [z1v]
  refine ⟨?_, ?_, ?_, ?_, by rw [hr, hk]; exact u5, ?_⟩
  ·rw [z3k, zb6] at u1 ⊢
   obtain ⟨uC, ⟨a1, a2, a3, a4, a5⟩, uX⟩ := u1
   refine ⟨uC, ⟨a1, a2, a3, a4, ?_⟩, ?_⟩
   ·intro hmem
    obtain ⟨y, hy, hk⟩ := List.mem_map.1 hmem
    have hy2 : y ∈ l ++ x :: r := by
     rcases List.mem_append.1 hy with h | h
     ·exact List.mem_append_left _ h
     ·exact List.mem_append_right _ (List.mem_cons_of_mem _ h)
    have := List.any_eq_false.1 hb y hy2
    simp only [Bool.and_eq_true, decide_eq_true_eq, not_and] at this
    exact this (congrArg Prod.fst hk) (congrArg Prod.snd hk)
   ·have := uX
    rw [z3y] at this ⊢
    simp only [Bool.and_eq_true] at this ⊢
    exact ⟨alone x this.1 h4, this.2⟩
  ·rw [z7y, zmv] at u2 ⊢; omega
  ·have hc : cntT (q.setKids (l ++ x.setLabel name :: r)) = cntT (q.setKids (l ++ x :: r)) := by rw [<- z2m, <- z2m, hi]
   rw [z52] at u3 ⊢; omega
  ·rw [z2i, hi, <- z2i]; exact u4
  ·rw [z6w, hi, <- z6w]; exact u6
theorem move_nn {u : T} {id parent : Idv} {i : Int} (h : z8o u id parent i = 0) : 0 <= i := by
 obtain ⟨_, _, _, _, _, hw⟩ := zm8 h
 unfold z47 at hw
 split at hw
 ·cases hw
 split at hw
 ·cases hw
 split at hw
 ·cases hw
 split at hw
 ·cases hw
 omega
theorem zwc {u : T} {id parent : Idv} {i : Int} (h : z8o u id parent i = 0) : LRP u (z1y parent (z8q i.toNat (z06 id u).1) (z0w id u)) id [] := by
 have h0 := move_nn h
 obtain ⟨m, rfl⟩ := Int.eq_ofNat_of_zero_le h0
 exact zzp h
end Tr
end
end Go.Proofs.YtlfohdkfpdkhhaaGreatDoor
namespace Go.Proofs.YtlfohdkfpdkhhaaGreatDoor.Lcs
section
variable {α : Type} [DecidableEq α]
def row (x : α) (f : List α -> Nat) : List α -> Nat
 | [] => 0
 | y :: ys => if x = y then max (max (f (y :: ys)) (row x f ys)) (f ys + 1) else max (f (y :: ys)) (row x f ys)
def len : List α -> List α -> Nat
 | [], _ => 0
 | x :: xs, ys => row x (len xs) ys
theorem zw2 : ∀ (a : List α), len a [] = 0
 | [] => rfl
 | _ :: _ => rfl
theorem zei (x y : α) (xs ys : List α) : len (x :: xs) (y :: ys) = if x = y then max (max (len xs (y :: ys)) (len (x :: xs) ys)) (len xs ys + 1) else max (len xs (y :: ys)) (len (x :: xs) ys) := rfl
def at_ (a b : List α) (i k : Nat) : Nat := len (a.drop i) (b.drop k)
theorem zmz (a b : List α) (i k : Nat) (h : a.length <= i) : at_ a b i k = 0 := by unfold at_; rw [List.drop_eq_nil_of_le h]; rfl
theorem zw3 (a b : List α) (i k : Nat) (h : b.length <= k) : at_ a b i k = 0 := by unfold at_; rw [List.drop_eq_nil_of_le h]; exact zw2 _
theorem at_step (a b : List α) (i k : Nat) (hi : i < a.length) (hk : k < b.length) :
  at_ a b i k = if a[i] = b[k] then max (max (at_ a b (i + 1) k) (at_ a b i (k + 1))) (at_ a b (i + 1) (k + 1) + 1) else max (at_ a b (i + 1) k) (at_ a b i (k + 1)) := by
 unfold at_
 rw [List.drop_eq_getElem_cons hi, List.drop_eq_getElem_cons hk, zei]
theorem zfr : ∀ (a b : List α), len a b <= a.length
 | [], _ => Nat.le_refl 0
 | x :: xs, b => by
  have ih := zfr xs
  have key : ∀ b : List α, len (x :: xs) b <= xs.length + 1 := by
   intro b
   induction b with
   | nil => exact Nat.zero_le _
   | cons y ys ihb =>
    rw [zei]
    have h1 := ih (y :: ys)
    have h2 := ih ys
    split <;> omega
  simpa using key b
theorem at_le (a b : List α) (i k : Nat) : at_ a b i k <= a.length := by
 have := zfr (a.drop i) (b.drop k)
 simp only [List.length_drop] at this
 unfold at_; omega

def tab (a b : List α) : List Int := (List.range ((a.length + 1) * (b.length + 1))).map fun p => (at_ a b (p / (b.length + 1)) (p % (b.length + 1)) : Int)
theorem idx_lt {n w i k : Nat} (hi : i < n) (hk : k < w) : i * w + k < n * w := by
 have := Nat.mul_le_mul_right w (show i + 1 <= n by omega)
 rw [Nat.add_mul] at this; omega
theorem idx_inj {w i k i' k' : Nat} (hk : k < w) (hk' : k' < w) (h : i * w + k = i' * w + k') : i = i' /\ k = k' := by
 have h1 : (i * w + k) / w = i := by rw [Nat.mul_comm, Nat.mul_add_div (by omega), Nat.div_eq_of_lt hk]; omega
 have h2 : (i' * w + k') / w = i' := by rw [Nat.mul_comm, Nat.mul_add_div (by omega), Nat.div_eq_of_lt hk']; omega
 have : i = i' := by rw [<- h1, <- h2, h]
 subst this
 exact ⟨rfl, by omega⟩
theorem tab_len (a b : List α) : (tab a b).length = (a.length + 1) * (b.length + 1) := by simp [tab]
theorem tab_get (a b : List α) (i k : Nat) (hi : i <= a.length) (hk : k <= b.length) : (tab a b)[i * (b.length + 1) + k]? = some (at_ a b i k : Int) := by
 have hlt : i * (b.length + 1) + k < (a.length + 1) * (b.length + 1) := idx_lt (by omega) (by omega)
 unfold tab
 rw [List.getElem?_map, List.getElem?_range hlt, Option.map_some]
 have h1 : (i * (b.length + 1) + k) / (b.length + 1) = i := by rw [Nat.mul_comm, Nat.mul_add_div (by omega), Nat.div_eq_of_lt (by omega)]; omega
 have h2 : (i * (b.length + 1) + k) % (b.length + 1) = k := by rw [Nat.mul_comm, Nat.mul_add_mod, Nat.mod_eq_of_lt (by omega)]
 rw [h1, h2]

def Known (a b : List α) (cs : List Int) (i k : Nat) : Prop :=
 cs.length = (a.length + 1) * (b.length + 1) /\ ∀ i' k', i' <= a.length -> k' <= b.length -> (i < i' \/ (i = i' /\ k <= k') \/ k' = b.length) -> cs[i' * (b.length + 1) + k']? = some (at_ a b i' k' : Int)
theorem known_zero (a b : List α) : Known a b (List.replicate ((a.length + 1) * (b.length + 1)) 0) a.length 0 := by
 refine ⟨by simp, fun i' k' hi hk h => ?_⟩
 have hlt : i' * (b.length + 1) + k' < (a.length + 1) * (b.length + 1) := idx_lt (by omega) (by omega)
 rw [List.getElem?_replicate_of_lt hlt]
 rcases h with h | h | h
 ·omega
 ·rw [zmz a b i' k' (by omega)]; rfl
 ·rw [zw3 a b i' k' (by omega)]; rfl
theorem known_set {a b : List α} {cs : List Int} {i k : Nat} (hi : i <= a.length) (hk : k <= b.length) (h : Known a b cs i (k + 1)) : Known a b (cs.set (i * (b.length + 1) + k) (at_ a b i k : Int)) i k := by
 refine ⟨by simpa using h.1, fun i' k' hi' hk' hc => ?_⟩
 have hlt : i * (b.length + 1) + k < cs.length := by rw [h.1]; exact idx_lt (by omega) (by omega)
 by_cases he : i * (b.length + 1) + k = i' * (b.length + 1) + k'
 ·obtain ⟨rfl, rfl⟩ := idx_inj (by omega) (by omega) he
  rw [List.getElem?_set_self hlt]
 ·rw [List.getElem?_set_ne he]
  refine h.2 i' k' hi' hk' ?_
  rcases hc with hc | ⟨rfl, hc⟩ | hc
  ·exact .inl hc
  ·by_cases hkk : k = k'
   ·subst hkk; exact (he rfl).elim
   ·exact .inr (.inl ⟨rfl, by omega⟩)
  ·exact .inr (.inr hc)
theorem known_row {a b : List α} {cs : List Int} {i : Nat} (h : Known a b cs (i + 1) 0) : Known a b cs i b.length :=
 ⟨h.1, fun i' k' hi' hk' hc => h.2 i' k' hi' hk' (by omega)⟩
theorem known_all {a b : List α} {cs : List Int} (h : Known a b cs 0 0) : cs = tab a b := by
 refine List.ext_getElem? fun p => ?_
 by_cases hp : p < (a.length + 1) * (b.length + 1)
 ·have hw : 0 < b.length + 1 := by omega
  have h1 : p / (b.length + 1) <= a.length := by
   have := (Nat.div_lt_iff_lt_mul hw).2 hp; omega
  have h2 : p % (b.length + 1) <= b.length := by have := Nat.mod_lt p hw; omega
  have h3 : p / (b.length + 1) * (b.length + 1) + p % (b.length + 1) = p := Nat.div_add_mod' p _
  have h4 := h.2 _ _ h1 h2 (by
   rcases Nat.eq_zero_or_pos (p / (b.length + 1)) with h0 | h0
   ·exact .inr (.inl ⟨h0.symm, Nat.zero_le _⟩)
   ·exact .inl h0)
  have h5 := tab_get a b _ _ h1 h2
  rw [h3] at h4 h5
  rw [h4, h5]
 ·rw [List.getElem?_eq_none (by rw [h.1]; omega), List.getElem?_eq_none (by rw [tab_len]; omega)]

def good (a b : List α) (n x y : Nat) : Bool := decide (a[x]? = b[y]?) && decide (at_ a b (x + 1) (y + 1) + 1 = n)
def inRow (a b : List α) (n x y : Nat) : Option Nat := (List.range' y (b.length - y)).find? (good a b n x)
def search (a b : List α) (n k x : Nat) : Option (Nat × Nat) := (List.range' x (a.length - x)).findSome? fun x => (inRow a b n x k).map fun y => (x, y)
def next (a b : List α) (i k : Nat) : Nat × Nat := (search a b (at_ a b i k) k i).getD (a.length, b.length)
theorem inRow_end (a b : List α) (n x y : Nat) (h : b.length <= y) : inRow a b n x y = none := by
 unfold inRow; rw [show b.length - y = 0 by omega]; rfl
theorem inRow_step (a b : List α) (n x y : Nat) (h : y < b.length) : inRow a b n x y = if good a b n x y = true then some y else inRow a b n x (y + 1) := by
 unfold inRow
 rw [show b.length - y = (b.length - (y + 1)) + 1 by omega, List.range'_succ, List.find?_cons]
 split <;> simp_all
theorem search_end (a b : List α) (n k x : Nat) (h : a.length <= x) : search a b n k x = none := by
 unfold search; rw [show a.length - x = 0 by omega]; rfl
theorem search_step (a b : List α) (n k x : Nat) (h : x < a.length) : search a b n k x = match inRow a b n x k with | some y => some (x, y) | none => search a b n k (x + 1) := by
 unfold search
 rw [show a.length - x = (a.length - (x + 1)) + 1 by omega, List.range'_succ, List.findSome?_cons]
 cases inRow a b n x k <;> rfl
theorem good_ex (a b : List α) : ∀ (m i k n : Nat), a.length - i + (b.length - k) <= m -> at_ a b i k = n + 1 -> ∃ x y, i <= x /\ x < a.length /\ k <= y /\ y < b.length /\ good a b (n + 1) x y = true := by
 intro m
 induction m with
 | zero => intro i k n hm h; rw [zmz a b i k (by omega)] at h; omega
 | succ m ih =>
  intro i k n hm h
  by_cases hi : i < a.length
  ·by_cases hk : k < b.length
   ·have hs := at_step a b i k hi hk
    have r1 : at_ a b (i + 1) k = n + 1 -> ∃ x y, i <= x /\ x < a.length /\ k <= y /\ y < b.length /\ good a b (n + 1) x y = true := by
     intro h1
     obtain ⟨x, y, q1, q2, q3, q4, q5⟩ := ih (i + 1) k n (by omega) h1
     exact ⟨x, y, by omega, q2, q3, q4, q5⟩
    have r2 : at_ a b i (k + 1) = n + 1 -> ∃ x y, i <= x /\ x < a.length /\ k <= y /\ y < b.length /\ good a b (n + 1) x y = true := by
     intro h1
     obtain ⟨x, y, q1, q2, q3, q4, q5⟩ := ih i (k + 1) n (by omega) h1
     exact ⟨x, y, q1, q2, by omega, q4, q5⟩
    by_cases he : a[i] = b[k]
    ·rw [if_pos he] at hs
     by_cases h3 : at_ a b (i + 1) (k + 1) + 1 = n + 1
     ·refine ⟨i, k, Nat.le_refl _, hi, Nat.le_refl _, hk, ?_⟩
      unfold good
      rw [List.getElem?_eq_getElem hi, List.getElem?_eq_getElem hk, he]
      simp [h3]
     ·by_cases h1 : at_ a b (i + 1) k = n + 1
      ·exact r1 h1
      ·exact r2 (by clear r1 r2 ih; omega)
    ·rw [if_neg he] at hs
     by_cases h1 : at_ a b (i + 1) k = n + 1
     ·exact r1 h1
     ·exact r2 (by clear r1 r2 ih; omega)
   ·rw [zw3 a b i k (by omega)] at h; omega
  ·rw [zmz a b i k (by omega)] at h; omega
theorem zrh {a b : List α} {n x k y : Nat} (h : inRow a b n x k = some y) : k <= y /\ y < b.length /\ good a b n x y = true := by
 unfold inRow at h
 have h1 := List.mem_of_find?_eq_some h
 have h2 := List.find?_some h
 simp only [List.mem_range'_1] at h1
 exact ⟨by omega, by omega, h2⟩
theorem zn0 {a b : List α} {n k i : Nat} {r : Nat × Nat} (h : search a b n k i = some r) : i <= r.1 /\ r.1 < a.length /\ k <= r.2 /\ r.2 < b.length /\ good a b n r.1 r.2 = true := by
 unfold search at h
 obtain ⟨x, hx, hr⟩ := List.exists_of_findSome?_eq_some h
 simp only [List.mem_range'_1] at hx
 simp only [Option.map_eq_some_iff] at hr
 obtain ⟨y, hy, rfl⟩ := hr
 obtain ⟨q1, q2, q3⟩ := zrh hy
 exact ⟨by omega, by omega, q1, q2, q3⟩
theorem zn1 {a b : List α} {n k i : Nat} (h : search a b n k i = none) {x y : Nat} (hx : i <= x) (hx' : x < a.length) (hy : k <= y) (hy' : y < b.length) : good a b n x y = false := by
 unfold search at h
 rw [List.findSome?_eq_none_iff] at h
 have h1 := h x (by simp only [List.mem_range'_1]; omega)
 simp only [Option.map_eq_none_iff] at h1
 unfold inRow at h1
 rw [List.find?_eq_none] at h1
 have := h1 y (by simp only [List.mem_range'_1]; omega)
 simpa using this
theorem next_good (a b : List α) (i k n : Nat) (h : at_ a b i k = n + 1) : i <= (next a b i k).1 /\ (next a b i k).1 < a.length /\ k <= (next a b i k).2 /\ (next a b i k).2 < b.length /\ a[(next a b i k).1]? = b[(next a b i k).2]? /\ at_ a b ((next a b i k).1 + 1) ((next a b i k).2 + 1) = n := by
 unfold next
 cases hs : search a b (at_ a b i k) k i with
 | none =>
  obtain ⟨x, y, q1, q2, q3, q4, q5⟩ := good_ex a b _ i k n (Nat.le_refl _) h
  rw [h] at hs
  rw [zn1 hs q1 q2 q3 q4] at q5; cases q5
 | some r =>
  obtain ⟨q1, q2, q3, q4, q5⟩ := zn0 hs
  unfold good at q5
  simp only [Bool.and_eq_true, decide_eq_true_eq] at q5
  rw [Option.getD_some]
  exact ⟨q1, q2, q3, q4, q5.1, by omega⟩
def pairsF (a b : List α) : Nat -> Nat -> Nat -> List (Nat × Nat)
 | 0, _, _ => []
 | n + 1, i, k => next a b i k :: pairsF a b n ((next a b i k).1 + 1) ((next a b i k).2 + 1)
def pairsFrom (a b : List α) (i k : Nat) : List (Nat × Nat) := pairsF a b (at_ a b i k) i k
theorem pairsFrom_nil (a b : List α) (i k : Nat) (h : at_ a b i k = 0) : pairsFrom a b i k = [] := by unfold pairsFrom; rw [h]; rfl
theorem pairsFrom_cons (a b : List α) (i k : Nat) (h : 0 < at_ a b i k) : pairsFrom a b i k = next a b i k :: pairsFrom a b ((next a b i k).1 + 1) ((next a b i k).2 + 1) := by
 obtain ⟨n, hn⟩ : ∃ n, at_ a b i k = n + 1 := ⟨at_ a b i k - 1, by omega⟩
 have h1 := (next_good a b i k n hn).2.2.2.2.2
 unfold pairsFrom
 rw [hn, h1]; rfl
def pairs (a b : List α) : List (Nat × Nat) := if 256 < a.length \/ 256 < b.length then [] else pairsFrom a b 0 0
end
end Go.Proofs.YtlfohdkfpdkhhaaGreatDoor.Lcs
namespace Go.Proofs.YtlfohdkfpdkhhaaGreatDoor
section
open Abs Facts
theorem zyf {α β : Type} (f : α -> β) (l : List α) (i : Nat) (x : α) : (l.map f).set i (f x) = (l.set i x).map f := by simp
attribute [local irreducible] awp
theorem pc36 (i k w : Nat) (cs : List Int) (v : Int) (hv : cs[i * w + k]? = some v) (hc : cs.length <= 100000) : PC Tryz.prog 199 [.int .i64 i, .int .i64 k, .rptr (znr cs), .rptr (.int .i64 w)] (.int .i64 v) := by
 obtain ⟨hlt, hv'⟩ := List.getElem?_eq_some_iff.1 hv
 refine z1c 1 (by simp only [pureD.pureL, pureD, z8v, Bool.and_self]) rfl (z17 [] Tryz.func199 rfl (by decide +kernel) z0e (by decide +kernel) (by simp [Tryz.ntmps199]) ?_)
 show awp _ _ (Code.seq _ _) _ _
 have w1 : IntKind.i64.wrap ((i : Int) * (w : Int)) = ((i * w : Nat) : Int) := by rw [<- Int.natCast_mul]; exact z5h (by omega)
 have w2 : IntKind.i64.wrap (((i * w : Nat) : Int) + (k : Int)) = ((i * w + k : Nat) : Int) := by rw [<- Int.natCast_add]; exact z5h (by omega)
 have i1 := z7w (D.int .i64) cs _ hlt
 (refine zqh fun K J => ?_); (simp only [go_sem, Nat.reduceBEq, Nat.reduceBeqDiff, Nat.reduceEqDiff, ↓reduceIte, reduceCtorEq, Nat.reduceAdd, Nat.reduceMul, Nat.reduceLeDiff, Nat.reduceLT, Int.reduceLT, Int.reduceLE, Int.reduceEq]); (refine J _ ?_); (clear J K)
 (refine zqh fun K J => ?_); (simp only [go_sem, Nat.reduceBEq, Nat.reduceBeqDiff, Nat.reduceEqDiff, ↓reduceIte, reduceCtorEq, Nat.reduceAdd, Nat.reduceMul, Nat.reduceLeDiff, Nat.reduceLT, Int.reduceLT, Int.reduceLE, Int.reduceEq, znr, w1, w2, i1]); (refine J _ ?_); (clear J K)
 (refine zqn ?_); (refine Exists.intro _ (And.intro rfl ?_))
 exact z1g hv'
end
section
open Abs Facts
attribute [local irreducible] awp
theorem rc36 {H : HM} {nx : Nat} (i k w n : Nat) (cs : List Int) (v : Int) (hL : H 2 = some (.box 155 [.osl 1 n])) (hR : H 1 = some (.row 3 n (cs.map (D.int .i64)))) (hW : H 0 = some (.box 3 [.int .i64 (w : Int)])) (hn : cs.length = n)
  (hv : cs[i * w + k]? = some v) (hc : cs.length <= 100000) : RC Tryz.prog 199 [.int .i64 i, .int .i64 k, .ptr 2 0, .ptr 0 0] H nx (.int .i64 v) := by
 refine PC.borrow (pc36 i k w cs v hv hc) rfl 3 ?_
 refine z00 (z03 _ rfl) (z00 (z03 _ rfl) (z00 ?_ (z00 ?_ z08)))
 ·exact z15 2 hL zse (zb1 0 hR z3p zab (by simpa using hn) (z0n (fun _ => rfl) _))
 ·exact z15 2 hW z3p (z03 _ rfl)
set_option maxHeartbeats 2000000 in
theorem pc28 (a b : List ByteArray) (ha : a.length <= 256) (hb : b.length <= 256) : PC Tryz.prog 163 [z1k a, z1k b] (.fn 199 [.rptr (znr (Lcs.tab a b)), .rptr (.int .i64 ((b.length + 1 : Nat) : Int))]) := by
 refine z1c 4 (by simp only [pureD.pureL, z2s, Bool.and_self]) (by simp only [pureD, pureD.pureL, z8v, Bool.and_self]) (z17 [] Tryz.func163 rfl (by decide +kernel) z0e (by decide +kernel) (by simp [Tryz.ntmps163]) ?_)
 show awp _ _ (Code.seq _ _) _ _
 have w1 : IntKind.i64.wrap ((b.length : Int) + 1) = ((b.length + 1 : Nat) : Int) := z5h (by omega)
 have w2 : IntKind.i64.wrap ((a.length : Int) + 1) = ((a.length + 1 : Nat) : Int) := z5h (by omega)
 have hm : (a.length + 1) * (b.length + 1) <= 66049 := Nat.mul_le_mul (show a.length + 1 <= 257 by omega) (show b.length + 1 <= 257 by omega)
 have w3 : IntKind.i64.wrap (((a.length + 1 : Nat) : Int) * ((b.length + 1 : Nat) : Int)) = (((a.length + 1) * (b.length + 1) : Nat) : Int) := by rw [<- Int.natCast_mul]; exact z5h (by omega)
 have g1 : (0 : Int) <= (((a.length + 1) * (b.length + 1) : Nat) : Int) := by omega
 have g2 : (a.length + 1) * (b.length + 1) * 8 <= 140737488355328 := by omega
 have g3 : (((a.length + 1) * (b.length + 1) : Nat) : Int) <= 9223372036854775807 := by omega
 (refine zqh fun K J => ?_); (simp only [go_sem, Nat.reduceBEq, Nat.reduceBeqDiff, Nat.reduceEqDiff, ↓reduceIte, reduceCtorEq, Nat.reduceAdd, Nat.reduceMul, Nat.reduceLeDiff, Nat.reduceLT, Int.reduceLT, Int.reduceLE, Int.reduceEq]); (refine J _ ?_); (clear J K)
 repeat refine zqj ?_
 (refine zqh fun K J => ?_); (simp only [go_sem, Nat.reduceBEq, Nat.reduceBeqDiff, Nat.reduceEqDiff, ↓reduceIte, reduceCtorEq, Nat.reduceAdd, Nat.reduceMul, Nat.reduceLeDiff, Nat.reduceLT, Int.reduceLT, Int.reduceLE, Int.reduceEq, z1k, w1]); (refine J _ ?_); (clear J K)
 repeat refine zqj ?_
 (refine zqh fun K J => ?_); (simp only [go_sem, Nat.reduceBEq, Nat.reduceBeqDiff, Nat.reduceEqDiff, ↓reduceIte, reduceCtorEq, Nat.reduceAdd, Nat.reduceMul, Nat.reduceLeDiff, Nat.reduceLT, Int.reduceLT, Int.reduceLE, Int.reduceEq, z1k, w1, w2, w3, g1, g2, g3, zns (D.int .i64) 0 ((a.length + 1) * (b.length + 1))]); (refine J _ ?_); (clear J K)
 repeat refine zqj ?_
 (refine zqh fun K J => ?_); (simp only [go_sem, Nat.reduceBEq, Nat.reduceBeqDiff, Nat.reduceEqDiff, ↓reduceIte, reduceCtorEq, Nat.reduceAdd, Nat.reduceMul, Nat.reduceLeDiff, Nat.reduceLT, Int.reduceLT, Int.reduceLE, Int.reduceEq]); (refine J _ ?_); (clear J K)
 have w4 : IntKind.i64.wrap ((a.length : Int) - 1) = (a.length : Int) - 1 := z5h (by omega)
 have w5 : IntKind.i64.wrap ((b.length : Int) - 1) = (b.length : Int) - 1 := z5h (by omega)
 repeat refine zqj ?_
 (refine zqh fun K J => ?_); (simp only [go_sem, Nat.reduceBEq, Nat.reduceBeqDiff, Nat.reduceEqDiff, ↓reduceIte, reduceCtorEq, Nat.reduceAdd, Nat.reduceMul, Nat.reduceLeDiff, Nat.reduceLT, Int.reduceLT, Int.reduceLE, Int.reduceEq, z1k, w4]); (refine J _ ?_); (clear J K)
 refine z33 fun K J => ?_
 refine zqi (za0 (fun n st => ∃ cs : List Int, n <= a.length /\ st.t 0 = z1k a /\ st.t 1 = z1k b /\ st.t 5 = .ptr 0 0 /\ st.t 6 = .ptr 2 0 /\ st.t 7 = .fn 199 [.ptr 2 0, .ptr 0 0] /\ st.t 8 = .int .i64 ((n : Int) - 1) /\
   st.H 0 = some (.box 3 [.int .i64 ((b.length + 1 : Nat) : Int)]) /\ st.H 1 = some (.row 3 ((a.length + 1) * (b.length + 1)) (cs.map (D.int .i64))) /\ st.H 2 = some (.box 155 [.osl 1 ((a.length + 1) * (b.length + 1))]) /\
   Lcs.Known a b cs n 0) a.length ?_ ?_)
 ·exact ⟨List.replicate ((a.length + 1) * (b.length + 1)) 0, Nat.le_refl _, rfl, rfl, rfl, rfl, rfl, rfl, rfl, rfl, rfl, Lcs.known_zero a b⟩
 rintro n st ⟨cs, hn, h0, h1, h5, h6, h7, h8, hH0, hH1, hH2, hk⟩
 repeat refine zqj ?_
 (refine zqh fun K J => ?_); (simp only [go_sem, Nat.reduceBEq, Nat.reduceBeqDiff, Nat.reduceEqDiff, ↓reduceIte, reduceCtorEq, Nat.reduceAdd, Nat.reduceMul, Nat.reduceLeDiff, Nat.reduceLT, Int.reduceLT, Int.reduceLE, Int.reduceEq, h8]); (refine J _ ?_); (clear J K)
 refine z33 fun K2 hK2 => ?_
 (refine zqm _ rfl (fun hc => ?_) (fun hc => ?_)) <;> (simp only [z09] at hc)
 ·obtain ⟨i, rfl⟩ : ∃ i, n = i + 1 := ⟨n - 1, by omega⟩
  have h8' : st.t 8 = .int .i64 (i : Int) := by rw [h8]; congr 1; omega
  refine zqk (hK2 _ ?_); clear hK2 K2 h8
  repeat refine zqj ?_
  refine z33 fun K2 hK2 => ?_
  refine zqi ?_
  repeat refine zqj ?_
  (refine zqh fun K J => ?_); (simp only [go_sem, Nat.reduceBEq, Nat.reduceBeqDiff, Nat.reduceEqDiff, ↓reduceIte, reduceCtorEq, Nat.reduceAdd, Nat.reduceMul, Nat.reduceLeDiff, Nat.reduceLT, Int.reduceLT, Int.reduceLE, Int.reduceEq, h1, z1k, w5]); (refine J _ ?_); (clear J K)
  refine zqi (za0 (fun m st => ∃ cs : List Int, m <= b.length /\ st.t 0 = z1k a /\ st.t 1 = z1k b /\ st.t 5 = .ptr 0 0 /\ st.t 6 = .ptr 2 0 /\ st.t 7 = .fn 199 [.ptr 2 0, .ptr 0 0] /\ st.t 8 = .int .i64 (i : Int) /\ st.t 9 = .int .i64 ((m : Int) - 1) /\
   st.H 0 = some (.box 3 [.int .i64 ((b.length + 1 : Nat) : Int)]) /\ st.H 1 = some (.row 3 ((a.length + 1) * (b.length + 1)) (cs.map (D.int .i64))) /\ st.H 2 = some (.box 155 [.osl 1 ((a.length + 1) * (b.length + 1))]) /\
   Lcs.Known a b cs i m) b.length ?_ ?_)
  ·exact ⟨cs, Nat.le_refl _, h0, h1, h5, h6, h7, h8', rfl, hH0, hH1, hH2, Lcs.known_row hk⟩
  clear h0 h1 h5 h6 h7 h8' hH0 hH1 hH2 hk
  rintro m st ⟨cs, hm', h0, h1, h5, h6, h7, h8, h9, hH0, hH1, hH2, hk⟩
  repeat refine zqj ?_
  (refine zqh fun K J => ?_); (simp only [go_sem, Nat.reduceBEq, Nat.reduceBeqDiff, Nat.reduceEqDiff, ↓reduceIte, reduceCtorEq, Nat.reduceAdd, Nat.reduceMul, Nat.reduceLeDiff, Nat.reduceLT, Int.reduceLT, Int.reduceLE, Int.reduceEq, h9]); (refine J _ ?_); (clear J K)
  refine z33 fun K3 hK3 => ?_
  (refine zqm _ rfl (fun hc => ?_) (fun hc => ?_)) <;> (simp only [z09] at hc)
  ·obtain ⟨k, rfl⟩ : ∃ k, m = k + 1 := ⟨m - 1, by omega⟩
   have h9' : st.t 9 = .int .i64 (k : Int) := by rw [h9]; congr 1; omega
   refine zqk (hK3 _ ?_); clear hK3 K3 h9
   repeat refine zqj ?_
   refine z33 fun K3 hK3 => ?_
   refine zqi ?_
   repeat refine zqj ?_
   have wi : IntKind.i64.wrap ((i : Int) + 1) = ((i + 1 : Nat) : Int) := z5h (by omega)
   have wk : IntKind.i64.wrap ((k : Int) + 1) = ((k + 1 : Nat) : Int) := z5h (by omega)
   have v1 := hk.2 (i + 1) k (by omega) (by omega) (.inl (by omega))
   have v2 := hk.2 i (k + 1) (by omega) (by omega) (.inr (.inl ⟨rfl, by omega⟩))
   have v3 := hk.2 (i + 1) (k + 1) (by omega) (by omega) (.inl (by omega))
   have l1 := Lcs.at_le a b (i + 1) k
   have l2 := Lcs.at_le a b i (k + 1)
   have l3 := Lcs.at_le a b (i + 1) (k + 1)
   have hcl : cs.length <= 100000 := by rw [hk.1]; omega
   refine zqh fun K J => ?_
   simp only [go_sem, Nat.reduceBEq, Nat.reduceBeqDiff, Nat.reduceEqDiff, ↓reduceIte, reduceCtorEq, Nat.reduceAdd, Nat.reduceMul, Nat.reduceLeDiff, Nat.reduceLT, Int.reduceLT, Int.reduceLE, Int.reduceEq, h7, h8, h9', wi, wk]
   refine z0x (rc36 (i + 1) k (b.length + 1) _ cs _ hH2 hH1 hH0 hk.1 v1 hcl) ?_
   simp only [go_sem, Nat.reduceBEq, Nat.reduceBeqDiff, Nat.reduceEqDiff, ↓reduceIte, reduceCtorEq, Nat.reduceAdd, Nat.reduceMul, Nat.reduceLeDiff, Nat.reduceLT, Int.reduceLT, Int.reduceLE, Int.reduceEq, h7, h8, h9', wi, wk]
   refine z0x (rc36 i (k + 1) (b.length + 1) _ cs _ hH2 hH1 hH0 hk.1 v2 hcl) ?_
   simp only [go_sem, Nat.reduceBEq, Nat.reduceBeqDiff, Nat.reduceEqDiff, ↓reduceIte, reduceCtorEq, Nat.reduceAdd, Nat.reduceMul, Nat.reduceLeDiff, Nat.reduceLT, Int.reduceLT, Int.reduceLE, Int.reduceEq, h7, h8, h9', wi, wk]
   refine J _ ?_
   clear J K
   have hlt : i * (b.length + 1) + k < (a.length + 1) * (b.length + 1) := Lcs.idx_lt (by omega) (by omega)
   have wm : IntKind.i64.wrap ((i : Int) * ((b.length + 1 : Nat) : Int)) = ((i * (b.length + 1) : Nat) : Int) := by rw [<- Int.natCast_mul]; exact z5h (by omega)
   have wp : IntKind.i64.wrap (((i * (b.length + 1) : Nat) : Int) + (k : Int)) = ((i * (b.length + 1) + k : Nat) : Int) := z5h (by omega)
   have hin : ((i * (b.length + 1) + k : Nat) : Int) < (((a.length + 1) * (b.length + 1) : Nat) : Int) := by omega
   have hin2 : i * (b.length + 1) + k + 1 <= (a.length + 1) * (b.length + 1) := by omega
   have hkl := hk.1
   refine z33 fun K4 hK4 => ?_
   have tail : ∀ st' : St, st'.t 0 = z1k a -> st'.t 1 = z1k b -> st'.t 5 = .ptr 0 0 -> st'.t 6 = .ptr 2 0 -> st'.t 7 = .fn 199 [.ptr 2 0, .ptr 0 0] -> st'.t 8 = .int .i64 (i : Int) -> st'.t 9 = .int .i64 (k : Int) -> st'.t 10 = .int .i64 (Lcs.at_ a b i k : Int) ->
     st'.H 0 = some (.box 3 [.int .i64 ((b.length + 1 : Nat) : Int)]) -> st'.H 1 = some (.row 3 ((a.length + 1) * (b.length + 1)) (cs.map (D.int .i64))) -> st'.H 2 = some (.box 155 [.osl 1 ((a.length + 1) * (b.length + 1))]) -> K4 st' := by
    intro st' h0 h1 h5 h6 h7 h8 h9 h10 hH0 hH1 hH2
    refine hK4 _ ?_
    (refine z85 ?_); (simp only [go_sem, Nat.reduceBEq, Nat.reduceBeqDiff, Nat.reduceEqDiff, ↓reduceIte, reduceCtorEq, Nat.reduceAdd, Nat.reduceMul, Nat.reduceLeDiff, Nat.reduceLT, Int.reduceLT, Int.reduceLE, Int.reduceEq, h5, h6, h8, h9, h10, hH0, hH1, hH2, wm, wp, hin, hin2, hkl, zyf])
    refine (show K3 _ from hK3 _ ?_)
    have wk2 : IntKind.i64.wrap ((k : Int) - 1) = (k : Int) - 1 := z5h (by omega)
    (refine z85 ?_); (simp only [go_sem, Nat.reduceBEq, Nat.reduceBeqDiff, Nat.reduceEqDiff, ↓reduceIte, reduceCtorEq, Nat.reduceAdd, Nat.reduceMul, Nat.reduceLeDiff, Nat.reduceLT, Int.reduceLT, Int.reduceLE, Int.reduceEq, h9, wk2])
    exact ⟨k, by omega, cs.set (i * (b.length + 1) + k) (Lcs.at_ a b i k : Int), by omega, h0, h1, h5, h6, h7, h8, rfl, hH0, rfl, hH2, Lcs.known_set (by omega) (by omega) hk⟩
   have i1 := z7w D.str a i (by omega)
   have i2 := z7w D.str b k (by omega)
   have hst := Lcs.at_step a b i k (by omega) (by omega)
   (refine zqe (by decide +kernel) fun K J => ?_); (simp only [go_sem, Nat.reduceBEq, Nat.reduceBeqDiff, Nat.reduceEqDiff, ↓reduceIte, reduceCtorEq, Nat.reduceAdd, Nat.reduceMul, Nat.reduceLeDiff, Nat.reduceLT, Int.reduceLT, Int.reduceLE, Int.reduceEq, h0, h1, h8, h9', i1, i2, z1k]); (refine J _ ?_); (clear J K)
   (refine zqm _ rfl (fun hc => ?_) (fun hc => ?_)) <;> (simp only [z09] at hc)
   ·have w6 : IntKind.i64.wrap ((Lcs.at_ a b (i + 1) (k + 1) : Int) + 1) = (Lcs.at_ a b (i + 1) (k + 1) : Int) + 1 := z5h (by omega)
    rw [if_pos hc] at hst
    refine z85 ?_
    simp only [go_sem, Nat.reduceBEq, Nat.reduceBeqDiff, Nat.reduceEqDiff, ↓reduceIte, reduceCtorEq, Nat.reduceAdd, Nat.reduceMul, Nat.reduceLeDiff, Nat.reduceLT, Int.reduceLT, Int.reduceLE, Int.reduceEq, h7, h8, h9', wi, wk]
    refine z0x (rc36 (i + 1) (k + 1) (b.length + 1) _ cs _ hH2 hH1 hH0 hk.1 v3 hcl) ?_
    simp only [go_sem, Nat.reduceBEq, Nat.reduceBeqDiff, Nat.reduceEqDiff, ↓reduceIte, reduceCtorEq, Nat.reduceAdd, Nat.reduceMul, Nat.reduceLeDiff, Nat.reduceLT, Int.reduceLT, Int.reduceLE, Int.reduceEq, h7, h8, h9', wi, wk, w6]
    refine (show K4 _ from tail _ h0 h1 h5 h6 h7 h8 h9' ?_ hH0 hH1 hH2)
    show D.int .i64 _ = D.int .i64 _
    rw [hst]; congr 1; omega
   ·rw [if_neg hc] at hst
    refine zqk (tail _ h0 h1 h5 h6 h7 h8 h9' ?_ hH0 hH1 hH2)
    show D.int .i64 _ = D.int .i64 _
    rw [hst]; congr 1; omega
  ·refine zql (show K2 _ from hK2 _ ?_)
   obtain rfl : m = 0 := by omega
   have wi2 : IntKind.i64.wrap ((i : Int) - 1) = (i : Int) - 1 := z5h (by omega)
   (refine z85 ?_); (simp only [go_sem, Nat.reduceBEq, Nat.reduceBeqDiff, Nat.reduceEqDiff, ↓reduceIte, reduceCtorEq, Nat.reduceAdd, Nat.reduceMul, Nat.reduceLeDiff, Nat.reduceLT, Int.reduceLT, Int.reduceLE, Int.reduceEq, h8, wi2])
   exact ⟨i, by omega, cs, by omega, h0, h1, h5, h6, h7, rfl, hH0, hH1, hH2, hk⟩
 ·refine zql (show K _ from J _ ?_)
  obtain rfl : n = 0 := by omega
  have hcs := Lcs.known_all hk
  subst hcs
  (refine zqh fun K J => ?_); (simp only [go_sem, Nat.reduceBEq, Nat.reduceBeqDiff, Nat.reduceEqDiff, ↓reduceIte, reduceCtorEq, Nat.reduceAdd, Nat.reduceMul, Nat.reduceLeDiff, Nat.reduceLT, Int.reduceLT, Int.reduceLE, Int.reduceEq, h7]); (refine J _ ?_); (clear J K)
  (refine zqn ?_); (refine Exists.intro _ (And.intro rfl ?_))
  refine z57 (zb2 3 rfl (z00 ?_ (z00 ?_ z08)))
  ·exact z15 2 hH2 (by first | rfl | kernel_rfl) (zb1 0 hH1 z3p zab (by simpa using Lcs.tab_len a b) (z0n (fun _ => rfl) _))
  ·exact z15 2 hH0 z3p (z03 _ rfl)
def atD (a b : List ByteArray) : D := .fn 199 [.rptr (znr (Lcs.tab a b)), .rptr (.int .i64 ((b.length + 1 : Nat) : Int))]
theorem zop (a b : List ByteArray) : pureD (atD a b) = true := by simp only [atD, pureD, pureD.pureL, z8v, Bool.and_self]
theorem pcAt (a b : List ByteArray) (ha : a.length <= 256) (hb : b.length <= 256) (i k : Nat) (hi : i <= a.length) (hk : k <= b.length) : PC Tryz.prog 199 [.int .i64 i, .int .i64 k, .rptr (znr (Lcs.tab a b)), .rptr (.int .i64 ((b.length + 1 : Nat) : Int))] (.int .i64 (Lcs.at_ a b i k : Int)) :=
 pc36 i k (b.length + 1) (Lcs.tab a b) _ (Lcs.tab_get a b i k hi hk) (by
  have hm : (a.length + 1) * (b.length + 1) <= 66049 := Nat.mul_le_mul (show a.length + 1 <= 257 by omega) (show b.length + 1 <= 257 by omega)
  rw [Lcs.tab_len]; omega)
set_option maxHeartbeats 2000000 in
theorem pc29 (a b : List ByteArray) (ha : a.length <= 256) (hb : b.length <= 256) (i k : Nat) (hi : i <= a.length) (hk : k <= b.length) :
  PC Tryz.prog 164 [.int .i64 i, .int .i64 k, .rptr (z1k a), .rptr (z1k b), .rptr (atD a b)] (.agg [.int .i64 ((Lcs.next a b i k).1 : Int), .int .i64 ((Lcs.next a b i k).2 : Int)]) := by
 refine z1c 2 (by simp only [pureD.pureL, pureD, z2s, zop, Bool.and_self]) rfl (z17 [] Tryz.func164 rfl (by decide +kernel) z0e (by decide +kernel) (by simp [Tryz.ntmps164]) ?_)
 show awp _ _ (Code.seq _ _) _ _
 (refine zqh fun K J => ?_); (simp only [go_sem, Nat.reduceBEq, Nat.reduceBeqDiff, Nat.reduceEqDiff, ↓reduceIte, reduceCtorEq, Nat.reduceAdd, Nat.reduceMul, Nat.reduceLeDiff, Nat.reduceLT, Int.reduceLT, Int.reduceLE, Int.reduceEq]); (refine J _ ?_); (clear J K)
 repeat refine zqj ?_
 (refine zqh fun K J => ?_); (simp only [go_sem, Nat.reduceBEq, Nat.reduceBeqDiff, Nat.reduceEqDiff, ↓reduceIte, reduceCtorEq, Nat.reduceAdd, Nat.reduceMul, Nat.reduceLeDiff, Nat.reduceLT, Int.reduceLT, Int.reduceLE, Int.reduceEq, z1k, atD]); (refine J _ ?_); (clear J K)
 refine z33 fun K J => ?_
 refine zqi (za0 (fun n st => ∃ x : Nat, n = a.length - x /\ x <= a.length /\ st.t 0 = .int .i64 i /\ st.t 1 = .int .i64 k /\ st.t 2 = .rptr (z1k a) /\ st.t 3 = .rptr (z1k b) /\ st.t 4 = .rptr (atD a b) /\ st.t 7 = .ptr 0 0 /\ st.t 8 = .int .i64 x /\
   st.H 0 = some (.box 129 [.int .i64 0, .int .i64 0]) /\ Lcs.search a b (Lcs.at_ a b i k) k i = Lcs.search a b (Lcs.at_ a b i k) k x) (a.length - i) ?_ ?_)
 ·exact ⟨i, rfl, hi, rfl, rfl, rfl, rfl, rfl, rfl, rfl, rfl, rfl⟩
 rintro n st ⟨x, rfl, hx, h0, h1, h2, h3, h4, h7, h8, hH, hs⟩
 repeat refine zqj ?_
 (refine zqh fun K J => ?_); (simp only [go_sem, Nat.reduceBEq, Nat.reduceBeqDiff, Nat.reduceEqDiff, ↓reduceIte, reduceCtorEq, Nat.reduceAdd, Nat.reduceMul, Nat.reduceLeDiff, Nat.reduceLT, Int.reduceLT, Int.reduceLE, Int.reduceEq, h8, h2, z1k]); (refine J _ ?_); (clear J K)
 refine z33 fun K2 hK2 => ?_
 (refine zqm _ rfl (fun hc => ?_) (fun hc => ?_)) <;> (simp only [z09] at hc)
 ·have hx' : x < a.length := by omega
  refine zqk (hK2 _ ?_); clear hK2 K2
  refine z33 fun K2 hK2 => ?_
  refine zqi ?_
  repeat refine zqj ?_
  (refine zqh fun K J => ?_); (simp only [go_sem, Nat.reduceBEq, Nat.reduceBeqDiff, Nat.reduceEqDiff, ↓reduceIte, reduceCtorEq, Nat.reduceAdd, Nat.reduceMul, Nat.reduceLeDiff, Nat.reduceLT, Int.reduceLT, Int.reduceLE, Int.reduceEq, h1]); (refine J _ ?_); (clear J K)
  refine zqi (za0 (fun n st => ∃ y : Nat, n = b.length - y /\ y <= b.length /\ st.t 0 = .int .i64 i /\ st.t 1 = .int .i64 k /\ st.t 2 = .rptr (z1k a) /\ st.t 3 = .rptr (z1k b) /\ st.t 4 = .rptr (atD a b) /\ st.t 7 = .ptr 0 0 /\ st.t 8 = .int .i64 x /\ st.t 9 = .int .i64 y /\
    st.H 0 = some (.box 129 [.int .i64 0, .int .i64 0]) /\ Lcs.inRow a b (Lcs.at_ a b i k) x k = Lcs.inRow a b (Lcs.at_ a b i k) x y) (b.length - k) ?_ ?_)
  ·exact ⟨k, rfl, hk, h0, h1, h2, h3, h4, h7, h8, rfl, hH, rfl⟩
  clear h0 h1 h2 h3 h4 h7 h8 hH
  rintro n st ⟨y, rfl, hy, h0, h1, h2, h3, h4, h7, h8, h9, hH, hr⟩
  repeat refine zqj ?_
  (refine zqh fun K J => ?_); (simp only [go_sem, Nat.reduceBEq, Nat.reduceBeqDiff, Nat.reduceEqDiff, ↓reduceIte, reduceCtorEq, Nat.reduceAdd, Nat.reduceMul, Nat.reduceLeDiff, Nat.reduceLT, Int.reduceLT, Int.reduceLE, Int.reduceEq, h9, h3, z1k]); (refine J _ ?_); (clear J K)
  refine z33 fun K3 hK3 => ?_
  (refine zqm _ rfl (fun hc => ?_) (fun hc => ?_)) <;> (simp only [z09] at hc)
  ·have hy' : y < b.length := by omega
   refine zqk (hK3 _ ?_); clear hK3 K3
   refine z33 fun K3 hK3 => ?_
   refine zqi ?_
   repeat refine zqj ?_
   have i1 := z7w D.str a x hx'
   have i2 := z7w D.str b y hy'
   have wx : IntKind.i64.wrap ((x : Int) + 1) = ((x + 1 : Nat) : Int) := z5h (by omega)
   have wy : IntKind.i64.wrap ((y : Int) + 1) = ((y + 1 : Nat) : Int) := z5h (by omega)
   have l1 := Lcs.at_le a b (x + 1) (y + 1)
   have wn : IntKind.i64.wrap ((Lcs.at_ a b (x + 1) (y + 1) : Int) + 1) = ((Lcs.at_ a b (x + 1) (y + 1) + 1 : Nat) : Int) := z5h (by omega)
   have hst := Lcs.inRow_step a b (Lcs.at_ a b i k) x y hy'
   have tail : ∀ st' : St, Lcs.inRow a b (Lcs.at_ a b i k) x k = Lcs.inRow a b (Lcs.at_ a b i k) x (y + 1) -> st'.t 0 = .int .i64 i -> st'.t 1 = .int .i64 k -> st'.t 2 = .rptr (z1k a) -> st'.t 3 = .rptr (z1k b) -> st'.t 4 = .rptr (atD a b) -> st'.t 7 = .ptr 0 0 -> st'.t 8 = .int .i64 x -> st'.t 9 = .int .i64 y ->
     st'.H 0 = some (.box 129 [.int .i64 0, .int .i64 0]) -> K3 st' := by
    intro st' hr h0 h1 h2 h3 h4 h7 h8 h9 hH
    refine hK3 _ ?_
    (refine z85 ?_); (simp only [go_sem, Nat.reduceBEq, Nat.reduceBeqDiff, Nat.reduceEqDiff, ↓reduceIte, reduceCtorEq, Nat.reduceAdd, Nat.reduceMul, Nat.reduceLeDiff, Nat.reduceLT, Int.reduceLT, Int.reduceLE, Int.reduceEq, h9, wy])
    exact ⟨b.length - (y + 1), by omega, y + 1, rfl, by omega, h0, h1, h2, h3, h4, h7, h8, rfl, hH, hr⟩
   have ea : a[x]? = some a[x] := List.getElem?_eq_getElem hx'
   have eb : b[y]? = some b[y] := List.getElem?_eq_getElem hy'
   by_cases c1 : a[x] = b[y]
   ·refine zqe (by decide +kernel) fun K J => ?_
    simp only [go_sem, Nat.reduceBEq, Nat.reduceBeqDiff, Nat.reduceEqDiff, ↓reduceIte, reduceCtorEq, Nat.reduceAdd, Nat.reduceMul, Nat.reduceLeDiff, Nat.reduceLT, Int.reduceLT, Int.reduceLE, Int.reduceEq, h8, h9, h2, h3, h4, h0, h1, i1, i2, z1k, c1, wx, wy, atD]
    refine zqt (pcAt a b ha hb (x + 1) (y + 1) (by omega) (by omega)) ?_
    simp only [go_sem, Nat.reduceBEq, Nat.reduceBeqDiff, Nat.reduceEqDiff, ↓reduceIte, reduceCtorEq, Nat.reduceAdd, Nat.reduceMul, Nat.reduceLeDiff, Nat.reduceLT, Int.reduceLT, Int.reduceLE, Int.reduceEq, h8, h9, h2, h3, h4, h0, h1, i1, i2, z1k, c1, wx, wy, wn, atD]
    refine zqt (pcAt a b ha hb i k hi hk) ?_
    simp only [go_sem, Nat.reduceBEq, Nat.reduceBeqDiff, Nat.reduceEqDiff, ↓reduceIte, reduceCtorEq, Nat.reduceAdd, Nat.reduceMul, Nat.reduceLeDiff, Nat.reduceLT, Int.reduceLT, Int.reduceLE, Int.reduceEq, h8, h9, h2, h3, h4, h0, h1, i1, i2, z1k, c1, wx, wy, wn, atD]
    refine J _ ?_
    clear J K
    (refine zqm _ rfl (fun hc => ?_) (fun hc => ?_)) <;> (simp only [z09] at hc)
    ·have hg : Lcs.good a b (Lcs.at_ a b i k) x y = true := by
      unfold Lcs.good
      rw [ea, eb, c1]
      have : Lcs.at_ a b (x + 1) (y + 1) + 1 = Lcs.at_ a b i k := by omega
      simp [this]
     (refine zqh fun K J => ?_); (simp only [go_sem, Nat.reduceBEq, Nat.reduceBeqDiff, Nat.reduceEqDiff, ↓reduceIte, reduceCtorEq, Nat.reduceAdd, Nat.reduceMul, Nat.reduceLeDiff, Nat.reduceLT, Int.reduceLT, Int.reduceLE, Int.reduceEq, h8, h9, h7, hH]); (refine J _ ?_); (clear J K)
     (refine zqn ?_); (refine Exists.intro _ (And.intro ((show resD _ _ [.cell 7 129] = _ from (by simp only [go_sem, Nat.reduceBEq, Nat.reduceBeqDiff, Nat.reduceEqDiff, ↓reduceIte, reduceCtorEq, Nat.reduceAdd, Nat.reduceMul, Nat.reduceLeDiff, Nat.reduceLT, Int.reduceLT, Int.reduceLE, Int.reduceEq, h7]; rfl))) ?_))
     refine ⟨_, z03 1 rfl, ?_⟩
     rw [if_pos hg] at hst
     have h9 := Lcs.search_step a b (Lcs.at_ a b i k) k x hx'
     rw [hr, hst] at h9
     unfold Lcs.next
     rw [hs, h9]
     exact Le.refl _
    ·refine zqk (tail _ ?_ h0 h1 h2 h3 h4 h7 h8 h9 hH)
     rw [hr, hst, if_neg]
     unfold Lcs.good
     simp only [Bool.and_eq_true, decide_eq_true_eq]
     omega
   ·(refine zqe (by decide +kernel) fun K J => ?_); (simp only [go_sem, Nat.reduceBEq, Nat.reduceBeqDiff, Nat.reduceEqDiff, ↓reduceIte, reduceCtorEq, Nat.reduceAdd, Nat.reduceMul, Nat.reduceLeDiff, Nat.reduceLT, Int.reduceLT, Int.reduceLE, Int.reduceEq, h8, h9, h2, h3, i1, i2, z1k, c1]); (refine J _ ?_); (clear J K)
    refine zqm false rfl (fun hc => (by cases hc)) (fun _ => ?_)
    refine zqk (tail _ ?_ h0 h1 h2 h3 h4 h7 h8 h9 hH)
    rw [hr, hst, if_neg]
    unfold Lcs.good
    simp only [Bool.and_eq_true, decide_eq_true_eq, ea, eb, Option.some.injEq]
    exact fun h => c1 h.1
  ·refine zql (show K2 _ from hK2 _ ?_)
   have wx : IntKind.i64.wrap ((x : Int) + 1) = ((x + 1 : Nat) : Int) := z5h (by omega)
   (refine z85 ?_); (simp only [go_sem, Nat.reduceBEq, Nat.reduceBeqDiff, Nat.reduceEqDiff, ↓reduceIte, reduceCtorEq, Nat.reduceAdd, Nat.reduceMul, Nat.reduceLeDiff, Nat.reduceLT, Int.reduceLT, Int.reduceLE, Int.reduceEq, h8, wx])
   refine ⟨a.length - (x + 1), by omega, x + 1, rfl, by omega, h0, h1, h2, h3, h4, h7, rfl, hH, ?_⟩
   have h9 := Lcs.search_step a b (Lcs.at_ a b i k) k x hx'
   rw [hr, Lcs.inRow_end a b _ x y (by omega)] at h9
   rw [hs, h9]
 ·refine zql (show K _ from J _ ?_)
  (refine zqh fun K J => ?_); (simp only [go_sem, Nat.reduceBEq, Nat.reduceBeqDiff, Nat.reduceEqDiff, ↓reduceIte, reduceCtorEq, Nat.reduceAdd, Nat.reduceMul, Nat.reduceLeDiff, Nat.reduceLT, Int.reduceLT, Int.reduceLE, Int.reduceEq, h2, h3, h7, hH, z1k]); (refine J _ ?_); (clear J K)
  (refine zqn ?_); (refine Exists.intro _ (And.intro ((show resD _ _ [.cell 7 129] = _ from (by simp only [go_sem, Nat.reduceBEq, Nat.reduceBeqDiff, Nat.reduceEqDiff, ↓reduceIte, reduceCtorEq, Nat.reduceAdd, Nat.reduceMul, Nat.reduceLeDiff, Nat.reduceLT, Int.reduceLT, Int.reduceLE, Int.reduceEq, h7]; rfl))) ?_))
  refine ⟨_, z03 1 rfl, ?_⟩
  unfold Lcs.next
  rw [hs, Lcs.search_end a b _ k x (by omega)]
  exact Le.refl _
theorem pc35 (a : List ByteArray) : PC Tryz.prog 198 [z1k a] (.bool (decide (256 < (a.length : Int)))) := by
 refine z1c 1 (by simp only [pureD.pureL, z2s, Bool.and_self]) rfl (z17 [] Tryz.func198 rfl (by decide +kernel) z0e (by decide +kernel) (by simp [Tryz.ntmps198]) ?_)
 show awp _ _ (Code.seq _ _) _ _
 (refine zqh fun K J => ?_); (simp only [go_sem, Nat.reduceBEq, Nat.reduceBeqDiff, Nat.reduceEqDiff, ↓reduceIte, reduceCtorEq, Nat.reduceAdd, Nat.reduceMul, Nat.reduceLeDiff, Nat.reduceLT, Int.reduceLT, Int.reduceLE, Int.reduceEq]); (refine J _ ?_); (clear J K)
 (refine zqh fun K J => ?_); (simp only [go_sem, Nat.reduceBEq, Nat.reduceBeqDiff, Nat.reduceEqDiff, ↓reduceIte, reduceCtorEq, Nat.reduceAdd, Nat.reduceMul, Nat.reduceLeDiff, Nat.reduceLT, Int.reduceLT, Int.reduceLE, Int.reduceEq, z1k]); (refine J _ ?_); (clear J K)
 (refine zqn ?_); (refine Exists.intro _ (And.intro rfl ?_))
 exact z02 rfl
def z3m (a : List ByteArray) : Bool := decide (256 < (a.length : Int))
def zgz (rows : List (List ByteArray)) : Int := match rows.findIdx? z3m with | some n => (n : Int) | none => -1
theorem zid (rows : List (List ByteArray)) : (0 <= zgz rows) ↔ rows.any z3m = true := by
 unfold zgz
 cases h : rows.findIdx? z3m with
 | none =>
  rw [List.findIdx?_eq_none_iff] at h
  simp only [List.any_eq_true]
  constructor
  ·intro h; omega
  ·rintro ⟨x, hx, hp⟩; rw [h x hx] at hp; cases hp
 | some i =>
  rw [List.findIdx?_eq_some_iff_getElem] at h
  obtain ⟨hi, hp, _⟩ := h
  simp only [List.any_eq_true]
  constructor
  ·intro _; exact ⟨_, List.getElem_mem hi, hp⟩
  ·intro _; omega
theorem zf9 (nn : Bool) (rows : List (List ByteArray)) : pureD (.rsl nn 1 (rows.map z1k)) = true := by simp only [pureD]; exact z0n (fun x => z2s x) rows
set_option maxHeartbeats 2000000 in
theorem pc37 (nn : Bool) (rows : List (List ByteArray)) (hl : rows.length <= 1000) : PC Tryz.prog 206 [.rsl nn 1 (rows.map z1k), .fn 198 []] (.int .i64 (zgz rows)) := by
 refine z1c 1 (by simp only [pureD.pureL, zf9]; rfl) rfl (z17 [] Tryz.func206 rfl (by decide +kernel) z0e (by decide +kernel) (by simp [Tryz.ntmps206]) ?_)
 show awp _ _ (Code.seq _ _) _ _
 (refine zqh fun K J => ?_); (simp only [go_sem, Nat.reduceBEq, Nat.reduceBeqDiff, Nat.reduceEqDiff, ↓reduceIte, reduceCtorEq, Nat.reduceAdd, Nat.reduceMul, Nat.reduceLeDiff, Nat.reduceLT, Int.reduceLT, Int.reduceLE, Int.reduceEq]); (refine J _ ?_); (clear J K)
 repeat refine zqj ?_
 (refine zqh fun K J => ?_); (simp only [go_sem, Nat.reduceBEq, Nat.reduceBeqDiff, Nat.reduceEqDiff, ↓reduceIte, reduceCtorEq, Nat.reduceAdd, Nat.reduceMul, Nat.reduceLeDiff, Nat.reduceLT, Int.reduceLT, Int.reduceLE, Int.reduceEq]); (refine J _ ?_); (clear J K)
 refine z33 fun K J => ?_
 refine zqi (za0 (fun n st => ∃ k : Nat, n = rows.length - k /\ k <= rows.length /\ st.t 0 = .rsl nn 1 (rows.map z1k) /\ st.t 1 = .fn 198 [] /\ st.t 7 = .int .i64 rows.length /\ st.t 8 = .int .i64 k /\ ∀ j, ∀ h : j < rows.length, j < k -> z3m rows[j] = false) rows.length ?_ ?_)
 ·exact ⟨0, by simp, by simp, rfl, rfl, rfl, rfl, fun j _ h => by omega⟩
 rintro n st ⟨k, rfl, hk, h0, h1, h7, h8, hj⟩
 repeat refine zqj ?_
 (refine zqh fun K J => ?_); (simp only [go_sem, Nat.reduceBEq, Nat.reduceBeqDiff, Nat.reduceEqDiff, ↓reduceIte, reduceCtorEq, Nat.reduceAdd, Nat.reduceMul, Nat.reduceLeDiff, Nat.reduceLT, Int.reduceLT, Int.reduceLE, Int.reduceEq, h8, h7]); (refine J _ ?_); (clear J K)
 refine z33 fun K2 hK2 => ?_
 (refine zqm _ rfl (fun hc => ?_) (fun hc => ?_)) <;> (simp only [z09] at hc)
 ·have hk' : k < rows.length := by omega
  refine zqk (hK2 _ ?_); clear hK2 K2
  refine z33 fun K2 hK2 => ?_
  refine zqi ?_
  repeat refine zqj ?_
  have i1 := z7w z1k rows k hk'
  have wk : IntKind.i64.wrap ((k : Int) + 1) = ((k + 1 : Nat) : Int) := z5h (by omega)
  (refine zqh fun K J => ?_); (simp only [go_sem, Nat.reduceBEq, Nat.reduceBeqDiff, Nat.reduceEqDiff, ↓reduceIte, reduceCtorEq, Nat.reduceAdd, Nat.reduceMul, Nat.reduceLeDiff, Nat.reduceLT, Int.reduceLT, Int.reduceLE, Int.reduceEq, h8]); (refine J _ ?_); (clear J K)
  repeat refine zqj ?_
  refine zqh fun K J => ?_
  simp only [go_sem, Nat.reduceBEq, Nat.reduceBeqDiff, Nat.reduceEqDiff, ↓reduceIte, reduceCtorEq, Nat.reduceAdd, Nat.reduceMul, Nat.reduceLeDiff, Nat.reduceLT, Int.reduceLT, Int.reduceLE, Int.reduceEq, h0, h1, h8, i1, z1k]
  refine zqs (pc35 rows[k]) ?_
  simp only [go_sem, Nat.reduceBEq, Nat.reduceBeqDiff, Nat.reduceEqDiff, ↓reduceIte, reduceCtorEq, Nat.reduceAdd, Nat.reduceMul, Nat.reduceLeDiff, Nat.reduceLT, Int.reduceLT, Int.reduceLE, Int.reduceEq]
  refine J _ ?_
  clear J K
  (refine zqm _ rfl (fun hc => ?_) (fun hc => ?_)) <;> (simp only [z09] at hc)
  ·(refine zqh fun K J => ?_); (simp only [go_sem, Nat.reduceBEq, Nat.reduceBeqDiff, Nat.reduceEqDiff, ↓reduceIte, reduceCtorEq, Nat.reduceAdd, Nat.reduceMul, Nat.reduceLeDiff, Nat.reduceLT, Int.reduceLT, Int.reduceLE, Int.reduceEq, h8]); (refine J _ ?_); (clear J K)
   (refine zqn ?_); (refine Exists.intro _ (And.intro rfl ?_))
   refine z1g ?_
   have : rows.findIdx? z3m = some k := by
    rw [List.findIdx?_eq_some_iff_getElem]
    exact ⟨hk', by unfold z3m; simp [hc], fun j hjk => by rw [hj j (by omega) hjk]; simp⟩
   unfold zgz; rw [this]
  ·refine zqk (show K2 _ from hK2 _ ?_)
   (refine z85 ?_); (simp only [go_sem, Nat.reduceBEq, Nat.reduceBeqDiff, Nat.reduceEqDiff, ↓reduceIte, reduceCtorEq, Nat.reduceAdd, Nat.reduceMul, Nat.reduceLeDiff, Nat.reduceLT, Int.reduceLT, Int.reduceLE, Int.reduceEq, h8, wk])
   refine ⟨rows.length - (k + 1), by omega, k + 1, rfl, by omega, h0, h1, h7, rfl, fun j h hjk => ?_⟩
   by_cases he : j = k
   ·subst he; unfold z3m; simpa using hc
   ·exact hj j h (by omega)
 ·refine zql (show K _ from J _ ?_)
  (refine zqh fun K J => ?_); (simp only [go_sem, Nat.reduceBEq, Nat.reduceBeqDiff, Nat.reduceEqDiff, ↓reduceIte, reduceCtorEq, Nat.reduceAdd, Nat.reduceMul, Nat.reduceLeDiff, Nat.reduceLT, Int.reduceLT, Int.reduceLE, Int.reduceEq]); (refine J _ ?_); (clear J K)
  (refine zqn ?_); (refine Exists.intro _ (And.intro rfl ?_))
  refine z1g ?_
  have : rows.findIdx? z3m = none := by
   rw [List.findIdx?_eq_none_iff]
   intro x hx
   obtain ⟨j, hj', rfl⟩ := List.getElem_of_mem hx
   exact hj j hj' (by omega)
  unfold zgz; rw [this]
theorem pc34 (nn : Bool) (rows : List (List ByteArray)) (hl : rows.length <= 1000) : PC Tryz.prog 197 [.rsl nn 1 (rows.map z1k), .fn 198 []] (.bool (rows.any z3m)) := by
 refine z1c 1 (by simp only [pureD.pureL, zf9]; rfl) rfl (z17 [] Tryz.func197 rfl (by decide +kernel) z0e (by decide +kernel) (by simp [Tryz.ntmps197]) ?_)
 show awp _ _ (Code.seq _ _) _ _
 (refine zqh fun K J => ?_); (simp only [go_sem, Nat.reduceBEq, Nat.reduceBeqDiff, Nat.reduceEqDiff, ↓reduceIte, reduceCtorEq, Nat.reduceAdd, Nat.reduceMul, Nat.reduceLeDiff, Nat.reduceLT, Int.reduceLT, Int.reduceLE, Int.reduceEq]); (refine J _ ?_); (clear J K)
 refine zqh fun K J => ?_
 simp only [go_sem, Nat.reduceBEq, Nat.reduceBeqDiff, Nat.reduceEqDiff, ↓reduceIte, reduceCtorEq, Nat.reduceAdd, Nat.reduceMul, Nat.reduceLeDiff, Nat.reduceLT, Int.reduceLT, Int.reduceLE, Int.reduceEq]
 refine zqs (pc37 nn rows hl) ?_
 simp only [go_sem, Nat.reduceBEq, Nat.reduceBeqDiff, Nat.reduceEqDiff, ↓reduceIte, reduceCtorEq, Nat.reduceAdd, Nat.reduceMul, Nat.reduceLeDiff, Nat.reduceLT, Int.reduceLT, Int.reduceLE, Int.reduceEq]
 refine J _ ?_
 clear J K
 (refine zqn ?_); (refine Exists.intro _ (And.intro rfl ?_))
 refine z02 ?_
 have := zid rows
 by_cases h : 0 <= zgz rows
 ·rw [this.1 h]; simp [h]
 ·have h2 : rows.any z3m = false := by
   cases hq : rows.any z3m with
   | true => exact (h (this.2 hq)).elim
   | false => rfl
  rw [h2]; simp [h]
theorem pc27 (nn : Bool) (rows : List (List ByteArray)) (hl : rows.length <= 1000) : PC Tryz.prog 162 [.rsl nn 1 (rows.map z1k)] (.bool (rows.any z3m)) := by
 refine z1c 1 (by simp only [pureD.pureL, zf9]; rfl) rfl (z17 [] Tryz.func162 rfl (by decide +kernel) z0e (by decide +kernel) (by simp [Tryz.ntmps162]) ?_)
 show awp _ _ (Code.seq _ _) _ _
 (refine zqh fun K J => ?_); (simp only [go_sem, Nat.reduceBEq, Nat.reduceBeqDiff, Nat.reduceEqDiff, ↓reduceIte, reduceCtorEq, Nat.reduceAdd, Nat.reduceMul, Nat.reduceLeDiff, Nat.reduceLT, Int.reduceLT, Int.reduceLE, Int.reduceEq]); (refine J _ ?_); (clear J K)
 refine zqh fun K J => ?_
 simp only [go_sem, Nat.reduceBEq, Nat.reduceBeqDiff, Nat.reduceEqDiff, ↓reduceIte, reduceCtorEq, Nat.reduceAdd, Nat.reduceMul, Nat.reduceLeDiff, Nat.reduceLT, Int.reduceLT, Int.reduceLE, Int.reduceEq]
 refine zqs (pc34 nn rows hl) ?_
 simp only [go_sem, Nat.reduceBEq, Nat.reduceBeqDiff, Nat.reduceEqDiff, ↓reduceIte, reduceCtorEq, Nat.reduceAdd, Nat.reduceMul, Nat.reduceLeDiff, Nat.reduceLT, Int.reduceLT, Int.reduceLE, Int.reduceEq]
 refine J _ ?_
 clear J K
 (refine zqn ?_); (refine Exists.intro _ (And.intro rfl ?_))
 exact z02 rfl
def zlm (p : Nat × Nat) : List D := [.int .i64 (p.1 : Int), .int .i64 (p.2 : Int)]
def encP (l : List (Nat × Nat)) : D := .rsl false 2 (l.map fun p => .agg (zlm p))
theorem zwx (l : List (Nat × Nat)) : pureD (encP l) = true := by simp only [encP, pureD]; exact z0n (fun _ => rfl) l
theorem Lcs.pairsF_len {α : Type} [DecidableEq α] (a b : List α) : ∀ n i k, (Lcs.pairsF a b n i k).length = n
 | 0, _, _ => rfl
 | n + 1, i, k => by simp [Lcs.pairsF, Lcs.pairsF_len a b n]
theorem rc29 {H : HM} {nx : Nat} (a b : List ByteArray) (ha : a.length <= 256) (hb : b.length <= 256) (i k : Nat) (hi : i <= a.length) (hk : k <= b.length) (h0 : H 0 = some (.box 28 [z1k a])) (h1 : H 1 = some (.box 28 [z1k b])) (h2 : H 2 = some (.box 158 [atD a b])) :
  RC Tryz.prog 164 [.int .i64 i, .int .i64 k, .ptr 0 0, .ptr 1 0, .ptr 2 0] H nx (.agg [.int .i64 ((Lcs.next a b i k).1 : Int), .int .i64 ((Lcs.next a b i k).2 : Int)]) := by
 refine PC.borrow (pc29 a b ha hb i k hi hk) rfl 2 ?_
 refine z00 (z03 _ rfl) (z00 (z03 _ rfl) (z00 ?_ (z00 ?_ (z00 ?_ z08))))
 ·exact z15 1 h0 zhw (z03 _ (z2s a))
 ·exact z15 1 h1 zhw (z03 _ (z2s b))
 ·exact z15 1 h2 zsf (z03 _ (zop a b))
set_option maxHeartbeats 2000000 in
theorem ac15 (a b : List ByteArray) (ha : a.length <= maxLen) (hb : b.length <= maxLen) : AC Tryz.prog 111 [z1k a, z1k b] noH 0 fun d H _ =>
  ((256 < a.length \/ 256 < b.length) /\ d = .nil) \/ (¬ (256 < a.length \/ 256 < b.length) /\ d = .osl 3 (Lcs.pairs a b).length /\ H 3 = some (.row 129 (Lcs.pairs a b).length ((Lcs.pairs a b).flatMap zlm))) := by
 unfold maxLen at ha hb
 refine (z17 [7] Tryz.func111 rfl (by decide +kernel) z0e (by decide +kernel) (by simp [Tryz.ntmps111]) ?_)
 show awp _ _ (Code.seq _ _) _ _
 (refine zqh fun K J => ?_); (simp only [go_sem, Nat.reduceBEq, Nat.reduceBeqDiff, Nat.reduceEqDiff, ↓reduceIte, reduceCtorEq, Nat.reduceAdd, Nat.reduceMul, Nat.reduceLeDiff, Nat.reduceLT, Int.reduceLT, Int.reduceLE, Int.reduceEq, z1k]); (refine J _ ?_); (clear J K)
 repeat refine zqj ?_
 refine zqh fun K J => ?_
 simp only [go_sem, Nat.reduceBEq, Nat.reduceBeqDiff, Nat.reduceEqDiff, ↓reduceIte, reduceCtorEq, Nat.reduceAdd, Nat.reduceMul, Nat.reduceLeDiff, Nat.reduceLT, Int.reduceLT, Int.reduceLE, Int.reduceEq]
 refine zqs (pc27 true [a, b] (by simp)) ?_
 simp only [go_sem, Nat.reduceBEq, Nat.reduceBeqDiff, Nat.reduceEqDiff, ↓reduceIte, reduceCtorEq, Nat.reduceAdd, Nat.reduceMul, Nat.reduceLeDiff, Nat.reduceLT, Int.reduceLT, Int.reduceLE, Int.reduceEq]
 refine J _ ?_
 clear J K
 refine z33 fun K J => ?_
 by_cases hlong : 256 < a.length \/ 256 < b.length
 ·have ht : (z3m a || z3m b) = true := by
   unfold z3m
   simp only [Bool.or_eq_true, decide_eq_true_eq]
   omega
  simp only [ht]
  refine zqm true rfl (fun _ => ?_) (fun hc => (by cases hc))
  (refine zqh fun K J => ?_); (simp only [go_sem, Nat.reduceBEq, Nat.reduceBeqDiff, Nat.reduceEqDiff, ↓reduceIte, reduceCtorEq, Nat.reduceAdd, Nat.reduceMul, Nat.reduceLeDiff, Nat.reduceLT, Int.reduceLT, Int.reduceLE, Int.reduceEq]); (refine J _ ?_); (clear J K)
  (refine zqn ?_); (refine Exists.intro _ (And.intro rfl ?_))
  exact .inl ⟨hlong, rfl⟩
 have ht : (z3m a || z3m b) = false := by
  unfold z3m
  simp only [Bool.or_eq_false_iff, decide_eq_false_iff_not]
  omega
 simp only [ht]
 refine zqm false rfl (fun hc => (by cases hc)) (fun _ => ?_)
 refine zqk (J _ ?_); clear J K
 have ha' : a.length <= 256 := by omega
 have hb' : b.length <= 256 := by omega
 repeat refine zqj ?_
 refine zqh fun K J => ?_
 simp only [go_sem, Nat.reduceBEq, Nat.reduceBeqDiff, Nat.reduceEqDiff, ↓reduceIte, reduceCtorEq, Nat.reduceAdd, Nat.reduceMul, Nat.reduceLeDiff, Nat.reduceLT, Int.reduceLT, Int.reduceLE, Int.reduceEq]
 refine zqs (pc28 a b ha' hb') ?_
 simp only [go_sem, Nat.reduceBEq, Nat.reduceBeqDiff, Nat.reduceEqDiff, ↓reduceIte, reduceCtorEq, Nat.reduceAdd, Nat.reduceMul, Nat.reduceLeDiff, Nat.reduceLT, Int.reduceLT, Int.reduceLE, Int.reduceEq]
 refine J _ ?_
 clear J K
 (refine zqh fun K J => ?_); (simp only [go_sem, Nat.reduceBEq, Nat.reduceBeqDiff, Nat.reduceEqDiff, ↓reduceIte, reduceCtorEq, Nat.reduceAdd, Nat.reduceMul, Nat.reduceLeDiff, Nat.reduceLT, Int.reduceLT, Int.reduceLE, Int.reduceEq]); (refine J _ ?_); (clear J K)
 (refine zqh fun K J => ?_); (simp only [go_sem, Nat.reduceBEq, Nat.reduceBeqDiff, Nat.reduceEqDiff, ↓reduceIte, reduceCtorEq, Nat.reduceAdd, Nat.reduceMul, Nat.reduceLeDiff, Nat.reduceLT, Int.reduceLT, Int.reduceLE, Int.reduceEq]); (refine J _ ?_); (clear J K)
 repeat refine zqj ?_
 (refine zqh fun K J => ?_); (simp only [go_sem, Nat.reduceBEq, Nat.reduceBeqDiff, Nat.reduceEqDiff, ↓reduceIte, reduceCtorEq, Nat.reduceAdd, Nat.reduceMul, Nat.reduceLeDiff, Nat.reduceLT, Int.reduceLT, Int.reduceLE, Int.reduceEq]); (refine J _ ?_); (clear J K)
 refine z33 fun K J => ?_
 refine zqi (za0 (fun n st => ∃ (i k : Nat) (out : List (Nat × Nat)), n = Lcs.at_ a b i k /\ i <= a.length /\ k <= b.length /\ st.t 5 = .ptr 2 0 /\ st.t 6 = .fn 164 [.ptr 0 0, .ptr 1 0, .ptr 2 0] /\ st.t 7 = .osl 3 out.length /\ st.t 8 = .int .i64 i /\ st.t 9 = .int .i64 k /\
   st.H 0 = some (.box 28 [z1k a]) /\ st.H 1 = some (.box 28 [z1k b]) /\ st.H 2 = some (.box 158 [atD a b]) /\ st.H 3 = some (.row 129 out.length (out.flatMap zlm)) /\ 4 <= st.nx /\ out ++ Lcs.pairsFrom a b i k = Lcs.pairsFrom a b 0 0) (Lcs.at_ a b 0 0) ?_ ?_)
 ·exact ⟨0, 0, [], rfl, Nat.zero_le _, Nat.zero_le _, rfl, rfl, rfl, rfl, rfl, rfl, rfl, rfl, rfl, by show 4 <= 4; omega, rfl⟩
 rintro n st ⟨i, k, out, rfl, hi, hk, h5, h6, h7, h8, h9, hH0, hH1, hH2, hH3, hnx, ho⟩
 have hlen : out.length <= 256 := by
  have h1 := congrArg List.length ho
  simp only [List.length_append, Lcs.pairsFrom, Lcs.pairsF_len] at h1
  have h2 := Lcs.at_le a b 0 0
  omega
 repeat refine zqj ?_
 refine zqh fun K J => ?_
 simp only [go_sem, Nat.reduceBEq, Nat.reduceBeqDiff, Nat.reduceEqDiff, ↓reduceIte, reduceCtorEq, Nat.reduceAdd, Nat.reduceMul, Nat.reduceLeDiff, Nat.reduceLT, Int.reduceLT, Int.reduceLE, Int.reduceEq, h5, h8, h9, hH2, atD]
 refine zqs (pcAt a b ha' hb' i k hi hk) ?_
 simp only [go_sem, Nat.reduceBEq, Nat.reduceBeqDiff, Nat.reduceEqDiff, ↓reduceIte, reduceCtorEq, Nat.reduceAdd, Nat.reduceMul, Nat.reduceLeDiff, Nat.reduceLT, Int.reduceLT, Int.reduceLE, Int.reduceEq]
 refine J _ ?_
 clear J K
 refine z33 fun K2 hK2 => ?_
 (refine zqm _ rfl (fun hc => ?_) (fun hc => ?_)) <;> (simp only [z09] at hc)
 ·refine zqk (hK2 _ ?_); clear hK2 K2
  repeat refine zqj ?_
  have hpos : 0 < Lcs.at_ a b i k := by omega
  have hcons := Lcs.pairsFrom_cons a b i k hpos
  obtain ⟨m, hm⟩ : ∃ m, Lcs.at_ a b i k = m + 1 := ⟨Lcs.at_ a b i k - 1, by omega⟩
  obtain ⟨q1, q2, q3, q4, q5, q6⟩ := Lcs.next_good a b i k m hm
  refine zqi ?_
  refine zqh fun K J => ?_
  simp only [go_sem, Nat.reduceBEq, Nat.reduceBeqDiff, Nat.reduceEqDiff, ↓reduceIte, reduceCtorEq, Nat.reduceAdd, Nat.reduceMul, Nat.reduceLeDiff, Nat.reduceLT, Int.reduceLT, Int.reduceLE, Int.reduceEq, h6, h8, h9]
  refine z0x (rc29 a b ha' hb' i k hi hk hH0 hH1 hH2) ?_
  simp only [go_sem, Nat.reduceBEq, Nat.reduceBeqDiff, Nat.reduceEqDiff, ↓reduceIte, reduceCtorEq, Nat.reduceAdd, Nat.reduceMul, Nat.reduceLeDiff, Nat.reduceLT, Int.reduceLT, Int.reduceLE, Int.reduceEq]
  refine J _ ?_
  clear J K
  have e0 : (0 == st.nx) = false := by simp; omega
  have e1 : (1 == st.nx) = false := by simp; omega
  have e2 : (2 == st.nx) = false := by simp; omega
  have e3 : (3 == st.nx) = false := by simp; omega
  have b1 : (out.length + 1) * 16 <= 140737488355328 := by omega
  have b2 : out.length <= 9223372036854775806 := by omega
  (refine zqh fun K J => ?_); (simp only [go_sem, Nat.reduceBEq, Nat.reduceBeqDiff, Nat.reduceEqDiff, ↓reduceIte, reduceCtorEq, Nat.reduceAdd, Nat.reduceMul, Nat.reduceLeDiff, Nat.reduceLT, Int.reduceLT, Int.reduceLE, Int.reduceEq, h7, hH3, e3, b1, b2]); (refine J _ ?_); (clear J K)
  have wa : IntKind.i64.wrap (((Lcs.next a b i k).1 : Int) + 1) = (((Lcs.next a b i k).1 + 1 : Nat) : Int) := z5h (by omega)
  have wb : IntKind.i64.wrap (((Lcs.next a b i k).2 : Int) + 1) = (((Lcs.next a b i k).2 + 1 : Nat) : Int) := z5h (by omega)
  have e4 : (st.nx == 3) = false := by simp; omega
  (refine zig (by decide +kernel) ?_); (simp only [go_sem, Nat.reduceBEq, Nat.reduceBeqDiff, Nat.reduceEqDiff, ↓reduceIte, reduceCtorEq, Nat.reduceAdd, Nat.reduceMul, Nat.reduceLeDiff, Nat.reduceLT, Int.reduceLT, Int.reduceLE, Int.reduceEq, wa, wb, e4])
  have n0 : ¬ (0 = st.nx) := by omega
  have n1 : ¬ (1 = st.nx) := by omega
  have n2 : ¬ (2 = st.nx) := by omega
  refine ⟨m, by omega, (Lcs.next a b i k).1 + 1, (Lcs.next a b i k).2 + 1, out ++ [Lcs.next a b i k], by omega, by omega, by omega, h5, h6, ?_, rfl, rfl, ?_, ?_, ?_, ?_, ?_, ?_⟩
  ·rw [List.length_append]; rfl
  ·simp only [go_sem, Nat.reduceBEq, Nat.reduceBeqDiff, Nat.reduceEqDiff, ↓reduceIte, reduceCtorEq, Nat.reduceAdd, Nat.reduceMul, Nat.reduceLeDiff, Nat.reduceLT, Int.reduceLT, Int.reduceLE, Int.reduceEq, e0, hH0]
  ·simp only [go_sem, Nat.reduceBEq, Nat.reduceBeqDiff, Nat.reduceEqDiff, ↓reduceIte, reduceCtorEq, Nat.reduceAdd, Nat.reduceMul, Nat.reduceLeDiff, Nat.reduceLT, Int.reduceLT, Int.reduceLE, Int.reduceEq, e1, hH1]
  ·simp only [go_sem, Nat.reduceBEq, Nat.reduceBeqDiff, Nat.reduceEqDiff, ↓reduceIte, reduceCtorEq, Nat.reduceAdd, Nat.reduceMul, Nat.reduceLeDiff, Nat.reduceLT, Int.reduceLT, Int.reduceLE, Int.reduceEq, e2, hH2]
  ·simp only [go_sem, Nat.reduceBEq, Nat.reduceBeqDiff, Nat.reduceEqDiff, ↓reduceIte, reduceCtorEq, Nat.reduceAdd, Nat.reduceMul, Nat.reduceLeDiff, Nat.reduceLT, Int.reduceLT, Int.reduceLE, Int.reduceEq, e3]
   simp [zlm]
  ·show 4 <= st.nx + 1; omega
  ·rw [List.append_assoc, <- ho, hcons]; rfl
 ·refine zql (show K _ from J _ ?_)
  (refine zqh fun K J => ?_); (simp only [go_sem, Nat.reduceBEq, Nat.reduceBeqDiff, Nat.reduceEqDiff, ↓reduceIte, reduceCtorEq, Nat.reduceAdd, Nat.reduceMul, Nat.reduceLeDiff, Nat.reduceLT, Int.reduceLT, Int.reduceLE, Int.reduceEq, h7]); (refine J _ ?_); (clear J K)
  (refine zqn ?_); (refine Exists.intro _ (And.intro rfl ?_))
  rw [Lcs.pairsFrom_nil a b i k (by omega), List.append_nil] at ho
  refine .inr ⟨hlong, ?_, ?_⟩
  ·unfold Lcs.pairs; rw [if_neg hlong, <- ho]; rfl
  ·unfold Lcs.pairs; rw [if_neg hlong, <- ho]; exact hH3
theorem pc15 (a b : List ByteArray) (ha : a.length <= maxLen) (hb : b.length <= maxLen) : PC Tryz.prog 111 [z1k a, z1k b] (encP (Lcs.pairs a b)) := by
 refine z1c 2 (by simp only [pureD.pureL, z2s, Bool.and_self]) (zwx _) ((ac15 a b ha hb).mono fun d H nx h => ?_)
 rcases h with ⟨hl, rfl⟩ | ⟨hl, rfl, hH⟩
 ·refine fin_nil ?_
  unfold Lcs.pairs; rw [if_pos hl]; rfl
 ·exact z57 (z2v 0 hH zsd zxb (fun _ => rfl) (fun _ => rfl))
end
section
open Abs Facts Tr
namespace Tr
structure Deed where
 kind : Int
 at_ : Int
 id : Idv
 parent : Idv
 words : List ByteArray
 label : ByteArray
 unit : T
theorem cap_len {s : ByteArray} (h : z41 s = true) : s.size <= 7 := by
 unfold z41 at h
 simp only [Bool.and_eq_true, decide_eq_true_eq] at h
 omega
theorem zsw {l : List Wd} (h : zhd l = true) : l.length <= 256 /\ ∀ w ∈ l, w.text.size <= 24 := by
 unfold zhd at h
 simp only [Bool.and_eq_true, decide_eq_true_eq, List.all_eq_true] at h
 refine ⟨h.1, fun w hw => ?_⟩
 have := h.2 w hw
 unfold z74 at this
 simp only [Bool.and_eq_true, decide_eq_true_eq] at this
 omega
theorem zxs : ∀ t : T, z3h t = true -> szB t = true := by
 refine z5p fun t ih h => ?_
 rw [z3y] at h
 simp only [Bool.and_eq_true, List.all_eq_true] at h
 obtain ⟨ha, _, hk, _⟩ := h
 unfold z32 at ha
 simp only [Bool.and_eq_true, decide_eq_true_eq] at ha
 obtain ⟨_, h1, h2, h3, h4⟩ := ha
 obtain ⟨a1, a2⟩ := zsw h2
 obtain ⟨b1, b2⟩ := zsw h3
 refine (z2w t).2 ⟨?_, by omega, fun w hw => by have := a2 w hw; omega, by omega, fun w hw => by have := b2 w hw; omega, by omega, fun k hk' => ih k hk' (hk k hk')⟩
 split at h4
 ·simp only [Bool.and_eq_true, decide_eq_true_eq] at h4
  rw [h4.1]; decide
 ·have := cap_len h4; omega
theorem z27 {t : T} (h : standsT t = true) : szB t = true /\ cntT t <= 1024 /\ depT t <= 8 :=
 ⟨zxs t ((z1v t).1 h).1, ((z1v t).1 h).2.2.1, ((z1v t).1 h).2.1⟩
theorem zlq {u : T} {id : Idv} {l : List Wd} (h : z4q u id l = 0) : standsT (z1y id (fun q => q.setHead l) u) = true := by
 obtain ⟨h1, hm, h3, h4, h5⟩ := zbs h
 obtain ⟨C, e, hq, hpre, _⟩ := focus id u hm
 generalize (z06 id u).1 = q at e hq h4
 have hpost : id ∉ z3g C := (z2q (x := q) (by rw [<- e]; exact z1f h1) (hq ▸ z26 q)).2
 rw [e, z40 (fun q => q.setHead l) hq C hpre hpost]
 rw [e] at h1
 refine zd7 h1 rfl rfl rfl ?_ (fun h => h)
 have hr := ((z1v _).1 h1).1
 rw [z3k] at hr
 have ha := (zbu hr.2).1
 unfold z32 at ha ⊢
 simp only [Bool.and_eq_true, decide_eq_true_eq] at ha ⊢
 obtain ⟨a1, a2, a3, a4, a5⟩ := ha
 refine ⟨a1, a2, ?_, a4, ?_⟩
 ·show zhd l = true
  unfold zhd
  rw [decide_eq_true h5, Bool.true_and, List.all_eq_true]
  intro w hw
  unfold zze at h3
  have := List.any_eq_false.1 h3 w hw
  simpa using this
 ·rw [if_neg h4] at a5
  rw [if_neg (show ¬ (q.setHead l).kind = 0 from h4)]; exact a5
def zsx (was : List Wd) (out : List Wd) (p : Nat × Nat) : List Wd := match was[p.1]? with | some w => out.set p.2 w | none => out
def z6n (was : List Wd) (l : List ByteArray) : List Wd := (Lcs.pairs (was.map (·.text)) l).foldl (zsx was) (l.map fun s => ⟨s, Idv.zero⟩)
theorem zhz {α : Type} [DecidableEq α] (a b : List α) : ∀ p ∈ Lcs.pairs a b, ∃ (h1 : p.1 < a.length) (h2 : p.2 < b.length), a[p.1] = b[p.2] := by
 have key : ∀ n i k, Lcs.at_ a b i k = n -> ∀ p ∈ Lcs.pairsF a b n i k, ∃ (h1 : p.1 < a.length) (h2 : p.2 < b.length), a[p.1] = b[p.2] := by
  intro n
  induction n with
  | zero => intro i k _ p hp; simp [Lcs.pairsF] at hp
  | succ n ih =>
   intro i k hn p hp
   have hg := Lcs.next_good a b i k n hn
   simp only [Lcs.pairsF, List.mem_cons] at hp
   rcases hp with rfl | hp
   ·obtain ⟨_, h1, _, h2, h3, _⟩ := hg
    rw [List.getElem?_eq_getElem h1, List.getElem?_eq_getElem h2, Option.some.injEq] at h3
    exact ⟨h1, h2, h3⟩
   ·exact ih _ _ (by obtain ⟨_, _, _, _, _, h⟩ := hg; omega) p hp
 unfold Lcs.pairs
 split
 ·intro p hp; cases hp
 ·exact fun p hp => key _ 0 0 rfl p hp
theorem zxt {was out : List Wd} {l : List ByteArray} {p : Nat × Nat} (ho : out.map (·.text) = l) (hp : ∃ (h1 : p.1 < (was.map (·.text)).length) (h2 : p.2 < l.length), (was.map (·.text))[p.1] = l[p.2]) : (zsx was out p).map (·.text) = l := by
 obtain ⟨h1, h2, h3⟩ := hp
 rw [List.length_map] at h1
 unfold zsx
 rw [List.getElem?_eq_getElem h1]
 simp only [List.map_set, ho]
 rw [List.getElem_map] at h3
 rw [h3]
 exact List.set_getElem_self h2
theorem zeu {was : List Wd} {l : List ByteArray} : ∀ (ps : List (Nat × Nat)) (out : List Wd), (∀ p ∈ ps, ∃ (h1 : p.1 < (was.map (·.text)).length) (h2 : p.2 < l.length), (was.map (·.text))[p.1] = l[p.2]) -> out.map (·.text) = l -> (ps.foldl (zsx was) out).map (·.text) = l
 | [], out, _, h => h
 | p :: ps, out, hp, h => zeu ps _ (fun q hq => hp q (List.mem_cons_of_mem _ hq)) (zxt h (hp p List.mem_cons_self))
theorem zcf (was : List Wd) (l : List ByteArray) : (z6n was l).map (·.text) = l :=
 zeu _ _ (zhz _ _) (by rw [List.map_map]; exact List.map_id'' (fun _ => rfl) l)
theorem z8u (was : List Wd) (l : List ByteArray) : (z6n was l).length = l.length := by
 have := congrArg List.length (zcf was l)
 rwa [List.length_map] at this
theorem zev {was : List Wd} {l : List ByteArray} {n : Nat} (h : ∀ s ∈ l, s.size <= n) : ∀ w ∈ z6n was l, w.text.size <= n := fun w hw => by
 refine h _ ?_
 have := zcf was l
 rw [<- this]
 exact List.mem_map.2 ⟨w, hw, rfl⟩
theorem zpb (was : List Wd) (l : List ByteArray) : ∀ w ∈ z6n was l, w.by_ = Idv.zero \/ w ∈ was := by
 have key : ∀ (ps : List (Nat × Nat)) (out : List Wd), (∀ w ∈ out, w.by_ = Idv.zero \/ w ∈ was) -> ∀ w ∈ ps.foldl (zsx was) out, w.by_ = Idv.zero \/ w ∈ was := by
  intro ps
  induction ps with
  | nil => intro out h w hw; exact h w hw
  | cons p ps ih =>
   intro out h
   refine ih _ fun w hw => ?_
   unfold zsx at hw
   split at hw
   ·rename_i v hv
    rcases List.mem_or_eq_of_mem_set hw with h1 | rfl
    ·exact h w h1
    ·exact .inr (List.mem_of_getElem? hv)
   ·exact h w hw
 refine key _ _ fun w hw => ?_
 obtain ⟨s, _, rfl⟩ := List.mem_map.1 hw
 exact .inl rfl
def T.setId (t : T) (i : Idv) : T := .mk i t.kind t.label t.head t.words t.kids
def z2c : List (Nat -> T × Nat) -> Nat -> List T × Nat
 | [], n => ([], n)
 | f :: fs, n => ((f n).1 :: (z2c fs (f n).2).1, (z2c fs (f n).2).2)
def z2l : T -> Nat -> T × Nat := zgc fun t l n => ((t.setId ⟨0, 0, n⟩).setKids (z2c l (n + 1)).1, (z2c l (n + 1)).2)
theorem znp (t : T) (n : Nat) : z2l t n = ((t.setId ⟨0, 0, n⟩).setKids (z2c (t.kids.map z2l) (n + 1)).1, (z2c (t.kids.map z2l) (n + 1)).2) := by
 unfold z2l; rw [z3r]
theorem zlr (fs : List (Nat -> T × Nat)) (f : Nat -> T × Nat) : ∀ n, z2c (fs ++ [f]) n = ((z2c fs n).1 ++ [(f (z2c fs n).2).1], (f (z2c fs n).2).2) := by
 induction fs with
 | nil => intro n; rfl
 | cons g fs ih => intro n; simp only [List.cons_append, z2c, ih]
theorem zcg (fs : List (Nat -> T × Nat)) : ∀ n, (z2c fs n).1.length = fs.length := by
 induction fs with
 | nil => intro n; rfl
 | cons g fs ih => intro n; simp only [z2c, List.length_cons, ih]
theorem zeb (l : List T) : (l.flatMap z0l).length = (l.map cntT).sum := by
 induction l with
 | nil => rfl
 | cons k l ih => rw [List.flatMap_cons, List.length_append, ih, List.map_cons, List.sum_cons]; rfl
theorem zgr : ∀ t : T, szB t = true -> ∀ n, szB (z2l t n).1 = true /\ cntT (z2l t n).1 = cntT t /\ depT (z2l t n).1 = depT t /\ (z2l t n).2 = n + cntT t := by
 refine z5p fun t ih hs n => ?_
 obtain ⟨h0, h1, g1, h2, g2, h3, h4⟩ := (z2w t).1 hs
 have key : ∀ (l : List T), (∀ k ∈ l, ∀ n, szB (z2l k n).1 = true /\ cntT (z2l k n).1 = cntT k /\ depT (z2l k n).1 = depT k /\ (z2l k n).2 = n + cntT k) -> ∀ n,
   (∀ k ∈ (z2c (l.map z2l) n).1, szB k = true) /\ ((z2c (l.map z2l) n).1.map cntT) = l.map cntT /\ ((z2c (l.map z2l) n).1.map depT) = l.map depT /\ (z2c (l.map z2l) n).2 = n + (l.map cntT).sum := by
  intro l
  induction l with
  | nil => intro _ n; exact ⟨fun k hk => (by cases hk), rfl, rfl, rfl⟩
  | cons k l ihl =>
   intro h n
   obtain ⟨a1, a2, a3, a4⟩ := h k List.mem_cons_self n
   obtain ⟨b1, b2, b3, b4⟩ := ihl (fun k hk => h k (List.mem_cons_of_mem _ hk)) (z2l k n).2
   simp only [List.map_cons, z2c, List.sum_cons]
   refine ⟨fun x hx => ?_, by rw [a2, b2], by rw [a3, b3], by rw [b4, a4]; omega⟩
   rcases List.mem_cons.1 hx with rfl | hx
   ·exact a1
   ·exact b1 x hx
 obtain ⟨c1, c2, c3, c4⟩ := key t.kids (fun k hk => ih k hk (h4 k hk)) (n + 1)
 rw [znp]
 have hkl : (z2c (t.kids.map z2l) (n + 1)).1.length = t.kids.length := by rw [zcg, List.length_map]
 refine ⟨(z2w _).2 ⟨h0, h1, g1, h2, g2, by show (z2c (t.kids.map z2l) (n + 1)).1.length <= _; omega, c1⟩, ?_, ?_, ?_⟩
 ·rw [z72, z72 t]
  rw [zeb, zeb]
  show _ + ((z2c (t.kids.map z2l) (n + 1)).1.map cntT).sum = _
  rw [c2]
 ·rw [z46, z46 t]
  show zdd ((z2c (t.kids.map z2l) (n + 1)).1.map depT) = _
  rw [c3]
 ·show (z2c (t.kids.map z2l) (n + 1)).2 = _
  rw [c4, z72, zeb]; omega
def z3w (u : T) (o : Deed) : List Wd := z6n (if o.kind = 1 then (z06 o.id u).1.head else (z06 o.id u).1.words) o.words
def zsy (t : T) : Bool := z5o t && decide (t = zaf t)
def doE (u : T) (o : Deed) (n : Nat) : Int :=
 if o.kind = 0 \/ o.kind = 1 then z4q u o.id (z3w u o)
 else if o.kind = 2 then zm2 u o.id o.label
 else if o.kind = 3 then (if zsy o.unit = true then z47 u o.parent o.at_ (z2l o.unit (n + 1)).1 else 1)
 else if o.kind = 4 then zaz u o.id
 else if o.kind = 5 then z8o u o.id o.parent o.at_
 else 1
def doT (u : T) (o : Deed) (n : Nat) : T :=
 if o.kind = 0 then z1y o.id (fun q => q.setWords (z3w u o)) u
 else if o.kind = 1 then z1y o.id (fun q => q.setHead (z3w u o)) u
 else if o.kind = 2 then z1y o.id (fun q => q.setLabel o.label) u
 else if o.kind = 3 then z1y o.parent (z8q o.at_.toNat (z2l o.unit (n + 1)).1) u
 else if o.kind = 4 then z0w o.id u
 else z1y o.parent (z8q o.at_.toNat (z06 o.id u).1) (z0w o.id u)
def zs4 (o : Deed) : Nat := if o.kind = 3 then cntT o.unit else 0
theorem zxu {u x : T} {parent : Idv} {i : Int} (h : z47 u parent i x = 0) : 0 <= i := by
 unfold z47 at h
 split at h
 ·cases h
 split at h
 ·cases h
 split at h
 ·cases h
 split at h
 ·cases h
 omega
theorem z56 {u : T} {o : Deed} {n : Nat} (h : doE u o n = 0) : standsT (doT u o n) = true := by
 unfold doE at h
 unfold doT
 by_cases k0 : o.kind = 0
 ·rw [if_pos (.inl k0)] at h
  rw [if_pos k0]
  exact (zwa h).1
 by_cases k1 : o.kind = 1
 ·rw [if_pos (.inr k1)] at h
  rw [if_neg k0, if_pos k1]
  exact zlq h
 rw [if_neg (by omega)] at h
 rw [if_neg k0, if_neg k1]
 by_cases k2 : o.kind = 2
 ·rw [if_pos k2] at h ⊢
  exact (zwb h).1
 rw [if_neg k2] at h ⊢
 by_cases k3 : o.kind = 3
 ·rw [if_pos k3] at h ⊢
  split at h
  ·have h0 := zxu h
   obtain ⟨m, hm⟩ := Int.eq_ofNat_of_zero_le h0
   rw [hm] at h ⊢
   obtain ⟨C, q, l, r, _, _, _, _, f1, _⟩ := zjh h
   exact f1
  ·cases h
 rw [if_neg k3] at h ⊢
 by_cases k4 : o.kind = 4
 ·rw [if_pos k4] at h ⊢
  exact (zrk h).1
 rw [if_neg k4] at h ⊢
 split at h
 ·exact (zwc h).1
 ·cases h
end Tr
namespace Tr
def stepD (p : T × Nat) (o : Deed) : T × Nat := (doT p.1 o p.2, p.2 + zs4 o)
def draft (b : T) (l : List Deed) : T := (l.foldl stepD (b, 0)).1
def z3e (l : List Deed) : Nat := (l.map zs4).sum
theorem zoo : ∀ (l : List Deed) (p : T × Nat), (l.foldl stepD p).2 = p.2 + (l.map zs4).sum
 | [], p => rfl
 | o :: l, p => by rw [List.foldl_cons, zoo l, List.map_cons, List.sum_cons]; show p.2 + zs4 o + _ = _; omega
theorem za4 (b : T) (l : List Deed) (o : Deed) : draft b (l ++ [o]) = doT (draft b l) o (z3e l) := by
 unfold draft
 rw [List.foldl_append, List.foldl_cons, List.foldl_nil]
 show doT _ o (l.foldl stepD (b, 0)).2 = _
 rw [zoo]; simp [z3e]
theorem zvv (l : List Deed) (o : Deed) : z3e (l ++ [o]) = z3e l + zs4 o := by unfold z3e; simp
def OKrun (b : T) (l : List Deed) : Prop := ∀ i, (h : i < l.length) -> doE (draft b (l.take i)) l[i] (z3e (l.take i)) = 0
theorem zl1 (b : T) : OKrun b [] := fun i h => by simp at h
theorem zvw {b : T} {l : List Deed} {o : Deed} (h : OKrun b l) (ho : doE (draft b l) o (z3e l) = 0) : OKrun b (l ++ [o]) := by
 intro i hi
 by_cases hl : i < l.length
 ·rw [List.take_append_of_le_length (by omega), List.getElem_append_left hl]
  exact h i hl
 ·have : i = l.length := by simp at hi; omega
  subst this
  simpa using ho
theorem zvx {b : T} {l : List Deed} (h : OKrun b l) (k : Nat) : OKrun b (l.take k) := by
 intro i hi
 have hi' : i < k /\ i < l.length := by simp at hi; omega
 have := h i hi'.2
 rw [List.take_take, show min i k = i by omega, List.getElem_take]
 exact this
theorem zvy {b : T} {l m : List Deed} (h : OKrun b (l ++ m)) : OKrun b l := by
 have := zvx h l.length
 rwa [List.take_left'] at this
 rfl
theorem z9c {b : T} (hb : standsT b = true) : ∀ {l : List Deed}, OKrun b l -> standsT (draft b l) = true := by
 refine fun {l} => zhu (p := fun l => OKrun b l -> standsT (draft b l) = true) (fun _ => hb) (fun l o ih h => ?_) l
 rw [za4]
 have := h l.length (by simp)
 simp only [List.take_left', List.getElem_append_right (Nat.le_refl _), Nat.sub_self, List.getElem_cons_zero] at this
 exact z56 this
def trees (b : T) (l : List Deed) : List T := (List.range (l.length + 1)).map fun k => draft b (l.take k)
theorem z9d (b : T) (l : List Deed) : (trees b l).length = l.length + 1 := by simp [trees]
theorem zvz (b : T) (l m : List Deed) (h : l.length < (trees b (l ++ m)).length) : (trees b (l ++ m))[l.length] = draft b l := by
 simp [trees]
theorem zw0 (b : T) : trees b [] = [b] := by simp [trees, draft]
theorem zhg (b : T) (l : List Deed) (o : Deed) : trees b (l ++ [o]) = trees b l ++ [draft b (l ++ [o])] := by
 unfold trees
 rw [List.length_append, List.length_singleton, List.range_succ, List.map_append]
 congr 1
 ·refine List.map_congr_left fun k hk => ?_
  rw [List.mem_range] at hk
  rw [List.take_append_of_le_length (by omega)]
 ·simp only [List.map_cons, List.map_nil]
  rw [List.take_of_length_le (by simp)]
theorem zrg (b : T) (l m : List Deed) : (trees b (l ++ m)).take (l.length + 1) = trees b l := by
 refine List.ext_getElem (by simp [trees]) fun i h1 h2 => ?_
 have hi : i < l.length + 1 := by rw [z9d] at h2; exact h2
 simp only [trees, List.getElem_take, List.getElem_map, List.getElem_range]
 rw [List.take_append_of_le_length (by omega)]
structure Ses where
 base : T
 dn : List Deed
 un : List Deed
structure SesOK (s : Ses) : Prop where
 st : standsT s.base = true
 ok : OKrun s.base (s.dn ++ s.un)
theorem SesOK.draft {s : Ses} (h : SesOK s) : standsT (draft s.base s.dn) = true := z9c h.st (zvy h.ok)
def Ses.draft (s : Ses) : T := Tr.draft s.base s.dn
def z1l (s : Ses) (o : Deed) : Int × Ses :=
 if doE s.draft o (z3e s.dn) = 0 then (0, ⟨s.base, s.dn ++ [o], []⟩) else (doE s.draft o (z3e s.dn), s)
def za8 (s : Ses) : Bool × Ses :=
 match s.dn.getLast? with
 | none => (false, s)
 | some o => (true, ⟨s.base, s.dn.dropLast, o :: s.un⟩)
def za9 (s : Ses) : Bool × Ses :=
 match s.un with
 | [] => (false, s)
 | o :: l => (true, ⟨s.base, s.dn ++ [o], l⟩)
theorem zzm {s : Ses} (h : SesOK s) (o : Deed) : SesOK (z1l s o).2 := by
 unfold z1l
 split
 ·rename_i he
  refine ⟨h.st, ?_⟩
  show OKrun s.base ((s.dn ++ [o]) ++ [])
  rw [List.append_nil]
  exact zvw (zvy h.ok) he
 ·exact h
theorem undo_ok {s : Ses} (h : SesOK s) : SesOK (za8 s).2 := by
 unfold za8
 split
 ·exact h
 ·rename_i o he
  refine ⟨h.st, ?_⟩
  show OKrun s.base (s.dn.dropLast ++ o :: s.un)
  have : s.dn.dropLast ++ o :: s.un = s.dn ++ s.un := by
   obtain ⟨l, hl⟩ := List.getLast?_eq_some_iff.1 he
   rw [hl, List.dropLast_concat, List.append_assoc]; rfl
  rw [this]; exact h.ok
theorem redo_ok {s : Ses} (h : SesOK s) : SesOK (za9 s).2 := by
 unfold za9
 split
 ·exact h
 ·rename_i o l he
  refine ⟨h.st, ?_⟩
  show OKrun s.base ((s.dn ++ [o]) ++ l)
  have h2 := h.ok
  rw [he] at h2
  rwa [List.append_assoc]
def zw1 (i : Idv) : Bool := decide (i.act = 0) && (decide (i.item = 0) && decide (1 <= i.n))
end Tr
def z1r (o : Deed) : List D := .int .i64 o.kind :: .int .i64 o.at_ :: (z0d o.id ++ (z0d o.parent ++ (z1k o.words :: .str o.label :: z0b o.unit)))
def z5m (o : Deed) : D := .agg (z1r o)
def z3f (l : List Deed) : D := .rsl false 18 (l.map z5m)
theorem z7a (o : Deed) : z1r o = [.int .i64 o.kind, .int .i64 o.at_, .int .i64 o.id.act, .int .i64 o.id.item, .int .i64 o.id.n, .int .i64 o.parent.act, .int .i64 o.parent.item, .int .i64 o.parent.n, z1k o.words, .str o.label,
  .int .i64 o.unit.id.act, .int .i64 o.unit.id.item, .int .i64 o.unit.id.n, .int .i64 o.unit.kind, .str o.unit.label, z0q o.unit.head, z0q o.unit.words, z18 o.unit.kids] := by
 unfold z1r; rw [z0s]; rfl
@[go_sem] theorem z4d (o : Deed) : (z1r o).length = 18 := by rw [z7a]; rfl
@[go_sem] theorem cellsO_kind (o : Deed) : (z1r o)[0]? = some (.int .i64 o.kind) := rfl
@[go_sem] theorem cellsO_at (o : Deed) : (z1r o)[1]? = some (.int .i64 o.at_) := rfl
@[go_sem] theorem cellsO_id (o : Deed) : List.take 3 (List.drop 2 (z1r o)) = z0d o.id := rfl
@[go_sem] theorem zxm (o : Deed) : List.take 3 (List.drop 5 (z1r o)) = z0d o.parent := rfl
@[go_sem] theorem z008 (o : Deed) : (z1r o)[8]? = some (z1k o.words) := rfl
@[go_sem] theorem z009 (o : Deed) : (z1r o)[9]? = some (.str o.label) := rfl
@[go_sem] theorem cellsO_unit (o : Deed) : List.take 8 (List.drop 10 (z1r o)) = z0b o.unit := by
 show List.take 8 (z0b o.unit) = _
 rw [z0s]; rfl
@[go_sem] theorem zln (o : Deed) : List.take 18 (z1r o) = z1r o := List.take_of_length_le (by rw [z4d]; decide)
theorem zlo (o : Deed) : (z1r o).set 8 (z1k o.words) = z1r o := rfl
theorem zlp (o : Deed) : z1e (z1r o) 10 (z0b o.unit) = z1r o := by
 rw [z7a, z0s]; rfl
@[go_sem] theorem cellsO_over (a0 a1 a2 a3 a4 a5 a6 a7 a8 a9 a10 a11 a12 a13 a14 a15 a16 a17 : D) (o : Deed) : z1e [a0, a1, a2, a3, a4, a5, a6, a7, a8, a9, a10, a11, a12, a13, a14, a15, a16, a17] 0 (z1r o) = z1r o := zde _ _ (by rw [z4d]; rfl)
theorem z7t (o : Deed) : pureD.pureL (z1r o) = true := by
 rw [z7a]
 simp only [pureD.pureL, z2s, z0k, z48, pureD, Bool.and_self]
theorem z3q (o : Deed) : pureD (z5m o) = true := z7t o
theorem zcd (l : List Deed) : pureD (z3f l) = true := z0n (f := z5m) z3q l
attribute [go_sem] z7t z3q zcd
theorem z37 : ∀ l : List Deed, z1j 18 (l.map z5m) = some (l.flatMap z1r)
 | [] => rfl
 | o :: l => by
  rw [List.map_cons, List.flatMap_cons]
  unfold z1j
  rw [z37 l]
  show (if (z1r o).length = 18 then _ else _) = _
  rw [z4d]; rfl
theorem zgq (l : List Deed) : pureD.pureL (l.flatMap z1r) = true := z29 z7t l
theorem zdf (l : List Deed) : z23 true 18 l.length (l.flatMap z1r) = l.map z5m := z7d (f := z1r) (sz := 18) z4d l
def z1a (s : Ses) : List D := [.rsl true 8 ((trees s.base (s.dn ++ s.un)).map z0h), z3f (s.dn ++ s.un), .int .i64 s.dn.length]
theorem z7u (s : Ses) : pureD.pureL (z1a s) = true := by
 simp only [z1a, pureD.pureL, zcd, pureD, z0n (f := z0h) z01, Bool.and_self]
def edO (s : Ses) : HObj := .box 74 (z1a s)
def zes (s : Ses) : List D := z0b s.base ++ [z3f s.dn, z3f s.un.reverse]
theorem zet (s : Ses) : zes s = [.int .i64 s.base.id.act, .int .i64 s.base.id.item, .int .i64 s.base.id.n, .int .i64 s.base.kind, .str s.base.label, z0q s.base.head, z0q s.base.words, z18 s.base.kids, z3f s.dn, z3f s.un.reverse] := by
 unfold zes; rw [z0s]; rfl
@[go_sem] theorem zxn (s : Ses) : (zes s).length = 10 := by rw [zet]; rfl
@[go_sem] theorem cellsS_base (s : Ses) : List.take 8 (zes s) = z0b s.base := by
 unfold zes
 rw [List.take_append_of_le_length (by rw [z0f]; decide), List.take_of_length_le (by rw [z0f]; decide)]
@[go_sem] theorem cellsS_dn (s : Ses) : (zes s)[8]? = some (z3f s.dn) := by rw [zet]; rfl
@[go_sem] theorem cellsS_un (s : Ses) : (zes s)[9]? = some (z3f s.un.reverse) := by rw [zet]; rfl
end
section
open Abs Facts Tr
attribute [local irreducible] awp
set_option maxRecDepth 100000
theorem z4c : ∀ t : T, szB t = true -> PC Tryz.prog 40 [z0h t] (z0h t) := by
 refine z5p fun t ih hs => ?_
 obtain ⟨h0, h1, g1, h2, g2, h3, h4⟩ := (z2w t).1 hs
 have c1 := z7k t.head h1
 have c2 := z7k t.words h2
 have c3 := z7l t.kids h3
 refine z1c 4 (by simp only [pureD.pureL, z01, Bool.and_self]) (z01 _) (z17 [3000006, 4000007, 3000009, 4000010, 3000026, 3000028, 5000029] Tryz.func40 rfl (by decide +kernel) z0e (by decide +kernel) (by simp [Tryz.ntmps40]) ?_)
 show awp _ _ (Code.seq _ _) _ _
 rw [show Tryz.f40.results.toList = [.cell 2 27] from rfl]
 rw [z0h, z0s]
 repeat' (first | refine zqj ?_ | ((first | refine zqh fun K J => ?_ | refine zqe (by decide +kernel) fun K J => ?_ | refine z50 (c1) rfl rfl rfl ?_ | refine z50 (c2) rfl rfl rfl ?_ | refine z5s (c3) ?_); (simp (disch := omega) only [go_sem, Nat.reduceBEq, Nat.reduceEqDiff, ↓reduceIte, reduceCtorEq, Nat.reduceAdd, Nat.reduceLeDiff, Nat.reduceLT, zko, zgi, List.set_cons_succ, List.set_cons_zero])) | refine zqa ?_ | (refine J _ ?_; clear J K))
 (refine z4t (fun U st => ∃ (i : _), U = t.kids.length - i /\ st.t 1 = .ptr 0 0 /\ st.t 2 = .ptr 1 0 /\ st.t 18 = .osl 4 t.kids.length /\ st.t 19 = .int .i64 t.kids.length /\ st.t 20 = .int .i64 i /\ st.H 0 = some (.box 27 (z6v t 2 3 4)) /\ st.H 1 = some (.box 27 z95) /\ st.H 2 = some (.row 50 t.head.length (t.head.flatMap z0z)) /\ st.H 3 = some (.row 50 t.words.length (t.words.flatMap z0z)) /\ st.H 4 = some (.row 27 t.kids.length (t.kids.flatMap z0b)) /\ (i <= t.kids.length) /\ (5 <= st.nx)) ?_ ?_); rotate_left; (rintro U st ⟨i, rfl, q1, q2, q18, q19, q20, qH0, qH1, qH2, qH3, qH4, qp0, qp1⟩); rotate_left
 ·(refine ⟨_, 0, rfl, ?_⟩); (simp (disch := omega) only [go_sem, Nat.reduceBEq, Nat.reduceLeDiff, and_self, Int.natCast_zero, z6v, z95])
 by_cases hi : i < t.kids.length
 ·have hin := ih t.kids[i] (List.getElem_mem hi) (h4 _ (List.getElem_mem hi))
  have hld := zkp t.kids hi
  have hst := zha t.kids hi
  have hln := zfi t.kids
  repeat' (first | ((first | refine zqh fun K J => ?_ | refine zqr fun K J => ?_ | refine zqq (by decide +kernel) fun K J => ?_ | refine zqt (hin) ?_); (simp (disch := omega) only [go_sem, Nat.reduceBEq, Nat.reduceEqDiff, ↓reduceIte, reduceCtorEq, Nat.reduceAdd, Nat.reduceLeDiff, q1, q18, q19, q20, qH0, qH4, hld, hst, hln, z6v])) | ((refine zqd _ rfl (fun hc => ?_) (fun hc => ?_)) <;> (((try simp only [z09] at hc); (try (exfalso; omega))))) | refine zqa ?_ | refine zqb ?_ | refine zqv ?_ | refine zqy ?_ | (refine J _ ?_; clear J K))
  (refine Exists.intro _ (And.intro ?_ ⟨i + 1, rfl, ?_⟩)); rotate_left; (simp (disch := omega) only [go_sem, Nat.reduceBEq, Nat.reduceLeDiff, q1, q2, q18, q19, q20, qH0, qH1, qH2, qH3, qH4, true_and, Int.natCast_add, Int.natCast_one]); rotate_left
  all_goals omega
 ·repeat' (first | ((refine zqh fun K J => ?_); (simp (disch := omega) only [go_sem, Nat.reduceBEq, ↓reduceIte, Nat.reduceAdd, Nat.reduceLeDiff, q1, q2, q19, q20, qH0, qH1, z6v, z95, List.set_cons_succ, List.set_cons_zero])) | ((refine zqd _ rfl (fun hc => ?_) (fun hc => ?_)) <;> (((try simp only [z09] at hc); (try (exfalso; omega))))) | refine zqc ?_ | refine zqn ?_ | refine zqv ?_ | refine zqz ?_ | refine zqp ?_ | refine zqu (by (simp (disch := omega) only [go_sem, Nat.reduceBEq, ↓reduceIte, Nat.reduceAdd, Nat.reduceLeDiff, q2, qH1, z95]); rfl) rfl ?_ | (refine J _ ?_; clear J K))
  refine z57 (z58 (k := 3) ?_ ?_)
  ·simp [pureD.pureL, pureD]
  refine z00 (z03 2 rfl) (z00 (z03 2 rfl) (z00 (z03 2 rfl) (z00 (z03 2 rfl) (z00 (z03 2 rfl) (z00 ?_ (z00 ?_ (z00 ?_ z08)))))))
  ·refine z1q (f := z0z) (l := t.head) 1 rfl ?_ z6m z8t (fun _ => rfl) (fun _ => rfl)
   (simp (disch := omega) only [go_sem, Nat.reduceBEq, qH2])
  ·refine z1q (f := z0z) (l := t.words) 1 rfl ?_ z6m z8t (fun _ => rfl) (fun _ => rfl)
   (simp (disch := omega) only [go_sem, Nat.reduceBEq, qH3])
  ·refine z1q (f := z0b) (l := t.kids) 1 rfl ?_ z0i z31 z0f z05
   (simp (disch := omega) only [go_sem, Nat.reduceBEq, qH4])
theorem zso (l : List ByteArray) (hl : l.length <= 1000000000000) : PC Tryz.prog 69 [z1k l] (z1k l) := by
  refine PC_nn (fun he => ?_) ?_
  · refine z1c 2 rfl (z2s l) (z17 [1000005, 1000007] Tryz.func69 rfl (by decide +kernel) z0e (by decide +kernel) (by simp [Tryz.ntmps69]) ?_)
    show awp _ _ (Code.seq _ _) _ _
    repeat' (first | refine zqj ?_ | ((refine zqh fun K J => ?_); (simp (disch := omega) only [go_sem, Nat.reduceBEq, ↓reduceIte])) | ((refine zqd _ rfl (fun hc => ?_) (fun hc => ?_)) <;> (first | (cases hc; done) | ((try simp only [] at hc); (try (exfalso; omega))))) | refine zqg ?_ | refine zqu (by (simp (disch := omega) only [go_sem]); rfl) rfl ?_ | (refine J _ ?_; clear J K))
    exact z0j rfl (by have h2 : z1k l = .rsl false 1 [] := by unfold z1k; rw [he]
                      rw [h2]; exact Le.nil 1)
  · refine z1c 2 (by simp only [pureD.pureL, pureD, z0n (f := D.str) (fun _ => rfl) l, Bool.and_self]) (z2s l) (z17 [1000005, 1000007] Tryz.func69 rfl (by decide +kernel) z0e (by decide +kernel) (by simp [Tryz.ntmps69]) ?_)
    show awp _ _ (Code.seq _ _) _ _
    repeat' (first | refine zqj ?_ | ((refine zqh fun K J => ?_); (simp (disch := omega) only [go_sem, Nat.reduceBEq, ↓reduceIte, reduceCtorEq, Nat.reduceAdd, Nat.reduceLT])) | ((refine zqd _ rfl (fun hc => ?_) (fun hc => ?_)) <;> (first | (cases hc; done) | ((try simp only [] at hc); (try (exfalso; omega))))) | refine zqb ?_ | refine zqn ?_ | refine zqu (by (simp (disch := omega) only [go_sem]); rfl) rfl ?_ | (refine J _ ?_; clear J K))
    all_goals first | exact z0j (z2s l) (Le.refl _)
theorem zcc (o : Deed) (hw : o.words.length <= 1000000) (hu : szB o.unit = true) : PC Tryz.prog 42 [z5m o] (z5m o) := by
 have c1 := zso o.words (by omega)
 have c2 := z4c o.unit hu
 refine z1c 2 (by simp only [pureD.pureL, z3q, Bool.and_self]) (z3q o) (z17 [3000004, 5000005, 3000007, 5000008] Tryz.func42 rfl (by decide +kernel) z0e (by decide +kernel) (by simp [Tryz.ntmps42]) ?_)
 show awp _ _ (Code.seq _ _) _ _
 rw [show Tryz.f42.results.toList = [.cell 2 32] from rfl]
 have hsw : (z1r o).set 8 (.rsl false 1 (o.words.map .str)) = z1r o := zlo o
 repeat' (first | ((first | refine zqh fun K J => ?_ | refine zqe (by decide +kernel) fun K J => ?_ | refine zqt (c1) ?_ | refine zqt (c2) ?_); (simp (disch := omega) only [go_sem, Nat.reduceBEq, Nat.reduceEqDiff, ↓reduceIte, reduceCtorEq, Nat.reduceAdd, Nat.reduceLeDiff, Nat.reduceLT, z5m, z0h, hsw, zlp])) | refine zqn ?_ | refine zqu (by (simp (disch := omega) only [go_sem, Nat.reduceBEq, ↓reduceIte, Nat.reduceLeDiff]); rfl) rfl ?_ | (refine J _ ?_; clear J K))
 all_goals first | exact z0j (z3q o) (Le.refl _)
theorem pc_own (i : Idv) : PC Tryz.prog 39 [z0p i] (.bool (zw1 i)) := by
 refine z1c 1 rfl rfl (z17 [] Tryz.func39 rfl (by decide +kernel) z0e (by decide +kernel) (by simp [Tryz.ntmps39]) ?_)
 show awp _ _ (Code.seq _ _) _ _
 repeat' (first | ((refine zqh fun K J => ?_); (simp (disch := omega) only [go_sem, Nat.reduceBEq, ↓reduceIte, reduceCtorEq, Nat.reduceAdd])) | refine zqn ?_ | refine zqu (by (simp (disch := omega) only [go_sem]); rfl) rfl ?_ | (refine J _ ?_; clear J K) | (refine zqf (fun hb => ?_) (fun hb => ?_) <;> (have hb2 := hb; try simp only [z09] at hb2) <;> ((first | have F := eq_false hb2 | have F := eq_true hb2); (simp (disch := omega) only [go_sem, Nat.reduceBEq, ↓reduceIte, reduceCtorEq, Nat.reduceAdd, F]); clear hb F; (try (exfalso; omega)))))
 all_goals (refine z02 ?_; unfold zw1; simp_all)
end
end Go.Proofs.YtlfohdkfpdkhhaaGreatDoor
namespace Go.Proofs.YtlfohdkfpdkhhaaGreatDoor.Lcs
variable {α : Type} [DecidableEq α]
theorem zij : ∀ (n : Nat) (a b : List α), a.length + b.length <= n -> ∃ s : List α, s.Sublist a /\ s.Sublist b /\ s.length = len a b
 | _, [], b, _ => ⟨[], List.Sublist.refl _, List.nil_sublist _, rfl⟩
 | _, x :: xs, [], _ => ⟨[], List.nil_sublist _, List.Sublist.refl _, by rw [zw2]; rfl⟩
 | 0, x :: xs, y :: ys, h => by simp at h
 | n + 1, x :: xs, y :: ys, h => by
  simp only [List.length_cons] at h
  obtain ⟨s1, h1, h2, h3⟩ := zij n xs (y :: ys) (by simp only [List.length_cons]; omega)
  obtain ⟨s2, g1, g2, g3⟩ := zij n (x :: xs) ys (by simp only [List.length_cons]; omega)
  obtain ⟨s3, k1, k2, k3⟩ := zij n xs ys (by omega)
  rw [zei]
  split
  ·rename_i he
   subst he
   by_cases c1 : len xs ys + 1 <= max (len xs (x :: ys)) (len (x :: xs) ys)
   ·by_cases c2 : len (x :: xs) ys <= len xs (x :: ys)
    ·exact ⟨s1, h1.cons _, h2, by omega⟩
    ·exact ⟨s2, g1, g2.cons _, by omega⟩
   ·exact ⟨x :: s3, k1.cons_cons _, k2.cons_cons _, by simp only [List.length_cons]; omega⟩
  ·by_cases c2 : len (x :: xs) ys <= len xs (y :: ys)
   ·exact ⟨s1, h1.cons _, h2, by omega⟩
   ·exact ⟨s2, g1, g2.cons _, by omega⟩
theorem zik : ∀ (n : Nat) (a b s : List α), a.length + b.length <= n -> s.Sublist a -> s.Sublist b -> s.length <= len a b
 | _, [], b, s, _, h1, _ => by have := List.Sublist.length_le h1; simp at this; simp [this]
 | _, x :: xs, [], s, _, _, h2 => by have := List.Sublist.length_le h2; simp at this; simp [this]
 | 0, x :: xs, y :: ys, s, h, _, _ => by simp at h
 | n + 1, x :: xs, y :: ys, s, h, h1, h2 => by
  simp only [List.length_cons] at h
  have hc := zei x y xs ys
  cases h1 with
  | cons _ h1 =>
   have := zik n xs (y :: ys) s (by simp only [List.length_cons]; omega) h1 h2
   rw [hc]; split <;> omega
  | cons_cons _ h1 =>
   rename_i s'
   cases h2 with
   | cons _ h2 =>
    have := zik n (x :: xs) ys (x :: s') (by simp only [List.length_cons]; omega) (h1.cons_cons x) h2
    rw [hc]; split <;> omega
   | cons_cons _ h2 =>
    have := zik n xs ys s' (by omega) h1 h2
    rw [hc, if_pos rfl]
    simp only [List.length_cons]; omega
theorem zv8 (a b s : List α) (h1 : s.Sublist a) (h2 : s.Sublist b) : s.length <= len a b := zik _ a b s (Nat.le_refl _) h1 h2
theorem len_ex (a b : List α) : ∃ s : List α, s.Sublist a /\ s.Sublist b /\ s.length = len a b := zij _ a b (Nat.le_refl _)
theorem zzb (a b : List α) : len a b = len b a := by
 obtain ⟨s, h1, h2, h3⟩ := len_ex a b
 obtain ⟨t, k1, k2, k3⟩ := len_ex b a
 have := zv8 b a s h2 h1
 have := zv8 a b t k2 k1
 omega
theorem len_self (a : List α) : len a a = a.length := by
 have := zv8 a a a (List.Sublist.refl _) (List.Sublist.refl _)
 have := zfr a a
 omega
theorem len_le2 (a b : List α) : len a b <= b.length := by rw [zzb]; exact zfr b a
theorem zbq (a b : List α) : ∀ n i k, (pairsF a b n i k).length = n
 | 0, _, _ => rfl
 | n + 1, i, k => by simp [pairsF, zbq a b n]
theorem zks (a b : List α) (ha : a.length <= 256) (hb : b.length <= 256) : (pairs a b).length = len a b := by
 unfold pairs
 rw [if_neg (by omega)]
 unfold pairsFrom
 rw [zbq]
 simp [at_]
theorem zr8 (a b : List α) (h : 256 < a.length \/ 256 < b.length) : pairs a b = [] := by unfold pairs; rw [if_pos h]
theorem pairs_le (a b : List α) : (pairs a b).length <= 256 /\ (pairs a b).length <= a.length /\ (pairs a b).length <= b.length := by
 by_cases h : 256 < a.length \/ 256 < b.length
 ·rw [zr8 a b h]; simp
 ·rw [zks a b (by omega) (by omega)]
  have := zfr a b; have := len_le2 a b
  omega
end Go.Proofs.YtlfohdkfpdkhhaaGreatDoor.Lcs
namespace Go.Proofs.YtlfohdkfpdkhhaaGreatDoor
section
open Abs Facts Tr
attribute [local irreducible] awp
set_option maxRecDepth 100000
namespace Tr
def zd5 (was : List Wd) (l : List ByteArray) (k : Nat) : List Wd := ((Lcs.pairs (was.map (·.text)) l).take k).foldl (zsx was) (l.map fun s => ⟨s, Idv.zero⟩)
theorem zl2 (was : List Wd) (l : List ByteArray) (k : Nat) : (zd5 was l k).map (·.text) = l :=
 zeu _ _ (fun p hp => zhz _ _ p (List.mem_of_mem_take hp)) (by rw [List.map_map]; exact List.map_id'' (fun _ => rfl) l)
theorem zix (was : List Wd) (l : List ByteArray) (k : Nat) : (zd5 was l k).length = l.length := by
 have := congrArg List.length (zl2 was l k)
 rwa [List.length_map] at this
theorem zzo (was : List Wd) (l : List ByteArray) : zd5 was l (Lcs.pairs (was.map (·.text)) l).length = z6n was l := by
 unfold zd5 z6n; rw [List.take_length]
theorem zw4 (was : List Wd) (l : List ByteArray) {k : Nat} (hk : k < (Lcs.pairs (was.map (·.text)) l).length) :
  ∃ (h1 : (Lcs.pairs (was.map (·.text)) l)[k].1 < was.length) (h2 : (Lcs.pairs (was.map (·.text)) l)[k].2 < (zd5 was l k).length),
   (zd5 was l k)[(Lcs.pairs (was.map (·.text)) l)[k].2].text = was[(Lcs.pairs (was.map (·.text)) l)[k].1].text /\
   zd5 was l (k + 1) = (zd5 was l k).set (Lcs.pairs (was.map (·.text)) l)[k].2 was[(Lcs.pairs (was.map (·.text)) l)[k].1] := by
 obtain ⟨h1, h2, h3⟩ := zhz (was.map (·.text)) l _ (List.getElem_mem hk)
 have h1' : (Lcs.pairs (was.map (·.text)) l)[k].1 < was.length := by simpa using h1
 refine ⟨h1', by rw [zix]; exact h2, ?_, ?_⟩
 ·rw [List.getElem_map] at h3
  rw [h3]
  have : ∀ (q : List ByteArray) (e : (zd5 was l k).map (·.text) = q) (i : Nat) (hi : i < (zd5 was l k).length) (hq : i < q.length), (zd5 was l k)[i].text = q[i] := by
   intro q e i hi hq; subst e; rw [List.getElem_map]
  exact this l (zl2 was l k) _ _ h2
 ·unfold zd5
  rw [List.take_succ_eq_append_getElem hk, List.foldl_append, List.foldl_cons, List.foldl_nil]
  show zsx was (zd5 was l k) _ = (zd5 was l k).set _ _
  generalize zd5 was l k = out
  unfold zsx
  rw [List.getElem?_eq_getElem h1']
end Tr
theorem zoq (was : List Wd) (hwl : was.length <= 1000000) (l : List ByteArray) (hl : l.length <= 1000000) : PC Tryz.prog 83 [z0q was, z1k l] (z0q (z6n was l)) := by
 refine z1c 3 (by simp only [pureD.pureL, z0k, z2s, Bool.and_self]) (z0k _) (z17 [5, 8] Tryz.func83 rfl (by decide +kernel) z0e (by decide +kernel) (by simp [Tryz.ntmps83]) ?_)
 show awp _ _ (Code.seq _ _) _ _
 repeat' (first | refine zqj ?_ | ((refine zqh fun K J => ?_); (simp (disch := omega) only [go_sem, Nat.reduceBEq, ↓reduceIte, z1k, z0q])) | refine zqa ?_ | (refine J _ ?_; clear J K))
 (refine z4t (fun U st => ∃ (i : _), U = was.length - i /\ st.t 0 = z0q was /\ st.t 1 = z1k l /\ st.t 5 = .osl 0 i /\ st.t 13 = z0q was /\ st.t 14 = .int .i64 was.length /\ st.t 15 = .int .i64 i /\ st.H 0 = some (.row 9 i ((was.take i).map fun w => D.str w.text)) /\ (i <= was.length) /\ (1 <= st.nx)) ?_ ?_); rotate_left; (rintro U st ⟨i, rfl, a0, a1, a5, a13, a14, a15, aH0, ap0, ap1⟩); rotate_left
 ·(refine ⟨_, 0, rfl, ?_⟩); (simp (disch := omega) only [go_sem, Nat.reduceBEq, Nat.reduceLeDiff, and_self, Int.natCast_zero, List.map_nil, z1k, z0q])
  all_goals first | omega
 by_cases hi : i < was.length
 ·repeat' (first | ((first | refine zqh fun K J => ?_ | refine zqr fun K J => ?_); (simp (disch := omega) only [go_sem, Nat.reduceBEq, ↓reduceIte, reduceCtorEq, Nat.reduceAdd, Nat.reduceLeDiff, Nat.reduceLT, a5, a13, a14, a15, aH0, z0q, z4b, z0z])) | ((refine zqd _ rfl (fun hc => ?_) (fun hc => ?_)) <;> (((try simp only [z09] at hc); (try (exfalso; omega))))) | refine zqa ?_ | refine zqb ?_ | refine zqv ?_ | refine zqy ?_ | (refine J _ ?_; clear J K))
  (refine Exists.intro _ (And.intro ?_ ⟨i + 1, rfl, ?_⟩)); rotate_left; (simp (disch := omega) only [go_sem, Nat.reduceBEq, Nat.reduceLeDiff, a0, a1, a5, a13, a14, a15, aH0, true_and, and_true, Int.natCast_add, Int.natCast_one, List.map_append, List.map_cons, List.map_nil, List.take_succ_eq_append_getElem hi]); rotate_left
  all_goals first | omega
 have hie : i = was.length := by omega
 subst hie
 rw [List.take_length] at aH0
 repeat' (first | ((refine zqh fun K J => ?_); (simp (disch := omega) only [go_sem, ↓reduceIte, a14, a15])) | ((refine zqd _ rfl (fun hc => ?_) (fun hc => ?_)) <;> (((try simp only [z09] at hc); (try (exfalso; omega))))) | refine zqc ?_ | refine zqp ?_ | (refine J _ ?_; clear J K))
 have u0 : pureD.pureL (was.map fun w => D.str w.text) = true := z0n (fun _ => rfl) _
 refine zqz (zji _ (ztb (P := Tryz.prog) (id := 0) (by exact aH0) (by decide +kernel) u0) ?_)
 have v0 : z23 false 1 was.length (was.map fun w => D.str w.text) = (was.map (·.text)).map D.str := by
  rw [zaj (by simp), List.map_map]; rfl
 repeat' (first | refine zqj ?_ | ((refine zqh fun K J => ?_); (simp (disch := omega) only [go_sem, Nat.reduceBEq, ↓reduceIte, a1, z1k, v0])) | refine zqa ?_ | (refine J _ ?_; clear J K))
 (refine z4t (fun U st => ∃ (j : _) (r : _), U = l.length - j /\ st.t 0 = z0q was /\ st.t 1 = z1k l /\ st.t 5 = z1k (was.map (·.text)) /\ st.t 8 = .osl r j /\ st.t 25 = z1k l /\ st.t 26 = .int .i64 l.length /\ st.t 27 = .int .i64 j /\ st.H (r) = some (.row 50 j ((l.take j).flatMap fun s => z0z ⟨s, Idv.zero⟩)) /\ (j <= l.length) /\ (r < st.nx)) ?_ ?_); rotate_left; (rintro U st ⟨j, r, rfl, b0, b1, b5, b8, b25, b26, b27, bHr, bp0, bp1⟩); rotate_left
 ·(refine ⟨_, 0, st.nx, rfl, ?_⟩); (simp (disch := omega) only [go_sem, Nat.reduceBEq, a0, a1, a5, true_and, Int.natCast_zero, List.flatMap_nil, z1k, z0q, v0])
  all_goals first | omega
 by_cases hj : j < l.length
 ·repeat' (first | ((first | refine zqh fun K J => ?_ | refine zqr fun K J => ?_); (simp (disch := omega) only [go_sem, Nat.reduceBEq, ↓reduceIte, reduceCtorEq, Nat.reduceAdd, Nat.reduceMul, Nat.reduceLeDiff, b8, b25, b26, b27, bHr, z1k])) | ((refine zqd _ rfl (fun hc => ?_) (fun hc => ?_)) <;> (((try simp only [z09] at hc); (try (exfalso; omega))))) | refine zqa ?_ | refine zqb ?_ | refine zqv ?_ | refine zqy ?_ | (refine J _ ?_; clear J K))
  (refine Exists.intro _ (And.intro ?_ ⟨j + 1, r, rfl, ?_⟩)); rotate_left; (simp (disch := omega) only [go_sem, Nat.reduceBEq, b0, b1, b5, b8, b25, b26, b27, bHr, true_and, Int.natCast_add, Int.natCast_one, List.flatMap_append, List.flatMap_cons, List.flatMap_nil, List.append_nil, List.take_succ_eq_append_getElem hj, z0z, Idv.zero]); rotate_left
  all_goals first | omega | exact ⟨by omega, by omega⟩
 have hje : j = l.length := by omega
 subst hje
 have hout : ((l.take l.length).flatMap fun s => z0z ⟨s, Idv.zero⟩) = (zd5 was l 0).flatMap z0z := by
  rw [List.take_length]
  unfold zd5
  rw [List.take_zero, List.foldl_nil, List.flatMap_map]
 rw [hout] at bHr
 have hps := Lcs.pairs_le (was.map (·.text)) l
 have c1 := pc15 (was.map (·.text)) l (by rw [List.length_map]; unfold maxLen; omega) (by unfold maxLen; omega)
 obtain ⟨ps, hpsd⟩ : ∃ ps, ps = Lcs.pairs (was.map (·.text)) l := ⟨_, rfl⟩
 rw [<- hpsd] at c1 hps
 rw [z1k, List.map_map] at c1
 repeat' (first | refine zqj ?_ | ((first | refine zqh fun K J => ?_ | refine zqs (c1) ?_); (simp (disch := omega) only [go_sem, Nat.reduceBEq, ↓reduceIte, Nat.reduceAdd, b1, b5, b26, b27])) | ((refine zqd _ rfl (fun hc => ?_) (fun hc => ?_)) <;> (((try simp only [z09] at hc); (try (exfalso; omega))))) | refine zqa ?_ | refine zqc ?_ | refine zqv ?_ | refine zqz ?_ | refine zqp ?_ | (refine J _ ?_; clear J K))
 (refine z4t (fun U st => ∃ (k : _), U = ps.length - k /\ st.t 0 = z0q was /\ st.t 1 = z1k l /\ st.t 8 = .osl r l.length /\ st.t 39 = encP ps /\ st.t 40 = .int .i64 ps.length /\ st.t 41 = .int .i64 k /\ st.H (r) = some (.row 50 l.length ((zd5 was l k).flatMap z0z)) /\ (k <= ps.length) /\ (r < st.nx)) ?_ ?_); rotate_left; (rintro U st ⟨k, rfl, c0, c1, c8, c39, c40, c41, cHr, cp0, cp1⟩); rotate_left
 ·(refine ⟨_, 0, rfl, ?_⟩); (simp (disch := omega) only [go_sem, Nat.reduceBEq, b0, b1, b8, bHr, true_and, Int.natCast_zero, encP])
  all_goals first | omega
 by_cases hk : k < ps.length
 ·obtain ⟨h1, h2, h3, h4⟩ : ∃ (h1 : ps[k].1 < was.length) (h2 : ps[k].2 < (zd5 was l k).length), (zd5 was l k)[ps[k].2].text = was[ps[k].1].text /\ zd5 was l (k + 1) = (zd5 was l k).set ps[k].2 was[ps[k].1] := by
   subst hpsd; exact zw4 was l hk
  have hlen : ((zd5 was l k).flatMap z0z).length = l.length * 4 := by rw [z55 (f := z0z) (sz := 4) (fun _ => rfl), zix]
  have hol := zix was l k
  have hsp : z1e ((zd5 was l k).flatMap z0z) (ps[k].2 * 4 + 1) [.int .i64 was[ps[k].1].by_.act, .int .i64 was[ps[k].1].by_.item, .int .i64 was[ps[k].1].by_.n] = (zd5 was l (k + 1)).flatMap z0z := by
   rw [h4]
   refine zaw (f := z0z) (sz := 4) (fun _ => rfl) h2 (by simp) ?_
   simp only [z0z, z1e, List.set_cons_succ, List.set_cons_zero, h3]
  have hsp2 : (((((zd5 was l k).flatMap z0z).set (ps[k].2 * 4 + 1) (.int .i64 was[ps[k].1].by_.act)).set (ps[k].2 * 4 + 1 + 1) (.int .i64 was[ps[k].1].by_.item)).set (ps[k].2 * 4 + 1 + 1 + 1) (.int .i64 was[ps[k].1].by_.n)) = (zd5 was l (k + 1)).flatMap z0z := hsp
  clear hsp
  repeat' (first | ((first | refine zqh fun K J => ?_ | refine zqr fun K J => ?_ | refine zqq (by decide +kernel) fun K J => ?_); (simp (disch := omega) only [go_sem, Nat.reduceBEq, Nat.reduceEqDiff, ↓reduceIte, reduceCtorEq, Nat.reduceAdd, Nat.reduceLeDiff, c0, c8, c39, c40, c41, cHr, encP, zlm, z0q, z4b, z0z, hlen])) | ((refine zqd _ rfl (fun hc => ?_) (fun hc => ?_)) <;> (((try simp only [z09] at hc); (try (exfalso; omega))))) | refine zqa ?_ | refine zqb ?_ | refine zqv ?_ | refine zqy ?_ | (refine J _ ?_; clear J K))
  (refine Exists.intro _ (And.intro ?_ ⟨k + 1, rfl, ?_⟩)); rotate_left; (simp (disch := omega) only [go_sem, Nat.reduceBEq, c0, c1, c8, c39, c40, c41, cHr, true_and, and_true, Int.natCast_add, Int.natCast_one, encP, hsp2]); rotate_left
  all_goals first | omega | exact ⟨by omega, by omega⟩
 ·have hke : k = ps.length := by omega
  subst hke
  rw [hpsd, zzo] at cHr
  repeat' (first | ((refine zqh fun K J => ?_); (simp (disch := omega) only [go_sem, Nat.reduceBEq, ↓reduceIte, c8, c40, c41])) | ((refine zqd _ rfl (fun hc => ?_) (fun hc => ?_)) <;> (((try simp only [z09] at hc); (try (exfalso; omega))))) | refine zqc ?_ | refine zqn ?_ | refine zqv ?_ | refine zqz ?_ | refine zqp ?_ | refine zqu (by (simp (disch := omega) only [go_sem]); rfl) rfl ?_ | (refine J _ ?_; clear J K))
  refine z57 ?_
  have hln := z8u was l
  rw [<- hln] at cHr ⊢
  exact z2v 1 cHr z6m z8t (fun _ => rfl) (fun _ => rfl)
end
end Go.Proofs.YtlfohdkfpdkhhaaGreatDoor
