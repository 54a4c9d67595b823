import Derived.Test.YtmnabhhdiinfaaaGreatDoorWD
/-
 Lemmas of the claim. No condition but those that each names.
-/
set_option linter.unusedSimpArgs false
set_option linter.unusedVariables false
set_option maxRecDepth 100000
set_option maxHeartbeats 8000000
set_option linter.unusedSectionVars false
namespace Go.Proofs.YtmnabhhdiinfaaaGreatDoor
section
open Abs Facts Tr
attribute [local irreducible] awp
namespace Abs
theorem zdt {P : Program} {own : List Nat} {n : FuncId} {args cap : List D} {g : List Oper -> (St -> Prop) -> St -> Prop} {rest : List Oper} {K : St -> Prop} {st : St} {dst : Option Nat} {r : D} {H : HM} {nx : Nat}
  (h : AC P n (args ++ cap) st.H st.nx fun r' H' nx' => r' = r /\ H' = H /\ nx' = nx) (h0 : z0h 5000000 own dst = false) (hm : z0h 4000000 own dst = true) (hs : z8c st H nx) (hk : g rest K ((st.withH H nx).put dst r)) (ht : tcM own dst = none := by rfl) (hN : z0h 10000000 own dst = false := by rfl) : zln P own (.fn n cap) args g rest K st dst :=
 .inr (.inr ⟨h0, hm, r, H, nx, h, .inl ⟨ht, .inl ⟨hN, hs⟩⟩, hk⟩)
theorem znr {P : Program} {st : St} {b j : Nat} {e : TypeId} {cs : List D} {d : D} (hb : st.H b = some (.box e cs)) (hd : cs = [d] \/ d = .agg cs) (hp : pureD d = true) (hj : st.t j = .ptr b 0) :
  SealTo P st ((st.withH (z0d st.H b none) st.nx).put (some j) (.rptr d)) := by
 intro N s a w hf
 have hHb : s.H b = some (.box e cs) := by rw [hf.H]; exact hb
 obtain ⟨k, vs, hk, _, hr, h1, hc⟩ := zbk hf.heap hHb
 obtain ⟨g1, g2⟩ := zfk hf.heap (id := b) (by rw [hHb]; simp)
 refine ⟨s.shut1 w b, ⟨?_, hf.nx, hf.size, hf.defers, fun i => ?_, g2⟩, g1⟩
 ·show z0d s.H b none = _
  rw [hf.H]; rfl
 ·by_cases hij : i = j
  ·subst hij
   have ht := hf.tmps i
   rw [hj] at ht
   simp only [rel] at ht
   obtain ⟨_, _, h3⟩ := ht
   obtain ⟨k', hk', hv⟩ := h3 _ _ hHb
   rw [hk] at hk'
   simp only [Value.pointer.injEq, Option.some.injEq, Addr.mk.injEq, and_true] at hk'
   subst hk'
   show rel _ (zyn st.t i (.rptr d) i) _
   rw [show zyn st.t i (.rptr d) i = .rptr d from if_pos rfl]
   simp only [rel]
   have hm : ∀ (q : Nat) c, vs[q]? = some c -> (s.shut1 w b).m ⟨k, q, none⟩ = some c := fun q c hq => by
    unfold RS.shut1
    simp only
    rw [if_pos (by rw [hk]; rfl)]
    exact hc q c hq
   rcases hd with hd | hd
   ·subst hd
    simp only [relAll] at hr
    obtain ⟨v, r, rfl, hrv, rfl⟩ := hr
    refine ⟨_, v, hv, rel.later g1.later _ _ hrv, fun q c hq => ?_⟩
    rw [z21 (h1 v (by simp))] at hq
    rw [z12, Nat.zero_add]
    exact hm q c (by simpa using hq)
   ·subst hd
    refine ⟨_, .agg vs.toArray, hv, ?_, fun q c hq => ?_⟩
    ·simp only [rel]
     exact ⟨vs, rfl, relAll.later g1.later _ _ hr, h1⟩
    ·rw [z12, Nat.zero_add]
     exact hm q c (by simpa [Value.cells] using hq)
  ·show rel _ (zyn st.t j (.rptr d) i) _
   rw [show zyn st.t j (.rptr d) i = st.t i from if_neg hij]
   exact rel.later g1.later _ _ (hf.tmps i)
theorem zpv {st : St} {id : Nat} {o o' : HObj} (h0 : st.H id = some o) (hid : id < st.nx) (hb : ∀ e cs, o ≠ .box e cs) (hb' : ∀ e cs, o' ≠ .box e cs) : z8c st (z0d (z0d st.H id none) st.nx (some o')) (st.nx + 1) := by
 have h := zg8 st (zei st hb') (id0 := id) (o := o) (by unfold z0d; rw [if_neg (by omega)]; exact h0) hb
 have e : z0d (z0d st.H st.nx (some o')) id none = z0d (z0d st.H id none) st.nx (some o') := by
  funext j
  unfold z0d
  by_cases h1 : j = id
  ·rw [if_pos h1, if_neg (by omega), if_pos h1]
  ·rw [if_neg h1]
   by_cases h2 : j = st.nx
   ·rw [if_pos h2, if_pos h2]
   ·rw [if_neg h2, if_neg h2, if_neg h1]
 rw [e] at h; exact h
def zk6 (t : T) : List D := [.int .i64 t.id.act, .int .i64 t.id.item, .int .i64 t.id.n, .int .i64 t.kind, .str t.label, z0u t.head, z0u t.words, z1b t.kids]
end Abs
theorem zcf {P : Program} {H : HM} (k : Nat) {t : T} {d : D} (hd : z2b P H (k + 1) d = some (z1b t.kids)) (hp : pureD d = false) :
  z2b P H (k + 2) (.agg [.int .i64 t.id.act, .int .i64 t.id.item, .int .i64 t.id.n, .int .i64 t.kind, .str t.label, z0u t.head, z0u t.words, d]) = some (z0o t) := by
 rw [z0o, z0l]
 refine z5z (k + 1) ?_ (z00 (z07 k rfl) (z00 (z07 k rfl) (z00 (z07 k rfl) (z00 (z07 k rfl) (z00 (z07 k rfl) (z00 (z07 k (z0i _)) (z00 (z07 k (z0i _)) (z00 hd z09))))))))
 simp only [pureD.pureL, hp, Bool.and_false, Bool.false_and]
theorem pc_at (id : Idv) (f : T -> T) {g : FuncId} {cap : List D} (hc : pureD.pureL cap = true) : ∀ t : T, szB t = true -> (∀ x ∈ z0p t, x.id = id -> PC Tryz.prog g (z0o x :: cap) (z0o (f x))) ->
  PC Tryz.prog 120 [z0o t, z0y id, .fn g cap] (.tup [z0o (atR id f t).1, .bool (atR id f t).2]) := by
 refine z5s fun t ih hs hg => ?_
 obtain ⟨h0, h1, g1, h2, g2, h3, h4⟩ := (z2n t).1 hs
 have ct := zak t.kids h3
 refine z1w 5 (by simp only [pureD.pureL, z02, pureD, hc, Bool.and_self]; rfl) (by simp only [pureD, pureD.pureL, z02, Bool.and_self]) (z16 [] Tryz.func120 rfl (by decide +kernel) z0b (by decide +kernel) (by simp [Tryz.ntmps120]) ?_)
 show awp _ _ (Code.seq _ _) _ _
 rw [show Tryz.f120.results.toList = [.cell 6 27, .tmp 7] from rfl]
 rw [show z0o t = .agg _ from by rw [z0o, z0l]]
 by_cases hid : t.id = id
 ·have hgt := hg t (z4k t) hid
  rw [show z0o t = .agg _ from by rw [z0o, z0l]] at hgt
  rw [zn3 hid]
  have hidd : decide (t.id = id) = true := decide_eq_true hid
  repeat' (first | refine zqj ?_ | ((first | refine zqh fun K J => ?_ | refine zqs (hgt) ?_); (simp (disch := omega) only [go_sem, Nat.reduceBEq, ↓reduceIte, reduceCtorEq, Nat.reduceAdd, Nat.reduceLeDiff, hidd])) | ((refine zqd _ rfl (fun hc => ?_) (fun hc => ?_)) <;> (first | (cases hc; done) | ((try simp only [] at hc); (try (exfalso; omega))))) | refine zqg ?_ | refine zqu (by (simp (disch := omega) only [go_sem, Nat.reduceBEq, ↓reduceIte, Nat.reduceLeDiff]); rfl) rfl ?_ | (refine J _ ?_; clear J K))
  exact z0m (by simp only [pureD, pureD.pureL, z05, Bool.and_self]) (Le.refl _)
 ·have hidd : decide (t.id = id) = false := decide_eq_false hid
  repeat' (first | refine zqj ?_ | ((refine zqh fun K J => ?_); (simp (disch := omega) only [go_sem, Nat.reduceBEq, ↓reduceIte, reduceCtorEq, Nat.reduceAdd, Nat.reduceLeDiff, hidd])) | ((refine zqd _ rfl (fun hc => ?_) (fun hc => ?_)) <;> (first | (cases hc; done) | ((try simp only [] at hc); (try (exfalso; omega))))) | refine zqa ?_ | refine zqb ?_ | (refine J _ ?_; clear J K))
  (refine z5b (fun U st => ∃ (i : _), U = t.kids.length - i /\ st.t 2 = .fn g cap /\ st.t 3 = .ptr 0 0 /\ st.t 4 = .ptr 1 0 /\ st.t 6 = .ptr 2 0 /\ st.t 20 = z1b t.kids /\ st.t 21 = .int .i64 t.kids.length /\ st.t 22 = .int .i64 i /\ st.H 0 = some (.box 27 (zk6 t)) /\ st.H 1 = some (.box 23 (z0j id)) /\ st.H 2 = some (.box 27 [.int .i64 0, .int .i64 0, .int .i64 0, .int .i64 0, .str ByteArray.empty, .nil, .nil, .nil]) /\ (i <= t.kids.length) /\ (3 <= st.nx) /\ (∀ j, (hj : j < i) -> (h : j < t.kids.length) -> (atR id f t.kids[j]).2 = false)) ?_ ?_); rotate_left; (rintro U st ⟨i, rfl, q2, q3, q4, q6, q20, q21, q22, qH0, qH1, qH2, qp0, qp1, qp2⟩); rotate_left
  ·(refine ⟨_, 0, rfl, ?_⟩); (simp (disch := omega) only [go_sem, Nat.reduceBEq, Nat.reduceLeDiff, true_and, Int.natCast_zero, zk6, z0j, z1b])
   intro j hj; omega
  by_cases hi : i < t.kids.length
  ·have hin := ih t.kids[i] (List.getElem_mem hi) (h4 _ (List.getElem_mem hi)) (fun x hx => hg x (z5r (List.getElem_mem hi) hx))
   have hst : z1j (t.kids.flatMap z0g) (i * 8) (z0g (atR id f t.kids[i]).1) = (t.kids.set i (atR id f t.kids[i]).1).flatMap z0g := zco z0k hi
   have hln := zil t.kids
   by_cases hf : (atR id f t.kids[i]).2 = true
   ·rw [hf] at hin
    repeat' (first | ((first | refine zqh fun K J => ?_ | refine zqs (hin) ?_ | refine zhm (ct) ?_); (simp (disch := omega) only [go_sem, Nat.reduceBEq, Nat.reduceBeqDiff, ↓reduceIte, reduceCtorEq, Nat.reduceAdd, Nat.reduceLeDiff, Nat.reduceLT, q2, q3, q4, q6, q20, q21, q22, qH0, qH1, qH2, zk6, z1b, z0j, zkq, hst, hln, List.set_cons_succ, List.set_cons_zero])) | ((first | refine zqd _ rfl (fun hc => ?_) (fun hc => ?_) | refine zqm _ rfl (fun hc => ?_) (fun hc => ?_)) <;> (first | (cases hc; done) | ((try simp only [z0e] at hc); (try (exfalso; omega))))) | refine zqa ?_ | refine zqb ?_ | refine zqn ?_ | refine zqx ?_ | refine z8n ?_ | refine zqo ?_ | refine zqu (by (simp (disch := omega) only [go_sem, Nat.reduceBEq, Nat.reduceBeqDiff, ↓reduceIte, Nat.reduceAdd, Nat.reduceLeDiff, q6, qH2]); rfl) rfl ?_ | (refine J _ ?_; clear J K))
    rw [zs8 hid hi qp2 hf]
    refine z76 (zty 4 (by simp only [pureD.pureL, pureD, Bool.and_false, Bool.false_and]) (z00 (zcf 2 (t := t.setKids (t.kids.set i (atR id f t.kids[i]).1)) (z2h (f := z0g) (l := t.kids.set i (atR id f t.kids[i]).1) 1 (by simp) ?_ z0f z30 z0k z05) rfl) (z00 (z07 3 rfl) z09)))
    (simp (disch := omega) only [go_sem])
   ·rw [Bool.not_eq_true] at hf
    rw [hf] at hin
    repeat' (first | ((first | refine zqh fun K J => ?_ | refine zqr fun K J => ?_ | refine zqs (hin) ?_); (simp (disch := omega) only [go_sem, Nat.reduceBEq, ↓reduceIte, reduceCtorEq, Nat.reduceAdd, Nat.reduceLeDiff, q2, q4, q20, q21, q22, qH1, z1b, z0j])) | ((first | refine zqd _ rfl (fun hc => ?_) (fun hc => ?_) | refine zqm _ rfl (fun hc => ?_) (fun hc => ?_)) <;> (first | (cases hc; done) | ((try simp only [z0e] at hc); (try (exfalso; omega))))) | refine zqa ?_ | refine zqb ?_ | refine zqk ?_ | refine zqv ?_ | refine zqy ?_ | (refine J _ ?_; clear J K))
    (refine Exists.intro _ (And.intro ?_ ⟨i + 1, rfl, ?_⟩)); rotate_left; (simp (disch := omega) only [go_sem, Nat.reduceBEq, Nat.reduceLeDiff, q2, q3, q4, q6, q20, q21, q22, qH0, qH1, qH2, true_and, Int.natCast_add, Int.natCast_one, zk6, z1b, z0j]); rotate_left
    ·omega
    ·refine ⟨by omega, by omega, fun j hj h => ?_⟩
     by_cases e : j = i
     ·subst e; exact hf
     ·exact qp2 j (by omega) h
  ·repeat' (first | ((refine zqh fun K J => ?_); (simp (disch := omega) only [go_sem, Nat.reduceBEq, ↓reduceIte, Nat.reduceAdd, Nat.reduceLeDiff, q3, q6, q21, q22, qH0, qH2, zk6, z1b])) | ((refine zqd _ rfl (fun hc => ?_) (fun hc => ?_)) <;> (((try simp only [z0e] at hc); (try (exfalso; omega))))) | refine zqc ?_ | refine zqn ?_ | refine zqv ?_ | refine zqz ?_ | refine zqp ?_ | refine zqu (by (simp (disch := omega) only [go_sem, Nat.reduceBEq, ↓reduceIte, Nat.reduceAdd, Nat.reduceLeDiff, q6, qH2]); rfl) rfl ?_ | (refine J _ ?_; clear J K))
   rw [zn4 hid fun j h => qp2 j (by omega) h, z0o, z0l]
   exact z0m (by simp only [pureD, pureD.pureL, z0i, zpc, Bool.and_self]) (Le.refl _)
theorem zet (t : T) (hs : szB t = true) (id : Idv) (f : T -> T) {g : FuncId} {cap : List D} (hc : pureD.pureL cap = true) (hg : ∀ x ∈ z0p t, x.id = id -> PC Tryz.prog g (z0o x :: cap) (z0o (f x))) :
  PC Tryz.prog 60 [z0o t, z0y id, .fn g cap] (z0o (atR id f t).1) := by
 have c1 := zbw t hs
 have c2 := pc_at id f hc t hs hg
 refine z1w 1 (by simp only [pureD.pureL, z02, pureD, hc, Bool.and_self]; rfl) (z02 _) (z16 [3000010, 5000011, 3000012, 5000014] Tryz.func60 rfl (by decide +kernel) z0b (by decide +kernel) (by simp [Tryz.ntmps60]) ?_)
 show awp _ _ (Code.seq _ _) _ _
 rw [show Tryz.f60.results.toList = [.cell 6 27] from rfl]
 repeat' (first | ((first | refine zqh fun K J => ?_ | refine zqe (by decide +kernel) fun K J => ?_ | refine zqt (c1) ?_ | refine zqt (c2) ?_); (simp (disch := omega) only [go_sem, Nat.reduceBEq, Nat.reduceEqDiff, ↓reduceIte, Nat.reduceAdd, Nat.reduceLeDiff])) | refine zqn ?_ | refine zqu (by (simp (disch := omega) only [go_sem, Nat.reduceBEq, ↓reduceIte, Nat.reduceLeDiff]); rfl) rfl ?_ | (refine J _ ?_; clear J K))
 exact z0m (z02 _) (Le.refl _)
theorem zxx (l : List T) (i : Nat) (x : T) : (l.flatMap z0g).take (i * 8) ++ z0g x ++ (l.flatMap z0g).drop (i * 8) = (l.take i ++ x :: l.drop i).flatMap z0g := by
 have h1 : (l.flatMap z0g).take (i * 8) = (l.take i).flatMap z0g := by
  by_cases hi : i <= l.length
  ·have e : l.flatMap z0g = (l.take i).flatMap z0g ++ (l.drop i).flatMap z0g := by rw [<- List.flatMap_append, List.take_append_drop]
   rw [e, List.take_append_of_le_length (by rw [z6h z0k, List.length_take]; omega), List.take_of_length_le (by rw [z6h z0k, List.length_take]; omega)]
  ·rw [List.take_of_length_le (by rw [z6h z0k]; omega), List.take_of_length_le (by omega)]
 rw [h1, zam z0k, List.flatMap_append, List.flatMap_cons, List.append_assoc]
theorem zxy (l : List T) (i : Nat) : (l.flatMap z0g).take (i * 8) ++ (l.flatMap z0g).drop ((i + 1) * 8) = (l.eraseIdx i).flatMap z0g := by
 have h1 : (l.flatMap z0g).take (i * 8) = (l.take i).flatMap z0g := by
  by_cases hi : i <= l.length
  ·have e : l.flatMap z0g = (l.take i).flatMap z0g ++ (l.drop i).flatMap z0g := by rw [<- List.flatMap_append, List.take_append_drop]
   rw [e, List.take_append_of_le_length (by rw [z6h z0k, List.length_take]; omega), List.take_of_length_le (by rw [z6h z0k, List.length_take]; omega)]
  ·rw [List.take_of_length_le (by rw [z6h z0k]; omega), List.take_of_length_le (by omega)]
 rw [h1, zam z0k, <- List.flatMap_append, List.eraseIdx_eq_take_drop_succ]
theorem zuj (i : Nat) (x : T) (hx : szB x = true) (q : T) (hq : szB q = true) (hi : i <= q.kids.length) : PC Tryz.prog 121 [z0o q, .rptr (.int .i64 i), .rptr (z0o x)] (z0o (z8b i x q)) := by
 obtain ⟨h0, h1, g1, h2, g2, h3, h4⟩ := (z2n q).1 hq
 have c1 := zbw x hx
 have ct := zak q.kids h3
 refine z1w 5 (by simp only [pureD.pureL, z02, pureD, Bool.and_self]) (z02 _) (z16 [3000006, 4000007, 3000008, 3000009, 5000010, 4000012] Tryz.func121 rfl (by decide +kernel) z0b (by decide +kernel) (by simp [Tryz.ntmps121]) ?_)
 show awp _ _ (Code.seq _ _) _ _
 rw [show Tryz.f121.results.toList = [.cell 4 27] from rfl]
 rw [show z0o q = .agg _ from by rw [z0o, z0l]]
 repeat' (first | ((first | refine zqh fun K J => ?_ | refine zqe (by decide +kernel) fun K J => ?_ | refine zqt (c1) ?_ | refine zb3 (ct) rfl rfl rfl ?_); (simp (disch := omega) only [go_sem, Nat.reduceBEq, Nat.reduceEqDiff, ↓reduceIte, reduceCtorEq, Nat.reduceAdd, Nat.reduceMul, Nat.reduceLeDiff, zkq])) | (refine J _ ?_; clear J K))
 refine zdt (zv2 (n := q.kids.length) (i := i) (cs := q.kids.flatMap z0g) (us := z0g x) ?_ hi (by simp) ?_ (by simp; omega)) rfl rfl (z8h _ (o := .row 27 q.kids.length (q.kids.flatMap z0g)) ?_ (by intro e cs h; cases h) (by intro e cs h; cases h)) ?_
 ·(simp (disch := omega) only [go_sem, Nat.reduceBEq])
 ·simp only [z1c, z3f, z0k, if_true, List.append_nil]
 ·(simp (disch := omega) only [go_sem, Nat.reduceBEq])
 rw [zxx]
 (try (simp (disch := omega) only [go_sem, Nat.reduceBEq, Nat.reduceEqDiff, ↓reduceIte, reduceCtorEq, Nat.reduceAdd, Nat.reduceLeDiff, Nat.reduceLT, List.set_cons_succ, List.set_cons_zero])); repeat' (first | ((refine zqh fun K J => ?_); (simp (disch := omega) only [go_sem, Nat.reduceBEq, ↓reduceIte, Nat.reduceAdd, Nat.reduceLeDiff, List.set_cons_succ, List.set_cons_zero])) | refine zqn ?_ | refine zqu (by (simp (disch := omega) only [go_sem, Nat.reduceBEq, ↓reduceIte, Nat.reduceAdd, Nat.reduceLeDiff]); rfl) rfl ?_ | (refine J _ ?_; clear J K))
 refine z76 (zcf 3 (t := z8b i x q) (z2h (f := z0g) (l := q.kids.take i ++ x :: q.kids.drop i) 2 ?_ ?_ z0f z30 z0k z05) rfl)
 ·simp; omega
 ·(simp (disch := omega) only [go_sem, Nat.reduceBEq])
theorem zm4 (i : Nat) (q : T) (hq : szB q = true) (hi : i < q.kids.length) : PC Tryz.prog 128 [z0o q, .rptr (.int .i64 i)] (z0o (zwl i q)) := by
 obtain ⟨h0, h1, g1, h2, g2, h3, h4⟩ := (z2n q).1 hq
 have ct := zak q.kids h3
 have cd := fun (H : HM) (nx : Nat) (hid : H 2 = some (.row 27 q.kids.length (q.kids.flatMap z0g))) => zv3 (nx := nx) (i := i) (j := i + 1) hid (by omega) (by omega)
 rw [zxy] at cd
 simp only [Int.natCast_add, Int.natCast_one] at cd
 refine z1w 5 (by simp only [pureD.pureL, z02, pureD, Bool.and_self]) (z02 _) (z16 [3000005, 4000006, 3000007, 3000008, 4000010] Tryz.func128 rfl (by decide +kernel) z0b (by decide +kernel) (by simp [Tryz.ntmps128]) ?_)
 show awp _ _ (Code.seq _ _) _ _
 rw [show Tryz.f128.results.toList = [.cell 3 27] from rfl]
 rw [show z0o q = .agg _ from by rw [z0o, z0l]]
 repeat' (first | ((first | refine zqh fun K J => ?_ | refine zqe (by decide +kernel) fun K J => ?_ | refine zb3 (ct) rfl rfl rfl ?_); (simp (disch := omega) only [go_sem, Nat.reduceBEq, Nat.reduceEqDiff, ↓reduceIte, reduceCtorEq, Nat.reduceAdd, zkq])) | (refine J _ ?_; clear J K))
 refine zdt (cd _ _ ?_) rfl rfl (zpv (o := .row 27 q.kids.length (q.kids.flatMap z0g)) ?_ ?_ (by intro e cs h; cases h) (by intro e cs h; cases h)) ?_
 ·(simp (disch := omega) only [go_sem, Nat.reduceBEq])
 ·(simp (disch := omega) only [go_sem, Nat.reduceBEq])
 ·(simp (disch := omega) only [go_sem, Nat.reduceLT])
 (try (simp (disch := omega) only [go_sem, Nat.reduceBEq, Nat.reduceEqDiff, ↓reduceIte, reduceCtorEq, Nat.reduceAdd, Nat.reduceLeDiff, Nat.reduceLT, List.set_cons_succ, List.set_cons_zero])); repeat' (first | ((refine zqh fun K J => ?_); (simp (disch := omega) only [go_sem, Nat.reduceBEq, ↓reduceIte, Nat.reduceAdd, Nat.reduceLeDiff, List.set_cons_succ, List.set_cons_zero])) | refine zqn ?_ | refine zqu (by (simp (disch := omega) only [go_sem, Nat.reduceBEq, ↓reduceIte, Nat.reduceAdd, Nat.reduceLeDiff]); rfl) rfl ?_ | (refine J _ ?_; clear J K))
 refine z76 (zcf 3 (t := zwl i q) (z2h (f := z0g) (l := q.kids.eraseIdx i) 2 ?_ ?_ z0f z30 z0k z05) rfl)
 ·rw [List.length_eraseIdx_of_lt hi]; omega
 ·(simp (disch := omega) only [go_sem, Nat.reduceBEq])
theorem zzd (i : Int) (x : T) : PC Tryz.prog 61 [.int .i64 i, z0o x] (.fn 121 [.rptr (.int .i64 i), .rptr (z0o x)]) := by
 refine z1w 4 (by simp only [pureD.pureL, z02, pureD, Bool.and_self]) (by simp only [pureD.pureL, z02, pureD, Bool.and_self]) (z16 [] Tryz.func61 rfl (by decide +kernel) z0b (by decide +kernel) (by simp [Tryz.ntmps61]) ?_)
 show awp _ _ (Code.seq _ _) _ _
 repeat' (first | ((refine zqh fun K J => ?_); (simp (disch := omega) only [go_sem, Nat.reduceBEq, Nat.reduceAdd])) | refine zqn ?_ | refine zqu (by (simp (disch := omega) only [go_sem]); rfl) rfl ?_ | (refine J _ ?_; clear J K))
 refine z76 (zdr 3 rfl (z00 (z1s (e := 3) 2 ?_ z4m (z07 1 rfl)) (z00 (z04 (e := 27) 1 ?_ z0f (z05 x)) z09)))
 ·(simp (disch := omega) only [go_sem, Nat.reduceBEq])
 ·(simp (disch := omega) only [go_sem, Nat.reduceBEq])
theorem zpw (t : T) (hs : szB t = true) (hd : depT t <= 1000000000) (id : Idv) (i : Nat) (hp : (z7p id t).2.1 = i) (hq : ∀ q ∈ z0p t, q.id = (z7p id t).1 -> i < q.kids.length) : PC Tryz.prog 69 [z0o t, z0y id] (z0o (atR (z7p id t).1 (zwl i) t).1) := by
 have c1 := zb1 t (z6z t hs) hd id
 have c2 := zet t hs (z7p id t).1 (zwl i) (g := 128) (cap := [.rptr (.int .i64 i)]) rfl (fun q hq1 hq2 => zm4 i q (zbe t hs q hq1) (hq q hq1 hq2))
 rw [hp] at c1
 refine z1w 1 (by simp only [pureD.pureL, z02]; rfl) (z02 _) (z16 [] Tryz.func69 rfl (by decide +kernel) z0b (by decide +kernel) (by simp [Tryz.ntmps69]) ?_)
 show awp _ _ (Code.seq _ _) _ _
 rw [show Tryz.f69.results.toList = [.cell 4 27] from rfl]
 repeat' (first | ((refine z4u (N := 1) rfl fun K J => ?_); (simp (disch := omega) only [go_sem, Nat.reduceBEq, Nat.reduceAdd])) | (refine J _ ?_; clear J K))
 refine z42 fun K J => ?_
 (simp (disch := omega) only [go_sem, Nat.reduceBEq, ↓reduceIte, Nat.reduceAdd, Nat.reduceLeDiff])
 refine zqs c1 ?_
 (simp (disch := omega) only [go_sem, Nat.reduceBEq, ↓reduceIte, Nat.reduceAdd, Nat.reduceLeDiff, Nat.reduceLT])
 refine J _ _ (znr (b := 4) (j := 6) (e := 3) (cs := [.int .i64 i]) (d := .int .i64 i) (by (simp (disch := omega) only [go_sem, Nat.reduceBEq])) (.inl rfl) rfl (by (simp (disch := omega) only [go_sem, Nat.reduceBEq]))) ?_
 clear J K
 repeat' (first | ((first | refine zqh fun K J => ?_ | refine zqs (c2) ?_); (simp (disch := omega) only [go_sem, Nat.reduceBEq, ↓reduceIte, Nat.reduceAdd, Nat.reduceLeDiff])) | refine zqn ?_ | refine zqu (by (simp (disch := omega) only [go_sem, Nat.reduceBEq, ↓reduceIte, Nat.reduceLeDiff]); rfl) rfl ?_ | (refine J _ ?_; clear J K))
 exact z0m (z02 _) (Le.refl _)

namespace Tr
def z3o (u : T) (parent : Idv) (i : Int) (x : T) : Int :=
 if standsT u = false \/ standsT x = false \/ x.kind = 0 then 1 else
 if (z08 parent u).2 = false then 4 else
 if z1e (z08 parent u).1.kind x.kind = false then 9 else
 if i < 0 \/ ((z08 parent u).1.kids.length : Int) < i then 3 else
 if z3t (z08 parent u).1.kids x.kind x.label = true then 10 else
 if 64 <= (z08 parent u).1.kids.length \/ 8 < (z3q parent u).length + 1 + depT x \/ 1024 < cntT u + cntT x then 6 else
 if ((idsT x).any fun i => (z08 i u).2) = true then 5 else 0
theorem zfd {id : Idv} {u : T} (h : (z08 id u).2 = true) : (z08 id u).1 ∈ z0p u := by
 have hm := z78.1 h
 unfold z08
 rw [zb0 _ hm]
 exact zca id u _ (List.getElem_mem _)
theorem zkp {id : Idv} {u q : T} (hn : (idsT u).Nodup) (hq : q ∈ z0p u) (hid : q.id = id) : z08 id u = (q, true) := by
 have key : ∀ u : T, (idsT u).Nodup -> q ∈ z0p u -> z08 id u = (q, true) := by
  refine z5s fun u ih hn hq => ?_
  rw [z2q, List.mem_cons] at hq
  rcases hq with rfl | hq
  ·exact z38 hid
  ·obtain ⟨k, hk, hqk⟩ := List.mem_flatMap.1 hq
   obtain ⟨i, hi, rfl⟩ := List.getElem_of_mem hk
   obtain ⟨g1, g2, g3⟩ := z5v hn
   have hin : id ∈ idsT u.kids[i] := List.mem_map.2 ⟨q, hqk, hid⟩
   have h2 := ih _ hk (g2 _ hk) hqk
   have hw : z1l id u.kids[i] ≠ [] := z52.2 hin
   rw [z3l (z3y (fun e => g1 _ hk (e ▸ hin)) hi (fun j hj h => (z5a id _).2 (g3 i j hi h (by omega) id hin)) hw) hw, h2]
 exact key u hn hq
def zci (u : T) (id : Idv) : Int := if standsT u = false then 1 else if (z08 id u).2 = false then 4 else if u.id = id then 9 else 0
theorem z9n {u x : T} {parent : Idv} {i : Int} (h : z3o u parent i x = 0) : (standsT u = true /\ standsT x = true /\ x.kind ≠ 0 /\ (z08 parent u).2 = true /\ z1e (z08 parent u).1.kind x.kind = true /\ z3t (z08 parent u).1.kids x.kind x.label = false /\ (z08 parent u).1.kids.length < 64 /\ (z3q parent u).length + 1 + depT x <= 8 /\ cntT u + cntT x <= 1024 /\ ((idsT x).any fun i => (z08 i u).2) = false) /\
  parent ∈ idsT u /\ ∃ n : Nat, i = n /\ ∀ q ∈ z0p u, q.id = parent -> n <= q.kids.length := by
 unfold z3o at h
 split at h
 ·cases h
 rename_i h1
 split at h
 ·cases h
 rename_i h2
 split at h
 ·cases h
 rename_i h3
 split at h
 ·cases h
 rename_i h4
 split at h
 ·cases h
 rename_i h5
 split at h
 ·cases h
 rename_i h6
 split at h
 ·cases h
 rename_i h7
 simp only [not_or, Bool.not_eq_false, Bool.not_eq_true] at h1 h2 h3 h5 h7
 refine ⟨⟨h1.1, h1.2.1, h1.2.2, h2, h3, h5, by omega, by omega, by omega, h7⟩, ?_, i.toNat, by omega, fun q hq hid => ?_⟩
 ·rw [z2f, decide_eq_true_eq] at h2; exact h2
 ·rw [zkp ((z2p u).1 h1.1).2.2.2.1 hq hid] at h4
  simp only at h4
  omega
end Tr
namespace Abs
theorem z2g {P : Program} {H : HM} {nn : Bool} {sz : Nat} {els els' : List D} (k : Nat) (hp : pureD.pureL els = false) (hc : zc7 (z2b P H k) els = some els') : z2b P H (k + 1) (.rsl nn sz els) = some (.rsl nn sz els') := by
 unfold z2b
 simp only [pureD, hp, Bool.false_eq_true, if_false, hc, Option.map_some]
abbrev Chk := FuncId × List D × Int × Bool
def encK (c : Chk) : D := .agg [.fn c.1 c.2.1, .int .i64 c.2.2.1]
def z6x (l : List Chk) : Int := match l.find? (fun c => c.2.2.2) with
 | some c => c.2.2.1
 | none => 0
theorem zoh {l : List Chk} {i : Nat} (hi : i < l.length) (h1 : ∀ j, (hj : j < i) -> (h : j < l.length) -> l[j].2.2.2 = false) (h2 : l[i].2.2.2 = true) : z6x l = l[i].2.2.1 := by
 unfold z6x
 have : l.find? (fun c => c.2.2.2) = some l[i] := List.find?_eq_some_iff_getElem.2 ⟨h2, i, hi, rfl, fun j hj => by rw [h1 j hj (by omega)]; rfl⟩
 rw [this]
theorem zl3 {l : List Chk} (h1 : ∀ j, (h : j < l.length) -> l[j].2.2.2 = false) : z6x l = 0 := by
 unfold z6x
 have : l.find? (fun c => c.2.2.2) = none := by
  rw [List.find?_eq_none]
  intro c hc
  obtain ⟨j, hj, rfl⟩ := List.getElem_of_mem hc
  rw [h1 j hj]; simp
 rw [this]
theorem z3x (f : FuncId) (c : List D) (e : Int) (l : List Chk) : z6x ((f, c, e, false) :: l) = z6x l := rfl
theorem z0t {P : Program} {H : HM} {f : FuncId} {cap cap' : List D} {e : Int} (b : Bool) (k : Nat) (hp : pureD.pureL cap = false) (hc : zc7 (z2b P H (k + 1)) cap = some cap') : z2b P H (k + 3) (.agg [.fn f cap, .int .i64 e]) = some (encK (f, cap', e, b)) :=
 z5z (k + 2) (by simp only [pureD.pureL, pureD, hp, Bool.false_and]) (z00 (zdr (k + 1) hp hc) (z00 (z07 (k + 1) rfl) z09))
end Abs
theorem z9c (l : List Chk) (hl : l.length <= 1000) (hp : ∀ c ∈ l, pureD.pureL c.2.1 = true /\ PC Tryz.prog c.1 c.2.1 (.bool c.2.2.2)) : PC Tryz.prog 62 [.rsl true 2 (l.map encK)] (.int .i64 (z6x l)) := by
 have hpu : ∀ c ∈ l, pureD (encK c) = true := fun c hc => by simp only [encK, pureD, pureD.pureL, (hp c hc).1, Bool.and_self]
 refine z1w 1 (by
  simp only [pureD.pureL, pureD, Bool.and_true]
  clear hl
  induction l with
  | nil => rfl
  | cons c l ih =>
   simp only [List.map_cons, pureD.pureL, Bool.and_eq_true]
   exact ⟨hpu c (by simp), ih (fun c hc => hp c (List.mem_cons_of_mem _ hc)) (fun c hc => hpu c (List.mem_cons_of_mem _ hc))⟩) rfl (z16 [] Tryz.func62 rfl (by decide +kernel) z0b (by decide +kernel) (by simp [Tryz.ntmps62]) ?_)
 show awp _ _ (Code.seq _ _) _ _
 repeat' (first | refine zqj ?_ | ((refine zqh fun K J => ?_); (simp (disch := omega) only [go_sem, Nat.reduceBEq])) | refine zqa ?_ | (refine J _ ?_; clear J K))
 (refine z5b (fun U st => ∃ (i : _), U = l.length - i /\ st.t 5 = .rsl true 2 (l.map encK) /\ st.t 6 = .int .i64 l.length /\ st.t 7 = .int .i64 i /\ (i <= l.length) /\ (∀ j, (hj : j < i) -> (h : j < l.length) -> l[j].2.2.2 = false)) ?_ ?_); rotate_left; (rintro U st ⟨i, rfl, q5, q6, q7, qp0, qp1⟩); rotate_left
 ·(refine ⟨_, 0, rfl, ?_⟩); (simp (disch := omega) only [go_sem, Nat.reduceBEq, true_and, Int.natCast_zero])
  intro j hj; omega
 by_cases hi : i < l.length
 ·have hci := (hp l[i] (List.getElem_mem hi)).2
  repeat' (first | ((first | refine zqh fun K J => ?_ | refine zqr fun K J => ?_ | refine zqs (hci) ?_); (simp (disch := omega) only [go_sem, Nat.reduceBEq, ↓reduceIte, reduceCtorEq, Nat.reduceAdd, Nat.reduceLeDiff, q5, q6, q7, encK])) | ((first | refine zqd _ rfl (fun hc => ?_) (fun hc => ?_) | refine zqm _ rfl (fun hc => ?_) (fun hc => ?_)) <;> (((try simp only [z0e] at hc); (try (exfalso; omega))))) | refine zqa ?_ | refine zqb ?_ | refine zqk ?_ | refine zqn ?_ | refine zqv ?_ | refine zqx ?_ | refine zqy ?_ | refine z8n ?_ | refine zqo ?_ | refine zqu (by (simp (disch := omega) only [go_sem]); rfl) rfl ?_ | (refine J _ ?_; clear J K))
  ·rw [zoh hi qp1 (by assumption)]; exact z1f rfl
  ·(refine Exists.intro _ (And.intro ?_ ⟨i + 1, rfl, ?_⟩)); rotate_left; (simp (disch := omega) only [go_sem, Nat.reduceBEq, q5, q6, q7, true_and, Int.natCast_add, Int.natCast_one]); rotate_left
   ·omega
   ·refine ⟨by omega, fun j hj h => ?_⟩
    by_cases e : j = i
    ·subst e; assumption
    ·exact qp1 j (by omega) h
 ·repeat' (first | ((refine zqh fun K J => ?_); (simp (disch := omega) only [go_sem, ↓reduceIte, q6, q7])) | ((refine zqd _ rfl (fun hc => ?_) (fun hc => ?_)) <;> (((try simp only [z0e] at hc); (try (exfalso; omega))))) | refine zqc ?_ | refine zqn ?_ | refine zqv ?_ | refine zqz ?_ | refine zqp ?_ | refine zqu (by (simp (disch := omega) only [go_sem]); rfl) rfl ?_ | (refine J _ ?_; clear J K))
  rw [zl3 fun j h => qp1 j (by omega) h]; exact z1f rfl
theorem zw8 (ok : Bool) : PC Tryz.prog 116 [.rptr (.bool ok)] (.bool (!ok)) := by
 refine z1w 1 rfl rfl (z16 [] Tryz.func116 rfl (by decide +kernel) z0b (by decide +kernel) (by simp [Tryz.ntmps116]) ?_)
 show awp _ _ (Code.seq _ _) _ _
 repeat' (first | ((refine zqh fun K J => ?_); (simp (disch := omega) only [go_sem, Nat.reduceBEq, ↓reduceIte, Nat.reduceAdd])) | refine zqn ?_ | refine zqu (by (simp (disch := omega) only [go_sem]); rfl) rfl ?_ | (refine J _ ?_; clear J K))
 exact z03 rfl
theorem zw9 (p x : T) : PC Tryz.prog 117 [.rptr (z0o p), .rptr (z0o x)] (.bool (!z1e p.kind x.kind)) := by
 have c1 := z7o p.kind x.kind
 refine z1w 1 (by simp only [pureD.pureL, z02, pureD, Bool.and_self]) rfl (z16 [] Tryz.func117 rfl (by decide +kernel) z0b (by decide +kernel) (by simp [Tryz.ntmps117]) ?_)
 show awp _ _ (Code.seq _ _) _ _
 repeat' (first | ((first | refine zqh fun K J => ?_ | refine zqs (c1) ?_); (simp (disch := omega) only [go_sem, Nat.reduceBEq, ↓reduceIte, reduceCtorEq, Nat.reduceAdd])) | refine zqn ?_ | refine zqu (by (simp (disch := omega) only [go_sem]); rfl) rfl ?_ | (refine J _ ?_; clear J K))
 exact z03 rfl
theorem zwa (p : T) (i : Int) : PC Tryz.prog 118 [.rptr (.int .i64 i), .rptr (z0o p)] (.bool (decide (i < 0) || decide ((p.kids.length : Int) < i))) := by
 refine z1w 1 (by simp only [pureD.pureL, z02, pureD, Bool.and_self]) rfl (z16 [] Tryz.func118 rfl (by decide +kernel) z0b (by decide +kernel) (by simp [Tryz.ntmps118]) ?_)
 show awp _ _ (Code.seq _ _) _ _
 repeat' (first | ((refine zqh fun K J => ?_); (simp (disch := omega) only [go_sem, Nat.reduceBEq, ↓reduceIte, Nat.reduceAdd])) | refine zqn ?_ | refine zqu (by (simp (disch := omega) only [go_sem]); rfl) rfl ?_ | (refine J _ ?_; clear J K) | (refine zqf (fun hb => ?_) (fun hb => ?_) <;> (have hb2 := hb; try simp only [z0e] at hb2) <;> ((first | have hb3 := eq_false hb2 | have hb3 := eq_true hb2); (simp (disch := omega) only [go_sem, Nat.reduceBEq, ↓reduceIte, reduceCtorEq, Nat.reduceAdd, hb3, z1b]); clear hb hb3; (try (exfalso; omega)))))
 all_goals exact z03 (by simp [hb2])
theorem zwb (p x : T) (hp : szB p = true) : PC Tryz.prog 119 [.rptr (z0o p), .rptr (z0o x)] (.bool (z3t p.kids x.kind x.label)) := by
 have c1 := zhe p.kids (ze0 hp).1 x.kind x.label
 refine z1w 1 (by simp only [pureD.pureL, z02, pureD, Bool.and_self]) rfl (z16 [] Tryz.func119 rfl (by decide +kernel) z0b (by decide +kernel) (by simp [Tryz.ntmps119]) ?_)
 show awp _ _ (Code.seq _ _) _ _
 repeat' (first | ((first | refine zqh fun K J => ?_ | refine zqs (c1) ?_); (simp (disch := omega) only [go_sem, Nat.reduceBEq, ↓reduceIte, reduceCtorEq, Nat.reduceAdd, z1b])) | refine zqn ?_ | refine zqu (by (simp (disch := omega) only [go_sem]); rfl) rfl ?_ | (refine J _ ?_; clear J K))
 exact z03 rfl
def zwc (u p : T) (parent : Idv) (x : T) : Bool := decide (64 <= p.kids.length \/ 8 < (z3q parent u).length + 1 + depT x \/ 1024 < cntT u + cntT x)
theorem zwd (u p x : T) (hu : szB u = true) (hx : szB x = true) (cu : cntT u <= 1000000) (cx : cntT x <= 1000000) (du : depT u <= 1000000) (dx : depT x <= 1000000) (parent : Idv) :
  PC Tryz.prog 114 [.rptr (z0o p), .rptr (z0o u), .rptr (z0y parent), .rptr (z0o x)] (.bool (zwc u p parent x)) := by
 have c1 := zn7 u (z6z u hu) (by omega) parent
 have c2 := zi1 x (z9w x hx) (by omega)
 have c3 := zhg u (z9w u hu) (by omega)
 have c4 := zhg x (z9w x hx) (by omega)
 have ha := znf parent u
 refine z1w 1 (by simp only [pureD.pureL, z02, pureD, Bool.and_self]; rfl) rfl (z16 [8000000, 3000006, 3000010, 3000011, 5000012, 3000014, 5000015, 3000020, 5000021, 3000022, 5000023] Tryz.func114 rfl (by decide +kernel) z0b (by decide +kernel) (by simp [Tryz.ntmps114]) ?_)
 show awp _ _ (Code.seq _ _) _ _
 repeat' (first | ((first | refine zqh fun K J => ?_ | refine zqe (by decide +kernel) fun K J => ?_ | refine zqt (c1) ?_ | refine zqt (c2) ?_ | refine zqt (c3) ?_ | refine zqt (c4) ?_); (simp (disch := omega) only [go_sem, Nat.reduceBEq, Nat.reduceEqDiff, ↓reduceIte, reduceCtorEq, Nat.reduceAdd, z1b])) | refine zqn ?_ | refine zqu (by (simp (disch := omega) only [go_sem]); rfl) rfl ?_ | (refine J _ ?_; clear J K) | (refine zqf (fun hb => ?_) (fun hb => ?_) <;> (have hb2 := hb; try simp only [z0e] at hb2) <;> ((first | have hb3 := eq_false hb2 | have hb3 := eq_true hb2); (simp (disch := omega) only [go_sem, Nat.reduceBEq, Nat.reduceEqDiff, ↓reduceIte, Nat.reduceAdd, hb3]); clear hb hb3; (try (exfalso; omega)))))
 ·exact z03 (decide_eq_decide.2 (by omega))
 ·exact z03 (decide_eq_true (by omega)).symm
 ·exact z03 (decide_eq_true (by omega)).symm
theorem zrn (u : T) (hu : szB u = true) (du : depT u <= 1000000) (id : Idv) : PC Tryz.prog 113 [z0y id, .rptr (z0o u)] (.bool (z08 id u).2) := by
 have c1 := ziz u (z6z u hu) (by omega) id
 refine z1w 1 (by simp only [pureD.pureL, z02, pureD, Bool.and_self]; rfl) rfl (z16 [] Tryz.func113 rfl (by decide +kernel) z0b (by decide +kernel) (by simp [Tryz.ntmps113]) ?_)
 show awp _ _ (Code.seq _ _) _ _
 repeat' (first | ((first | refine zqh fun K J => ?_ | refine zqs (c1) ?_); (simp (disch := omega) only [go_sem, Nat.reduceBEq, ↓reduceIte, Nat.reduceAdd, Nat.reduceLeDiff])) | refine zqn ?_ | refine zqu (by (simp (disch := omega) only [go_sem]); rfl) rfl ?_ | (refine J _ ?_; clear J K))
 exact z03 rfl
theorem zwe (u x : T) (hu : szB u = true) (hx : szB x = true) (cx : cntT x <= 1000000) (du : depT u <= 1000000) : PC Tryz.prog 110 [.rptr (z0o x), .rptr (z0o u)] (.bool ((idsT x).any fun i => (z08 i u).2)) := by
 have c1 := ztb x (z9w x hx) (by omega)
 have hl := z4o x
 have c2 := z55 false (idsT x) (by unfold maxLen; omega) (g := 113) (cap := [.rptr (z0o u)]) (fun i => (z08 i u).2) (by simp only [pureD.pureL, z02, pureD, Bool.and_self]) (fun i _ => zrn u hu du i)
 refine z1w 1 (by simp only [pureD.pureL, z02, pureD, Bool.and_self]) rfl (z16 [] Tryz.func110 rfl (by decide +kernel) z0b (by decide +kernel) (by simp [Tryz.ntmps110]) ?_)
 show awp _ _ (Code.seq _ _) _ _
 repeat' (first | ((first | refine zqh fun K J => ?_ | refine zqs (c1) ?_ | refine zqs (c2) ?_); (simp (disch := omega) only [go_sem, Nat.reduceBEq, ↓reduceIte, Nat.reduceAdd])) | refine zqn ?_ | refine zqu (by (simp (disch := omega) only [go_sem]); rfl) rfl ?_ | (refine J _ ?_; clear J K))
 exact z03 rfl
theorem zl4 (u p x : T) (ok : Bool) (parent : Idv) (i : Int) (hs : standsT u = true) (hx : standsT x = true) (hk : x.kind ≠ 0) (hf : z08 parent u = (p, ok)) (f3 f4 f5 f6 f2 f1 : FuncId) (c3 c4 c5 c6 c2 c1 : List D) :
  z6x [(f3, c3, 4, !ok), (f4, c4, 9, !z1e p.kind x.kind), (f5, c5, 3, decide (i < 0) || decide ((p.kids.length : Int) < i)), (f6, c6, 10, z3t p.kids x.kind x.label), (f2, c2, 6, zwc u p parent x), (f1, c1, 5, (idsT x).any fun i => (z08 i u).2)] = z3o u parent i x := by
 unfold z3o
 rw [if_neg (by rw [hs, hx]; simp [hk]), hf]
 cases ok
 ·rw [if_pos rfl]; rfl
 rw [if_neg (by simp), Bool.not_true, z3x]
 cases hn : z1e p.kind x.kind
 ·rw [if_pos rfl]; rfl
 rw [if_neg (by simp), Bool.not_true, z3x]
 by_cases hi : i < 0 \/ (p.kids.length : Int) < i
 ·rw [if_pos hi, show (decide (i < 0) || decide ((p.kids.length : Int) < i)) = true from by simpa using hi]; rfl
 rw [if_neg hi, show (decide (i < 0) || decide ((p.kids.length : Int) < i)) = false from by simpa using hi, z3x]
 cases ht : z3t p.kids x.kind x.label
 ·rw [if_neg (by simp), z3x]
  unfold zwc
  by_cases hfu : 64 <= p.kids.length \/ 8 < (z3q parent u).length + 1 + depT x \/ 1024 < cntT u + cntT x
  ·rw [if_pos hfu, decide_eq_true hfu]; rfl
  ·rw [if_neg hfu, decide_eq_false hfu, z3x]
   cases ha : (idsT x).any fun i => (z08 i u).2
   ·rw [if_neg (by simp)]; rfl
   ·rw [if_pos rfl]; rfl
 ·rw [if_pos rfl]; rfl
theorem zro (u x : T) (hu : szB u = true) (hx : szB x = true) (cu : cntT u <= 1000000) (cx : cntT x <= 1000000) (du : depT u <= 1000000) (dx : depT x <= 1000000) (parent : Idv) (i : Int) :
  PC Tryz.prog 59 [z0o u, z0y parent, .int .i64 i, z0o x] (.int .i64 (z3o u parent i x)) := by
 have c1 := z70 u hu (by omega) (by omega)
 have c2 := z70 x hx (by omega) (by omega)
 have c3 := z7q u (z6z u hu) (by omega) parent
 have hf := zc9 parent u hu
 generalize hfe : z08 parent u = q at *
 obtain ⟨p, ok⟩ := q
 have c4 := z9c [(116, [.rptr (.bool ok)], 4, !ok), (117, [.rptr (z0o p), .rptr (z0o x)], 9, !z1e p.kind x.kind), (118, [.rptr (.int .i64 i), .rptr (z0o p)], 3, decide (i < 0) || decide ((p.kids.length : Int) < i)),
   (119, [.rptr (z0o p), .rptr (z0o x)], 10, z3t p.kids x.kind x.label), (114, [.rptr (z0o p), .rptr (z0o u), .rptr (z0y parent), .rptr (z0o x)], 6, zwc u p parent x), (110, [.rptr (z0o x), .rptr (z0o u)], 5, (idsT x).any fun i => (z08 i u).2)]
  (by simp) (by
   intro c hc
   simp only [List.mem_cons, List.not_mem_nil, or_false] at hc
   rcases hc with rfl | rfl | rfl | rfl | rfl | rfl
   ·exact ⟨rfl, zw8 ok⟩
   ·exact ⟨by simp only [pureD.pureL, z02, pureD, Bool.and_self], zw9 p x⟩
   ·exact ⟨by simp only [pureD.pureL, z02, pureD, Bool.and_self], zwa p i⟩
   ·exact ⟨by simp only [pureD.pureL, z02, pureD, Bool.and_self], zwb p x hf⟩
   ·exact ⟨by simp only [pureD.pureL, z02, pureD, Bool.and_self]; rfl, zwd u p x hu hx cu cx du dx parent⟩
   ·exact ⟨by simp only [pureD.pureL, z02, pureD, Bool.and_self], zwe u x hu hx cx du⟩)
 refine z1w 1 (by simp only [pureD.pureL, z02, pureD, Bool.and_self]; rfl) rfl (z16 [] Tryz.func59 rfl (by decide +kernel) z0b (by decide +kernel) (by simp [Tryz.ntmps59]) ?_)
 show awp _ _ (Code.seq _ _) _ _
 by_cases hw : standsT u = false \/ standsT x = false \/ x.kind = 0
 ·rw [show z3o u parent i x = 1 from if_pos hw]
  rcases hw with h | h | h
  ·rw [h] at c1
   repeat' (first | refine zqj ?_ | ((first | refine zqh fun K J => ?_ | refine zqs (c1) ?_); (simp (disch := omega) only [go_sem, Nat.reduceBEq, ↓reduceIte, Nat.reduceAdd, Nat.reduceLeDiff])) | ((refine zqd _ rfl (fun hc => ?_) (fun hc => ?_)) <;> (first | (cases hc; done) | ((try simp only [] at hc); (try (exfalso; omega))))) | refine zqg ?_ | refine zqu (by (simp (disch := omega) only [go_sem]); rfl) rfl ?_ | (refine J _ ?_; clear J K))
   exact z1f rfl
  ·rw [h] at c2
   repeat' (first | refine zqj ?_ | ((first | refine zqh fun K J => ?_ | refine zqs (c1) ?_ | refine zqs (c2) ?_); (simp (disch := omega) only [go_sem, Nat.reduceBEq, ↓reduceIte, Nat.reduceAdd, Nat.reduceLeDiff])) | ((refine zqd _ rfl (fun hc => ?_) (fun hc => ?_)) <;> (first | (cases hc; done) | ((try simp only [] at hc); (try (exfalso; omega))))) | refine zqg ?_ | refine zqu (by (simp (disch := omega) only [go_sem]); rfl) rfl ?_ | (refine J _ ?_; clear J K) | (refine zqf (fun hb => ?_) (fun hb => ?_) <;> (have hb2 := hb; try simp only [z0e] at hb2) <;> ((have hb3 : (_ : Bool) = _ := hb2); (simp (disch := omega) only [go_sem, Nat.reduceBEq, ↓reduceIte, Nat.reduceAdd, Nat.reduceLeDiff, hb3]); clear hb hb3; (try (exfalso; omega)))))
   all_goals exact z1f rfl
  ·have w3d : decide (x.kind = 0) = true := decide_eq_true h
   repeat' (first | refine zqj ?_ | ((first | refine zqh fun K J => ?_ | refine zqs (c1) ?_ | refine zqs (c2) ?_); (simp (disch := omega) only [go_sem, Nat.reduceBEq, ↓reduceIte, Nat.reduceAdd, Nat.reduceLeDiff])) | ((refine zqd _ rfl (fun hc => ?_) (fun hc => ?_)) <;> (first | (cases hc; done) | ((try simp only [] at hc); (try (exfalso; omega))))) | refine zqg ?_ | refine zqu (by (simp (disch := omega) only [go_sem]); rfl) rfl ?_ | (refine J _ ?_; clear J K) | (refine zqf (fun hb => ?_) (fun hb => ?_) <;> (have hb2 := hb; try simp only [z0e] at hb2) <;> ((have hb3 : (_ : Bool) = _ := hb2); (simp (disch := omega) only [go_sem, Nat.reduceBEq, ↓reduceIte, reduceCtorEq, Nat.reduceAdd, Nat.reduceLeDiff, hb3, w3d]); clear hb hb3; (try (exfalso; omega)))))
   all_goals exact z1f rfl
 ·simp only [not_or, Bool.not_eq_false] at hw
  obtain ⟨w1, w2, w3⟩ := hw
  rw [w1] at c1
  rw [w2] at c2
  rw [zl4 u p x ok parent i w1 w2 w3 hfe] at c4
  have w3d : decide (x.kind = 0) = false := decide_eq_false w3
  repeat' (first | refine zqj ?_ | ((first | refine zqh fun K J => ?_ | refine zqs (c1) ?_ | refine zqs (c2) ?_ | refine zqs (c3) ?_); (simp (disch := omega) only [go_sem, Nat.reduceBEq, ↓reduceIte, reduceCtorEq, Nat.reduceAdd, Nat.reduceMul, Nat.reduceLeDiff, Nat.reduceLT, w3d])) | ((refine zqd _ rfl (fun hc => ?_) (fun hc => ?_)) <;> (first | (cases hc; done) | ((try simp only [] at hc); (try (exfalso; omega))))) | refine zqb ?_ | (refine J _ ?_; clear J K))
  refine z10 (PC.borrow c4 rfl 6 (z00 (z2g 5 rfl (z00 (z0t _ 2 rfl (z00 (z1s (e := 4) 2 ?_ zev (z07 1 rfl)) z09)) (z00 (z0t _ 2 rfl (z00 (z04 (e := 27) 1 ?_ z0f (z05 _)) (z00 (z04 (e := 27) 1 ?_ z0f (z05 _)) z09))) (z00 (z0t _ 2 rfl (z00 (z1s (e := 3) 2 ?_ z4m (z07 1 rfl)) (z00 (z04 (e := 27) 1 ?_ z0f (z05 _)) z09))) (z00 (z0t _ 2 rfl (z00 (z04 (e := 27) 1 ?_ z0f (z05 _)) (z00 (z04 (e := 27) 1 ?_ z0f (z05 _)) z09))) (z00 (z0t _ 2 rfl (z00 (z04 (e := 27) 1 ?_ z0f (z05 _)) (z00 (z04 (e := 27) 1 ?_ z0f (z05 _)) (z00 (z04 (e := 23) 1 ?_ z19 rfl) (z00 (z04 (e := 27) 1 ?_ z0f (z05 _)) z09))))) (z00 (z0t _ 2 rfl (z00 (z04 (e := 27) 1 ?_ z0f (z05 _)) (z00 (z04 (e := 27) 1 ?_ z0f (z05 _)) z09))) z09))))))) z09)) ?_
  all_goals try (focus ((simp (disch := omega) only [go_sem, Nat.reduceBEq, z0j]); done))
  (try (simp (disch := omega) only [go_sem, Nat.reduceBEq])); repeat' (first | refine zqn ?_ | refine zqu (by (simp (disch := omega) only [go_sem]); rfl) rfl ?_ | (refine J _ ?_; clear J K))
  exact z1f rfl
theorem zrp (u x : T) (hu : szB u = true) (hx : szB x = true) (cu : cntT u <= 1000000) (cx : cntT x <= 1000000) (du : depT u <= 1000000) (dx : depT x <= 1000000) (parent : Idv) (i : Int) :
  PC Tryz.prog 26 [z0o u, z0y parent, .int .i64 i, z0o x] (.tup [z0o (if z3o u parent i x ≠ 0 then T.zero else z1y parent (z8b i.toNat x) u), .int .i64 (z3o u parent i x)]) := by
 have c1 := zro u x hu hx cu cx du dx parent i
 refine z1w 3 (by simp only [pureD.pureL, z02, pureD, Bool.and_self]; rfl) (by simp only [pureD.pureL, z02, pureD, Bool.and_self]) (z16 [3000020, 3000021, 3000023, 5000024, 5000025] Tryz.func26 rfl (by decide +kernel) z0b (by decide +kernel) (by simp [Tryz.ntmps26]) ?_)
 show awp _ _ (Code.seq _ _) _ _
 rw [show Tryz.f26.results.toList = [.cell 8 27, .tmp 9] from rfl]
 by_cases hw : z3o u parent i x = 0
 ·obtain ⟨hr, hm, n, rfl, hn⟩ := z9n hw
  have c2 := zzd n x
  have c3 := zet u hu parent (z8b n x) (g := 121) (cap := [.rptr (.int .i64 n), .rptr (z0o x)]) (by simp only [pureD.pureL, z02, pureD, Bool.and_self]) (fun q hq hid => zuj n x hx q (zbe u hu q hq) (hn q hq hid))
  rw [(show (atR parent (z8b n x) u).1 = z1y parent (z8b n x) u from by rw [ze5 (z8b n x) ((z2p u).1 hr.1).2.2.2.1 hm])] at c3
  rw [hw] at c1 ⊢
  rw [if_neg (fun h => h rfl), Int.toNat_natCast]
  repeat' (first | refine zqj ?_ | ((first | refine zqh fun K J => ?_ | refine zqe (by decide +kernel) fun K J => ?_ | refine zqs (c1) ?_ | refine zqt (c2) ?_ | refine zqt (c3) ?_); (simp (disch := omega) only [go_sem, Nat.reduceBEq, Nat.reduceEqDiff, ↓reduceIte, Nat.reduceAdd, Nat.reduceLeDiff])) | ((refine zqd _ rfl (fun hc => ?_) (fun hc => ?_)) <;> (first | (cases hc; done) | ((try simp only [] at hc); (try (exfalso; omega))))) | refine zqb ?_ | refine zqn ?_ | refine zqu (by (simp (disch := omega) only [go_sem, Nat.reduceBEq, ↓reduceIte, Nat.reduceLeDiff]); rfl) rfl ?_ | (refine J _ ?_; clear J K))
  refine z0m ?_ (Le.refl _)
  simp only [pureD, pureD.pureL, z05, Bool.and_self]
 ·rw [if_pos hw]
  repeat' (first | refine zqj ?_ | ((first | refine zqh fun K J => ?_ | refine zqs (c1) ?_); (simp (disch := omega) only [go_sem, Nat.reduceBEq, ↓reduceIte, Nat.reduceAdd, Nat.reduceLeDiff])) | ((refine zqd _ rfl (fun hc => ?_) (fun hc => ?_)) <;> (((try simp only [z0e] at hc); (try (exfalso; omega))))) | refine zqg ?_ | refine zqu (by (simp (disch := omega) only [go_sem, Nat.reduceBEq, ↓reduceIte, Nat.reduceAdd, Nat.reduceLeDiff]); rfl) rfl ?_ | (refine J _ ?_; clear J K))
  exact z0m rfl (Le.tup ⟨z2y, Le.refl _, trivial⟩)
theorem ziq (u x : T) (hu : szB u = true) (hx : szB x = true) (cu : cntT u <= 1000000) (cx : cntT x <= 1000000) (du : depT u <= 1000000) (dx : depT x <= 1000000) (parent : Idv) :
  PC Tryz.prog 36 [z0o u, z0y parent, z0o x] (.int .i64 (z3o u parent 0 x)) := by
 have c1 := zro u x hu hx cu cx du dx parent 0
 refine z1w 1 (by simp only [pureD.pureL, z02, Bool.and_self]; rfl) rfl (z16 [] Tryz.func36 rfl (by decide +kernel) z0b (by decide +kernel) (by simp [Tryz.ntmps36]) ?_)
 show awp _ _ (Code.seq _ _) _ _
 repeat' (first | ((first | refine zqh fun K J => ?_ | refine zqs (c1) ?_); (simp (disch := omega) only [go_sem, Nat.reduceBEq, ↓reduceIte, Nat.reduceAdd, Nat.reduceLeDiff])) | refine zqn ?_ | refine zqu (by (simp (disch := omega) only [go_sem]); rfl) rfl ?_ | (refine J _ ?_; clear J K))
 exact z1f rfl
end
section
open Abs Facts Tr
namespace Tr
theorem zgl {u x : T} {parent : Idv} {n : Nat} (h1 : standsT u = true) (h2 : standsT x = true) (h3 : x.kind ≠ 0) (h4 : parent ∈ idsT u) (h5 : z1e (z08 parent u).1.kind x.kind = true) (h6 : n <= (z08 parent u).1.kids.length)
  (h7 : z3t (z08 parent u).1.kids x.kind x.label = false) (h8 : (z08 parent u).1.kids.length < 64) (h9 : (z3q parent u).length + 1 + depT x <= 8) (h10 : cntT u + cntT x <= 1024) (h11 : ∀ i ∈ idsT x, i ∉ idsT u) : z3o u parent n x = 0 := by
 unfold z3o
 rw [if_neg (by rw [h1, h2]; simp [h3]), if_neg (by rw [z2f, decide_eq_true h4]; simp), if_neg (by rw [h5]; simp), if_neg (by omega), if_neg (by rw [h7]; simp), if_neg (by omega), if_neg]
 rw [List.any_eq_true]
 rintro ⟨i, hi, hf⟩
 rw [z2f, decide_eq_true_eq] at hf
 exact h11 i hi hf
theorem zjx {C : Ctx} {q : T} {id : Idv} (hq : q.id = id) (h : id ∉ z7b C) : (z3q id (z2o C q)).length = zw5 C := by
 rw [zdl (hq ▸ z25 q) C h, z8r hq, List.nil_append, zig]
theorem z2l {t : T} (h : standsT t = true) : (idsT t).Nodup := ((z2p t).1 h).2.2.2.1
theorem zu9 {u x : T} {parent : Idv} {n : Nat} (h : z3o u parent n x = 0) : ∃ (C : Ctx) (q : T) (l r : List T), u = z2o C (q.setKids (l ++ r)) /\ l.length = n /\ q.id = parent /\ z1y parent (z8b n x) u = z2o C (q.setKids (l ++ x :: r)) /\
  standsT (z1y parent (z8b n x) u) = true /\ z0z x.id (z1y parent (z8b n x) u) = u /\ z08 x.id (z1y parent (z8b n x) u) = (x, true) /\ z7p x.id (z1y parent (z8b n x) u) = (parent, (n : Int), true) /\ ¬ (z1y parent (z8b n x) u).id = x.id /\
  (atR parent (z8b n x) u).1 = z1y parent (z8b n x) u /\ (∀ i ∈ idsT x, i ∉ idsT u) /\ cntT (z1y parent (z8b n x) u) = cntT u + cntT x := by
 obtain ⟨⟨h1, h2, h3, h4, h5, h7, h8, h9, h10, h11⟩, hm, n', hn, hle⟩ := z9n h
 obtain rfl : n = n' := by omega
 have hdis : ∀ i ∈ idsT x, i ∉ idsT u := fun i hi hm => by
  have := List.any_eq_false.1 h11 i hi
  rw [z2f, decide_eq_true hm] at this
  exact this rfl
 have hnd := z2l h1
 obtain ⟨C, e, hq, hpre, _⟩ := focus parent u hm
 have hqn := zfd h4
 have hk := hle _ hqn hq
 generalize hq0 : (z08 parent u).1 = q at *
 have e2 : q = q.setKids (q.kids.take n ++ q.kids.drop n) := by rw [List.take_append_drop, z6d]
 generalize hl : q.kids.take n = l at *
 generalize hr : q.kids.drop n = r at *
 have hln : l.length = n := by rw [<- hl, List.length_take]; omega
 have hkr : q.kids = l ++ r := by rw [<- hl, <- hr, List.take_append_drop]
 have hue : u = z2o C (q.setKids (l ++ r)) := e.trans (congrArg (z2o C) e2)
 have hxu := hdis x.id (z25 x)
 have hmx : x.id ∈ idsT (q.setKids (l ++ x :: r)) := by rw [z2m]; exact List.mem_cons_of_mem _ (zdy.2 (.inr (.inl (z25 x))))
 rw [hue, z3b, z2m, List.flatMap_append] at hxu
 simp only [List.mem_append, List.mem_cons, not_or] at hxu
 obtain ⟨k1, ⟨k2, k3, k4⟩, k5⟩ := hxu
 have hpost : parent ∉ z4r C := (z41 (x := q) (by rw [<- e]; exact hnd) (hq ▸ z25 q)).2
 have hed : z1y parent (z8b n x) u = z2o C (q.setKids (l ++ x :: r)) := by
  rw [e, z8e (z8b n x) hq C hpre hpost]
  rw [e2, <- hln, zn6]
  rfl
 have hst : standsT (z2o C (q.setKids (l ++ x :: r))) = true := by
  refine zof (by rw [<- hue]; exact h1) h2 h3 h5 (by rw [<- hkr]; exact h7) (by rw [<- hkr]; exact h8) ?_ (by rw [<- hue]; exact h10) (by rw [<- hue]; exact hdis)
  have := zjx hq hpre
  rw [<- e] at this
  omega
 rw [hed]
 refine ⟨C, q, l, r, hue, hln, hq, rfl, hst, ?_, ?_, ?_, ?_, ?_, hdis, ?_⟩
 ·rw [z8f (fun e => k2 e.symm) rfl k3 k4 C k1 k5, hue]
 ·rw [zaj hmx C k1, zh4 (fun e => k2 e.symm) k3 (z25 x), z38 rfl]
 ·rw [zh5 hmx (fun e => k2 e.symm) C k1, zmt (fun e => k2 e.symm) k3 rfl, hq, hln]
 ·intro hid
  cases C with
  | hole => exact k2 hid.symm
  | node t a c b => exact (z47 k1).1 hid
 ·rw [ze5 (z8b n x) hnd hm, hed]
 ·rw [hue, z6e, z6e, zh7]; omega
theorem zua {u : T} {id : Idv} (hs : standsT u = true) (h0 : ¬ u.id = id) (hm : id ∈ idsT u) : ∃ (under : Idv) (n : Nat) (x : T), z7p id u = (under, (n : Int), true) /\ z08 id u = (x, true) /\ x.id = id /\ standsT (z0z id u) = true /\ standsT x = true /\ x.kind ≠ 0 /\
  z3o (z0z id u) under n x = 0 /\ z1y under (z8b n x) (z0z id u) = u /\ (∀ i ∈ idsT x, i ∉ idsT (z0z id u)) /\ under ∈ idsT (z0z id u) /\ cntT (z0z id u) + cntT x = cntT u /\ (∀ i ∈ idsT u, i ∈ idsT x \/ i ∈ idsT (z0z id u)) := by
 obtain ⟨C, q, l, x, r, e, hx, hq, n1, n2, hf, hp⟩ := zrg h0 hm
 have hnd := z2l hs
 subst e
 have hxm : id ∈ idsT (q.setKids (l ++ x :: r)) := by rw [z2m]; exact List.mem_cons_of_mem _ (zdy.2 (.inr (.inl (hx ▸ z25 x))))
 obtain ⟨k1, k2⟩ := z41 hnd hxm
 have ns := (ze4 (z9f hnd)).1 id (hx ▸ z25 x)
 have hw := z8f hq hx n2 ns.2.2 C k1 k2
 obtain ⟨d1, d2, d3, d4, d5, d6, d7, d8, d9⟩ := zog hs
 rw [hw]
 have hnd2 := z2l d1
 have hqs : q.id ∈ idsT (q.setKids (l ++ r)) := by rw [z2m]; exact List.mem_cons_self
 obtain ⟨m1, m2⟩ := z41 hnd2 hqs
 have hfq : z08 q.id (z2o C (q.setKids (l ++ r))) = (q.setKids (l ++ r), true) := by rw [zaj hqs C m1]; exact z38 rfl
 refine ⟨q.id, l.length, x, hp, hf, hx, d1, d2, d3, ?_, ?_, d9, z7d C hqs, ?_, fun i hi => ?_⟩
 ·refine zgl d1 d2 d3 (z7d C hqs) (by rw [hfq]; exact d4) ?_ (by rw [hfq]; exact d5) (by rw [hfq]; exact d6) ?_ d8 d9
  ·rw [hfq]; show l.length <= (l ++ r).length; simp
  ·rw [zjx (id := q.id) (q := q.setKids (l ++ r)) rfl m1]; exact d7
 ·rw [z8e (id := q.id) (z8b l.length x) (q := q.setKids (l ++ r)) rfl C m1 m2, zn6]
 ·rw [z6e, z6e, zh7]; omega
 ·rw [z3b, z2m, List.flatMap_append, List.flatMap_cons] at hi
  rw [z3b, z2m, List.flatMap_append]
  simp only [List.mem_append, List.mem_cons] at hi ⊢
  rcases hi with h | (h | h | h | h) | h
  ·exact .inr (.inl h)
  ·exact .inr (.inr (.inl (.inl h)))
  ·exact .inr (.inr (.inl (.inr (.inl h))))
  ·exact .inl h
  ·exact .inr (.inr (.inl (.inr (.inr h))))
  ·exact .inr (.inr (.inr h))
theorem zht {id : Idv} {t : T} (h : id ∉ idsT t) : z0z id t = t := zs9 t fun k hk hm => h (by rw [z20]; exact List.mem_cons_of_mem _ (List.mem_flatMap.2 ⟨k, hk, hm⟩))
theorem zm0 (id : Idv) (t : T) : (z0z id t).id = t.id /\ (z0z id t).kind = t.kind /\ (z0z id t).label = t.label /\ (z0z id t).head = t.head /\ (z0z id t).words = t.words := by
 rw [z5e]; exact ⟨rfl, rfl, rfl, rfl, rfl⟩
theorem znn (id : Idv) : ∀ t : T, ∀ i ∈ idsT (z0z id t), i ∈ idsT t := by
 refine z5s fun t ih i hi => ?_
 rw [z5e, z2m, List.mem_cons, List.mem_flatMap] at hi
 rw [z20, List.mem_cons, List.mem_flatMap]
 rcases hi with h | ⟨k, hk, h⟩
 ·exact .inl h
 ·obtain ⟨k', hk', rfl⟩ := List.mem_map.1 hk
  exact .inr ⟨k', (List.mem_filter.1 hk').1, ih k' (List.mem_filter.1 hk').1 i h⟩
theorem zno {k : Idv} {u : T} : ∀ i ∈ idsT (z08 k u).1, (z08 k u).2 = true -> i ∈ idsT u := fun i hi hf => by
 have hm : k ∈ idsT u := by rw [z2f, decide_eq_true_eq] at hf; exact hf
 obtain ⟨C, e, _, _, _⟩ := focus k u hm
 rw [e]
 exact z7d C hi
theorem zxq {id : Idv} : ∀ u : T, depT (z0z id u) <= depT u := by
 have key : ∀ (l : List T) (g : T -> T) (p : T -> Bool), (∀ k ∈ l, depT (g k) <= depT k) -> zd1 (((l.filter p).map g).map depT) <= zd1 (l.map depT) := by
  intro l g p h
  induction l with
  | nil => simp
  | cons k l ih =>
   have h1 := h k (by simp)
   have h2 := ih fun k hk => h k (List.mem_cons_of_mem _ hk)
   rw [List.filter_cons, List.map_cons, zah]
   split
   ·rw [List.map_cons, List.map_cons, zah]; omega
   ·omega
 refine z5s fun u ih => ?_
 rw [z5e, z7v, z7v u]
 exact key u.kids (z0z id) (z7g id) ih
theorem zxr (id : Idv) (u : T) : depT (z08 id u).1 <= depT u := by
 by_cases h : id ∈ idsT u
 ·obtain ⟨C, e, _⟩ := focus id u h
  conv => rhs; rw [e]
  rw [zai]; omega
 ·rw [zik h, show depT T.zero = 0 from by decide +kernel]; omega
theorem zjy {id k : Idv} : ∀ u : T, (idsT u).Nodup -> ¬ u.id = id -> k ∈ idsT u -> (∀ y, z08 id u = (y, true) -> k ∉ idsT y) -> z08 k (z0z id u) = (z0z id (z08 k u).1, true) := by
 refine z5s fun u ih hn h0 hk hy => ?_
 by_cases hid : id ∉ idsT u
 ·rw [zht hid]
  have hf : (z08 k u).2 = true := by rw [z2f, decide_eq_true hk]
  have := zht (id := id) (t := (z08 k u).1) fun hm => hid (zno id hm hf)
  rw [this, <- hf]
 rw [Classical.not_not] at hid
 by_cases hku : u.id = k
 ·rw [z38 hku]
  exact z38 (by rw [(zm0 id u).1]; exact hku)
 ·obtain ⟨i, hi, h1, h2, h3⟩ := z95 hku (z52.2 hk)
  have hkm := z52.1 h2
  rw [z3l h3 h2]
  obtain ⟨g1, g2, g3⟩ := z5v hn
  have hki := List.getElem_mem hi
  have hkeep : ¬ u.kids[i].id = id := fun e => by
   refine hy u.kids[i] ?_ hkm
   have hw : z1l id u.kids[i] = [u.kids[i]] := z4c e
   have hne : z1l id u.kids[i] ≠ [] := by rw [hw]; simp
   rw [z3l (z3y h0 hi (fun j hj h => (z5a id _).2 (g3 i j hi h (by omega) id (e ▸ z25 _))) hne) hne]
   exact z38 e
  have hin := ih _ hki (g2 _ hki) hkeep hkm (fun y hf => hy y (by
   have hne : z1l id u.kids[i] ≠ [] := z78.1 (by rw [hf])
   rw [z3l (z3y h0 hi (fun j hj h => (z5a id _).2 (g3 i j hi h (by omega) id (z52.1 hne))) hne) hne]
   exact hf))
  have hsp : u.kids = u.kids.take i ++ u.kids[i] :: u.kids.drop (i + 1) := by rw [<- List.drop_eq_getElem_cons hi, List.take_append_drop]
  have hwk : k ∈ idsT (z0z id u.kids[i]) := by
   have : (z08 k (z0z id u.kids[i])).2 = true := by rw [hin]
   rw [z2f, decide_eq_true_eq] at this; exact this
  rw [z5e]
  have e : (u.kids.filter (z7g id)).map (z0z id) = ((u.kids.take i).filter (z7g id)).map (z0z id) ++ z0z id u.kids[i] :: ((u.kids.drop (i + 1)).filter (z7g id)).map (z0z id) := by
   conv => lhs; rw [hsp]
   rw [List.filter_append, List.filter_cons, if_pos (ze3 hkeep), List.map_append, List.map_cons]
  rw [e, zh4 hku ?_ hwk, hin]
  intro hm
  obtain ⟨y, hym, hyk⟩ := List.mem_flatMap.1 hm
  obtain ⟨y', hy', rfl⟩ := List.mem_map.1 hym
  have hmem := (List.mem_filter.1 hy').1
  obtain ⟨j, hj, rfl⟩ := List.getElem_of_mem hmem
  rw [List.length_take] at hj
  have := znn id _ k hyk
  rw [List.getElem_take] at this
  exact g3 i j hi (by omega) (by omega) k hkm this
end Tr
end
section
open Abs Facts Tr
attribute [local irreducible] awp
theorem zpp (u : T) (hu : szB u = true) (cu : cntT u <= 1000000) (du : depT u <= 1000000) : PC Tryz.prog 63 [.rptr (z0o u)] (.bool (!standsT u)) := by
 have c1 := z70 u hu (by omega) (by omega)
 refine z1w 1 (by simp only [pureD.pureL, z02, pureD, Bool.and_self]) rfl (z16 [] Tryz.func63 rfl (by decide +kernel) z0b (by decide +kernel) (by simp [Tryz.ntmps63]) ?_)
 show awp _ _ (Code.seq _ _) _ _
 repeat' (first | ((first | refine zqh fun K J => ?_ | refine zqs (c1) ?_); (simp (disch := omega) only [go_sem, Nat.reduceBEq, ↓reduceIte, Nat.reduceAdd])) | refine zqn ?_ | refine zqu (by (simp (disch := omega) only [go_sem]); rfl) rfl ?_ | (refine J _ ?_; clear J K))
 exact z03 rfl
theorem zpq (u : T) (hu : szB u = true) (cu : cntT u <= 1000000) (du : depT u <= 1000000) (id : Idv) : PC Tryz.prog 65 [.rptr (z0o u), .rptr (z0y id)] (.bool (!(z08 id u).2)) := by
 have c1 := ziz u (z6z u hu) (by omega) id
 refine z1w 1 (by simp only [pureD.pureL, z02, pureD]; rfl) rfl (z16 [] Tryz.func65 rfl (by decide +kernel) z0b (by decide +kernel) (by simp [Tryz.ntmps65]) ?_)
 show awp _ _ (Code.seq _ _) _ _
 repeat' (first | ((first | refine zqh fun K J => ?_ | refine zqs (c1) ?_); (simp (disch := omega) only [go_sem, Nat.reduceBEq, ↓reduceIte, Nat.reduceAdd])) | refine zqn ?_ | refine zqu (by (simp (disch := omega) only [go_sem]); rfl) rfl ?_ | (refine J _ ?_; clear J K))
 exact z03 rfl
theorem zpr (u : T) (id : Idv) : PC Tryz.prog 67 [.rptr (z0o u), .rptr (z0y id)] (.bool (decide (u.id = id))) := by
 refine z1w 1 (by simp only [pureD.pureL, z02, pureD]; rfl) rfl (z16 [] Tryz.func67 rfl (by decide +kernel) z0b (by decide +kernel) (by simp [Tryz.ntmps67]) ?_)
 show awp _ _ (Code.seq _ _) _ _
 repeat' (first | ((refine zqh fun K J => ?_); (simp (disch := omega) only [go_sem, Nat.reduceBEq, ↓reduceIte, reduceCtorEq, Nat.reduceAdd, Nat.reduceLeDiff])) | refine zqn ?_ | refine zqu (by (simp (disch := omega) only [go_sem]); rfl) rfl ?_ | (refine J _ ?_; clear J K))
 exact z03 rfl
theorem zps (u : T) (id : Idv) (f1 f2 f3 : FuncId) (c1 c2 c3 : List D) : z6x [(f1, c1, 1, !standsT u), (f2, c2, 4, !(z08 id u).2), (f3, c3, 9, decide (u.id = id))] = zci u id := by
 unfold zci
 cases h1 : standsT u
 ·rw [if_pos rfl]; rfl
 rw [if_neg (by simp), Bool.not_true, z3x]
 cases h2 : (z08 id u).2
 ·rw [if_pos rfl]; rfl
 rw [if_neg (by simp), Bool.not_true, z3x]
 by_cases h3 : u.id = id
 ·rw [if_pos h3, decide_eq_true h3]; rfl
 ·rw [if_neg h3, decide_eq_false h3]; rfl
theorem zm1 {u : T} {id : Idv} (h : zci u id = 0) : standsT u = true /\ id ∈ idsT u /\ ¬ u.id = id := by
 unfold zci at h
 split at h
 ·cases h
 rename_i h1
 split at h
 ·cases h
 rename_i h2
 split at h
 ·cases h
 rename_i h3
 rw [Bool.not_eq_false] at h1 h2
 rw [z2f, decide_eq_true_eq] at h2
 exact ⟨h1, h2, h3⟩
theorem zer (u : T) (hu : szB u = true) (du : depT u <= 1000000) (id : Idv) (hs : standsT u = true) (hm : id ∈ idsT u) (h0 : ¬ u.id = id) : PC Tryz.prog 69 [z0o u, z0y id] (z0o (z0z id u)) := by
 obtain ⟨i, hi, _, hw, q, hq, hk, hqn⟩ := zzz (z2l hs) h0 hm
 have h := zpw u hu (by omega) id i hi (fun q' hq' hid => by
  have := zkp (z2l hs) hq' hid
  rw [this] at hq
  simp only [Prod.mk.injEq, and_true] at hq
  rw [hq]; exact hk)
 rw [hw] at h; exact h
theorem zuf (u : T) (hu : szB u = true) (cu : cntT u <= 1000000) (du : depT u <= 1000000) (id : Idv) :
  PC Tryz.prog 27 [z0o u, z0y id] (.tup [z0o (if zci u id = 0 then z0z id u else T.zero), z0o (if zci u id = 0 then (z08 id u).1 else T.zero), .int .i64 (zci u id)]) := by
 have c3 := z7q u (z6z u hu) (by omega) id
 have c4 := z9c [(63, [.rptr (z0o u)], 1, !standsT u), (65, [.rptr (z0o u), .rptr (z0y id)], 4, !(z08 id u).2), (67, [.rptr (z0o u), .rptr (z0y id)], 9, decide (u.id = id))]
  (by simp) (by
   intro c hc
   simp only [List.mem_cons, List.not_mem_nil, or_false] at hc
   rcases hc with rfl | rfl | rfl
   ·exact ⟨by simp only [pureD.pureL, z02, pureD, Bool.and_self], zpp u hu cu du⟩
   ·exact ⟨by simp only [pureD.pureL, z02, pureD]; rfl, zpq u hu cu du id⟩
   ·exact ⟨by simp only [pureD.pureL, z02, pureD]; rfl, zpr u id⟩)
 rw [zps] at c4
 refine z1w 3 (by simp only [pureD.pureL, z02]; rfl) (by simp only [pureD.pureL, z02, pureD, Bool.and_self]) (z16 [3000029, 3000030, 5000031, 5000033, 600032, 900004, 600004, 900002, 600005, 900003] Tryz.func27 rfl (by decide +kernel) z0b (by decide +kernel) (by simp [Tryz.ntmps27]) ?_)
 show awp _ _ (Code.seq _ _) _ _
 rw [show Tryz.f27.results.toList = [.cell 4 27, .cell 5 27, .tmp 6] from rfl]
 by_cases ht : zci u id = 0
 ·obtain ⟨h1, h2, h3⟩ := zm1 ht
  rw [ht] at c4
  rw [ht, if_pos rfl, if_pos rfl]
  have c5 := zer u hu du id h1 h2 h3
  have c6 := zbw (z08 id u).1 (zc9 id u hu)
  repeat' (first | ((refine zqh fun K J => ?_); (simp (disch := omega) only [go_sem, Nat.reduceBEq, ↓reduceIte, reduceCtorEq, Nat.reduceAdd, Nat.reduceMul, Nat.reduceLeDiff])) | (refine J _ ?_; clear J K))
  refine z10 (PC.borrow c4 rfl 6 (z00 (z2g 5 rfl (z00 (z0t _ 2 rfl (z00 (z04 (e := 27) 1 ?_ z0f (z05 _)) z09)) (z00 (z0t _ 2 rfl (z00 (z04 (e := 27) 1 ?_ z0f (z05 _)) (z00 (z04 (e := 23) 1 ?_ z19 rfl) z09))) (z00 (z0t _ 2 rfl (z00 (z04 (e := 27) 1 ?_ z0f (z05 _)) (z00 (z04 (e := 23) 1 ?_ z19 rfl) z09))) z09)))) z09)) ?_
  all_goals try (focus ((simp (disch := omega) only [go_sem, Nat.reduceBEq, z0j]); done))
  (try (simp (disch := omega) only [go_sem, Nat.reduceBEq])); repeat' (first | refine zqj ?_ | ((first | refine zqh fun K J => ?_ | refine zqe (by decide +kernel) fun K J => ?_ | refine zqs (c3) ?_ | refine zqt (c5) ?_ | refine zqt (c6) ?_); (simp (disch := omega) only [go_sem, Nat.reduceBEq, Nat.reduceEqDiff, ↓reduceIte, Nat.reduceAdd, Nat.reduceLeDiff])) | ((refine zqd _ rfl (fun hc => ?_) (fun hc => ?_)) <;> (first | (cases hc; done) | ((try simp only [] at hc); (try (exfalso; omega))))) | refine zqb ?_ | refine zqn ?_ | refine zqu (by (simp (disch := omega) only [go_sem, Nat.reduceBEq, ↓reduceIte, Nat.reduceLeDiff]); rfl) rfl ?_ | (refine J _ ?_; clear J K))
  refine z0m ?_ (Le.refl _)
  simp only [pureD, pureD.pureL, z05, Bool.and_self]
 ·rw [if_neg ht, if_neg ht]
  repeat' (first | ((refine zqh fun K J => ?_); (simp (disch := omega) only [go_sem, Nat.reduceBEq, ↓reduceIte, reduceCtorEq, Nat.reduceAdd, Nat.reduceMul, Nat.reduceLeDiff])) | (refine J _ ?_; clear J K))
  refine z10 (PC.borrow c4 rfl 6 (z00 (z2g 5 rfl (z00 (z0t _ 2 rfl (z00 (z04 (e := 27) 1 ?_ z0f (z05 _)) z09)) (z00 (z0t _ 2 rfl (z00 (z04 (e := 27) 1 ?_ z0f (z05 _)) (z00 (z04 (e := 23) 1 ?_ z19 rfl) z09))) (z00 (z0t _ 2 rfl (z00 (z04 (e := 27) 1 ?_ z0f (z05 _)) (z00 (z04 (e := 23) 1 ?_ z19 rfl) z09))) z09)))) z09)) ?_
  all_goals try (focus ((simp (disch := omega) only [go_sem, Nat.reduceBEq, z0j]); done))
  (try (simp (disch := omega) only [go_sem, Nat.reduceBEq])); repeat' (first | refine zqj ?_ | ((refine zqh fun K J => ?_); (simp (disch := omega) only [go_sem, Nat.reduceBEq, ↓reduceIte, Nat.reduceAdd, Nat.reduceLeDiff])) | ((refine zqd _ rfl (fun hc => ?_) (fun hc => ?_)) <;> (((try simp only [z0e] at hc); (try (exfalso; omega))))) | refine zqg ?_ | refine zqu (by (simp (disch := omega) only [go_sem, Nat.reduceBEq, ↓reduceIte, Nat.reduceAdd, Nat.reduceLeDiff]); rfl) rfl ?_ | (refine J _ ?_; clear J K))
  exact z0m rfl (Le.tup ⟨z2y, z2y, Le.refl _, trivial⟩)
namespace Tr
end Tr
namespace Tr
end Tr
namespace Tr
def zk4 (rest p : T) (parent : Idv) (x : T) : Bool := decide (64 <= p.kids.length \/ 8 < (z3q parent rest).length + 1 + depT x)
def za9 (u : T) (id parent : Idv) (i : Int) : Int :=
 if standsT u = false then 1 else
 if (z08 id u).2 = false \/ (z08 parent u).2 = false then 4 else
 if u.id = id \/ (z08 parent (z08 id u).1).2 = true then 9 else
 if z1e (z08 parent (z0z id u)).1.kind (z08 id u).1.kind = false then 9 else
 if i < 0 \/ ((z08 parent (z0z id u)).1.kids.length : Int) < i then 3 else
 if z3t (z08 parent (z0z id u)).1.kids (z08 id u).1.kind (z08 id u).1.label = true then 10 else
 if zk4 (z0z id u) (z08 parent (z0z id u)).1 parent (z08 id u).1 = true then 6 else 0
theorem zui {u : T} {id parent : Idv} {i : Int} (h : za9 u id parent i = 0) : standsT u = true /\ id ∈ idsT u /\ parent ∈ idsT u /\ ¬ u.id = id /\ parent ∉ idsT (z08 id u).1 /\ z3o (z0z id u) parent i (z08 id u).1 = 0 := by
 unfold za9 at h
 split at h
 ·cases h
 rename_i h1
 split at h
 ·cases h
 rename_i h2
 split at h
 ·cases h
 rename_i h3
 split at h
 ·cases h
 rename_i h4
 split at h
 ·cases h
 rename_i h5
 split at h
 ·cases h
 rename_i h6
 split at h
 ·cases h
 rename_i h7
 simp only [not_or, Bool.not_eq_false, Bool.not_eq_true] at h1 h2 h3 h4 h6 h7
 obtain ⟨h2a, h2b⟩ := h2
 obtain ⟨h3a, h3b⟩ := h3
 rw [z2f, decide_eq_true_eq] at h2a h2b
 rw [z2f, decide_eq_false_iff_not] at h3b
 obtain ⟨under, n, x, d1, d2, d3, d4, d5, d6, d7, d8, d9, d10, d11, d12⟩ := zua h1 h3a h2a
 rw [d2] at h3b h4 h6 h7 ⊢
 simp only at h3b h4 h6 h7 ⊢
 have hpr : parent ∈ idsT (z0z id u) := (d12 parent h2b).resolve_left h3b
 have hc : cntT u <= 1024 := ((z2p u).1 h1).2.2.1
 unfold zk4 at h7
 rw [decide_eq_false_iff_not] at h7
 refine ⟨h1, h2a, h2b, h3a, h3b, ?_⟩
 obtain ⟨m, rfl⟩ := Int.eq_ofNat_of_zero_le (show 0 <= i by omega)
 exact zgl d4 d5 d6 hpr h4 (by omega) h6 (by omega) (by omega) (by omega) d9
theorem zk5 {u : T} {id parent : Idv} (h1 : standsT u = true) (h2 : id ∈ idsT u) (h3 : parent ∈ idsT u) (h4 : ¬ u.id = id) (h5 : parent ∉ idsT (z08 id u).1) : (z08 parent (z0z id u)).1.kind = (z08 parent u).1.kind := by
 have := zjy u (z2l h1) h4 h3 (fun y hy => by rw [hy] at h5; exact h5)
 rw [this]
 exact (zm0 id _).2.1
end Tr
theorem zxs (u : T) (hu : szB u = true) (cu : cntT u <= 1000000) (du : depT u <= 1000000) : PC Tryz.prog 71 [.rptr (z0o u)] (.bool (!standsT u)) := by
 have c1 := z70 u hu (by omega) (by omega)
 refine z1w 1 (by simp only [pureD.pureL, z02, pureD, Bool.and_self]) rfl (z16 [] Tryz.func71 rfl (by decide +kernel) z0b (by decide +kernel) (by simp [Tryz.ntmps71]) ?_)
 show awp _ _ (Code.seq _ _) _ _
 repeat' (first | ((first | refine zqh fun K J => ?_ | refine zqs (c1) ?_); (simp (disch := omega) only [go_sem, Nat.reduceBEq, ↓reduceIte, Nat.reduceAdd])) | refine zqn ?_ | refine zqu (by (simp (disch := omega) only [go_sem]); rfl) rfl ?_ | (refine J _ ?_; clear J K))
 exact z03 rfl
theorem zxt (u : T) (hu : szB u = true) (cu : cntT u <= 1000000) (du : depT u <= 1000000) (id parent : Idv) : PC Tryz.prog 72 [.rptr (z0o u), .rptr (z0y id), .rptr (z0y parent)] (.bool (!(z08 id u).2 || !(z08 parent u).2)) := by
 have c1 := ziz u (z6z u hu) (by omega) id
 have c2 := ziz u (z6z u hu) (by omega) parent
 refine z1w 1 (by simp only [pureD.pureL, z02, pureD]; rfl) rfl (z16 [] Tryz.func72 rfl (by decide +kernel) z0b (by decide +kernel) (by simp [Tryz.ntmps72]) ?_)
 show awp _ _ (Code.seq _ _) _ _
 repeat' (first | ((first | refine zqh fun K J => ?_ | refine zqs (c1) ?_ | refine zqs (c2) ?_); (simp (disch := omega) only [go_sem, Nat.reduceBEq, ↓reduceIte, Nat.reduceAdd])) | refine zqn ?_ | refine zqu (by (simp (disch := omega) only [go_sem]); rfl) rfl ?_ | (refine J _ ?_; clear J K) | (refine zqf (fun hb => ?_) (fun hb => ?_) <;> (have hb2 := hb; try simp only [z0e] at hb2) <;> ((have hb3 : (_ : Bool) = _ := hb2); (simp (disch := omega) only [go_sem, Nat.reduceBEq, ↓reduceIte, Nat.reduceAdd, hb3]); clear hb hb3; (try (exfalso; omega)))))
 all_goals exact z03 (by simp [hb2])
theorem zxu (u p x : T) (hu : szB u = true) (hx : szB x = true) (cp : p.kids.length <= 1000000) (du : depT u <= 1000000) (dx : depT x <= 1000000) (parent : Idv) : PC Tryz.prog 74 [.rptr (z0o p), .rptr (z0o u), .rptr (z0y parent), .rptr (z0o x)] (.bool (zk4 u p parent x)) := by
 have c1 := zn7 u (z6z u hu) (by omega) parent
 have c2 := zi1 x (z9w x hx) (by omega)
 have ha := znf parent u
 refine z1w 1 (by simp only [pureD.pureL, z02, pureD, Bool.and_self]; rfl) rfl (z16 [3000006, 3000010, 3000011, 5000012, 3000014, 5000015] Tryz.func74 rfl (by decide +kernel) z0b (by decide +kernel) (by simp [Tryz.ntmps74]) ?_)
 show awp _ _ (Code.seq _ _) _ _
 repeat' (first | ((first | refine zqh fun K J => ?_ | refine zqe (by decide +kernel) fun K J => ?_ | refine zqt (c1) ?_ | refine zqt (c2) ?_); (simp (disch := omega) only [go_sem, Nat.reduceBEq, Nat.reduceEqDiff, ↓reduceIte, reduceCtorEq, Nat.reduceAdd, z1b])) | refine zqn ?_ | refine zqu (by (simp (disch := omega) only [go_sem]); rfl) rfl ?_ | (refine J _ ?_; clear J K) | (refine zqf (fun hb => ?_) (fun hb => ?_) <;> (have hb2 := hb; try simp only [z0e] at hb2) <;> ((first | have hb3 := eq_false hb2 | have hb3 := eq_true hb2); (simp (disch := omega) only [go_sem, Nat.reduceBEq, Nat.reduceEqDiff, ↓reduceIte, Nat.reduceAdd, hb3]); clear hb hb3; (try (exfalso; omega)))))
 ·exact z03 (decide_eq_decide.2 (by omega))
 ·exact z03 (decide_eq_true (by omega)).symm
theorem zxv (p : T) (i : Int) : PC Tryz.prog 77 [.rptr (.int .i64 i), .rptr (z0o p)] (.bool (decide (i < 0) || decide ((p.kids.length : Int) < i))) := by
 refine z1w 1 (by simp only [pureD.pureL, z02, pureD, Bool.and_self]) rfl (z16 [] Tryz.func77 rfl (by decide +kernel) z0b (by decide +kernel) (by simp [Tryz.ntmps77]) ?_)
 show awp _ _ (Code.seq _ _) _ _
 repeat' (first | ((refine zqh fun K J => ?_); (simp (disch := omega) only [go_sem, Nat.reduceBEq, ↓reduceIte, Nat.reduceAdd])) | refine zqn ?_ | refine zqu (by (simp (disch := omega) only [go_sem]); rfl) rfl ?_ | (refine J _ ?_; clear J K) | (refine zqf (fun hb => ?_) (fun hb => ?_) <;> (have hb2 := hb; try simp only [z0e] at hb2) <;> ((first | have hb3 := eq_false hb2 | have hb3 := eq_true hb2); (simp (disch := omega) only [go_sem, Nat.reduceBEq, ↓reduceIte, reduceCtorEq, Nat.reduceAdd, hb3, z1b]); clear hb hb3; (try (exfalso; omega)))))
 all_goals exact z03 (by simp [hb2])
theorem zxw (p x : T) (hp : szB p = true) : PC Tryz.prog 78 [.rptr (z0o p), .rptr (z0o x)] (.bool (z3t p.kids x.kind x.label)) := by
 have c1 := zhe p.kids (ze0 hp).1 x.kind x.label
 refine z1w 1 (by simp only [pureD.pureL, z02, pureD, Bool.and_self]) rfl (z16 [] Tryz.func78 rfl (by decide +kernel) z0b (by decide +kernel) (by simp [Tryz.ntmps78]) ?_)
 show awp _ _ (Code.seq _ _) _ _
 repeat' (first | ((first | refine zqh fun K J => ?_ | refine zqs (c1) ?_); (simp (disch := omega) only [go_sem, Nat.reduceBEq, ↓reduceIte, reduceCtorEq, Nat.reduceAdd, z1b])) | refine zqn ?_ | refine zqu (by (simp (disch := omega) only [go_sem]); rfl) rfl ?_ | (refine J _ ?_; clear J K))
 exact z03 rfl
theorem zm3 (u : T) (id parent : Idv) (f1 f2 : FuncId) (c1 c2 : List D) : z6x [(f1, c1, 1, !standsT u), (f2, c2, 4, !(z08 id u).2 || !(z08 parent u).2)] = (if standsT u = false then 1 else if (z08 id u).2 = false \/ (z08 parent u).2 = false then 4 else 0) := by
 cases h1 : standsT u
 ·rw [if_pos rfl]; rfl
 rw [if_neg (by simp), Bool.not_true, z3x]
 cases h2 : (z08 id u).2
 ·rw [if_pos (.inl rfl)]; rfl
 cases h3 : (z08 parent u).2
 ·rw [if_pos (.inr rfl)]; rfl
 ·rw [if_neg (by simp)]; rfl
theorem zpu (rest p x : T) (parent : Idv) (i : Int) (f1 f2 f3 : FuncId) (c1 c2 c3 : List D) : z6x [(f1, c1, 3, decide (i < 0) || decide ((p.kids.length : Int) < i)), (f2, c2, 10, z3t p.kids x.kind x.label), (f3, c3, 6, zk4 rest p parent x)] =
  (if i < 0 \/ (p.kids.length : Int) < i then 3 else if z3t p.kids x.kind x.label = true then 10 else if zk4 rest p parent x = true then 6 else 0) := by
 by_cases hi : i < 0 \/ (p.kids.length : Int) < i
 ·rw [if_pos hi, show (decide (i < 0) || decide ((p.kids.length : Int) < i)) = true from by simpa using hi]; rfl
 rw [if_neg hi, show (decide (i < 0) || decide ((p.kids.length : Int) < i)) = false from by simpa using hi, z3x]
 cases ht : z3t p.kids x.kind x.label
 ·rw [if_neg (by simp), z3x]
  cases hf : zk4 rest p parent x
  ·rw [if_neg (by simp)]; rfl
  ·rw [if_pos rfl]; rfl
 ·rw [if_pos rfl]; rfl
theorem pc_Move (u : T) (hu : szB u = true) (cu : cntT u <= 1000000) (du : depT u <= 1000000) (id parent : Idv) (i : Int) :
  PC Tryz.prog 28 [z0o u, z0y id, z0y parent, .int .i64 i] (.tup [z0o (if za9 u id parent i = 0 then z1y parent (z8b i.toNat (z08 id u).1) (z0z id u) else T.zero), .int .i64 (za9 u id parent i)]) := by
 have hx := zc9 id u hu
 have hr := zrm (id := id) u hu
 have dr : depT (z0z id u) <= depT u := zxq u
 have dx : depT (z08 id u).1 <= depT u := zxr id u
 have hp := zc9 parent (z0z id u) hr
 have c1 := z7q u (z6z u hu) (by omega) id
 have c2 := z7q u (z6z u hu) (by omega) parent
 have c3 := ziz (z08 id u).1 (z6z _ hx) (by omega) parent
 have c4 := z7o (z08 parent u).1.kind (z08 id u).1.kind
 have c6 := z7q (z0z id u) (z6z _ hr) (by omega) parent
 have c7 := z9c [(71, [.rptr (z0o u)], 1, !standsT u), (72, [.rptr (z0o u), .rptr (z0y id), .rptr (z0y parent)], 4, !(z08 id u).2 || !(z08 parent u).2)]
  (by simp) (by
   intro c hc
   simp only [List.mem_cons, List.not_mem_nil, or_false] at hc
   rcases hc with rfl | rfl
   ·exact ⟨by simp only [pureD.pureL, z02, pureD, Bool.and_self], zxs u hu cu du⟩
   ·exact ⟨by simp only [pureD.pureL, z02, pureD]; rfl, zxt u hu cu du id parent⟩)
 have c8 := z9c [(77, [.rptr (.int .i64 i), .rptr (z0o (z08 parent (z0z id u)).1)], 3, decide (i < 0) || decide (((z08 parent (z0z id u)).1.kids.length : Int) < i)), (78, [.rptr (z0o (z08 parent (z0z id u)).1), .rptr (z0o (z08 id u).1)], 10, z3t (z08 parent (z0z id u)).1.kids (z08 id u).1.kind (z08 id u).1.label),
   (74, [.rptr (z0o (z08 parent (z0z id u)).1), .rptr (z0o (z0z id u)), .rptr (z0y parent), .rptr (z0o (z08 id u).1)], 6, zk4 (z0z id u) (z08 parent (z0z id u)).1 parent (z08 id u).1)]
  (by simp) (by
   intro c hc
   simp only [List.mem_cons, List.not_mem_nil, or_false] at hc
   rcases hc with rfl | rfl | rfl
   ·exact ⟨by simp only [pureD.pureL, z02, pureD, Bool.and_self], zxv _ i⟩
   ·exact ⟨by simp only [pureD.pureL, z02, pureD, Bool.and_self], zxw _ _ hp⟩
   ·exact ⟨by simp only [pureD.pureL, z02, pureD, Bool.and_self]; rfl, zxu _ _ _ hr hx (ze0 hp).1 (by omega) (by omega) parent⟩)
 rw [zm3] at c7
 rw [zpu] at c8
 refine z1w 3 (by simp only [pureD.pureL, z02, pureD, Bool.and_self]; rfl) (by simp only [pureD.pureL, z02, pureD, Bool.and_self]) (z16 [3000081, 3000082, 3000083, 3000084, 5000085, 5000086] Tryz.func28 rfl (by decide +kernel) z0b (by decide +kernel) (by simp [Tryz.ntmps28]) ?_)
 show awp _ _ (Code.seq _ _) _ _
 rw [show Tryz.f28.results.toList = [.cell 8 27, .tmp 9] from rfl]
 by_cases h1 : standsT u = false
 ·rw [if_pos h1] at c7
  rw [show za9 u id parent i = 1 from by unfold za9; rw [if_pos h1], if_neg (by decide)]
  repeat' (first | ((refine zqh fun K J => ?_); (simp (disch := omega) only [go_sem, Nat.reduceBEq, ↓reduceIte, reduceCtorEq, Nat.reduceAdd, Nat.reduceMul, Nat.reduceLeDiff])) | (refine J _ ?_; clear J K))
  refine z10 (PC.borrow c7 rfl 6 (z00 (z2g 5 rfl (z00 (z0t _ 2 rfl (z00 (z04 (e := 27) 1 ?_ z0f (z05 _)) z09)) (z00 (z0t _ 2 rfl (z00 (z04 (e := 27) 1 ?_ z0f (z05 _)) (z00 (z04 (e := 23) 1 ?_ z19 rfl) (z00 (z04 (e := 23) 1 ?_ z19 rfl) z09)))) z09))) z09)) ?_
  all_goals try (focus ((simp (disch := omega) only [go_sem, Nat.reduceBEq, z0j]); done))
  (try (simp (disch := omega) only [go_sem, Nat.reduceBEq])); repeat' (first | refine zqj ?_ | ((refine zqh fun K J => ?_); (simp (disch := omega) only [go_sem, Nat.reduceBEq, ↓reduceIte, Nat.reduceAdd, Nat.reduceLeDiff, Int.reduceEq])) | ((refine zqd _ rfl (fun hc => ?_) (fun hc => ?_)) <;> (first | (cases hc; done) | ((try simp only [] at hc); (try (exfalso; omega))))) | refine zqg ?_ | refine zqu (by (simp (disch := omega) only [go_sem, Nat.reduceBEq, ↓reduceIte, Nat.reduceAdd, Nat.reduceLeDiff]); rfl) rfl ?_ | (refine J _ ?_; clear J K))
  exact z0m rfl (Le.tup ⟨z2y, Le.refl _, trivial⟩)
 rw [if_neg h1] at c7
 by_cases h2 : (z08 id u).2 = false \/ (z08 parent u).2 = false
 ·rw [if_pos h2] at c7
  rw [show za9 u id parent i = 4 from by unfold za9; rw [if_neg h1, if_pos h2], if_neg (by decide)]
  repeat' (first | ((refine zqh fun K J => ?_); (simp (disch := omega) only [go_sem, Nat.reduceBEq, ↓reduceIte, reduceCtorEq, Nat.reduceAdd, Nat.reduceMul, Nat.reduceLeDiff])) | (refine J _ ?_; clear J K))
  refine z10 (PC.borrow c7 rfl 6 (z00 (z2g 5 rfl (z00 (z0t _ 2 rfl (z00 (z04 (e := 27) 1 ?_ z0f (z05 _)) z09)) (z00 (z0t _ 2 rfl (z00 (z04 (e := 27) 1 ?_ z0f (z05 _)) (z00 (z04 (e := 23) 1 ?_ z19 rfl) (z00 (z04 (e := 23) 1 ?_ z19 rfl) z09)))) z09))) z09)) ?_
  all_goals try (focus ((simp (disch := omega) only [go_sem, Nat.reduceBEq, z0j]); done))
  (try (simp (disch := omega) only [go_sem, Nat.reduceBEq])); repeat' (first | refine zqj ?_ | ((refine zqh fun K J => ?_); (simp (disch := omega) only [go_sem, Nat.reduceBEq, ↓reduceIte, Nat.reduceAdd, Nat.reduceLeDiff, Int.reduceEq])) | ((refine zqd _ rfl (fun hc => ?_) (fun hc => ?_)) <;> (first | (cases hc; done) | ((try simp only [] at hc); (try (exfalso; omega))))) | refine zqg ?_ | refine zqu (by (simp (disch := omega) only [go_sem, Nat.reduceBEq, ↓reduceIte, Nat.reduceAdd, Nat.reduceLeDiff]); rfl) rfl ?_ | (refine J _ ?_; clear J K))
  exact z0m rfl (Le.tup ⟨z2y, Le.refl _, trivial⟩)
 rw [if_neg h2] at c7
 rw [Bool.not_eq_false] at h1
 simp only [not_or, Bool.not_eq_false] at h2
 obtain ⟨h2a, h2b⟩ := h2
 have m1 : id ∈ idsT u := by rw [z2f, decide_eq_true_eq] at h2a; exact h2a
 have m2 : parent ∈ idsT u := by rw [z2f, decide_eq_true_eq] at h2b; exact h2b
 have e0 : za9 u id parent i = (if u.id = id \/ (z08 parent (z08 id u).1).2 = true then 9 else
   if z1e (z08 parent (z0z id u)).1.kind (z08 id u).1.kind = false then 9 else
   if i < 0 \/ ((z08 parent (z0z id u)).1.kids.length : Int) < i then 3 else
   if z3t (z08 parent (z0z id u)).1.kids (z08 id u).1.kind (z08 id u).1.label = true then 10 else
   if zk4 (z0z id u) (z08 parent (z0z id u)).1 parent (z08 id u).1 = true then 6 else 0) := by
  unfold za9; rw [if_neg (by rw [h1]; simp), if_neg (by rw [h2a, h2b]; simp)]
 have hself : decide (id = u.id) = decide (u.id = id) := decide_eq_decide.2 ⟨fun h => h.symm, fun h => h.symm⟩
 by_cases h3 : u.id = id \/ (z08 parent (z08 id u).1).2 = true \/ z1e (z08 parent u).1.kind (z08 id u).1.kind = false
 ·have e9 : za9 u id parent i = 9 := by
   rw [e0]
   by_cases h4 : u.id = id \/ (z08 parent (z08 id u).1).2 = true
   ·rw [if_pos h4]
   ·rw [if_neg h4]
    have h5 : z1e (z08 parent u).1.kind (z08 id u).1.kind = false := by
     rcases h3 with h | h | h
     ·exact (h4 (.inl h)).elim
     ·exact (h4 (.inr h)).elim
     ·exact h
    have hk := zk5 h1 m1 m2 (fun e => h4 (.inl e)) (fun hm => h4 (.inr (by rw [z2f, decide_eq_true hm])))
    rw [hk, if_pos h5]
  rw [e9, if_neg (by decide)]
  repeat' (first | ((refine zqh fun K J => ?_); (simp (disch := omega) only [go_sem, Nat.reduceBEq, ↓reduceIte, reduceCtorEq, Nat.reduceAdd, Nat.reduceMul, Nat.reduceLeDiff])) | (refine J _ ?_; clear J K))
  refine z10 (PC.borrow c7 rfl 6 (z00 (z2g 5 rfl (z00 (z0t _ 2 rfl (z00 (z04 (e := 27) 1 ?_ z0f (z05 _)) z09)) (z00 (z0t _ 2 rfl (z00 (z04 (e := 27) 1 ?_ z0f (z05 _)) (z00 (z04 (e := 23) 1 ?_ z19 rfl) (z00 (z04 (e := 23) 1 ?_ z19 rfl) z09)))) z09))) z09)) ?_
  all_goals try (focus ((simp (disch := omega) only [go_sem, Nat.reduceBEq, z0j]); done))
  (try (simp (disch := omega) only [go_sem, Nat.reduceBEq])); repeat' (first | refine zqj ?_ | ((first | refine zqh fun K J => ?_ | refine zqs (c1) ?_ | refine zqs (c2) ?_ | refine zqs (c3) ?_ | refine zqs (c4) ?_); (simp (disch := omega) only [go_sem, Nat.reduceBEq, ↓reduceIte, reduceCtorEq, Nat.reduceAdd, Nat.reduceLeDiff, hself])) | ((refine zqd _ rfl (fun hc => ?_) (fun hc => ?_)) <;> (first | (cases hc; done) | ((try simp only [z0e] at hc); (try (exfalso; omega))))) | refine zqb ?_ | refine zqg ?_ | refine zqu (by (simp (disch := omega) only [go_sem, Nat.reduceBEq, ↓reduceIte, Nat.reduceAdd, Nat.reduceLeDiff]); rfl) rfl ?_ | (refine J _ ?_; clear J K) | (refine zqf (fun hb => ?_) (fun hb => ?_) <;> (have hb2 := hb; try simp only [z0e] at hb2) <;> ((first | have hb3 : (_ : Bool) = _ := hb2 | have hb3 := eq_false hb2 | have hb3 := eq_true hb2); (simp (disch := omega) only [go_sem, Nat.reduceBEq, ↓reduceIte, reduceCtorEq, Nat.reduceAdd, Nat.reduceLeDiff, hb3]); clear hb hb3; (try (exfalso; omega)))))
  ·exact z0m rfl (Le.tup ⟨z2y, Le.refl _, trivial⟩)
  ·exfalso
   rcases h3 with h | h | h
   ·exact ‹¬ u.id = id› h
   ·rw [‹(z08 parent (z08 id u).1).2 = false›] at h; cases h
   ·rw [‹z1e (z08 parent u).1.kind (z08 id u).1.kind = true›] at h; cases h
  all_goals exact z0m rfl (Le.tup ⟨z2y, Le.refl _, trivial⟩)
 simp only [not_or, Bool.not_eq_true, Bool.not_eq_false] at h3
 obtain ⟨h3a, h3b, h3c⟩ := h3
 have n1 : parent ∉ idsT (z08 id u).1 := by rw [z2f, decide_eq_false_iff_not] at h3b; exact h3b
 have hk := zk5 h1 m1 m2 h3a n1
 rw [if_neg (by simp [h3a, h3b]), if_neg (by rw [hk, h3c]; simp)] at e0
 rw [<- e0] at c8
 have c5 := zer u hu du id h1 m1 h3a
 have h3d : decide (id = u.id) = false := decide_eq_false fun e => h3a e.symm
 rw [h3b] at c3
 rw [h3c] at c4
 by_cases hw : za9 u id parent i = 0
 ·obtain ⟨_, _, _, _, _, hwr⟩ := zui hw
  obtain ⟨hr2, hm, n, rfl, hn⟩ := z9n hwr
  have c9 := zzd n (z08 id u).1
  have c10 := zet (z0z id u) hr parent (z8b n (z08 id u).1) (g := 121) (cap := [.rptr (.int .i64 n), .rptr (z0o (z08 id u).1)]) (by simp only [pureD.pureL, z02, pureD, Bool.and_self]) (fun q hq hid => zuj n _ hx q (zbe _ hr q hq) (hn q hq hid))
  rw [(show (atR parent (z8b n (z08 id u).1) (z0z id u)).1 = z1y parent (z8b n (z08 id u).1) (z0z id u) from by rw [ze5 _ (z2l hr2.1) hm])] at c10
  rw [hw] at c8 ⊢
  rw [if_pos rfl, Int.toNat_natCast]
  repeat' (first | ((refine zqh fun K J => ?_); (simp (disch := omega) only [go_sem, Nat.reduceBEq, ↓reduceIte, reduceCtorEq, Nat.reduceAdd, Nat.reduceMul, Nat.reduceLeDiff])) | (refine J _ ?_; clear J K))
  refine z10 (PC.borrow c7 rfl 6 (z00 (z2g 5 rfl (z00 (z0t _ 2 rfl (z00 (z04 (e := 27) 1 ?_ z0f (z05 _)) z09)) (z00 (z0t _ 2 rfl (z00 (z04 (e := 27) 1 ?_ z0f (z05 _)) (z00 (z04 (e := 23) 1 ?_ z19 rfl) (z00 (z04 (e := 23) 1 ?_ z19 rfl) z09)))) z09))) z09)) ?_
  all_goals try (focus ((simp (disch := omega) only [go_sem, Nat.reduceBEq, z0j]); done))
  (try (simp (disch := omega) only [go_sem, Nat.reduceBEq])); repeat' (first | refine zqj ?_ | ((first | refine zqh fun K J => ?_ | refine zqs (c1) ?_ | refine zqs (c2) ?_ | refine zqs (c3) ?_ | refine zqs (c4) ?_ | refine zqs (c5) ?_ | refine zqs (c6) ?_); (simp (disch := omega) only [go_sem, Nat.reduceBEq, ↓reduceIte, reduceCtorEq, Nat.reduceAdd, Nat.reduceMul, Nat.reduceLeDiff, h3d])) | ((refine zqd _ rfl (fun hc => ?_) (fun hc => ?_)) <;> (first | (cases hc; done) | ((try simp only [] at hc); (try (exfalso; omega))))) | refine zqb ?_ | (refine J _ ?_; clear J K))
  refine z10 (PC.borrow c8 rfl 6 (z00 (z2g 5 rfl (z00 (z0t _ 2 rfl (z00 (z1s (e := 3) 2 ?_ z4m (z07 1 rfl)) (z00 (z04 (e := 27) 1 ?_ z0f (z05 _)) z09))) (z00 (z0t _ 2 rfl (z00 (z04 (e := 27) 1 ?_ z0f (z05 _)) (z00 (z04 (e := 27) 1 ?_ z0f (z05 _)) z09))) (z00 (z0t _ 2 rfl (z00 (z04 (e := 27) 1 ?_ z0f (z05 _)) (z00 (z04 (e := 27) 1 ?_ z0f (z05 _)) (z00 (z04 (e := 23) 1 ?_ z19 rfl) (z00 (z04 (e := 27) 1 ?_ z0f (z05 _)) z09))))) z09)))) z09)) ?_
  all_goals try (focus ((simp (disch := omega) only [go_sem, Nat.reduceBEq, z0j]); done))
  (try (simp (disch := omega) only [go_sem, Nat.reduceBEq])); repeat' (first | refine zqj ?_ | ((first | refine zqh fun K J => ?_ | refine zqe (by decide +kernel) fun K J => ?_ | refine zqt (c9) ?_ | refine zqt (c10) ?_); (simp (disch := omega) only [go_sem, Nat.reduceBEq, Nat.reduceEqDiff, ↓reduceIte, Nat.reduceAdd, Nat.reduceLeDiff])) | ((refine zqd _ rfl (fun hc => ?_) (fun hc => ?_)) <;> (first | (cases hc; done) | ((try simp only [] at hc); (try (exfalso; omega))))) | refine zqb ?_ | refine zqn ?_ | refine zqu (by (simp (disch := omega) only [go_sem, Nat.reduceBEq, ↓reduceIte, Nat.reduceLeDiff]); rfl) rfl ?_ | (refine J _ ?_; clear J K))
  refine z0m ?_ (Le.refl _)
  simp only [pureD, pureD.pureL, z05, Bool.and_self]
 ·rw [if_neg hw]
  repeat' (first | ((refine zqh fun K J => ?_); (simp (disch := omega) only [go_sem, Nat.reduceBEq, ↓reduceIte, reduceCtorEq, Nat.reduceAdd, Nat.reduceMul, Nat.reduceLeDiff])) | (refine J _ ?_; clear J K))
  refine z10 (PC.borrow c7 rfl 6 (z00 (z2g 5 rfl (z00 (z0t _ 2 rfl (z00 (z04 (e := 27) 1 ?_ z0f (z05 _)) z09)) (z00 (z0t _ 2 rfl (z00 (z04 (e := 27) 1 ?_ z0f (z05 _)) (z00 (z04 (e := 23) 1 ?_ z19 rfl) (z00 (z04 (e := 23) 1 ?_ z19 rfl) z09)))) z09))) z09)) ?_
  all_goals try (focus ((simp (disch := omega) only [go_sem, Nat.reduceBEq, z0j]); done))
  (try (simp (disch := omega) only [go_sem, Nat.reduceBEq])); repeat' (first | refine zqj ?_ | ((first | refine zqh fun K J => ?_ | refine zqs (c1) ?_ | refine zqs (c2) ?_ | refine zqs (c3) ?_ | refine zqs (c4) ?_ | refine zqs (c5) ?_ | refine zqs (c6) ?_); (simp (disch := omega) only [go_sem, Nat.reduceBEq, ↓reduceIte, reduceCtorEq, Nat.reduceAdd, Nat.reduceMul, Nat.reduceLeDiff, h3d])) | ((refine zqd _ rfl (fun hc => ?_) (fun hc => ?_)) <;> (first | (cases hc; done) | ((try simp only [] at hc); (try (exfalso; omega))))) | refine zqb ?_ | (refine J _ ?_; clear J K))
  refine z10 (PC.borrow c8 rfl 6 (z00 (z2g 5 rfl (z00 (z0t _ 2 rfl (z00 (z1s (e := 3) 2 ?_ z4m (z07 1 rfl)) (z00 (z04 (e := 27) 1 ?_ z0f (z05 _)) z09))) (z00 (z0t _ 2 rfl (z00 (z04 (e := 27) 1 ?_ z0f (z05 _)) (z00 (z04 (e := 27) 1 ?_ z0f (z05 _)) z09))) (z00 (z0t _ 2 rfl (z00 (z04 (e := 27) 1 ?_ z0f (z05 _)) (z00 (z04 (e := 27) 1 ?_ z0f (z05 _)) (z00 (z04 (e := 23) 1 ?_ z19 rfl) (z00 (z04 (e := 27) 1 ?_ z0f (z05 _)) z09))))) z09)))) z09)) ?_
  all_goals try (focus ((simp (disch := omega) only [go_sem, Nat.reduceBEq, z0j]); done))
  (try (simp (disch := omega) only [go_sem, Nat.reduceBEq])); repeat' (first | refine zqj ?_ | ((refine zqh fun K J => ?_); (simp (disch := omega) only [go_sem, Nat.reduceBEq, ↓reduceIte, Nat.reduceAdd, Nat.reduceLeDiff])) | ((refine zqd _ rfl (fun hc => ?_) (fun hc => ?_)) <;> (((try simp only [z0e] at hc); (try (exfalso; omega))))) | refine zqg ?_ | refine zqu (by (simp (disch := omega) only [go_sem, Nat.reduceBEq, ↓reduceIte, Nat.reduceAdd, Nat.reduceLeDiff]); rfl) rfl ?_ | (refine J _ ?_; clear J K))
  exact z0m rfl (Le.tup ⟨z2y, Le.refl _, trivial⟩)
namespace Tr
theorem take_zero {u x : T} {id : Idv} (h1 : standsT u = true) (h2 : z08 id u = (x, true)) (h3 : ¬ u.id = id) : zci u id = 0 := by
 unfold zci; rw [if_neg (by rw [h1]; simp), if_neg (by rw [h2]; simp), if_neg h3]
end Tr
end
section
open Abs Facts Tr
namespace Tr
inductive V where
 | mk (num : Nat) (row : Option Nat) (own : T) (kids : List V)
namespace V
def num : V -> Nat | .mk n _ _ _ => n
def row : V -> Option Nat | .mk _ r _ _ => r
def own : V -> T | .mk _ _ o _ => o
def kids : V -> List V | .mk _ _ _ ks => ks
end V
theorem V.eta (v : V) : V.mk v.num v.row v.own v.kids = v := by cases v; rfl
mutual
theorem zbz {p : V -> Prop} (h : ∀ v, (∀ k ∈ v.kids, p k) -> p v) : ∀ v, p v
 | .mk a b c ks => h (.mk a b c ks) (ind2V h ks)
theorem ind2V {p : V -> Prop} (h : ∀ v, (∀ k ∈ v.kids, p k) -> p v) : ∀ (ks : List V), ∀ k ∈ ks, p k
 | [], k, hk => by cases hk
 | t :: ts, k, hk => by
  rcases List.mem_cons.1 hk with e | hk
  ·rw [e]; exact zbz h t
  ·exact ind2V h ts k hk
end
mutual
def zvx {β : Type} (f : V -> List β -> β) : V -> β
 | .mk a b c ks => f (.mk a b c ks) (zwk f ks)
def zwk {β : Type} (f : V -> List β -> β) : List V -> List β
 | [] => []
 | t :: ts => zvx f t :: zwk f ts
end
theorem zn0 {β : Type} (f : V -> List β -> β) : ∀ ks, zwk f ks = ks.map (zvx f)
 | [] => rfl
 | t :: ts => by simp [zwk, zn0 f ts]
theorem ze1 {β : Type} (f : V -> List β -> β) (v : V) : zvx f v = f v (v.kids.map (zvx f)) := by
 cases v
 rw [zvx, zn0]; rfl
def treeV (v : V) : T := zvx (fun v l => v.own.setKids l) v
theorem z28 (v : V) : treeV v = v.own.setKids (v.kids.map treeV) := by unfold treeV; rw [ze1]
def nodesV (v : V) : List V := zvx (fun v l => v :: l.flatten) v
theorem z34 (v : V) : nodesV v = v :: v.kids.flatMap nodesV := by
 unfold nodesV
 rw [ze1, List.flatMap]
theorem z3d (v : V) : v ∈ nodesV v := by rw [z34]; exact List.mem_cons_self
theorem z22 {v k x : V} (hk : k ∈ v.kids) (hx : x ∈ nodesV k) : x ∈ nodesV v := by
 rw [z34]; exact List.mem_cons_of_mem _ (List.mem_flatMap.2 ⟨k, hk, hx⟩)
theorem z23 (v : V) : (treeV v).id = v.own.id := by rw [z28]; rfl
theorem z4h : ∀ v : V, z0p (treeV v) = (nodesV v).map treeV := by
 refine zbz fun v ih => ?_
 rw [z2q, z34, List.map_cons, z28]
 show _ :: (v.kids.map treeV).flatMap z0p = _
 congr 1
 generalize v.kids = l at ih
 induction l with
 | nil => rfl
 | cons k l ih2 =>
  simp only [List.map_cons, List.flatMap_cons, List.map_append]
  rw [ih k (by simp), ih2 fun k hk => ih k (List.mem_cons_of_mem _ hk)]
theorem z3i (v : V) : idsT (treeV v) = (nodesV v).map fun w => w.own.id := by
 unfold idsT
 rw [z4h, List.map_map]
 exact List.map_congr_left fun w _ => z23 w
theorem zn1 (v : V) : cntT (treeV v) = (nodesV v).length := by unfold cntT; rw [z4h, List.length_map]
end Tr
namespace Abs
def kdD (v : V) : D := match v.row with
 | none => .nil
 | some r => .osl r v.kids.length
def z3c (v : V) : List D := [.int .i64 v.own.id.act, .int .i64 v.own.id.item, .int .i64 v.own.id.n, .int .i64 v.own.kind, .str v.own.label, z0u v.own.head, z0u v.own.words, .nil, kdD v]
def zhb (H : HM) (v : V) : Prop := match v.row with
 | none => v.kids = []
 | some r => H r = some (.row 75 v.kids.length (v.kids.map fun k => .ptr k.num 0))
def Stand (H : HM) (v : V) : Prop := zvx (fun v (l : List Prop) => H v.num = some (.box 117 (z3c v)) /\ zhb H v /\ ∀ p ∈ l, p) v
theorem z1p (H : HM) (v : V) : Stand H v ↔ H v.num = some (.box 117 (z3c v)) /\ zhb H v /\ ∀ k ∈ v.kids, Stand H k := by
 unfold Stand
 rw [ze1]
 refine ⟨fun ⟨h1, h2, h3⟩ => ⟨h1, h2, fun k hk => h3 _ (List.mem_map.2 ⟨k, hk, rfl⟩)⟩, fun ⟨h1, h2, h3⟩ => ⟨h1, h2, fun p hp => ?_⟩⟩
 obtain ⟨k, hk, rfl⟩ := List.mem_map.1 hp
 exact h3 k hk
def objsV (v : V) : List Nat := zvx (fun v l => v.num :: (v.row.toList ++ l.flatten)) v
theorem z6g (v : V) : objsV v = v.num :: (v.row.toList ++ v.kids.flatMap objsV) := by
 unfold objsV
 rw [ze1, List.flatMap]
theorem z3j (v : V) : v.num ∈ objsV v := by rw [z6g]; exact List.mem_cons_self
theorem zn2 {v : V} {r : Nat} (h : v.row = some r) : r ∈ objsV v := by
 rw [z6g, h]
 exact List.mem_cons_of_mem _ (List.mem_append_left _ (by simp))
theorem zhc {v k : V} (hk : k ∈ v.kids) {i : Nat} (hi : i ∈ objsV k) : i ∈ objsV v := by
 rw [z6g]
 exact List.mem_cons_of_mem _ (List.mem_append_right _ (List.mem_flatMap.2 ⟨k, hk, hi⟩))
theorem zix : ∀ v : V, ∀ w ∈ nodesV v, ∀ i ∈ objsV w, i ∈ objsV v := by
 refine zbz fun v ih w hw i hi => ?_
 rw [z34, List.mem_cons] at hw
 rcases hw with rfl | hw
 ·exact hi
 ·obtain ⟨k, hk, hw⟩ := List.mem_flatMap.1 hw
  exact zhc hk (ih k hk w hw i hi)
def Under (n : Nat) (v : V) : Prop := ∀ i ∈ objsV v, i < n
def Agree (n : Nat) (H H' : HM) : Prop := ∀ id, id < n -> H' id = H id
theorem Agree.refl (n : Nat) (H : HM) : Agree n H H := fun _ _ => rfl
theorem Agree.trans {n m : Nat} {H H' H'' : HM} (h : Agree n H H') (hm : n <= m) (h' : Agree m H' H'') : Agree n H H'' := fun id hid => (h' id (by omega)).trans (h id hid)
theorem Stand.on {H H' : HM} : ∀ v : V, (∀ i ∈ objsV v, H' i = H i) -> Stand H v -> Stand H' v := by
 refine zbz fun v ih ha hs => ?_
 obtain ⟨s1, s2, s3⟩ := (z1p H v).1 hs
 refine (z1p H' v).2 ⟨by rw [ha _ (z3j v)]; exact s1, ?_, fun k hk => ih k hk (fun i hi => ha i (zhc hk hi)) (s3 k hk)⟩
 unfold zhb at s2 ⊢
 cases hr : v.row with
 | none => rw [hr] at s2; exact s2
 | some r =>
  rw [hr] at s2
  simp only at s2 ⊢
  rw [ha _ (zn2 hr)]; exact s2
theorem Stand.agree {n : Nat} {H H' : HM} (ha : Agree n H H') (v : V) (hu : Under n v) (hs : Stand H v) : Stand H' v := Stand.on v (fun i hi => ha i (hu i hi)) hs
theorem Under.le {n m : Nat} (h : n <= m) {v : V} (hu : Under n v) : Under m v := fun i hi => Nat.lt_of_lt_of_le (hu i hi) h
theorem z3e {n : Nat} {v k : V} (hu : Under n v) (hk : k ∈ v.kids) : Under n k := fun i hi => hu i (zhc hk hi)
theorem z40 {H : HM} : ∀ v : V, Stand H v -> ∀ w ∈ nodesV v, Stand H w := by
 refine zbz fun v ih hs w hw => ?_
 rw [z34, List.mem_cons] at hw
 rcases hw with rfl | hw
 ·exact hs
 ·obtain ⟨k, hk, hw⟩ := List.mem_flatMap.1 hw
  exact ih k hk (((z1p H v).1 hs).2.2 k hk) w hw
theorem z2a {n : Nat} {v : V} (hu : Under n v) {w : V} (hw : w ∈ nodesV v) : Under n w := fun i hi => hu i (zix v w hw i hi)
theorem RC_low {P : Program} {f : FuncId} {ds : List D} {H : HM} {nx : Nat} {r : D} (hr : lowD nx r = true)
  (h : AC P f ds H nx fun r' H' _ => r' = r /\ ∀ id, id < nx -> H' id = H id) : RC P f ds H nx r := by
 have h1 := zly h (fun r' H' nx' ⟨hr', hk⟩ => by
  subst hr'
  exact ⟨hr, fun id o hid ho => .inl (by rw [<- hk id hid]; exact ho)⟩)
 refine ⟨h1.1, fun s w vs e1 e2 e3 e4 => (h1.2 s w vs e1 e2 e3 e4).mono fun e w' ⟨v, r1, s1, he, ⟨hnx, H', nx', ⟨hr', hk⟩, hcut⟩, hstep, hRH, hrel⟩ => ⟨v, r1, s1, he, ⟨hr', ?_, hnx⟩, hstep, hRH, hrel⟩⟩
 subst e1; subst e2
 rw [hcut]; exact zho e3 hk
theorem z48 {P : Program} {own : List Nat} {n : FuncId} {args cap : List D} {g : List Oper -> (St -> Prop) -> St -> Prop} {rest : List Oper} {K : St -> Prop} {st : St} {dst : Option Nat} {r : D} {H : HM} {nx : Nat}
  (h : AC P n (args ++ cap) st.H st.nx fun r' H' nx' => r' = r /\ H' = H /\ nx' = nx) (h0 : z0h 5000000 own dst = false) (hm : z0h 4000000 own dst = true) (hN : z0h 10000000 own dst = true) (hs : zc2 st H nx) (hk : g rest K ((st.withH H nx).put dst r)) (ht : tcM own dst = none := by rfl) : zln P own (.fn n cap) args g rest K st dst :=
 .inr (.inr ⟨h0, hm, r, H, nx, h, .inl ⟨ht, .inr ⟨hN, hs⟩⟩, hk⟩)
theorem zhd {H : HM} {i : Nat} (hi : ∃ e cs, H i = some (.box e cs)) {f : Nat -> D} : ∀ l : List Nat, (∀ j ∈ l, ∃ e cs, H j = some (.box e cs)) -> i ∉ l -> z8y H (.ptr i 0) (l.map fun j => (.ptr j 0, f j)) = some none
 | [], _, _ => rfl
 | j :: l, hb, hn => by
  obtain ⟨e, cs, h1⟩ := hi
  obtain ⟨e2, cs2, h2⟩ := hb j (by simp)
  have hne : ¬ i = j := fun e => hn (by simp [e])
  have ih := zhd (f := f) ⟨e, cs, h1⟩ l (fun j hj => hb j (List.mem_cons_of_mem _ hj)) fun h => hn (List.mem_cons_of_mem _ h)
  simp only [List.map_cons, z8y, zfz, h1, h2, decide_eq_false hne, ih, Option.map_some, Option.map_none]
theorem ze2 {H : HM} {i : Nat} (hi : ∃ e cs, H i = some (.box e cs)) {x : D} : ∀ l : List Nat, (∀ j ∈ l, ∃ e cs, H j = some (.box e cs)) -> i ∈ l -> ∃ p, p < l.length /\ z8y H (.ptr i 0) (l.map fun j => (.ptr j 0, x)) = some (some (p, x))
 | [], _, hn => by cases hn
 | j :: l, hb, hn => by
  obtain ⟨e, cs, h1⟩ := hi
  obtain ⟨e2, cs2, h2⟩ := hb j (by simp)
  by_cases hne : i = j
  ·refine ⟨0, by simp, ?_⟩
   simp only [List.map_cons, z8y, zfz, h1, h2, decide_eq_true hne]
  ·obtain ⟨p, hp, ih⟩ := ze2 (x := x) ⟨e, cs, h1⟩ l (fun j hj => hb j (List.mem_cons_of_mem _ hj)) (by
    rcases List.mem_cons.1 hn with h | h
    ·exact (hne h).elim
    ·exact h)
   refine ⟨p + 1, by simpa using hp, ?_⟩
   simp only [List.map_cons, z8y, zfz, h1, h2, decide_eq_false hne, ih, Option.map_some]
end Abs
namespace Tr
structure Nd where
 id : Idv
 by_ : Int
structure Vn where
 u : T
 l : List Nd
def ofV (u : T) (b : Int) : Vn := ⟨u, (idsT u).map fun i => ⟨i, b⟩⟩
def byN (l : List Nd) (id : Idv) : Int := match l.find? (fun x => decide (x.id = id)) with
 | some x => x.by_
 | none => -1
def zd5 (old : Vn) (u : T) (made : List Idv) (n : Int) : Vn := ⟨u, (idsT u).map fun i => ⟨i, if byN old.l i < 0 \/ i ∈ made then n else byN old.l i⟩⟩
def zgx (v old : Vn) : Nat := v.l.countP fun x => decide (¬ byN old.l x.id = x.by_)
def zw4 (v old : V) : Nat := (nodesV v).countP fun w => !decide (w.num ∈ (nodesV old).map V.num)
structure Fits (b : Nat -> Int) (v : V) (x : Vn) : Prop where
 u : treeV v = x.u
 l : x.l = (nodesV v).map fun w => ⟨w.own.id, b w.num⟩
 nd : ((nodesV v).map fun w => w.own.id).Nodup
 pos : ∀ w ∈ nodesV v, 0 <= b w.num
theorem zmg {l : List V} {b : Nat -> Int} {w : V} (hn : (l.map fun w => w.own.id).Nodup) (hw : w ∈ l) : byN (l.map fun w => ⟨w.own.id, b w.num⟩) w.own.id = b w.num := by
 unfold byN
 induction l with
 | nil => cases hw
 | cons a l ih =>
  rw [List.map_cons, List.nodup_cons] at hn
  rw [List.map_cons, List.find?_cons]
  by_cases e : a.own.id = w.own.id
  ·rcases List.mem_cons.1 hw with rfl | hw
   ·simp
   ·exact (hn.1 (List.mem_map.2 ⟨w, hw, e.symm⟩)).elim
  ·rcases List.mem_cons.1 hw with rfl | hw
   ·exact (e rfl).elim
   ·simp only [decide_eq_false e]
    exact ih hn.2 hw
theorem zo7 {l : List V} {b : Nat -> Int} {id : Idv} (h : ∀ w ∈ l, ¬ w.own.id = id) : byN (l.map fun w => ⟨w.own.id, b w.num⟩) id = -1 := by
 unfold byN
 have : (l.map fun w : V => (⟨w.own.id, b w.num⟩ : Nd)).find? (fun x => decide (x.id = id)) = none := by
  rw [List.find?_eq_none]
  intro x hx
  obtain ⟨w, hw, rfl⟩ := List.mem_map.1 hx
  simpa using h w hw
 rw [this]
structure Apart (b : Nat -> Int) (S : List V) : Prop where
 key : ∀ v ∈ S, ∀ w ∈ S, ∀ x ∈ nodesV v, ∀ y ∈ nodesV w, x.own.id = y.own.id -> b x.num = b y.num -> x.num = y.num
 same : ∀ v ∈ S, ∀ w ∈ S, ∀ x ∈ nodesV v, ∀ y ∈ nodesV w, x.num = y.num -> x.own.id = y.own.id
theorem zvh {b : Nat -> Int} {S : List V} {v w : V} {x y : Vn} (hS : Apart b S) (hv : v ∈ S) (hw : w ∈ S) (fv : Fits b v x) (fw : Fits b w y) : zw4 v w = zgx x y := by
 unfold zw4 zgx
 rw [fv.l, List.countP_map]
 refine List.countP_congr fun a ha => ?_
 simp only [Function.comp_apply, Bool.not_eq_true', decide_eq_false_iff_not, decide_eq_true_eq]
 refine not_congr ⟨fun hm => ?_, fun he => ?_⟩
 ·obtain ⟨c, hc, e⟩ := List.mem_map.1 hm
  have hid := hS.same v hv w hw a ha c hc e.symm
  rw [fw.l, hid, zmg fw.nd hc, e]
 ·have hp := fv.pos a ha
  by_cases hex : ∃ c ∈ nodesV w, c.own.id = a.own.id
  ·obtain ⟨c, hc, e⟩ := hex
   rw [fw.l, <- e, zmg fw.nd hc] at he
   exact List.mem_map.2 ⟨c, hc, (hS.key v hv w hw a ha c hc e.symm he.symm).symm⟩
  ·rw [fw.l, zo7 fun c hc e => hex ⟨c, hc, e⟩] at he
   omega
def Upd (lo : Nat) (made : List Idv) (v v' : V) : Prop :=
 ∀ a ∈ nodesV v', (a.num < lo /\ a ∈ nodesV v /\ a.own.id ∉ made) \/ (lo <= a.num /\ (a.own.id ∈ made \/ a.own.id ∉ idsT (treeV v)))
def byU (b : Nat -> Int) (lo : Nat) (n : Int) : Nat -> Int := fun m => if m < lo then b m else n
theorem zyt {b : Nat -> Int} {lo : Nat} {n : Int} {made : List Idv} {v v' : V} {x : Vn} (hn : 0 <= n) (h : Upd lo made v v') (f : Fits b v x) (hd : ((nodesV v').map fun w => w.own.id).Nodup) : Fits (byU b lo n) v' (zd5 x (treeV v') made n) := by
 refine ⟨rfl, ?_, hd, fun w hw => ?_⟩
 ·unfold zd5
  simp only
  rw [z3i, List.map_map]
  refine List.map_congr_left fun a ha => ?_
  have hgo : (if byN x.l a.own.id < 0 \/ a.own.id ∈ made then n else byN x.l a.own.id) = byU b lo n a.num := by
   unfold byU
   rcases h a ha with ⟨h1, h2, h3⟩ | ⟨h1, h2⟩
   ·have e1 : byN x.l a.own.id = b a.num := by rw [f.l]; exact zmg f.nd h2
    have := f.pos a h2
    rw [if_pos h1, if_neg, e1]
    rintro (g | g)
    ·omega
    ·exact h3 g
   ·have hlt : ¬ a.num < lo := by omega
    rw [if_neg hlt, if_pos]
    rcases h2 with h2 | h2
    ·exact .inr h2
    ·left
     rw [f.l, zo7 fun c hc e => h2 (by rw [z3i]; exact List.mem_map.2 ⟨c, hc, e⟩)]
     decide
  show (⟨a.own.id, if byN x.l a.own.id < 0 \/ a.own.id ∈ made then n else byN x.l a.own.id⟩ : Nd) = ⟨a.own.id, byU b lo n a.num⟩
  rw [hgo]
 ·unfold byU
  split
  ·rename_i hlt
   rcases h w hw with ⟨_, h2, _⟩ | ⟨h1, _⟩
   ·exact f.pos w h2
   ·omega
  ·exact hn
theorem zvi {b : Nat -> Int} {lo : Nat} {n : Int} {v : V} {x : Vn} (hlo : ∀ w ∈ nodesV v, w.num < lo) (f : Fits b v x) : Fits (byU b lo n) v x := by
 have he : ∀ w ∈ nodesV v, byU b lo n w.num = b w.num := fun w hw => by unfold byU; rw [if_pos (hlo w hw)]
 refine ⟨f.u, ?_, f.nd, fun w hw => by rw [he w hw]; exact f.pos w hw⟩
 rw [f.l]
 exact List.map_congr_left fun w hw => by rw [he w hw]
theorem z6a {α β : Type} {f : α -> β} : ∀ {l : List α}, (l.map f).Nodup -> ∀ a ∈ l, ∀ c ∈ l, f a = f c -> a = c
 | [], _, a, ha, _, _, _ => by cases ha
 | x :: l, h, a, ha, c, hc, e => by
  rw [List.map_cons, List.nodup_cons] at h
  rcases List.mem_cons.1 ha with e1 | ha <;> rcases List.mem_cons.1 hc with e2 | hc
  ·rw [e1, e2]
  ·exact (h.1 (List.mem_map.2 ⟨c, hc, by rw [<- e, e1]⟩)).elim
  ·exact (h.1 (List.mem_map.2 ⟨a, ha, by rw [e, e2]⟩)).elim
  ·exact z6a h.2 a ha c hc e
theorem zvj {b : Nat -> Int} {lo : Nat} {n : Int} {made : List Idv} {S : List V} {v v' : V} (hS : Apart b S) (hv : v ∈ S) (hlo : ∀ w ∈ S, ∀ a ∈ nodesV w, a.num < lo /\ b a.num < n) (h : Upd lo made v v')
  (hd : ((nodesV v').map fun w => w.own.id).Nodup) (hnum : ∀ x ∈ nodesV v', ∀ y ∈ nodesV v', x.num = y.num -> x.own.id = y.own.id) : Apart (byU b lo n) (v' :: S) := by
 have hold : ∀ w ∈ S, ∀ a ∈ nodesV w, byU b lo n a.num = b a.num := fun w hw a ha => by unfold byU; rw [if_pos (hlo w hw a ha).1]
 -- a node of the new tree: an old one, or one that was made
 have hnew : ∀ a ∈ nodesV v', (a.num < lo /\ a ∈ nodesV v) \/ (lo <= a.num /\ byU b lo n a.num = n) := fun a ha => by
  rcases h a ha with ⟨h1, h2, _⟩ | ⟨h1, _⟩
  ·exact .inl ⟨h1, h2⟩
  ·exact .inr ⟨h1, by unfold byU; rw [if_neg (by omega)]⟩
 have cross : ∀ w ∈ S, ∀ x ∈ nodesV v', ∀ y ∈ nodesV w, (x.own.id = y.own.id -> byU b lo n x.num = byU b lo n y.num -> x.num = y.num) /\ (x.num = y.num -> x.own.id = y.own.id) := fun w hw x hx y hy => by
  have hy2 := hlo w hw y hy
  rcases hnew x hx with ⟨h1, h2⟩ | ⟨h1, h2⟩
  ·rw [hold v hv x h2, hold w hw y hy]
   exact ⟨hS.key v hv w hw x h2 y hy, hS.same v hv w hw x h2 y hy⟩
  ·refine ⟨fun _ e => ?_, fun e => by omega⟩
   rw [h2, hold w hw y hy] at e
   omega
 refine ⟨fun p hp q hq x hx y hy hid hb => ?_, fun p hp q hq x hx y hy he => ?_⟩
 ·rcases List.mem_cons.1 hp with e1 | hp <;> rcases List.mem_cons.1 hq with e2 | hq
  ·rw [e1] at hx; rw [e2] at hy
   rw [z6a hd x hx y hy hid]
  ·rw [e1] at hx
   exact (cross q hq x hx y hy).1 hid hb
  ·rw [e2] at hy
   exact ((cross p hp y hy x hx).1 hid.symm hb.symm).symm
  ·rw [hold p hp x hx, hold q hq y hy] at hb
   exact hS.key p hp q hq x hx y hy hid hb
 ·rcases List.mem_cons.1 hp with e1 | hp <;> rcases List.mem_cons.1 hq with e2 | hq
  ·rw [e1] at hx; rw [e2] at hy
   exact hnum x hx y hy he
  ·rw [e1] at hx
   exact (cross q hq x hx y hy).2 he
  ·rw [e2] at hy
   exact ((cross p hp y hy x hx).2 he.symm).symm
  ·exact hS.same p hp q hq x hx y hy he
theorem zgy {H : HM} {v w : V} (hv : Stand H v) (hw : Stand H w) {x y : V} (hx : x ∈ nodesV v) (hy : y ∈ nodesV w) (e : x.num = y.num) : x.own.id = y.own.id := by
 have h1 := ((z1p H x).1 (z40 v hv x hx)).1
 have h2 := ((z1p H y).1 (z40 w hw y hy)).1
 rw [e, h2] at h1
 simp only [Option.some.injEq, HObj.box.injEq, z3c, List.cons.injEq, D.int.injEq, true_and] at h1
 obtain ⟨h3, h4, h5, _⟩ := h1
 cases hx : x.own.id
 cases hy : y.own.id
 simp_all
end Tr
namespace Abs
def unitB (t : T) : HObj := .box 27 (z0g t)
def nodeB (t : T) (kd : D) : HObj := .box 117 [.int .i64 t.id.act, .int .i64 t.id.item, .int .i64 t.id.n, .int .i64 t.kind, .str t.label, z0u t.head, z0u t.words, .nil, kd]
def rowV (vs : List V) : HObj := .row 75 vs.length (vs.map fun v => .ptr v.num 0)
abbrev Gr := HM -> Nat -> V × HM × Nat
structure GS where
 r : Option Nat
 vs : List V
 H : HM
 n : Nat
def kdG (g : GS) : D := match g.r with
 | none => .nil
 | some r => .osl r g.vs.length
def stG (t : T) (b : Nat) (g : GS) (kf : T × Gr) : GS :=
 let o := kf.2 (z0d g.H g.n (some (unitB kf.1))) (g.n + 1)
 match g.r with
 | none => ⟨some o.2.2, g.vs ++ [o.1], z0d (z0d o.2.1 o.2.2 (some (rowV (g.vs ++ [o.1])))) b (some (nodeB t (.osl o.2.2 (g.vs.length + 1)))), o.2.2 + 1⟩
 | some r => ⟨some r, g.vs ++ [o.1], z0d (z0d o.2.1 r (some (rowV (g.vs ++ [o.1])))) b (some (nodeB t (.osl r (g.vs.length + 1)))), o.2.2⟩
def gs0 (t : T) (H : HM) (nx : Nat) : GS := ⟨none, [], z0d (z0d H nx (some (unitB t))) (nx + 1) (some (nodeB t .nil)), nx + 2⟩
def zzv (t : T) (l : List Gr) : Gr := fun H nx =>
 let g := (t.kids.zip l).foldl (stG t (nx + 1)) (gs0 t H nx)
 (.mk (nx + 1) g.r (t.setKids []) g.vs, g.H, g.n)
def z4t (t : T) : Gr := zfx zzv t
def zl9 (t : T) (H : HM) (nx i : Nat) : GS := ((t.kids.take i).map fun k => (k, z4t k)).foldl (stG t (nx + 1)) (gs0 t H nx)
theorem zs3 (l : List T) : l.zip (l.map z4t) = l.map fun k => (k, z4t k) := by
 induction l with
 | nil => rfl
 | cons k l ih => simp only [List.map_cons, List.zip_cons_cons, ih]
theorem z9d (t : T) (H : HM) (nx : Nat) : z4t t H nx = (.mk (nx + 1) (zl9 t H nx t.kids.length).r (t.setKids []) (zl9 t H nx t.kids.length).vs, (zl9 t H nx t.kids.length).H, (zl9 t H nx t.kids.length).n) := by
 have h : z4t t = zzv t (t.kids.map z4t) := by unfold z4t; rw [z3p]
 rw [h]
 unfold zzv zl9
 rw [zs3, List.take_length]
theorem ziv (t : T) (H : HM) (nx : Nat) : zl9 t H nx 0 = gs0 t H nx := rfl
theorem ziw (t : T) (H : HM) (nx : Nat) {i : Nat} (hi : i < t.kids.length) : zl9 t H nx (i + 1) = stG t (nx + 1) (zl9 t H nx i) (t.kids[i], z4t t.kids[i]) := by
 unfold zl9
 rw [List.take_succ_eq_append_getElem hi, List.map_append, List.foldl_append]; rfl
structure Grown (t : T) (H : HM) (nx : Nat) (o : V × HM × Nat) : Prop where
 tree : treeV o.1 = t
 le : nx + 2 <= o.2.2
 agree : Agree nx H o.2.1
 stand : Stand o.2.1 o.1
 under : Under o.2.2 o.1
 over : ∀ i ∈ objsV o.1, nx <= i
 nd : (objsV o.1).Nodup
structure GInv (t : T) (H : HM) (nx i : Nat) (g : GS) : Prop where
 vs : g.vs.map treeV = t.kids.take i
 le : nx + 2 <= g.n
 agree : Agree nx H g.H
 unit : g.H nx = some (unitB t)
 node : g.H (nx + 1) = some (nodeB t (kdG g))
 none_ : g.r = none -> g.vs = []
 row : ∀ r, g.r = some r -> nx + 2 <= r /\ r < g.n /\ g.H r = some (rowV g.vs) /\ r ∉ g.vs.flatMap objsV
 stand : ∀ v ∈ g.vs, Stand g.H v
 under : ∀ i ∈ g.vs.flatMap objsV, nx + 2 <= i /\ i < g.n
 nd : (g.vs.flatMap objsV).Nodup
theorem z1o (H : HM) (i : Nat) (o : Option HObj) : z0d H i o i = o := if_pos rfl
theorem z01 {H : HM} {i j : Nat} (o : Option HObj) (h : ¬ j = i) : z0d H i o j = H j := if_neg h
theorem zs4 {t : T} {H : HM} {nx i : Nat} {g : GS} (hg : GInv t H nx i g) (hi : i < t.kids.length) (ho : ∀ H n, Grown t.kids[i] H n (z4t t.kids[i] H n)) : GInv t H nx (i + 1) (stG t (nx + 1) g (t.kids[i], z4t t.kids[i])) := by
 have h0 := ho (z0d g.H g.n (some (unitB t.kids[i]))) (g.n + 1)
 unfold stG
 simp only
 generalize z4t t.kids[i] (z0d g.H g.n (some (unitB t.kids[i]))) (g.n + 1) = o at h0 ⊢
 obtain ⟨v, H2, n2⟩ := o
 obtain ⟨a1, a2, a3, a4, a5, a6, a7⟩ := h0
 simp only at a1 a2 a3 a4 a5 a6 a7
 have hle := hg.le
 -- what lay below g.n is as it was
 have keep : ∀ j, j < g.n -> H2 j = g.H j := fun j hj => (a3 j (by omega)).trans (z01 _ (by omega))
 have hvs : (g.vs ++ [v]).map treeV = t.kids.take (i + 1) := by
  rw [List.map_append, hg.vs, List.take_succ_eq_append_getElem hi]
  simp [a1]
 have hfl : (g.vs ++ [v]).flatMap objsV = g.vs.flatMap objsV ++ objsV v := by simp
 have hund : ∀ m, n2 <= m -> ∀ j ∈ (g.vs ++ [v]).flatMap objsV, nx + 2 <= j /\ j < m := fun m hm j hj => by
  rw [hfl, List.mem_append] at hj
  rcases hj with hj | hj
  ·have := hg.under j hj; omega
  ·have := a6 j hj; have := a5 j hj; omega
 have hnd : ((g.vs ++ [v]).flatMap objsV).Nodup := by
  rw [hfl, List.nodup_append]
  refine ⟨hg.nd, a7, fun x hx y hy e => ?_⟩
  have := hg.under x hx; have := a6 y hy; omega
 cases hr : g.r with
 | none =>
  have hv0 := hg.none_ hr
  simp only
  have hst : ∀ (o1 o2 : Option HObj), ∀ w ∈ g.vs ++ [v], Stand (z0d (z0d H2 n2 o1) (nx + 1) o2) w := fun o1 o2 w hw => by
   have hwo : ∀ j ∈ objsV w, nx + 2 <= j /\ j < n2 := fun j hj => hund n2 (Nat.le_refl _) j (List.mem_flatMap.2 ⟨w, hw, hj⟩)
   rcases List.mem_append.1 hw with hw | hw
   ·rw [hv0] at hw; cases hw
   ·rw [List.mem_singleton] at hw
    subst hw
    refine Stand.on w (fun j hj => ?_) a4
    have := hwo j hj
    rw [z01 _ (by omega), z01 _ (by omega)]
  refine ⟨hvs, by simp only; omega, ?_, ?_, ?_, (fun h => by cases h), ?_, fun w hw => hst _ _ w hw, hund _ (by simp only; omega), hnd⟩
  ·refine fun j hj => ?_
   simp only
   rw [z01 _ (by omega), z01 _ (by omega), keep j (by omega)]
   exact hg.agree j hj
  ·simp only
   rw [z01 _ (by omega), z01 _ (by omega), keep nx (by omega)]
   exact hg.unit
  ·simp only
   rw [z1o]
   unfold kdG
   simp only [List.length_append, List.length_cons, List.length_nil]
  ·intro r h
   simp only [Option.some.injEq] at h; subst h
   simp only
   refine ⟨by omega, by omega, ?_, fun hm => ?_⟩
   ·rw [z01 _ (by omega), z1o]
   ·have := hund n2 (Nat.le_refl _) _ hm; omega
 | some r =>
  obtain ⟨b1, b2, b3, b4⟩ := hg.row r hr
  simp only
  have hst : ∀ (o1 o2 : Option HObj), ∀ w ∈ g.vs ++ [v], Stand (z0d (z0d H2 r o1) (nx + 1) o2) w := fun o1 o2 w hw => by
   rcases List.mem_append.1 hw with hw | hw
   ·refine Stand.on w (fun j hj => ?_) (hg.stand w hw)
    have hm : j ∈ g.vs.flatMap objsV := List.mem_flatMap.2 ⟨w, hw, hj⟩
    have := hg.under j hm
    have hne : ¬ j = r := fun e => b4 (e ▸ hm)
    rw [z01 _ (by omega), z01 _ hne, keep j (by omega)]
   ·rw [List.mem_singleton] at hw
    subst hw
    refine Stand.on w (fun j hj => ?_) a4
    have := a6 j hj
    rw [z01 _ (by omega), z01 _ (by omega)]
  refine ⟨hvs, by simp only; omega, ?_, ?_, ?_, (fun h => by cases h), ?_, fun w hw => hst _ _ w hw, hund _ (by simp only; omega), hnd⟩
  ·refine fun j hj => ?_
   simp only
   rw [z01 _ (by omega), z01 _ (by omega), keep j (by omega)]
   exact hg.agree j hj
  ·simp only
   rw [z01 _ (by omega), z01 _ (by omega), keep nx (by omega)]
   exact hg.unit
  ·simp only
   rw [z1o]
   unfold kdG
   simp only [List.length_append, List.length_cons, List.length_nil]
  ·intro r' h
   simp only [Option.some.injEq] at h; subst h
   simp only
   refine ⟨by omega, by omega, ?_, fun hm => ?_⟩
   ·rw [z01 _ (by omega), z1o]
   ·rw [hfl, List.mem_append] at hm
    rcases hm with hm | hm
    ·exact b4 hm
    ·have := a6 _ hm; omega
theorem zs5 {t : T} (ih : ∀ k ∈ t.kids, ∀ H n, Grown k H n (z4t k H n)) (H : HM) (nx : Nat) : ∀ i, i <= t.kids.length -> GInv t H nx i (zl9 t H nx i) := by
 intro i
 induction i with
 | zero =>
  intro _
  rw [ziv]
  refine ⟨by simp [gs0], Nat.le_refl _, fun j hj => ?_, ?_, ?_, fun _ => rfl, (fun r h => by cases h), (fun v hv => by cases hv), (fun j hj => by cases hj), List.nodup_nil⟩
  ·show z0d (z0d H nx _) (nx + 1) _ j = _
   rw [z01 _ (by omega), z01 _ (by omega)]
  ·show z0d (z0d H nx _) (nx + 1) _ nx = _
   rw [z01 _ (by omega), z1o]
  ·show z0d (z0d H nx _) (nx + 1) _ (nx + 1) = _
   rw [z1o]; rfl
 | succ i ihi =>
  intro hi
  rw [ziw t H nx (by omega)]
  exact zs4 (ihi (by omega)) (by omega) (ih _ (List.getElem_mem _))
theorem z5w : ∀ t : T, ∀ H n, Grown t H n (z4t t H n) := by
 refine z5s fun t ih H nx => ?_
 have hg := zs5 ih H nx t.kids.length (Nat.le_refl _)
 rw [z9d]
 generalize zl9 t H nx t.kids.length = g at hg ⊢
 have hvs := hg.vs
 rw [List.take_length] at hvs
 have hobj : objsV (.mk (nx + 1) g.r (t.setKids []) g.vs) = (nx + 1) :: (g.r.toList ++ g.vs.flatMap objsV) := z6g _
 have hle := hg.le
 refine ⟨?_, hle, hg.agree, ?_, fun j hj => ?_, fun j hj => ?_, ?_⟩
 ·rw [z28]
  show (t.setKids []).setKids (g.vs.map treeV) = t
  rw [hvs]; exact T.eta t
 ·refine (z1p _ _).2 ⟨?_, ?_, fun k hk => hg.stand k hk⟩
  ·exact hg.node
  ·unfold zhb
   cases hr : g.r with
   | none => exact hg.none_ hr
   | some r => exact (hg.row r hr).2.2.1
 ·rw [hobj, List.mem_cons, List.mem_append] at hj
  rcases hj with rfl | hj | hj
  ·simp only; omega
  ·cases hr : g.r with
   | none => rw [hr] at hj; cases hj
   | some r => rw [hr] at hj; simp at hj; subst hj; exact (hg.row _ hr).2.1
  ·exact (hg.under j hj).2
 ·rw [hobj, List.mem_cons, List.mem_append] at hj
  rcases hj with rfl | hj | hj
  ·omega
  ·cases hr : g.r with
   | none => rw [hr] at hj; cases hj
   | some r => rw [hr] at hj; simp at hj; subst hj; have := (hg.row _ hr).1; omega
  ·have := (hg.under j hj).1; omega
 ·rw [hobj, List.nodup_cons, List.mem_append, List.nodup_append]
  refine ⟨?_, ?_, hg.nd, fun x hx y hy e => ?_⟩
  ·rintro (h | h)
   ·cases hr : g.r with
    | none => rw [hr] at h; cases h
    | some r => rw [hr] at h; simp at h; subst h; have := (hg.row _ hr).1; omega
   ·have := (hg.under _ h).1; omega
  ·cases g.r <;> simp
  ·cases hr : g.r with
   | none => rw [hr] at hx; cases hx
   | some r =>
    rw [hr] at hx; simp at hx; subst hx
    exact (hg.row _ hr).2.2.2 (e ▸ hy)
end Abs
namespace Tr
inductive Chg (lo : Nat) (id : Idv) (E : V -> V -> Prop) : V -> V -> Prop
 | here {v v' : V} : v.own.id = id -> lo <= v'.num -> v'.own.id = v.own.id -> E v v' -> Chg lo id E v v'
 | down {v k k' v' : V} {l r : List V} : ¬ v.own.id = id -> v.kids = l ++ k :: r -> (∀ x ∈ l, id ∉ idsT (treeV x)) -> Chg lo id E k k' -> v'.own = v.own -> v'.kids = l ++ k' :: r -> lo <= v'.num -> Chg lo id E v v'
theorem Chg.hit {lo : Nat} {id : Idv} {E : V -> V -> Prop} {v v' : V} (h : Chg lo id E v v') : id ∈ idsT (treeV v) := by
 induction h with
 | here h1 _ _ _ => rw [<- h1, <- z23]; exact z25 _
 | @down v k k' v' l r h1 h2 h3 h4 h5 h6 h7 ih =>
  rw [z20, z28]
  refine List.mem_cons_of_mem _ (List.mem_flatMap.2 ⟨treeV k, ?_, ih⟩)
  show treeV k ∈ v.kids.map treeV
  rw [h2]; simp
theorem Chg.root {lo : Nat} {id : Idv} {E : V -> V -> Prop} {v v' : V} (h : Chg lo id E v v') : lo <= v'.num /\ v'.own.id = v.own.id := by
 cases h with
 | here h1 h2 h3 _ => exact ⟨h2, h3⟩
 | down _ _ _ _ h5 _ h7 => exact ⟨h7, by rw [h5]⟩
theorem Chg.mono {lo lo2 : Nat} (hl : lo2 <= lo) {id : Idv} {E F : V -> V -> Prop} (hE : ∀ v v', v.own.id = id -> E v v' -> F v v') {v v' : V} (h : Chg lo id E v v') : Chg lo2 id F v v' := by
 induction h with
 | here h1 h2 h3 h4 => exact .here h1 (by omega) h3 (hE _ _ h1 h4)
 | down h1 h2 h3 _ h5 h6 h7 ih => exact .down h1 h2 h3 ih h5 h6 (by omega)
theorem znl {id : Idv} {f : T -> T} : ∀ t : T, id ∉ idsT t -> z1y id f t = t := by
 refine z5s fun t ih h => ?_
 rw [z20, List.mem_cons, not_or] at h
 rw [z9e, if_neg fun e => h.1 e.symm]
 have : t.kids.map (z1y id f) = t.kids := by
  conv => rhs; rw [<- List.map_id t.kids]
  exact List.map_congr_left fun k hk => ih k hk fun hm => h.2 (List.mem_flatMap.2 ⟨k, hk, hm⟩)
 rw [this]
 exact T.eta t
theorem z1a (v : V) : (treeV v).kids = v.kids.map treeV := by rw [z28]; rfl
theorem zds {lo : Nat} {id : Idv} {E : V -> V -> Prop} {f : T -> T} {v v' : V} (h : Chg lo id E v v') (hn : (idsT (treeV v)).Nodup) (hE : ∀ w ∈ nodesV v, ∀ w', w.own.id = id -> E w w' -> treeV w' = f (treeV w)) : treeV v' = z1y id f (treeV v) := by
 induction h with
 | here h1 h2 h3 h4 =>
  rw [z9e, if_pos (by rw [z23]; exact h1)]
  exact hE _ (z3d _) _ h1 h4
 | @down v k k' v' l r h1 h2 h3 h4 h5 h6 h7 ih =>
  obtain ⟨n1, n2, n3⟩ := z5v hn
  have hkm : treeV k ∈ (treeV v).kids := by rw [z1a, h2]; simp
  have ihk := ih (n2 _ hkm) fun w hw w' => hE w (z22 (by rw [h2]; simp) hw) w'
  rw [z9e, if_neg (by rw [z23]; exact h1), z28 v', h5, h6, z1a, h2]
  rw [z28 v]
  show v.own.setKids _ = v.own.setKids _
  congr 1
  rw [List.map_append, List.map_append, List.map_append, List.map_cons, List.map_cons, List.map_cons, ihk]
  congr 1
  ·rw [List.map_map]
   exact List.map_congr_left fun x hx => (znl _ (h3 x hx)).symm
  ·congr 1
   rw [List.map_map]
   refine List.map_congr_left fun x hx => (znl _ fun hm => ?_).symm
   -- the identifier is below k
   obtain ⟨j, hj, rfl⟩ := List.getElem_of_mem hx
   have hlen : (treeV v).kids.length = l.length + (r.length + 1) := by rw [z1a, h2]; simp
   refine n3 l.length (l.length + 1 + j) (by omega) (by omega) (by omega) id ?_ ?_
   ·have : (treeV v).kids[l.length]'(by omega) = treeV k := by simp only [z1a, h2, List.getElem_map]; congr 1; rw [List.getElem_append_right (Nat.le_refl _)]; simp
    rw [this]; exact h4.hit
   ·have : (treeV v).kids[l.length + 1 + j]'(by omega) = treeV r[j] := by
     simp only [z1a, h2, List.getElem_map]; congr 1
     rw [List.getElem_append_right (by omega), List.getElem_cons, dif_neg (by omega)]
     congr 1; omega
    rw [this]; exact hm
def za8 (id : Idv) (v : V) : List Idv := (z1l id (treeV v)).map T.id
theorem zb5 {lo : Nat} {id : Idv} {E : V -> V -> Prop} {New : V -> Prop} {v v' : V} (h : Chg lo id E v v') (hn : (idsT (treeV v)).Nodup) (hlo : ∀ a ∈ nodesV v, a.num < lo)
  (hE : ∀ w ∈ nodesV v, ∀ w', w.own.id = id -> E w w' -> ∀ c ∈ w'.kids, ∀ a ∈ nodesV c, (∃ d ∈ w.kids, a ∈ nodesV d) \/ New a) :
  ∀ a ∈ nodesV v', (lo <= a.num /\ a.own.id ∈ za8 id v) \/ (a.num < lo /\ a ∈ nodesV v /\ a.own.id ∉ za8 id v) \/ New a := by
 induction h with
 | @here v v' h1 h2 h3 h4 =>
  intro a ha
  have hp : za8 id v = [id] := by unfold za8; rw [z4c (by rw [z23]; exact h1)]; simp [z23, h1]
  obtain ⟨n1, _, _⟩ := z5v hn
  rw [z34, List.mem_cons] at ha
  rcases ha with rfl | ha
  ·exact .inl ⟨h2, by rw [hp, h3, h1]; simp⟩
  ·obtain ⟨c, hc, ha⟩ := List.mem_flatMap.1 ha
   rcases hE _ (z3d _) _ h1 h4 c hc a ha with ⟨d, hd, hda⟩ | hN
   ·have hav := z22 hd hda
    refine .inr (.inl ⟨hlo a hav, hav, ?_⟩)
    rw [hp, List.mem_singleton]
    intro e
    refine n1 (treeV d) (by rw [z1a]; exact List.mem_map.2 ⟨d, hd, rfl⟩) ?_
    rw [z23, h1, <- e, z3i]
    exact List.mem_map.2 ⟨a, hda, rfl⟩
   ·exact .inr (.inr hN)
 | @down v k k' v' l r h1 h2 h3 h4 h5 h6 h7 ih =>
  intro a ha
  obtain ⟨n1, n2, n3⟩ := z5v hn
  have hk : k ∈ v.kids := by rw [h2]; simp
  have hkm : treeV k ∈ (treeV v).kids := by rw [z1a]; exact List.mem_map.2 ⟨k, hk, rfl⟩
  have hlen : (treeV v).kids.length = l.length + (r.length + 1) := by rw [z1a, h2]; simp
  have hgk : (treeV v).kids[l.length]'(by omega) = treeV k := by simp only [z1a, h2, List.getElem_map]; congr 1; rw [List.getElem_append_right (Nat.le_refl _)]; simp
  have hway : z1l id (treeV v) = treeV v :: z1l id (treeV k) := by
   rw [<- hgk]
   refine z3y (by rw [z23]; exact h1) (i := l.length) (by omega) (fun j hj hjl => ?_) (by rw [hgk]; exact z52.2 h4.hit)
   have : (treeV v).kids[j] = treeV l[j] := by simp only [z1a, h2, List.getElem_map]; congr 1; rw [List.getElem_append_left hj]
   rw [this]
   exact (z5a _ _).2 (h3 _ (List.getElem_mem hj))
  have hp : za8 id v = v.own.id :: za8 id k := by unfold za8; rw [hway, List.map_cons, z23]
  have hsub : ∀ i ∈ za8 id k, i ∈ idsT (treeV k) := fun i hi => by
   obtain ⟨z, hz, rfl⟩ := List.mem_map.1 hi
   exact List.mem_map.2 ⟨z, zca _ _ z hz, rfl⟩
  -- a node below another kid
  have beside : ∀ j (hj : j < (treeV v).kids.length), j ≠ l.length -> ∀ i ∈ idsT (treeV v).kids[j], i ∉ za8 id v := fun j hj hne i hi hm => by
   rw [hp, List.mem_cons] at hm
   rcases hm with rfl | hm
   ·exact n1 _ (List.getElem_mem hj) (by rw [z23]; exact hi)
   ·exact n3 j l.length hj (by omega) hne i hi (by rw [hgk]; exact hsub i hm)
  rw [z34, List.mem_cons] at ha
  rcases ha with rfl | ha
  ·exact .inl ⟨h7, by rw [hp, h5]; simp⟩
  ·obtain ⟨c, hc, ha⟩ := List.mem_flatMap.1 ha
   rw [h6] at hc
   have old : ∀ j (hj : j < v.kids.length), j ≠ l.length -> c = v.kids[j] -> (a.num < lo /\ a ∈ nodesV v /\ a.own.id ∉ za8 id v) := fun j hj hne e => by
    have hav := z22 (List.getElem_mem hj) (e ▸ ha)
    refine ⟨hlo a hav, hav, beside j (by rw [z1a, List.length_map]; exact hj) hne _ ?_⟩
    simp only [z1a, List.getElem_map]
    rw [z3i]
    exact List.mem_map.2 ⟨a, e ▸ ha, rfl⟩
   have hvl : v.kids.length = l.length + (r.length + 1) := by rw [h2]; simp
   rcases List.mem_append.1 hc with hc | hc
   ·obtain ⟨j, hj, rfl⟩ := List.getElem_of_mem hc
    exact .inr (.inl (old j (by omega) (by omega) (by simp only [h2]; rw [List.getElem_append_left hj])))
   ·rcases List.mem_cons.1 hc with rfl | hc
    ·rcases ih (n2 _ hkm) (fun x hx => hlo x (z22 hk hx)) (fun w hw => hE w (z22 hk hw)) a ha with ⟨g1, g2⟩ | ⟨g1, g2, g3⟩ | g
     ·exact .inl ⟨g1, by rw [hp]; exact List.mem_cons_of_mem _ g2⟩
     ·refine .inr (.inl ⟨g1, z22 hk g2, ?_⟩)
      rw [hp, List.mem_cons, not_or]
      refine ⟨fun e => n1 _ hkm ?_, g3⟩
      rw [z23, <- e, z3i]
      exact List.mem_map.2 ⟨a, g2, rfl⟩
     ·exact .inr (.inr g)
    ·obtain ⟨j, hj, rfl⟩ := List.getElem_of_mem hc
     refine .inr (.inl (old (l.length + 1 + j) (by omega) (by omega) ?_))
     simp only [h2]
     rw [List.getElem_append_right (by omega), List.getElem_cons, dif_neg (by omega)]
     congr 1; omega
end Tr
namespace Abs
abbrev Ch := HM -> Nat -> Option Nat × HM × Nat
abbrev zpa := V -> Nat -> Option Nat -> HM -> Nat -> HM × Nat
def idB (i : Idv) : HObj := .box 23 (z0j i)
def kdR (r : Option Nat) (n : Nat) : D := match r with
 | none => .nil
 | some r => .osl r n
def row0 : HObj := .row 75 0 []
def zay (v : V) (H : HM) (n : Nat) : Option Nat × HM × Nat := match v.row with
 | none => (none, H, n)
 | some _ => (some (n + 1), z0d (z0d H n (some row0)) (n + 1) (some (rowV v.kids)), n + 2)
def setK (v : V) (r : Option Nat) (i x : Nat) (H : HM) : HM := match r with
 | none => H
 | some r => z0d H r (some (.row 75 v.kids.length ((v.kids.map fun k => .ptr k.num 0).set i (.ptr x 0))))
def zlp (v : V) (c : Nat) (r : Option Nat) : List Ch -> Nat -> Ch
 | [], _, H, n => (none, H, n)
 | f :: l, i, H, n => if (f H n).1.isSome = true then (some c, setK v r i ((f H n).1.getD 0) (f H n).2.1, (f H n).2.2) else zlp v c r l (i + 1) (f H n).2.1 (f H n).2.2
def chgF (id : Idv) (E : zpa) (v : V) (l : List Ch) : Ch := fun H n =>
 let k := zay v (z0d H n (some (idB id))) (n + 1)
 let H3 := z0d k.2.1 k.2.2 (some (nodeB v.own (kdR k.1 v.kids.length)))
 if v.own.id = id then (some k.2.2, E v k.2.2 k.1 H3 (k.2.2 + 1)) else zlp v k.2.2 k.1 l 0 H3 (k.2.2 + 1)
def zlq (id : Idv) (E : zpa) (v : V) : Ch := zvx (chgF id E) v
theorem ztc (id : Idv) (E : zpa) (v : V) : zlq id E v = chgF id E v (v.kids.map (zlq id E)) := by unfold zlq; rw [ze1]
structure PreE (lo m : Nat) (H : HM) (n c : Nat) (r : Option Nat) (v : V) : Prop where
 lom : lo <= m
 mc : m <= c
 cn : c < n
 box : H c = some (nodeB v.own (kdR r v.kids.length))
 nor : r = none -> v.kids = []
 row : ∀ q, r = some q -> m <= q /\ q < c /\ H q = some (rowV v.kids)
 kids : ∀ k ∈ v.kids, Stand H k /\ Under lo k
structure PostE (lo m : Nat) (H : HM) (n c : Nat) (w : V) (Q : V -> V -> Prop) (o : HM × Nat) (w' : V) : Prop where
 num : w'.num = c
 id : w'.own.id = w.own.id
 stand : Stand o.1 w'
 under : Under o.2 w'
 objs : ∀ j ∈ objsV w', j < lo \/ m <= j
 le : n <= o.2
 agree : Agree m H o.1
 q : Q w w'
def zlr (lo : Nat) (H0 : HM) (E : zpa) (Q : V -> V -> Prop) (w : V) : Prop := ∀ m H n c r, PreE lo m H n c r w -> Agree lo H0 H -> ∃ w', PostE lo m H n c w Q (E w c r H n) w'
structure ChgOK (lo : Nat) (id : Idv) (Q : V -> V -> Prop) (v : V) (H : HM) (n : Nat) (o : Option Nat × HM × Nat) : Prop where
 le : n <= o.2.2
 agree : Agree n H o.2.1
 no : id ∉ idsT (treeV v) -> o.1 = none
 yes : id ∈ idsT (treeV v) -> ∃ v', o.1 = some v'.num /\ Chg n id Q v v' /\ Stand o.2.1 v' /\ Under o.2.2 v' /\ ∀ j ∈ objsV v', j < lo \/ n <= j
theorem zhh (v : V) (id : Idv) : id ∈ idsT (treeV v) ↔ v.own.id = id \/ ∃ k ∈ v.kids, id ∈ idsT (treeV k) := by
 rw [z20, List.mem_cons, z23, z1a, List.mem_flatMap]
 refine or_congr eq_comm ⟨fun ⟨a, ha, h⟩ => ?_, fun ⟨k, hk, h⟩ => ⟨_, List.mem_map.2 ⟨k, hk, rfl⟩, h⟩⟩
 obtain ⟨k, hk, rfl⟩ := List.mem_map.1 ha
 exact ⟨k, hk, h⟩
theorem zls {lo : Nat} {id : Idv} {E : zpa} {Q : V -> V -> Prop} {v : V} {m : Nat} {H3 : HM} {n3 c : Nat} {r : Option Nat} (hp : PreE lo m H3 n3 c r v) {H0 : HM} (h03 : Agree lo H0 H3) (hid : ¬ v.own.id = id)
  (ih : ∀ k ∈ v.kids, ∀ H n, lo <= n -> Agree lo H0 H -> Stand H k -> Under lo k -> ChgOK lo id Q k H n (zlq id E k H n)) :
  ∀ (K L : List V), v.kids = L ++ K -> (∀ x ∈ L, id ∉ idsT (treeV x)) -> ∀ H n, n3 <= n -> Agree n3 H3 H ->
   let o := zlp v c r (K.map (zlq id E)) L.length H n
   n <= o.2.2 /\ Agree m H3 o.2.1 /\ ((∀ x ∈ K, id ∉ idsT (treeV x)) -> o.1 = none) /\
   ((∃ x ∈ K, id ∈ idsT (treeV x)) -> ∃ v', o.1 = some v'.num /\ Chg m id Q v v' /\ Stand o.2.1 v' /\ Under o.2.2 v' /\ ∀ j ∈ objsV v', j < lo \/ m <= j) := by
 have hlom := hp.lom
 have hmc := hp.mc
 have hcn := hp.cn
 intro K
 induction K with
 | nil =>
  intro L hL hno H n hn ha
  exact ⟨Nat.le_refl _, fun j hj => ha j (by omega), fun _ => rfl, fun ⟨x, hx, _⟩ => by cases hx⟩
 | cons k K ihK =>
  intro L hL hno H n hn ha
  have hkv : k ∈ v.kids := by rw [hL]; simp
  obtain ⟨hks, hku⟩ := hp.kids k hkv
  have hsk : ∀ x ∈ v.kids, Stand H x := fun x hx => Stand.agree (n := lo) (fun j hj => ha j (by omega)) x (hp.kids x hx).2 (hp.kids x hx).1
  have hk := ih k hkv H n (by omega) (fun j hj => (ha j (by omega)).trans (h03 j hj)) (hsk k hkv) hku
  simp only [List.map_cons, zlp]
  generalize zlq id E k H n = o1 at hk ⊢
  obtain ⟨x1, H1, n1⟩ := o1
  obtain ⟨k1, k2, k3, k4⟩ := hk
  simp only at k1 k2 k3 k4 ⊢
  have hag : Agree n3 H3 H1 := fun j hj => (k2 j (by omega)).trans (ha j hj)
  by_cases hin : id ∈ idsT (treeV k)
  ·obtain ⟨k', rfl, hch, hst, hun, hob⟩ := k4 hin
   simp only [Option.isSome_some, if_true, Option.getD_some]
   obtain ⟨q, hq⟩ : ∃ q, r = some q := by
    cases hr : r with
    | none => rw [hp.nor hr] at hkv; cases hkv
    | some q => exact ⟨q, rfl⟩
   subst hq
   obtain ⟨r1, r2, r3⟩ := hp.row q rfl
   have hset : setK v (some q) L.length k'.num H1 = z0d H1 q (some (rowV (L ++ k' :: K))) := by
    unfold setK rowV
    simp only
    rw [hL]
    simp
   rw [hset]
   refine ⟨by omega, fun j hj => ?_, fun h => (h k (by simp) hin).elim, fun _ => ⟨.mk c (some q) v.own (L ++ k' :: K), rfl, ?_, ?_, ?_, ?_⟩⟩
   ·rw [z01 _ (by omega)]
    exact hag j (by omega)
   ·exact .down hid hL hno (Chg.mono (by omega) (fun _ _ _ h => h) hch) rfl rfl hmc
   ·refine (z1p _ _).2 ⟨?_, ?_, fun x hx => ?_⟩
    ·show z0d H1 q _ c = _
     rw [z01 _ (by omega), hag c (by omega), hp.box]
     show some (nodeB v.own (.osl q v.kids.length)) = _
     have hl : (L ++ k' :: K).length = v.kids.length := by rw [hL]; simp
     show _ = some (HObj.box _ (z3c (.mk c (some q) v.own (L ++ k' :: K))))
     unfold z3c kdD
     simp only [V.row, V.kids, V.own]
     rw [hl]; rfl
    ·show z0d H1 q _ q = _
     rw [z1o]; rfl
    ·have old : ∀ x ∈ v.kids, Stand (z0d H1 q (some (rowV (L ++ k' :: K)))) x := fun x hx => by
      refine Stand.on x (fun j hj => ?_) (hp.kids x hx).1
      have := (hp.kids x hx).2 j hj
      rw [z01 _ (by omega)]
      exact hag j (by omega)
     rcases List.mem_append.1 hx with hx | hx
     ·exact old x (by rw [hL]; exact List.mem_append_left _ hx)
     ·rcases List.mem_cons.1 hx with rfl | hx
      ·refine Stand.on x (fun j hj => ?_) hst
       have := hob j hj
       rw [z01 _ (by omega)]
      ·exact old x (by rw [hL]; exact List.mem_append_right _ (List.mem_cons_of_mem _ hx))
   all_goals
    intro j hj
    rw [z6g, List.mem_cons, List.mem_append] at hj
    rcases hj with e | hj | hj
    ·have e : j = c := e
     omega
    ·have hj : j ∈ (some q).toList := hj
     simp only [Option.toList_some, List.mem_singleton] at hj
     omega
    ·obtain ⟨x, hx, hj2⟩ := List.mem_flatMap.1 hj
     clear hj
     rcases List.mem_append.1 hx with hx | hx
     ·have := (hp.kids x (by rw [hL]; exact List.mem_append_left _ hx)).2 j hj2; omega
     ·rcases List.mem_cons.1 hx with e | hx
      ·rw [e] at hj2
       have := hob j hj2; have := hun j hj2; omega
      ·have := (hp.kids x (by rw [hL]; exact List.mem_append_right _ (List.mem_cons_of_mem _ hx))).2 j hj2; omega
  ·have hx1 := k3 hin
   subst hx1
   simp only [Option.isSome_none, Bool.false_eq_true, if_false]
   have hL2 : v.kids = (L ++ [k]) ++ K := by rw [hL]; simp
   have hno2 : ∀ x ∈ L ++ [k], id ∉ idsT (treeV x) := fun x hx => by
    rcases List.mem_append.1 hx with hx | hx
    ·exact hno x hx
    ·rw [List.mem_singleton] at hx; subst hx; exact hin
   have h := ihK (L ++ [k]) hL2 hno2 H1 n1 (by omega) hag
   rw [List.length_append, List.length_singleton] at h
   obtain ⟨g1, g2, g3, g4⟩ := h
   refine ⟨by omega, g2, fun hall => g3 fun x hx => hall x (List.mem_cons_of_mem _ hx), fun ⟨x, hx, hxi⟩ => g4 ?_⟩
   rcases List.mem_cons.1 hx with rfl | hx
   ·exact (hin hxi).elim
   ·exact ⟨x, hx, hxi⟩
theorem zjg {lo n : Nat} {id : Idv} {H : HM} {v : V} (hlo : lo <= n) (hs : Stand H v) (hu : Under lo v) :
  let k := zay v (z0d H n (some (idB id))) (n + 1)
  let H3 := z0d k.2.1 k.2.2 (some (nodeB v.own (kdR k.1 v.kids.length)))
  PreE lo n H3 (k.2.2 + 1) k.2.2 k.1 v /\ Agree n H H3 /\ n < k.2.2 /\ H3 n = some (idB id) := by
 obtain ⟨s1, s2, s3⟩ := (z1p H v).1 hs
 unfold zay
 unfold zhb at s2
 cases hr : v.row with
 | none =>
  rw [hr] at s2
  simp only at s2 ⊢
  have hag : ∀ o : Option HObj, Agree n H (z0d (z0d H n (some (idB id))) (n + 1) o) := fun o j hj => by rw [z01 _ (by omega), z01 _ (by omega)]
  refine ⟨⟨hlo, by omega, by omega, z1o _ _ _, fun _ => s2, (fun q h => by cases h), fun k hk => ?_⟩, hag _, by omega, by rw [z01 _ (by omega), z1o]⟩
  rw [s2] at hk; cases hk
 | some r =>
  simp only
  have hag : ∀ o : Option HObj, Agree n H (z0d (z0d (z0d (z0d H n (some (idB id))) (n + 1) (some row0)) (n + 1 + 1) (some (rowV v.kids))) (n + 1 + 2) o) := fun o j hj => by
   rw [z01 _ (by omega), z01 _ (by omega), z01 _ (by omega), z01 _ (by omega)]
  refine ⟨⟨hlo, by omega, by omega, z1o _ _ _, (fun h => by cases h), fun q h => ?_, fun k hk => ?_⟩, hag _, by omega, by rw [z01 _ (by omega), z01 _ (by omega), z01 _ (by omega), z1o]⟩
  ·simp only [Option.some.injEq] at h
   subst h
   refine ⟨by omega, by omega, ?_⟩
   rw [z01 _ (by omega), z1o]
  ·exact ⟨Stand.agree (fun j hj => hag _ j (by omega)) k (z3e hu hk) (s3 k hk), z3e hu hk⟩
theorem zjh {lo : Nat} {id : Idv} {E : zpa} {Q : V -> V -> Prop} {H0 : HM} : ∀ v : V, (∀ w ∈ nodesV v, w.own.id = id -> zlr lo H0 E Q w) -> ∀ H n, lo <= n -> Agree lo H0 H -> Stand H v -> Under lo v -> ChgOK lo id Q v H n (zlq id E v H n) := by
 refine zbz fun v ih hE H n hlo h0 hs hu => ?_
 obtain ⟨hp, hag, hnk, _⟩ := zjg (id := id) hlo hs hu
 rw [ztc]
 unfold chgF
 simp only
 generalize hk : zay v (z0d H n (some (idB id))) (n + 1) = k at hp hag hnk ⊢
 obtain ⟨r, Hk, c⟩ := k
 simp only at hp hag hnk ⊢
 have h03 : Agree lo H0 (z0d Hk c (some (nodeB v.own (kdR r v.kids.length)))) := fun j hj => (hag j (by omega)).trans (h0 j hj)
 by_cases hid : v.own.id = id
 ·rw [if_pos hid]
  obtain ⟨w', hw⟩ := hE v (z3d v) hid _ _ _ _ _ hp h03
  generalize E v c r (z0d Hk c (some (nodeB v.own (kdR r v.kids.length)))) (c + 1) = o at hw ⊢
  have hle := hw.le
  refine ⟨by simp only; omega, fun j hj => (hw.agree j hj).trans (hag j hj), fun h => (h ((zhh v id).2 (.inl hid))).elim, fun _ => ⟨w', by rw [hw.num], .here hid (by rw [hw.num]; omega) hw.id hw.q, hw.stand, hw.under, hw.objs⟩⟩
 ·rw [if_neg hid]
  have h := zls (id := id) (E := E) (Q := Q) hp h03 hid (fun k hk H n h1 h2 h3 h4 => ih k hk (fun w hw => hE w (z22 hk hw)) H n h1 h2 h3 h4) v.kids [] rfl (fun x hx => by cases hx) _ _ (Nat.le_refl _) (Agree.refl _ _)
  simp only [List.length_nil] at h
  obtain ⟨g1, g2, g3, g4⟩ := h
  refine ⟨by omega, fun j hj => (g2 j hj).trans (hag j hj), fun hno => g3 fun x hx hxi => hno ((zhh v id).2 (.inr ⟨x, hx, hxi⟩)), fun hin => g4 ?_⟩
  rcases (zhh v id).1 hin with e | h
  ·exact (hid e).elim
  ·exact h
end Abs
end
section
open Abs Facts Tr
attribute [local irreducible] awp
set_option maxRecDepth 100000
theorem z75 {a b : Nat} (h : ¬ a = b) : (a == b) = false := by simpa using h
def z9z (v : V) (q : Nat) (i : Nat) : List D := [.int .i64 v.own.id.act, .int .i64 v.own.id.item, .int .i64 v.own.id.n, .int .i64 v.own.kind, .str v.own.label, z0u v.own.head, z0u v.own.words, .osl q i]
theorem zdq {H : HM} {v : V} (hst : Stand H v) {nx : Nat} (hu : Under nx v) : (v.row = none /\ v.kids = []) \/ ∃ r, v.row = some r /\ r < nx /\ H r = some (.row 75 v.kids.length (v.kids.map fun k => .ptr k.num 0)) := by
 obtain ⟨s1, s2, s3⟩ := (z1p H v).1 hst
 unfold zhb at s2
 cases hr : v.row with
 | none => rw [hr] at s2; exact .inl ⟨rfl, s2⟩
 | some r => rw [hr] at s2; exact .inr ⟨r, rfl, hu r (zn2 hr), s2⟩
theorem zxg (v : V) (hs : szB (treeV v) = true) (ih : ∀ k ∈ v.kids, ∀ H nx, Under nx k -> Stand H k -> RC Tryz.prog 41 [.ptr k.num 0] H nx (z0o (treeV k))) (H : HM) (nx : Nat) (hu : Under nx v) (hst : Stand H v) :
  AC Tryz.prog 41 [.ptr v.num 0] H nx fun r H' nx' => r = .agg (z9z v (nx + 2) v.kids.length) /\ nx + 3 <= nx' /\ H' (nx + 2) = some (.row 27 v.kids.length ((v.kids.map treeV).flatMap z0g)) /\ ∀ j, j < nx -> H' j = H j := by
 obtain ⟨s1, s2, s3⟩ := (z1p H v).1 hst
 have hnum := hu _ (z3j v)
 obtain ⟨h0, h1, g1, h2, g2, h3, h4⟩ := (z2n _).1 hs
 have hk0 := zdq hst hu
 have hh : (treeV v).head = v.own.head /\ (treeV v).words = v.own.words /\ (treeV v).kids = v.kids.map treeV := by rw [z28]; exact ⟨rfl, rfl, rfl⟩
 rw [hh.1] at h1; rw [hh.2.1] at h2; rw [hh.2.2, List.length_map] at h3
 have c1 := z4x v.own.head (by omega)
 have c2 := z4x v.own.words (by omega)
 refine (z16 [3000028] Tryz.func41 rfl (by decide +kernel) z0b (by decide +kernel) (by simp [Tryz.ntmps41]) ?_)
 show awp _ _ (Code.seq _ _) _ _
 rw [show Tryz.f41.results.toList = [.cell 2 27] from rfl]
 have hnb := z3z hnum
 repeat' (first | refine zqj ?_ | ((first | refine z4u (N := 3) rfl fun K J => ?_ | refine zan (N := 3) rfl (by decide +kernel) fun K J => ?_ | refine zqt (c1) ?_ | refine zqt (c2) ?_); (simp (disch := omega) only [go_sem, Nat.reduceBEq, ↓reduceIte, reduceCtorEq, Nat.reduceAdd, Nat.reduceLeDiff, Nat.reduceLT, s1, hnb, z3c, z0u])) | (refine J _ ?_; clear J K))
 refine z42 fun K J => ?_
 rcases hk0 with ⟨hr, hnil⟩ | ⟨r, hr, hrn, hrow⟩
 ·have e1 : kdD v = .nil := by unfold kdD; rw [hr]
  (simp (disch := omega) only [go_sem, Nat.reduceBEq, ↓reduceIte, reduceCtorEq, Nat.reduceAdd, s1, hnb, z3c, e1])
  refine J _ _ (z9g (b := nx + 1) (off := 7) (e := 27) 27 (by (simp (disch := omega) only [go_sem, hnb]); rfl) rfl) ?_
  clear J K
  repeat' (refine zqa ?_)
  (refine z5b (fun U st => ∃ (i : Nat), U = 1 - i /\ st.t 2 = .ptr nx 0 /\ st.t 3 = .ptr (nx + 1) 0 /\ st.t 22 = .int .i64 0 /\ st.t 23 = .int .i64 0 /\ st.H (nx) = some (.box 27 [.int .i64 0, .int .i64 0, .int .i64 0, .int .i64 0, .str ByteArray.empty, .nil, .nil, .nil]) /\ st.H (nx + 1) = some (.box 27 (z9z v (nx + 2) 0)) /\ st.H (nx + 2) = some (.row 27 0 []) /\ (nx + 3 <= st.nx) /\ (∀ j, j < nx -> st.H j = H j)) ?_ ?_); rotate_left; (rintro U st ⟨i, rfl, q2, q3, q22, q23, qHnx, qHnx1, qHnx2, qp0, qp1⟩); rotate_left
  ·(refine ⟨_, 0, rfl, ?_⟩); (simp (disch := omega) only [go_sem, Nat.reduceBEq, Nat.reduceLeDiff, true_and, z0u, List.set_cons_succ, List.set_cons_zero, z9z, hnb])
   exact ⟨by omega, fun j hj => by simp (disch := omega) only [z2z]⟩
  repeat' (first | ((refine zqh fun K J => ?_); (simp (disch := omega) only [go_sem, Nat.reduceBEq, ↓reduceIte, Nat.reduceAdd, Nat.reduceLeDiff, Int.reduceLT, q2, q3, q22, q23, qHnx, qHnx1, z9z, List.set_cons_succ, List.set_cons_zero])) | ((refine zqd _ rfl (fun hc => ?_) (fun hc => ?_)) <;> (first | (cases hc; done) | ((try simp only [] at hc); (try (exfalso; omega))))) | refine zqc ?_ | refine zqn ?_ | refine zqv ?_ | refine zqz ?_ | refine zqp ?_ | refine zqu (by (simp (disch := omega) only [go_sem, Nat.reduceBEq, ↓reduceIte, Nat.reduceAdd, Nat.reduceLeDiff, q2, qHnx]); rfl) rfl ?_ | (refine J _ ?_; clear J K))
  (simp (disch := omega) only [go_sem, qHnx2, hnb])
  rw [hnil]
  exact ⟨rfl, qp0, rfl, fun j hj => by simp (disch := omega) only [z2z]; exact qp1 j hj⟩
 ·have e1 : kdD v = .osl r v.kids.length := by unfold kdD; rw [hr]
  have hrb := z3z hrn
  (simp (disch := omega) only [go_sem, Nat.reduceBEq, ↓reduceIte, reduceCtorEq, Nat.reduceAdd, s1, hnb, z3c, e1])
  refine J _ _ (z9g (b := nx + 1) (off := 7) (e := 27) 27 (by (simp (disch := omega) only [go_sem, hnb]); rfl) rfl) ?_
  clear J K
  repeat' (refine zqa ?_)
  (refine z5b (fun U st => ∃ (i : _), U = v.kids.length - i /\ st.t 2 = .ptr nx 0 /\ st.t 3 = .ptr (nx + 1) 0 /\ st.t 21 = .osl r v.kids.length /\ st.t 22 = .int .i64 v.kids.length /\ st.t 23 = .int .i64 i /\ st.H (nx) = some (.box 27 [.int .i64 0, .int .i64 0, .int .i64 0, .int .i64 0, .str ByteArray.empty, .nil, .nil, .nil]) /\ st.H (nx + 1) = some (.box 27 (z9z v (nx + 2) i)) /\ st.H (nx + 2) = some (.row 27 i (((v.kids.take i).map treeV).flatMap z0g)) /\ (i <= v.kids.length) /\ (nx + 3 <= st.nx) /\ (∀ j, j < nx -> st.H j = H j)) ?_ ?_); rotate_left; (rintro U st ⟨i, rfl, q2, q3, q21, q22, q23, qHnx, qHnx1, qHnx2, qp0, qp1, qp2⟩); rotate_left
  ·(refine ⟨_, 0, rfl, ?_⟩); (simp (disch := omega) only [go_sem, Nat.reduceBEq, Nat.reduceLeDiff, true_and, Int.natCast_zero, List.flatMap_nil, List.map_nil, z0u, List.set_cons_succ, List.set_cons_zero, z9z, hnb])
   exact ⟨by omega, fun j hj => by simp (disch := omega) only [z2z]⟩
  have hqr : st.H r = some (.row 75 v.kids.length (v.kids.map fun k => .ptr k.num 0)) := (qp2 r hrn).trans hrow
  by_cases hi : i < v.kids.length
  ·have hin := ih v.kids[i] (List.getElem_mem hi) st.H st.nx (fun j hj => by have := z3e hu (List.getElem_mem hi) j hj; omega) (Stand.on _ (fun j hj => qp2 j (z3e hu (List.getElem_mem hi) j hj)) (s3 _ (List.getElem_mem hi)))
   have htk := List.take_succ_eq_append_getElem hi
   have hgt : v.kids[i]? = some v.kids[i] := List.getElem?_eq_getElem hi
   repeat' (first | ((first | refine zqh fun K J => ?_ | refine zqr fun K J => ?_ | refine zqq (by decide +kernel) fun K J => ?_ | refine z9k (hin) rfl ?_); (simp (disch := omega) only [go_sem, Nat.reduceBEq, ↓reduceIte, reduceCtorEq, Nat.reduceAdd, Nat.reduceMul, Nat.reduceLeDiff, Nat.reduceLT, q3, q21, q22, q23, qHnx1, qHnx2, hnb, hqr, hgt, z9z, List.set_cons_succ, List.set_cons_zero])) | ((refine zqd _ rfl (fun hc => ?_) (fun hc => ?_)) <;> (((try simp only [z0e] at hc); (try (exfalso; omega))))) | refine zqa ?_ | refine zqb ?_ | refine zqv ?_ | refine zqy ?_ | (refine J _ ?_; clear J K))
   (refine Exists.intro _ (And.intro ?_ ⟨i + 1, rfl, ?_⟩)); rotate_left; (simp (disch := omega) only [go_sem, Nat.reduceBEq, q2, q3, q21, q22, q23, qHnx, qHnx1, qHnx2, true_and, Int.natCast_add, Int.natCast_one, List.flatMap_append, List.flatMap_cons, List.flatMap_nil, List.map_append, List.map_cons, List.map_nil, List.append_nil, hnb, htk, z9z]); rotate_left
   ·omega
   ·exact ⟨by omega, by omega, fun j hj => by simp (disch := omega) only [z2z]; exact qp2 j hj⟩
  ·repeat' (first | ((refine zqh fun K J => ?_); (simp (disch := omega) only [go_sem, Nat.reduceBEq, ↓reduceIte, Nat.reduceAdd, Nat.reduceLeDiff, q2, q3, q22, q23, qHnx, qHnx1, z9z, List.set_cons_succ, List.set_cons_zero])) | ((refine zqd _ rfl (fun hc => ?_) (fun hc => ?_)) <;> (((try simp only [z0e] at hc); (try (exfalso; omega))))) | refine zqc ?_ | refine zqn ?_ | refine zqv ?_ | refine zqz ?_ | refine zqp ?_ | refine zqu (by (simp (disch := omega) only [go_sem, Nat.reduceBEq, ↓reduceIte, Nat.reduceAdd, Nat.reduceLeDiff, q2, qHnx]); rfl) rfl ?_ | (refine J _ ?_; clear J K))
   have hi2 : i = v.kids.length := by omega
   subst hi2
   rw [List.take_length] at qHnx2
   (simp (disch := omega) only [go_sem, qHnx2, hnb])
   repeat' (first | exact rfl | omega | (intro j hj; simp (disch := omega) only [z2z]; exact qp2 j hj) | refine And.intro ?_ ?_)
theorem zjm {v k : V} (hs : szB (treeV v) = true) (hk : k ∈ v.kids) : szB (treeV k) = true := by
 obtain ⟨_, _, _, _, _, _, h⟩ := (z2n _).1 hs
 exact h _ (by rw [z1a]; exact List.mem_map.2 ⟨k, hk, rfl⟩)
theorem ztn : ∀ v : V, szB (treeV v) = true -> ∀ H nx, Under nx v -> Stand H v -> RC Tryz.prog 41 [.ptr v.num 0] H nx (z0o (treeV v)) := by
 refine zbz fun v ih hs H nx hu hst => ?_
 refine zza (k := 4) (z02 _) ((zxg v hs (fun k hk => ih k hk (zjm hs hk)) H nx hu hst).mono fun r H' nx' ⟨h1, h2, h3, h4⟩ => ⟨?_, h4⟩)
 subst h1
 rw [z28, z0o, z0l]
 refine ⟨_, z5z (k := 3) (by simp [z9z, pureD.pureL, pureD]) (z00 (z07 2 rfl) (z00 (z07 2 rfl) (z00 (z07 2 rfl) (z00 (z07 2 rfl) (z00 (z07 2 rfl) (z00 (z07 2 (z0i _)) (z00 (z07 2 (z0i _)) (z00 ?_ z09)))))))), Le.refl _⟩
 have hlen : v.kids.length = (v.kids.map treeV).length := by simp
 rw [hlen]
 refine z2v (f := z0g) (l := v.kids.map treeV) 1 ?_ z0f z30 z0k z05
 rw [hi_get (by omega), h3, <- hlen]
theorem z4y (H : HM) (i : Nat) (a b : Option HObj) : z0d (z0d H i a) i b = z0d H i b := by
 funext j; unfold z0d; split <;> rfl
def zaz (step : V -> HObj -> HObj) (l : List V) (o : HObj) : HObj := l.foldl (fun o w => step w o) o
theorem zjn (step : V -> HObj -> HObj) (l m : List V) (o : HObj) : zaz step (l ++ m) o = zaz step m (zaz step l o) := List.foldl_append
theorem zto {step : V -> HObj -> HObj} {I : HObj -> Prop} {S : V -> Prop} (hI : ∀ w o, S w -> I o -> I (step w o)) : ∀ (l : List V), (∀ w ∈ l, S w) -> ∀ (o : HObj), I o -> I (zaz step l o)
 | [], _, _, h => h
 | w :: l, hS, o, h => zto hI l (fun x hx => hS x (List.mem_cons_of_mem _ hx)) (step w o) (hI w o (hS w (by simp)) h)
theorem zlw {g : FuncId} {cap : List D} {k : Nat} (step : V -> HObj -> HObj) (I : HObj -> Prop) (F : HM -> Prop) (hF : ∀ H o, F H -> F (z0d H k (some o))) (S : V -> Prop) (hI : ∀ w o, S w -> I o -> I (step w o)) :
  ∀ v : V, szB (treeV v) = true -> (∀ w ∈ nodesV v, S w) -> (∀ H, F H -> ∀ w ∈ nodesV v, Stand H w) ->
  (∀ w ∈ nodesV v, ∀ H nx o, Under nx w -> k < nx -> H k = some o -> I o -> F H -> AC Tryz.prog g (.ptr w.num 0 :: cap) H nx fun r H' nx' => r = .tup [] /\ H' = z0d H k (some (step w o)) /\ nx' = nx) ->
  ∀ H nx o, Under nx v -> k < nx -> H k = some o -> I o -> F H -> AC Tryz.prog 42 [.ptr v.num 0, .fn g cap] H nx fun r H' nx' => r = .tup [] /\ H' = z0d H k (some (zaz step (nodesV v) o)) /\ nx' = nx := by
 refine zbz fun v ih hs hSv hS hv H nx o hu hk hH hIo hFH => ?_
 have h3 : v.kids.length <= 1000000 := by
  obtain ⟨_, _, _, _, _, h3, _⟩ := (z2n _).1 hs
  rw [z1a, List.length_map] at h3; exact h3
 have c1 := hv v (z3d v) H nx o hu hk hH hIo hFH
 have hF1 := hF H (step v o) hFH
 have hst1 := hS _ hF1 v (z3d v)
 obtain ⟨s1, s2, s3⟩ := (z1p _ v).1 hst1
 have hk0 := zdq hst1 hu
 have hnum := hu _ (z3j v)
 refine (z16 [] Tryz.func42 rfl (by decide +kernel) z0b (by decide +kernel) (by simp [Tryz.ntmps42]) ?_)
 show awp _ _ (Code.seq _ _) _ _
 repeat' (((refine zqh fun K J => ?_); (simp (disch := omega) only [go_sem, Nat.reduceBEq])))
 refine z1g (c1.mono fun r H' nx' ⟨e1, e2, e3⟩ => ?_)
 subst e1; subst e3
 rw [<- e2] at s1 hk0 hF1 hst1
 have hHk : H' k = some (step v o) := by rw [e2]; exact z29
 rcases hk0 with ⟨hr, hnil⟩ | ⟨r, hr, hrn, hrow⟩
 ·have e1 : kdD v = .nil := by unfold kdD; rw [hr]
  (try (simp (disch := omega) only [go_sem])); repeat' (first | ((refine zqh fun K J => ?_); (simp (disch := omega) only [go_sem, Nat.reduceBEq, ↓reduceIte, reduceCtorEq, Nat.reduceAdd, s1, z3c, e1])) | refine zqi ?_ | (refine J _ ?_; clear J K))
  (refine z5b (fun U st => ∃ (i : Nat), U = 1 - i /\ st.t 13 = .int .i64 0 /\ st.t 14 = .int .i64 0 /\ st.nx = nx' /\ (st.H = H')) ?_ ?_); rotate_left; (rintro U st ⟨i, rfl, q13, q14, qnx, qp0⟩); rotate_left
  ·(refine ⟨_, 0, rfl, ?_⟩); (simp (disch := omega) only [go_sem, Nat.reduceBEq, and_self])
  repeat' (first | ((refine zqh fun K J => ?_); (simp (disch := omega) only [go_sem, ↓reduceIte, Int.reduceLT, q13, q14])) | ((refine zqd _ rfl (fun hc => ?_) (fun hc => ?_)) <;> (first | (cases hc; done) | ((try simp only [] at hc); (try (exfalso; omega))))) | refine zqc ?_ | refine zqz ?_ | refine zqp ?_ | refine zqu (by (simp (disch := omega) only [go_sem]); rfl) rfl ?_ | (refine J _ ?_; clear J K))
  (simp (disch := omega) only [go_sem, qnx])
  rw [qp0, e2, z34, hnil]
  rfl
 ·have e1 : kdD v = .osl r v.kids.length := by unfold kdD; rw [hr]
  (try (simp (disch := omega) only [go_sem])); repeat' (first | ((refine zqh fun K J => ?_); (simp (disch := omega) only [go_sem, Nat.reduceBEq, ↓reduceIte, reduceCtorEq, Nat.reduceAdd, s1, z3c, e1])) | refine zqi ?_ | (refine J _ ?_; clear J K))
  (refine z5b (fun U st => ∃ (i : _), U = v.kids.length - i /\ st.t 1 = .fn g cap /\ st.t 12 = .osl r v.kids.length /\ st.t 13 = .int .i64 v.kids.length /\ st.t 14 = .int .i64 i /\ st.nx = nx' /\ (i <= v.kids.length) /\ (st.H = z0d H k (some (zaz step ((v.kids.take i).flatMap nodesV) (step v o))))) ?_ ?_); rotate_left; (rintro U st ⟨i, rfl, q1, q12, q13, q14, qnx, qp0, qp1⟩); rotate_left
  ·(refine ⟨_, 0, rfl, ?_⟩); (simp (disch := omega) only [go_sem, Nat.reduceBEq, true_and, Int.natCast_zero, List.flatMap_nil])
   exact e2
  have hFi : F st.H := by rw [qp1]; exact hF _ _ hFH
  have hsti := hS _ hFi v (z3d v)
  obtain ⟨_, s2i, s3i⟩ := (z1p _ v).1 hsti
  have hri : st.H r = some (.row 75 v.kids.length (v.kids.map fun k => .ptr k.num 0)) := by
   unfold zhb at s2i; rw [hr] at s2i; exact s2i
  by_cases hi : i < v.kids.length
  ·have hgt : v.kids[i]? = some v.kids[i] := List.getElem?_eq_getElem hi
   have hkm := List.getElem_mem hi
   have hin := ih v.kids[i] hkm (zjm hs hkm) (fun w hw => hSv w (z22 hkm hw)) (fun H hFH w hw => hS H hFH w (z22 hkm hw)) (fun w hw => hv w (z22 hkm hw)) st.H nx' (zaz step ((v.kids.take i).flatMap nodesV) (step v o)) (z3e hu hkm) hk (by rw [qp1]; exact z29) (zto hI _ (fun w hw => by
     obtain ⟨k2, hk2, hw2⟩ := List.mem_flatMap.1 hw
     exact hSv w (z22 (List.mem_of_mem_take hk2) hw2)) _ (hI _ _ (hSv v (z3d v)) hIo)) hFi
   repeat' (first | ((first | refine zqh fun K J => ?_ | refine zqr fun K J => ?_); (simp (disch := omega) only [go_sem, Nat.reduceBEq, ↓reduceIte, reduceCtorEq, Nat.reduceAdd, q1, q12, q13, q14, qnx, hri, hgt])) | ((refine zqd _ rfl (fun hc => ?_) (fun hc => ?_)) <;> (((try simp only [z0e] at hc); (try (exfalso; omega))))) | refine zqa ?_ | refine zqb ?_ | (refine J _ ?_; clear J K))
   refine z1g (hin.mono fun r2 H2 n2 ⟨e3, e4, e5⟩ => ?_)
   subst e3; subst e5
   (try (simp (disch := omega) only [go_sem])); repeat' (first | ((refine zqr fun K J => ?_); (simp (disch := omega) only [go_sem, Nat.reduceBEq, ↓reduceIte, q14])) | refine zqv ?_ | refine zqy ?_ | (refine J _ ?_; clear J K))
   have htk := List.take_succ_eq_append_getElem hi
   (refine Exists.intro _ (And.intro ?_ ⟨i + 1, rfl, ?_⟩)); rotate_left; (simp (disch := omega) only [go_sem, Nat.reduceBEq, q1, q12, q13, q14, true_and, Int.natCast_add, Int.natCast_one]); rotate_left
   ·omega
   ·refine ⟨by omega, ?_⟩
    rw [e4, qp1, z4y, htk, List.flatMap_append, zjn]
    simp only [List.flatMap_cons, List.flatMap_nil, List.append_nil]
  ·repeat' (first | ((refine zqh fun K J => ?_); (simp (disch := omega) only [go_sem, ↓reduceIte, q13, q14])) | ((refine zqd _ rfl (fun hc => ?_) (fun hc => ?_)) <;> (((try simp only [z0e] at hc); (try (exfalso; omega))))) | refine zqc ?_ | refine zqz ?_ | refine zqp ?_ | refine zqu (by (simp (disch := omega) only [go_sem]); rfl) rfl ?_ | (refine J _ ?_; clear J K))
   have hi2 : i = v.kids.length := by omega
   subst hi2
   rw [List.take_length] at qp1
   refine ⟨rfl, ?_, qnx⟩
   (simp (disch := omega) only [go_sem])
   rw [qp1, z34]; rfl
def z87 (id : Idv) (v : V) : D := match (nodesV v).find? (fun w => decide (w.own.id = id)) with
 | some w => .ptr w.num 0
 | none => .nptr
theorem ztp (id : Idv) : ∀ v : V, szB (treeV v) = true -> ∀ H nx, Under nx v -> Stand H v -> RC Tryz.prog 44 [.ptr v.num 0, z0y id] H nx (z87 id v) := by
 refine zbz fun v ih hs H nx hu hst => ?_
 obtain ⟨s1, s2, s3⟩ := (z1p H v).1 hst
 have hnum := hu _ (z3j v)
 have h3 : v.kids.length <= 1000000 := by
  obtain ⟨_, _, _, _, _, h3, _⟩ := (z2n _).1 hs
  rw [z1a, List.length_map] at h3; exact h3
 have hk0 := zdq hst hu
 have hnb := z3z hnum
 have hlow : lowD nx (z87 id v) = true := by
  unfold z87
  split
  ·rename_i w hw
   have := z2a hu (List.mem_of_find?_eq_some hw) _ (z3j w)
   simpa [lowD] using this
  ·rfl
 refine RC_low hlow (z16 [3000012, 3000013] Tryz.func44 rfl (by decide +kernel) z0b (by decide +kernel) (by simp [Tryz.ntmps44]) ?_)
 show awp _ _ (Code.seq _ _) _ _
 have hfd : z87 id v = if v.own.id = id then .ptr v.num 0 else match (v.kids.flatMap nodesV).find? (fun w => decide (w.own.id = id)) with
  | some w => .ptr w.num 0
  | none => .nptr := by
  unfold z87
  rw [z34, List.find?_cons]
  by_cases e : v.own.id = id <;> simp [e]
 have hid : ∀ w : V, z87 id w = .nptr /\ (nodesV w).find? (fun w => decide (w.own.id = id)) = none \/ ∃ x, z87 id w = .ptr x.num 0 /\ (nodesV w).find? (fun w => decide (w.own.id = id)) = some x := fun w => by
  unfold z87
  cases (nodesV w).find? (fun w => decide (w.own.id = id)) with
  | none => exact .inl ⟨rfl, rfl⟩
  | some x => exact .inr ⟨x, rfl, rfl⟩
 rcases hk0 with ⟨hr, hnil⟩ | ⟨r, hr, hrn, hrow⟩
 ·have e1 : kdD v = .nil := by unfold kdD; rw [hr]
  repeat' (first | refine zqj ?_ | ((first | refine zqh fun K J => ?_ | refine zqe (by decide +kernel) fun K J => ?_); (simp (disch := omega) only [go_sem, Nat.reduceBEq, Nat.reduceEqDiff, ↓reduceIte, reduceCtorEq, Nat.reduceAdd, Nat.reduceLeDiff, s1, hnb, z3c, e1])) | ((refine zqd _ rfl (fun hc => ?_) (fun hc => ?_)) <;> (((try simp only [z0e] at hc); (try (exfalso; omega))))) | refine zqa ?_ | refine zqb ?_ | refine zqg ?_ | refine zqu (by (simp (disch := omega) only [go_sem]); rfl) rfl ?_ | (refine J _ ?_; clear J K))
  ·(simp (disch := omega) only [go_sem, Nat.reduceBEq])
   rw [hfd, if_pos hc]
   exact ⟨rfl, fun j hj => by simp (disch := omega) only [z2z]⟩
  ·(refine z5b (fun U st => ∃ (i : Nat), U = 1 - i /\ st.t 20 = .int .i64 0 /\ st.t 21 = .int .i64 0 /\ (∀ j, j < nx -> st.H j = H j)) ?_ ?_); rotate_left; (rintro U st ⟨i, rfl, q20, q21, qp0⟩); rotate_left
   ·(refine ⟨_, 0, rfl, ?_⟩); (simp (disch := omega) only [go_sem, Nat.reduceBEq, true_and])
    exact fun j hj => by simp (disch := omega) only [z2z]
   repeat' (first | ((refine zqh fun K J => ?_); (simp (disch := omega) only [go_sem, ↓reduceIte, Int.reduceLT, q20, q21])) | ((refine zqd _ rfl (fun hc => ?_) (fun hc => ?_)) <;> (first | (cases hc; done) | ((try simp only [] at hc); (try (exfalso; omega))))) | refine zqc ?_ | refine zqn ?_ | refine zqv ?_ | refine zqz ?_ | refine zqp ?_ | refine zqu (by (simp (disch := omega) only [go_sem]); rfl) rfl ?_ | (refine J _ ?_; clear J K))
   (simp (disch := omega) only [go_sem, Nat.reduceBEq])
   rw [hfd, if_neg (by assumption), hnil]
   exact ⟨rfl, qp0⟩
 ·have e1 : kdD v = .osl r v.kids.length := by unfold kdD; rw [hr]
  have hrb := z3z hrn
  repeat' (first | refine zqj ?_ | ((first | refine zqh fun K J => ?_ | refine zqe (by decide +kernel) fun K J => ?_); (simp (disch := omega) only [go_sem, Nat.reduceBEq, Nat.reduceEqDiff, ↓reduceIte, reduceCtorEq, Nat.reduceAdd, Nat.reduceLeDiff, s1, hnb, z3c, e1])) | ((refine zqd _ rfl (fun hc => ?_) (fun hc => ?_)) <;> (((try simp only [z0e] at hc); (try (exfalso; omega))))) | refine zqa ?_ | refine zqb ?_ | refine zqg ?_ | refine zqu (by (simp (disch := omega) only [go_sem]); rfl) rfl ?_ | (refine J _ ?_; clear J K))
  ·(simp (disch := omega) only [go_sem, Nat.reduceBEq])
   rw [hfd, if_pos hc]
   exact ⟨rfl, fun j hj => by simp (disch := omega) only [z2z]⟩
  ·rw [hfd, if_neg (by assumption)]
   (refine z5b (fun U st => ∃ (i : _), U = v.kids.length - i /\ st.t 3 = .ptr nx 0 /\ st.t 19 = .osl r v.kids.length /\ st.t 20 = .int .i64 v.kids.length /\ st.t 21 = .int .i64 i /\ st.H (nx) = some (.box 23 [.int .i64 id.act, .int .i64 id.item, .int .i64 id.n]) /\ (i <= v.kids.length) /\ (nx + 1 <= st.nx) /\ (∀ j, j < nx -> st.H j = H j) /\ (((v.kids.take i).flatMap nodesV).find? (fun w => decide (w.own.id = id)) = none)) ?_ ?_); rotate_left; (rintro U st ⟨i, rfl, q3, q19, q20, q21, qHnx, qp0, qp1, qp2, qp3⟩); rotate_left
   ·(refine ⟨_, 0, rfl, ?_⟩); (simp (disch := omega) only [go_sem, Nat.reduceBEq, Nat.reduceLeDiff, true_and, Int.natCast_zero, List.flatMap_nil])
    exact ⟨Nat.le_refl _, (fun j hj => by simp (disch := omega) only [z2z]), rfl⟩
   have hri : st.H r = some (.row 75 v.kids.length (v.kids.map fun k => .ptr k.num 0)) := (qp2 r hrn).trans hrow
   by_cases hi : i < v.kids.length
   ·have hgt : v.kids[i]? = some v.kids[i] := List.getElem?_eq_getElem hi
    have hkm := List.getElem_mem hi
    have htk := List.take_succ_eq_append_getElem hi
    have hin := ih v.kids[i] hkm (zjm hs hkm) st.H st.nx (fun j hj => by have := z3e hu hkm j hj; omega) (Stand.on _ (fun j hj => qp2 j (z3e hu hkm j hj)) (s3 _ hkm))
    rcases hid v.kids[i] with ⟨hf, hfn⟩ | ⟨x, hf, hfn⟩
    ·rw [hf] at hin
     repeat' (first | ((first | refine zqh fun K J => ?_ | refine zqr fun K J => ?_ | refine z10 (hin) ?_); (simp (disch := omega) only [go_sem, Nat.reduceBEq, ↓reduceIte, reduceCtorEq, Nat.reduceAdd, Nat.reduceLeDiff, q3, q19, q20, q21, qHnx, hri, hgt])) | ((first | refine zqd _ rfl (fun hc => ?_) (fun hc => ?_) | refine zqm _ rfl (fun hc => ?_) (fun hc => ?_)) <;> (first | (cases hc; done) | ((try simp only [z0e] at hc); (try (exfalso; omega))))) | refine zqa ?_ | refine zqb ?_ | refine zqk ?_ | refine zqv ?_ | refine zqy ?_ | (refine J _ ?_; clear J K))
     (refine Exists.intro _ (And.intro ?_ ⟨i + 1, rfl, ?_⟩)); rotate_left; (simp (disch := omega) only [go_sem, Nat.reduceBEq, q3, q19, q20, q21, qHnx, true_and, Int.natCast_add, Int.natCast_one]); rotate_left
     ·omega
     ·refine ⟨by omega, by omega, qp2, ?_⟩
      rw [htk, List.flatMap_append, List.find?_append, qp3]
      simp [hfn]
    ·rw [hf] at hin
     repeat' (first | ((first | refine zqh fun K J => ?_ | refine z10 (hin) ?_); (simp (disch := omega) only [go_sem, Nat.reduceBEq, ↓reduceIte, reduceCtorEq, Nat.reduceAdd, Nat.reduceLeDiff, q3, q19, q20, q21, qHnx, hri, hgt])) | ((first | refine zqd _ rfl (fun hc => ?_) (fun hc => ?_) | refine zqm _ rfl (fun hc => ?_) (fun hc => ?_)) <;> (first | (cases hc; done) | ((try simp only [z0e] at hc); (try (exfalso; omega))))) | refine zqa ?_ | refine zqb ?_ | refine zqn ?_ | refine zqx ?_ | refine z8n ?_ | refine zqo ?_ | refine zqu (by (simp (disch := omega) only [go_sem]); rfl) rfl ?_ | (refine J _ ?_; clear J K))
     (simp (disch := omega) only [go_sem, Nat.reduceBEq])
     have : v.kids.flatMap nodesV = (v.kids.take i).flatMap nodesV ++ (nodesV v.kids[i] ++ (v.kids.drop (i + 1)).flatMap nodesV) := by
      rw [<- List.flatMap_cons, List.getElem_cons_drop, <- List.flatMap_append, List.take_append_drop]
     rw [this, List.find?_append, qp3, List.find?_append, hfn]
     exact ⟨rfl, qp2⟩
   ·repeat' (first | ((refine zqh fun K J => ?_); (simp (disch := omega) only [go_sem, ↓reduceIte, q20, q21])) | ((refine zqd _ rfl (fun hc => ?_) (fun hc => ?_)) <;> (((try simp only [z0e] at hc); (try (exfalso; omega))))) | refine zqc ?_ | refine zqn ?_ | refine zqv ?_ | refine zqz ?_ | refine zqp ?_ | refine zqu (by (simp (disch := omega) only [go_sem]); rfl) rfl ?_ | (refine J _ ?_; clear J K))
    have hi2 : i = v.kids.length := by omega
    subst hi2
    rw [List.take_length] at qp3
    (simp (disch := omega) only [go_sem, Nat.reduceBEq])
    rw [qp3]
    exact ⟨rfl, qp2⟩
end
section
open Abs Facts Go.Lib Go.RowKit
namespace Abs
variable {P : Program}
theorem z6y {N : Nat} {own : List Nat} {ops : Array Oper} {K : St -> Prop} {Q : Exit -> Act -> World -> Prop} {l2 : List Oper} : ∀ (l : List Oper) (st : St) (s : RS) (a : Act) (w : World),
  (∀ o ∈ l, z6o N o = true) -> z1z P own (zow ops) l K st -> Fr P N st s a w ->
  (∀ st' s' a' w', K st' -> Fr P N st' s' a' w' -> Step s w s' w' -> wpList P ops Q l2 a' w') -> wpList P ops Q (l ++ l2) a w
 | [], st, s, a, w, _, h, hf, hk => hk st s a w h hf (Step.refl s w)
 | o :: rest, st, s, a, w, hdst, h, hf, hk => by
  have ho := hdst o (by simp)
  have hrest : ∀ o' ∈ rest, z6o N o' = true := fun o' h' => hdst o' (List.mem_cons_of_mem _ h')
  simp only [z1z] at h
  rw [List.cons_append]
  unfold wpList
  rw [zee] at h
  split at h
  ·rename_i hg
   rw [if_pos (z4j hf hg)]
   exact .inl (zed hf ho h fun st' s' a' w' J hf' hstep =>
    z6y rest st' s' a' w' hrest J hf' fun st2 s2 a2 w2 hK2 hf2 hstep2 => hk st2 s2 a2 w2 hK2 hf2 (hstep.trans hstep2))
  ·rename_i hg
   rw [if_neg (by rw [z4j hf hg]; simp)]
   exact z6y rest _ s _ w hrest h (hf.put0 ho zec) hk
  ·cases h
theorem zmz {s : RS} : ∀ (n : Nat) (vs : List Value), vs.length = n -> relAll s (List.replicate n D.any) vs
 | 0, vs, h => by
  have : vs = [] := List.eq_nil_of_length_eq_zero h
  subst this; exact z0w
 | n + 1, [], h => by simp at h
 | n + 1, v :: vs, h => by
  rw [List.replicate_succ]
  exact z0n (by simp [rel]) (zmz n vs (by simpa using h))
theorem zry {N rid : Nat} {own : List Nat} {l1 : List Oper} {ops : Array Oper} {x lo : Operand} {d : Nat} {t e ty ty2 : TypeId} {pos pos2 : String} {aft aft2 : Array Edge} {z : Value} {Q : Exit -> St -> Prop} {st : St}
  (hops : ops.toList = l1 ++ [⟨some d, .slice t x (some lo) none none, ty, pos, aft, none⟩, ⟨none, .call { callee := .builtin .clear, args := #[.tmp d], argTypes := #[t] }, ty2, pos2, aft2, none⟩])
  (hN : ∀ o ∈ l1, z6o N o = true) (hd : d < N) (ht : z17 P t = some e) (hsz : z06 P e ≠ 0) (hz : (P.info? e).bind (·.zero) = some z) (hzs : z.cells.size = z06 P e) (hz1 : ∀ v ∈ z.cells.toList, v.oneCell' = true)
  (h : z1z P own (zow ops) l1 (fun st1 => ∃ id n i cs, st1.ev x = .osl id n /\ st1.ev lo = .int .i64 (i : Nat) /\ st1.H id = some (.row e n cs) /\ i < n /\
   Q .normal (({ st1 with H := z0d st1.H id (some (.row e n (cs.take (i * z06 P e) ++ List.replicate ((n - i) * z06 P e) .any))) } : St).put (some d) .any)) st) : Sem P N (.region rid ops false) Q st := by
 intro s0 w0 s a w hf hs
 refine wp_region_list ?_
 rw [hops]
 refine z6y l1 st s a w hN h hf ?_
 rintro st1 s1 a1 w1 ⟨id, n, i, cs, hx, hlo, hH, hi, hQ⟩ hf1 hs1
 have hu := z1v ht
 obtain ⟨inf, hinf⟩ := z1k hsz
 have hso := z1d (P := P) hinf
 have hH1 : s1.H id = some (.row e n cs) := by rw [hf1.H]; exact hH
 have hvx := hf1.ev x
 rw [hx] at hvx
 have hvlo := hf1.ev lo
 rw [hlo] at hvlo
 simp only [rel] at hvx hvlo
 obtain ⟨hid, _, hlive⟩ := hvx
 have hv := (hlive _ _ _ hH1).2 rfl
 obtain ⟨vs, ho, hr, h1, hcl, _⟩ := z2s hf1.heap hH1
 have hvl := ho.1
 rcases ho.2 with ⟨_, rfl⟩ | ⟨g, cap, cur, hκ, _, hg, hnc, hcm, hcs, htake⟩
 ·omega
 rw [hκ] at hv
 have hgs : g < w1.heap.size := by
  rcases Nat.lt_or_ge g w1.heap.size with h9 | h9
  ·exact h9
  ·rw [Array.getElem?_eq_none h9] at hg; cases hg
 have hb := z3g (P := P) (len := n) (cap := cap) (lo := some (a1.eval lo)) (hi := none) (l := (i : Int)) (h := (n : Nat)) (w := w1) hnc (.inr ⟨.i64, by rw [hvlo]⟩) (.inl ⟨rfl, rfl⟩) (by omega) (by omega) (by omega)
 have hci : ¬ cap = i := by omega
 have hrun1 : (Instr.sliceAt t (a1.eval x) (some (a1.eval lo)) none none).run P w1 = .ok (.slice (some ⟨g, i * z06 P e, none⟩) (n - i) (cap - i)) w1 := by
  rw [hv]
  simp [Instr.sliceAt, Instr.slice, run_underlying hu, hb, hso, hci]
  simp [Addr.add]
  try exact fun h => h.symm
 have hzv : ∀ w, (zeroValue e).run P w = .ok z w := fun w => by
  cases hq : P.info? e with
  | none => rw [hq] at hz; cases hz
  | some i0 =>
   rw [hq] at hz
   have hz : i0.zero = some z := hz
   simp [zeroValue, typeInfo, hq, hz]
 have hcap : cur.size = cap * z06 P e := hcs
 have hmul : i * z06 P e + (n - i) * z06 P e = n * z06 P e := by rw [<- Nat.add_mul]; congr 1; omega
 have hmul2 : n * z06 P e <= cap * z06 P e := Nat.mul_le_mul_right _ hnc
 have hrun2 : ∀ dc, (Builtin.clear_ #[t] ty2 #[.slice (some ⟨g, i * z06 P e, none⟩) (n - i) dc]).run P w1 = .ok (.tuple #[]) (w1.setRow g (cur.toList.take (i * z06 P e) ++ (Builtin.zeroCells z.cells (n - i)).toList ++ cur.toList.drop (i * z06 P e + (n - i) * z06 P e)).toArray) := fun dc =>
  zaw (P := P) w1 t e ty2 z (z06 P e) g (i * z06 P e) (n - i) dc cur hu hzv hzs hz1 (by omega) hg (by omega)
 unfold wpList
 have hw1 : Region.wanted (⟨some d, .slice t x (some lo) none none, ty, pos, aft, none⟩ : Oper) (yielded ops a1.tmps) = true := by simp [Region.wanted]
 rw [if_pos hw1]
 refine .inl ?_
 unfold Oper.wp
 have he1 : (execOp a1.eval ⟨some d, .slice t x (some lo) none none, ty, pos, aft, none⟩).run P w1 = .ok (.value (.slice (some ⟨g, i * z06 P e, none⟩) (n - i) (cap - i))) w1 := by
  unfold execOp
  simp [hrun1]
 rw [he1, Oper.upon_value]
 have hsz1 : d < a1.tmps.size := by rw [hf1.size]; exact hd
 have hdv : (a1.put (some d) (.slice (some ⟨g, i * z06 P e, none⟩) (n - i) (cap - i))).eval (.tmp d) = .slice (some ⟨g, i * z06 P e, none⟩) (n - i) (cap - i) := by
  simp [Act.put, Act.eval, Array.getD, hsz1]
 refine z74 _ rfl _ _ rfl _ hdv (hrun2 _) ?_
 unfold wpList
 have hzl : (Builtin.zeroCells z.cells (n - i)).toList.length = (n - i) * z06 P e := by rw [Array.length_toList, size_zeroCells, hzs]
 obtain ⟨zs, hzs2, hzl2⟩ : ∃ zs, zs = (Builtin.zeroCells z.cells (n - i)).toList /\ zs.length = (n - i) * z06 P e := ⟨_, rfl, hzl⟩
 have hz1' : z54 zs := by
  intro v hv'
  rw [hzs2] at hv'
  simp only [Builtin.zeroCells, Array.toList_map, Array.toList_range, List.mem_map, List.mem_range] at hv'
  obtain ⟨k, hk, rfl⟩ := hv'
  have h0 : 0 < z.cells.size := by omega
  have hkm := Nat.mod_lt k h0
  rw [getElem!_pos z.cells _ hkm]
  exact hz1 _ (by simp)
 rw [<- hzs2]
 have hcl2 : cur.toList.take (i * z06 P e) = vs.take (i * z06 P e) := by
  rw [<- htake, List.take_take]; congr 1; omega
 have hnew : ∀ (s' : RS), relAll s' cs vs -> relAll s' (cs.take (i * z06 P e) ++ List.replicate ((n - i) * z06 P e) .any) (vs.take (i * z06 P e) ++ zs) := fun s' hr' =>
  z14 (z31 _ hr') (zmz _ _ hzl2)
 have hbk : blockOf (s1.κ id) = some g := by rw [hκ]; rfl
 obtain ⟨g1, g2⟩ := z6u (w' := w1.setRow g (cur.toList.take (i * z06 P e) ++ zs ++ cur.toList.drop (i * z06 P e + (n - i) * z06 P e)).toArray) hf1.heap id (.row e n cs) (.row e n (cs.take (i * z06 P e) ++ List.replicate ((n - i) * z06 P e) .any)) (s1.κ id) hH1 rfl rfl rfl (by simp [World.setRow])
  (fun k hk hne => by
   simp only [World.setRow, Array.getElem?_modify]
   rw [if_neg (fun h => hne (by rw [hbk, h]))])
  (.inr ⟨n, _, rfl, Nat.le_refl _, fun _ => rfl⟩) (fun b hb => .inl hb)
  (fun hl => ⟨vs.take (i * z06 P e) ++ zs, ⟨by rw [List.length_append, List.length_take, hzl2]; omega, .inr ⟨g, cap, (cur.toList.take (i * z06 P e) ++ zs ++ cur.toList.drop (i * z06 P e + (n - i) * z06 P e)).toArray, hκ, Nat.zero_le _, by
    simp [World.setRow, Array.getElem?_modify, hg], hnc, hcm, by
    rw [List.size_toArray, List.length_append, List.length_append, List.length_take, hzl2, List.length_drop, Array.length_toList]; omega, by
    have hll : (cur.toList.take (i * z06 P e) ++ zs).length = n * z06 P e := by rw [List.length_append, List.length_take, hzl2, Array.length_toList]; omega
    rw [<- hcl2]
    show List.take _ (cur.toList.take (i * z06 P e) ++ zs ++ cur.toList.drop (i * z06 P e + (n - i) * z06 P e)) = _
    exact List.take_left' hll⟩⟩, hnew _ (relAll.later hl _ _ hr), z2d (z67 h1 _) hz1'⟩)
 refine ⟨_, _, hQ, ?_, hs.trans (hs1.trans g1)⟩
 have hp := hf1.put (o := ⟨some d, .slice t x (some lo) none none, ty, pos, aft, none⟩) g1.later g2 (by simp only [z6o, decide_eq_true_eq]; exact hd) (d := .any) (v := .slice (some ⟨g, i * z06 P e, none⟩) (n - i) (cap - i)) (by simp [rel]) (H := z0d st1.H id (some (.row e n (cs.take (i * z06 P e) ++ List.replicate ((n - i) * z06 P e) .any)))) (nx := st1.nx) (by simp only [RS.set, hf1.H]) (by simp only [RS.set, hf1.nx])
 exact hp
theorem zrz {N rid : Nat} {own : List Nat} {l1 : List Oper} {ops : Array Oper} {x : Operand} {d : Nat} {t e ty ty2 : TypeId} {pos : String} {aft : Array Edge} {Q : Exit -> St -> Prop} {st : St}
  (hops : ops.toList = l1 ++ [⟨some d, .binOp .eql t x (.const (.slice none 0 0)) ty2, ty, pos, aft, none⟩])
  (hN : ∀ o ∈ l1, z6o N o = true) (hd : d < N) (ht : z17 P t = some e)
  (h : z1z P own (zow ops) l1 (fun st1 => ∃ id n cs, st1.ev x = .osl id n /\ st1.H id = some (.row e n cs) /\ Q .normal (st1.put (some d) (.bool false)) /\ (n = 0 -> Q .normal (st1.put (some d) (.bool true)))) st) : Sem P N (.region rid ops false) Q st := by
 intro s0 w0 s a w hf hs
 refine wp_region_list ?_
 rw [hops]
 refine z6y l1 st s a w hN h hf ?_
 rintro st1 s1 a1 w1 ⟨id, n, cs, hx, hH, hQf, hQt⟩ hf1 hs1
 have hu := z1v ht
 have hH1 : s1.H id = some (.row e n cs) := by rw [hf1.H]; exact hH
 have hvx := hf1.ev x
 rw [hx] at hvx
 simp only [rel] at hvx
 obtain ⟨hid, _, hlive⟩ := hvx
 have hv := (hlive _ _ _ hH1).2 rfl
 obtain ⟨vs, ho, hr, h1, hcl, _⟩ := z2s hf1.heap hH1
 obtain ⟨ad, m, c, hsl, hb⟩ : ∃ ad m c, a1.eval x = .slice ad m c /\ (ad.isNone = true -> n = 0) := by
  rcases ho.2 with ⟨h0, e1⟩ | ⟨g, cap, cur, hκ, _⟩
  ·exact ⟨none, 0, 0, by rw [hv, h0], fun _ => e1⟩
  ·exact ⟨_, _, _, by rw [hv, hκ], fun h => by cases h⟩
 have hcv : a1.eval (.const (.slice none 0 0)) = .slice none 0 0 := rfl
 have hbin : (binOp .eql t (.slice ad m c) (.slice none 0 0)).run P w1 = .ok (.bool ad.isNone) w1 := z7a (z81 hu ad m c w1) (by simp) (by simp) (by simp) (by simp)
 unfold wpList
 have hw1 : Region.wanted (⟨some d, .binOp .eql t x (.const (.slice none 0 0)) ty2, ty, pos, aft, none⟩ : Oper) (yielded ops a1.tmps) = true := by simp [Region.wanted]
 rw [if_pos hw1]
 refine .inl ?_
 unfold Oper.wp
 have he1 : (execOp a1.eval ⟨some d, .binOp .eql t x (.const (.slice none 0 0)) ty2, ty, pos, aft, none⟩).run P w1 = .ok (.value (.bool ad.isNone)) w1 := by
  unfold execOp
  simp [hsl, hcv, z3h, hbin]
 rw [he1, Oper.upon_value]
 unfold wpList
 have hp := hf1.put0 (o := ⟨some d, .binOp .eql t x (.const (.slice none 0 0)) ty2, ty, pos, aft, none⟩) (by simp only [z6o, decide_eq_true_eq]; exact hd) (d := .bool ad.isNone) (v := .bool ad.isNone) (by simp [rel])
 refine ⟨_, _, ?_, hp, hs.trans hs1⟩
 cases ha : ad.isNone with
 | true => exact hQt (hb ha)
 | false => exact hQf
theorem zol {N rid : Nat} {own : List Nat} {l1 : List Oper} {ops : Array Oper} {x hiO : Operand} {d d2 : Nat} {t e ty ty2 : TypeId} {pos pos2 : String} {aft aft2 : Array Edge} {Q : Exit -> St -> Prop} {st : St}
  (hops : ops.toList = l1 ++ [⟨some d, .slice t x none (some hiO) none, ty, pos, aft, none⟩, ⟨some d2, .assign (.tmp d), ty2, pos2, aft2, none⟩])
  (hN : ∀ o ∈ l1, z6o N o = true) (hd : d < N) (hd2 : d2 < N) (ht : z17 P t = some e) (hsz : z06 P e ≠ 0)
  (h : z1z P own (zow ops) l1 (fun st1 => ∃ id n i cs, st1.ev x = .osl id n /\ st1.ev hiO = .int .i64 (i : Nat) /\ st1.H id = some (.row e n cs) /\ i <= n /\ 0 < n /\
   Q .normal ((({ st1 with H := z0d (z0d st1.H id none) st1.nx (some (.row e i (cs.take (i * z06 P e)))), nx := st1.nx + 1 } : St).put (some d) (.osl st1.nx i)).put (some d2) (.osl st1.nx i))) st) : Sem P N (.region rid ops false) Q st := by
 intro s0 w0 s a w hf hs
 refine wp_region_list ?_
 rw [hops]
 refine z6y l1 st s a w hN h hf ?_
 rintro st1 s1 a1 w1 ⟨id, n, i, cs, hx, hhi, hH, hi, hn, hQ⟩ hf1 hs1
 have hu := z1v ht
 obtain ⟨inf, hinf⟩ := z1k hsz
 have hso := z1d (P := P) hinf
 have hH1 : s1.H id = some (.row e n cs) := by rw [hf1.H]; exact hH
 have hvx := hf1.ev x
 rw [hx] at hvx
 have hvhi := hf1.ev hiO
 rw [hhi] at hvhi
 simp only [rel] at hvx hvhi
 obtain ⟨hid, _, hlive⟩ := hvx
 have hv := (hlive _ _ _ hH1).2 rfl
 obtain ⟨vs, ho, hr, h1, hcl, _⟩ := z2s hf1.heap hH1
 have hvl := ho.1
 rcases ho.2 with ⟨_, h0⟩ | ⟨g, cap, cur, hκ, _, hg, hnc, hcm, hcs, htake⟩
 ·omega
 rw [hκ] at hv
 have hb := z3g (P := P) (len := n) (cap := cap) (lo := none) (hi := some (a1.eval hiO)) (l := 0) (h := (i : Nat)) (w := w1) hnc (.inl ⟨rfl, rfl⟩) (.inr ⟨.i64, by rw [hvhi]⟩) (by omega) (by omega) (by omega)
 have hrun1 : (Instr.sliceAt t (a1.eval x) none (some (a1.eval hiO)) none).run P w1 = .ok (.slice (some ⟨g, 0, none⟩) i cap) w1 := by
  rw [hv]
  simp [Instr.sliceAt, Instr.slice, run_underlying hu, hb, hso]
  exact fun _ => by simp [Addr.add]
 let v' : Value := .slice (some ⟨g, 0, none⟩) i cap
 unfold wpList
 have hw1 : Region.wanted (⟨some d, .slice t x none (some hiO) none, ty, pos, aft, none⟩ : Oper) (yielded ops a1.tmps) = true := by simp [Region.wanted]
 rw [if_pos hw1]
 refine .inl ?_
 unfold Oper.wp
 have he1 : (execOp a1.eval ⟨some d, .slice t x none (some hiO) none, ty, pos, aft, none⟩).run P w1 = .ok (.value v') w1 := by
  unfold execOp
  simp [hrun1]
  rfl
 rw [he1, Oper.upon_value]
 have hsz1 : d < a1.tmps.size := by rw [hf1.size]; exact hd
 have hdv : (a1.put (some d) v').eval (.tmp d) = v' := by
  simp [Act.put, Act.eval, Array.getD, hsz1]
 have hbk : blockOf (s1.κ id) = some g := by rw [hκ]; rfl
 obtain ⟨g1, g2⟩ := znz (w' := w1) hf1.heap id (.row e i (cs.take (i * z06 P e))) v' hH1 rfl rfl rfl (Nat.le_refl _) (fun _ _ _ => rfl) (fun b hb => .inl (by rw [hbk]; exact hb))
  (fun hl => ⟨vs.take (i * z06 P e), ⟨by rw [List.length_take, Nat.min_eq_left]; rw [hvl]; exact Nat.mul_le_mul_right _ hi, .inr ⟨g, cap, cur, rfl, Nat.zero_le _, hg, by omega, hcm, hcs, by
   rw [<- htake, List.take_take, Nat.min_eq_left]; exact Nat.mul_le_mul_right _ hi⟩⟩, z31 _ (relAll.later hl _ _ hr), z67 h1 _⟩)
 have hrelv : rel (mvS s1 id v' (.row e i (cs.take (i * z06 P e)))) (.osl s1.nx i) v' := by
  simp only [rel]
  refine ⟨Nat.lt_succ_self _, ⟨_, _, rfl⟩, fun e2 k2 cs2 hH2 => ?_⟩
  simp only [mvS, z0d, if_true, Option.some.injEq, HObj.row.injEq] at hH2
  obtain ⟨_, rfl, _⟩ := hH2
  exact ⟨Nat.le_refl _, fun _ => by simp [mvS]⟩
 have hp := hf1.put (o := ⟨some d, .slice t x none (some hiO) none, ty, pos, aft, none⟩) g1.later g2 (by simp only [z6o, decide_eq_true_eq]; exact hd) (d := .osl s1.nx i) (v := v') hrelv (H := z0d (z0d st1.H id none) st1.nx (some (.row e i (cs.take (i * z06 P e))))) (nx := st1.nx + 1) (by simp only [mvS, hf1.H, hf1.nx]) (by simp only [mvS, hf1.nx])
 have hp2 := hp.put0 (o := ⟨some d2, .assign (.tmp d), ty2, pos2, aft2, none⟩) (by simp only [z6o, decide_eq_true_eq]; exact hd2) (d := .osl s1.nx i) (v := v') hrelv
 unfold wpList
 have hw2 : Region.wanted (⟨some d2, .assign (.tmp d), ty2, pos2, aft2, none⟩ : Oper) (yielded ops (a1.put (some d) v').tmps) = true := by simp [Region.wanted]
 rw [if_pos hw2]
 refine .inl ?_
 unfold Oper.wp
 have he2 : (execOp (a1.put (some d) v').eval ⟨some d2, .assign (.tmp d), ty2, pos2, aft2, none⟩).run P w1 = .ok (.value v') w1 := by
  unfold execOp
  simp [hdv]
 rw [he2, Oper.upon_value]
 unfold wpList
 rw [hf1.nx] at hp2
 exact ⟨_, _, hQ, hp2, hs.trans (hs1.trans g1)⟩
end Abs
end
section
open Abs Facts Go.Lib Go.Shelf Go.RowKit
set_option maxHeartbeats 4000000 in
theorem zxf {w : World} {v : Value} {n m : Nat} {a : Addr} {c : Nat} {cap : Nat} {ba : Option Addr} (hm : 0 < m) (hv : v = .slice ba n cap) (v' : Value) (w' : World)
  (hr : ∀ ty, (Builtin.append_ #[115, 115] ty #[v, .slice (some a) m c]).run Tryz.prog w = .ok v' w') :
  Calls Tryz.prog 97 #[v, .int .i64 n, .slice (some a) m c] w fun e w2 => e = .returned v' /\ w2 = w' := by
 subst hv
 have hz1 : ¬ ((m : Int) = 0) := by omega
 go_enter Tryz.func97, Tryz.ntmps97
 go_wp2_with (at_builtin; refine Lib.wpList_append_run _ rfl _ _ _ _ rfl _ _ rfl rfl _ _ (hr _) ?_)
 all_goals (go_ret; exact ⟨rfl, rfl⟩)
set_option maxHeartbeats 4000000 in
theorem zpd {w : World} {g n cap i m vc : Nat} {va : Addr} {cur : Array Value} {A B R vs : List Value} (hi : i < n) (hm : 0 < m) (hroom : n + m <= cap) (hc63 : cap <= 9223372036854775807)
  (hg : w.heap[g]? = some (.cells cur 75 (0, 0))) (hcur : cur.toList = A ++ B ++ R) (hA : A.length = i) (hB : B.length = (n - i)) (hR : m <= R.length)
  (hvb : va.block ≠ g) (hvl : vs.length = m) (hvs : ∀ j v, vs[j]? = some v -> w.cell? (va.add j) = some v) (h1c : ∀ v ∈ B, v.oneCell' = true) (h1v : ∀ v ∈ vs, v.oneCell' = true)
  (tA : TypeId) (kA : Nat) (hsa : w.shape? va.block = some (tA, kA)) (hkA : kA ≠ 0) :
  Calls Tryz.prog 97 #[.slice (some ⟨g, 0, none⟩) n cap, .int .i64 i, .slice (some va) m vc] w fun e w2 => e = .returned (.slice (some ⟨g, 0, none⟩) (n + m) cap) /\ w2 = w.drew.setRow g (A ++ vs ++ B ++ R.drop (m)).toArray := by
 have hz1 : ¬ ((m : Int) = 0) := by omega
 have hz2 : ¬ ((i : Int) = (n : Int)) := by omega
 have t25 : Tryz.prog.underlying 115 = some (.slice 75) := rfl
 have hsz : (Tryz.prog.info? 75).map (·.size) = some 1 := rfl
 have hw1 : IntKind.i64.wrap ((i : Int) + (m : Int)) = (i : Int) + (m : Int) := by rw [IntKind.wrap_i64]; omega
 have hb1 : (0 : Int) <= (i : Int) + (m : Int) := by omega
 have hin : i <= n := by omega
 have htn : ((i : Int) + (m : Int)).toNat = i + m := by omega
 have hb2 : ¬ (cap = i + m) := by omega
 have hb3 : (i : Int) <= (n : Int) + (m : Int) := by omega
 have hb4 : ¬ (cap = i) := by omega
 have hsl : cur.size = i + (n - i) + R.length := by rw [<- Array.length_toList, hcur, List.length_append, List.length_append, hA, hB]
 have hov : ∀ lb cb, (callFunc 149 #[.slice (some va) m vc, .slice (some ⟨g, (i + m), none⟩) lb cb]).run Tryz.prog w = .ok (.value (.bool false)) w := fun lb cb => by
  rw [run_callFunc_extern Tryz.func149 (by kernel_rfl) (by kernel_rfl) (by kernel_rfl) (e := Extern.SlicesOverlaps.overlaps #[115, 115] #[4]) (by kernel_rfl),
   z86 w 115 4 75 t25 1 (fun _ => rfl) va ⟨g, (i + m), none⟩ m vc lb cb hvb tA 75 kA cur.size hsa (by simp [World.shape?, hg]) hkA (by simp [World.frozen?, hg]) (by simp [World.frozen?, hg])]
  rfl
 have hcp1 : ∀ ty dc sc, (Builtin.copy_ #[115, 115] ty #[.slice (some ⟨g, (i + m), none⟩) (n + m - (i + m)) dc, .slice (some ⟨g, i, none⟩) (n + m - i) sc]).run Tryz.prog w.drew = .ok (goInt (Nat.min (n + m - i) (n + m - (i + m)))) (w.drew.setRow g ((A ++ B ++ R).take (i + m) ++ B ++ (A ++ B ++ R).drop (i + m + (n - i))).toArray) := fun ty dc sc => by
  have h := z2t (P := Tryz.prog) w.drew 115 115 ty 75 1 g ((i + m)) (n + m - (i + m)) dc cur ⟨g, i, none⟩ (n + m - i) sc B t25 hsz (by rw [hB]; simp only [Nat.mul_one, Nat.min_def]; split <;> omega)
   (fun j v hj => by
    rw [Addr.add_lit]
    show w.cell? _ = _
    have : cur.toList[i + j]? = some v := by rw [hcur, List.append_assoc, List.getElem?_append_right (by omega), hA, Nat.add_sub_cancel_left, List.getElem?_append_left ((List.getElem?_eq_some_iff.1 hj).1)]; exact hj
    simp only [World.cell?, hg]
    simpa using this) hg (by omega) h1c
  rw [hcur, hB] at h
  exact h
 obtain ⟨c1, hc1⟩ : ∃ c1, c1 = (A ++ B ++ R).take (i + m) ++ B ++ (A ++ B ++ R).drop (i + m + (n - i)) := ⟨_, rfl⟩
 rw [<- hc1] at hcp1
 have hg1 : (w.drew.setRow g c1.toArray).heap[g]? = some (.cells c1.toArray 75 (0, 0)) := by
  have hgg : w.drew.heap[g]? = some (.cells cur 75 (0, 0)) := hg
  simp [World.setRow, Array.getElem?_modify, hgg]
 have hcl : c1.length = cur.size := by
  rw [hc1, List.length_append, List.length_append, List.length_take, List.length_drop, List.length_append, List.length_append, hA, hB, hsl]; omega
 have hcp2 : ∀ ty dc, (Builtin.copy_ #[115, 115] ty #[.slice (some ⟨g, i, none⟩) (n + m - i) dc, .slice (some va) m vc]).run Tryz.prog (w.drew.setRow g c1.toArray) = .ok (goInt (Nat.min m (n + m - i))) (w.drew.setRow g (A ++ vs ++ B ++ R.drop (m)).toArray) := fun ty dc => by
  have h := z2t (P := Tryz.prog) (w.drew.setRow g c1.toArray) 115 115 ty 75 1 g (i) (n + m - i) dc c1.toArray va m vc vs t25 hsz (by rw [hvl]; simp only [Nat.mul_one, Nat.min_def]; split <;> omega)
   (fun j v hj => by
    rw [World.cell?_of_block (w := w)]
    ·exact hvs j v hj
    ·show (w.drew.setRow g c1.toArray).heap[(va.add j).block]? = _
     have : (va.add j).block = va.block := by unfold Addr.add; split <;> rfl
     rw [this]
     simp only [World.setRow, Array.getElem?_modify]
     rw [if_neg (fun h => hvb h.symm)]
     rfl) hg1 (by simp; omega) h1v
  have h2 := zgf (α := Value) (A := A) (B := B) (R := R) (vs := vs) (i := i) (k := (n - i)) (m := m) hA hB hvl hR
  simp only at h2
  rw [<- hc1] at h2
  rw [hvl, show c1.toArray.toList = c1 from rfl, h2, z7n] at h
  exact h
 clear hc1 hg1 hcl
 have z0b : Tryz.prog.follows .mixedOrders = true := by kernel_rfl
 go_enter Tryz.func97, Tryz.ntmps97
 go_wp2_with (simp only [hov])
 go_region_law_o (refine step_copy_runI rfl _ _ 115 115 rfl _ _ (by simp [Act.eval, Act.put]) (by simp [Act.eval, Act.put]) (hcp1 _ _ _) ?_)
 go_wp2_with (at_builtin; refine wpList_copy_runI _ rfl _ _ 115 115 rfl _ _ rfl rfl (hcp2 _ _) ?_)
 all_goals (go_ret; exact ⟨rfl, by simp only [List.append_assoc]⟩)
def ztl (w : World) (k : Nat) (xs : List Value) (e : Ending) (w2 : World) : Prop :=
 ∃ G Y, e = .returned (.slice (some ⟨w.heap.size, 0, none⟩) k G) /\ k <= G /\ G <= maxLen /\ Y.length = (G - k) /\
  w2.heap = w.heap.push (.cells (xs ++ Y).toArray 75 (0, 0)) /\ w2.os = w.os /\ w2.tape = w.tape /\ w2.output = w.output
set_option maxHeartbeats 4000000 in
theorem ztm {w : World} {g n cap i m vc : Nat} {va : Addr} {A B vs : List Value} (hi : i < n) (hm : 0 < m) (hnc : n <= cap) (hroom : cap < n + m) (hbig : (n + m) * z0q Tryz.prog 75 <= 140737488355328) (h63 : n + m <= maxLen)
  (hA : A.length = i) (hB : B.length = (n - i)) (hcs : ∀ j v, (A ++ B)[j]? = some v -> w.cell? ⟨g, j, none⟩ = some v)
  (hvl : vs.length = m) (hvs : ∀ j v, vs[j]? = some v -> w.cell? (va.add j) = some v) (h1c : ∀ v ∈ B, v.oneCell' = true) (h1v : ∀ v ∈ vs, v.oneCell' = true) :
  Calls Tryz.prog 97 #[.slice (some ⟨g, 0, none⟩) n cap, .int .i64 i, .slice (some va) m vc] w (ztl w (n + m) (A ++ vs ++ B)) := by
 have hz1 : ¬ ((m : Int) = 0) := by omega
 have hz2 : ¬ ((i : Int) = (n : Int)) := by omega
 have hz3 : (cap : Int) < (n : Int) + (m : Int) := by omega
 have t25 : Tryz.prog.underlying 115 = some (.slice 75) := rfl
 have t3 : Tryz.prog.underlying 3 = some (.int .i64) := rfl
 have hsz : (Tryz.prog.info? 75).map (·.size) = some 1 := rfl
 obtain ⟨i0, z, hi0, hz0, hzs⟩ := z44 (P := Tryz.prog) (t := 75) (by kernel_rfl)
 have hi8 : i0.size = 1 := by rw [hi0] at hsz; simpa using hsz
 have hzs8 : z.cells.size = 1 := by rw [hzs]; exact z63
 have hby : i0.bytes = z0q Tryz.prog 75 := by simp [z0q, hi0]
 have hik : i + (n + m - i) = n + m := by omega
 have hAv : ∀ j v, A[j]? = some v -> w.cell? ⟨g, j, none⟩ = some v := fun j v h => hcs j v (by rw [List.getElem?_append_left ((List.getElem?_eq_some_iff.1 h).1)]; exact h)
 have hBv : ∀ j v, B[j]? = some v -> w.cell? ⟨g, i + j, none⟩ = some v := fun j v h => hcs _ v (by rw [List.getElem?_append_right (by omega), hA, Nat.add_sub_cancel_left]; exact h)
 have hbw : g < w.heap.size := by
  have h0 : 0 < B.length := by rw [hB]; omega
  exact block_lt_of_cell (hBv 0 _ (List.getElem?_eq_getElem h0))
 have hvw : va.block < w.heap.size := by
  have h0 : 0 < vs.length := by rw [hvl]; omega
  have := block_lt_of_cell (hvs 0 _ (List.getElem?_eq_getElem h0))
  have h2 : (va.add 0).block = va.block := by unfold Addr.add; split <;> rfl
  rwa [h2] at this
 have hold : (Builtin.firstCells i0.size i (.slice (some ⟨g, 0, none⟩) i cap)).run Tryz.prog w.drew = .ok A.toArray w.drew := by
  rw [hi8]
  exact run_firstCells_some w.drew 1 i ⟨g, 0, none⟩ i cap A (by rw [hA, Nat.mul_one]) (fun j v hj => by rw [Addr.add_lit, Nat.zero_add]; exact hAv j v hj)
 obtain ⟨G, hG⟩ : ∃ G, G = grownCap w (n + m) cap 75 := ⟨_, rfl⟩
 obtain ⟨Z, hZ⟩ : ∃ Z, Z = (Builtin.zeroCells z.cells (n + m - i) ++ Builtin.zeroCells z.cells (G - (n + m))).toList := ⟨_, rfl⟩
 have hGn : n + m <= G := by rw [hG]; exact grownCap_ge w _ _ _
 have hG63 : G <= maxLen := by rw [hG]; exact grownCap_le_maxLen w (n + m) cap 75 h63
 have hZl : Z.length = (G - i) := by
  rw [hZ, Array.length_toList, Array.size_append, size_zeroCells, size_zeroCells, hzs8, <- Nat.add_mul]; congr 1; omega
 have hrz : ∀ ty, (Builtin.append_ #[115, 3] ty #[.slice (some ⟨g, 0, none⟩) i cap, .int .i64 ((n : Int) + (m : Int) - (i : Int))]).run Tryz.prog w =
   .ok (.slice (some ⟨w.heap.size, 0, none⟩) (n + m) G) (w.drew.alloc (.cells (A ++ Z).toArray 75)) := fun ty => by
  have h := Lib.run_append_grow_zeros (P := Tryz.prog) w 115 3 ty 75 i0 z .i64 .i64 t25 t3 hi0 hz0 (some ⟨g, 0, none⟩) i cap A hold (n + m - i) (by omega) (by omega) (by omega) (by simp only [maxLen] at h63; omega)
   (by rw [hby]; have := Nat.mul_le_mul_right (z0q Tryz.prog 75) (show n + m - i <= n + m by omega); omega) (by rw [hby, hik]; exact growslice_fits hroom hbig)
  rw [hik, <- hG] at h
  rw [show (n : Int) + (m : Int) - (i : Int) = ((n + m - i : Nat) : Int) by omega, h, hZ]
  congr 3
  apply Array.ext'
  simp
 obtain ⟨W1, hW1⟩ : ∃ W1, W1 = w.drew.alloc (.cells (A ++ Z).toArray 75) := ⟨_, rfl⟩
 have hheap : W1.heap = w.heap.push (.cells (A ++ Z).toArray 75 (0, 0)) := by rw [hW1]; rfl
 have hOb : ∀ (W : World) (x : List Value) (j : Nat) (b : Nat) (v : Value), W.heap = w.heap.push (.cells x.toArray 75 (0, 0)) -> b < w.heap.size -> ∀ sp, w.cell? ⟨b, j, sp⟩ = some v -> W.cell? ⟨b, j, sp⟩ = some v := fun W x j b v hW hb sp h => by
  rw [World.cell?_of_block (w := w)]
  ·exact h
  ·show W.heap[b]? = _
   rw [hW, Array.getElem?_push, if_neg (by omega)]
 obtain ⟨c1, hc1⟩ : ∃ c1, c1 = (A ++ Z).take (i) ++ vs ++ (A ++ Z).drop (i + m) := ⟨_, rfl⟩
 have hcl : c1.length = A.length + Z.length := by
  rw [hc1, List.length_append, List.length_append, List.length_take, List.length_drop, List.length_append, hA, hvl, hZl]; omega
 obtain ⟨Y, hY⟩ : ∃ Y, Y = Z.drop (m + (n - i)) := ⟨_, rfl⟩
 have hYl : Y.length = (G - (n + m)) := by rw [hY, List.length_drop, hZl]; omega
 have hrow : ∀ (W : World) (x y : List Value), W.heap = w.heap.push (.cells x.toArray 75 (0, 0)) -> (W.setRow w.heap.size y.toArray).heap = w.heap.push (.cells y.toArray 75 (0, 0)) := fun W x y hW => by
  unfold World.setRow
  simp only
  rw [hW, zem]
 have hcpA : ∀ (W : World), W.heap = W1.heap -> ∀ ty dc, (Builtin.copy_ #[115, 115] ty #[.slice (some ⟨w.heap.size, i, none⟩) (n + m - i) dc, .slice (some va) m vc]).run Tryz.prog W = .ok (goInt (Nat.min m (n + m - i))) (W.setRow w.heap.size c1.toArray) := fun W hW ty dc => by
  rw [hheap] at hW
  have hgW : W.heap[w.heap.size]? = some (.cells (A ++ Z).toArray 75 (0, 0)) := by rw [hW, Array.getElem?_push, if_pos rfl]
  have h := z2t (P := Tryz.prog) W 115 115 ty 75 1 w.heap.size (i) (n + m - i) dc (A ++ Z).toArray va m vc vs t25 hsz (by rw [hvl]; simp only [Nat.mul_one, Nat.min_def]; split <;> omega)
   (fun j v hj => by
    have := hvs j v hj
    unfold Addr.add at this ⊢
    split at this <;> rename_i hsp <;> simp only [hsp] <;> exact hOb W _ _ _ _ hW hvw _ this) hgW (by rw [List.size_toArray, List.length_append, hA, hvl, hZl]; omega) h1v
  rw [hvl] at h
  rw [hc1]
  exact h
 have hcpB : ∀ (W : World), W.heap = (W1.setRow w.heap.size c1.toArray).heap -> ∀ ty dc sc, (Builtin.copy_ #[115, 115] ty #[.slice (some ⟨w.heap.size, (i + m), none⟩) (n + m - (i + m)) dc, .slice (some ⟨g, i, none⟩) (n - i) sc]).run Tryz.prog W = .ok (goInt (Nat.min (n - i) (n + m - (i + m)))) (W.setRow w.heap.size (A ++ vs ++ B ++ Y).toArray) := fun W hW ty dc sc => by
  rw [hrow W1 _ _ hheap] at hW
  have hgW : W.heap[w.heap.size]? = some (.cells c1.toArray 75 (0, 0)) := by rw [hW, Array.getElem?_push, if_pos rfl]
  have h := z2t (P := Tryz.prog) W 115 115 ty 75 1 w.heap.size ((i + m)) (n + m - (i + m)) dc c1.toArray ⟨g, i, none⟩ (n - i) sc B t25 hsz (by rw [hB]; simp only [Nat.mul_one, Nat.min_def]; split <;> omega)
   (fun j v hj => by rw [Addr.add_lit]; exact hOb W _ _ _ _ hW hbw _ (hBv j v hj)) hgW (by rw [List.size_toArray, hcl, hA, hB, hZl]; omega) h1c
  have h2 := zjf (α := Value) (A := A) (B := B) (Z := Z) (vs := vs) (i := i) (k := (n - i)) (m := m) hA hB hvl (by rw [hZl]; omega)
  simp only at h2
  rw [<- hc1, <- hY] at h2
  rw [hB, show c1.toArray.toList = c1 from rfl, h2] at h
  exact h
 have hfin : ∀ (W : World), W.heap = (W1.setRow w.heap.size c1.toArray).heap -> (W.setRow w.heap.size (A ++ vs ++ B ++ Y).toArray).heap = w.heap.push (.cells (A ++ vs ++ B ++ Y).toArray 75 (0, 0)) := fun W hW => hrow W c1 _ (hW.trans (hrow W1 _ _ hheap))
 have hGi : ¬ (G = i) := by omega
 have hGim : ¬ (G = i + m) := by omega
 have hci : ¬ (cap = i) := by omega
 have hw1 : IntKind.i64.wrap ((i : Int) + (m : Int)) = (i : Int) + (m : Int) := by simp only [maxLen] at h63; rw [IntKind.wrap_i64]; omega
 have h63b : n + m <= 9223372036854775807 := h63
 have hG63b : G <= 9223372036854775807 := hG63
 have hb1 : (0 : Int) <= (i : Int) + (m : Int) := by omega
 have hin : i <= n := by omega
 have htn : ((i : Int) + (m : Int)).toNat = i + m := by omega
 have hb3 : (i : Int) <= (n : Int) := by omega
 have z0b : Tryz.prog.follows .mixedOrders = true := by kernel_rfl
 have hfinal : ∀ (W : World), W.heap = (W1.setRow w.heap.size c1.toArray).heap -> W.os = w.os -> W.tape = w.tape -> W.output = w.output -> ztl w (n + m) (A ++ vs ++ B) (.returned (.slice (some ⟨w.heap.size, 0, none⟩) (n + m) G)) (W.setRow w.heap.size (A ++ vs ++ B ++ Y).toArray) := fun W hW h1 h2 h3 => ⟨G, Y, rfl, hGn, hG63, hYl, hfin W hW, h1, h2, h3⟩
 clear hfin
 subst hW1
 obtain ⟨r0, hr0⟩ : ∃ r0 : Array Value, r0 = (A ++ Z).toArray := ⟨_, rfl⟩
 obtain ⟨r1, hr1⟩ : ∃ r1 : Array Value, r1 = c1.toArray := ⟨_, rfl⟩
 obtain ⟨r2, hr2⟩ : ∃ r2 : Array Value, r2 = (A ++ vs ++ B ++ Y).toArray := ⟨_, rfl⟩
 simp only [<- hr0, <- hr1, <- hr2] at *
 clear hcs h63 hG63 hik hold hG hZ hZl hc1 hY hrow hheap hOb hAv hBv hcl hr0 hr1 hr2 hvs
 have hE : ((w.alloc (.cells r0 75)).drew).heap = (w.drew.alloc (.cells r0 75)).heap := rfl
 have hF : (((w.alloc (.cells r0 75)).drew.setRow w.heap.size r1).drew).heap = ((w.drew.alloc (.cells r0 75)).setRow w.heap.size r1).heap := rfl
 go_enter Tryz.func97, Tryz.ntmps97
 go_wp2_with (first
  | (at_builtin; refine Lib.wpList_append_run _ rfl _ _ _ _ rfl _ _ rfl rfl _ _ (hrz _) ?_)
  | (at_builtin; refine wpList_copy_runI _ rfl _ _ 115 115 rfl _ _ rfl rfl (hcpA _ hE _ _) ?_))
 go_region_law_o (refine step_copy_runI rfl _ _ 115 115 rfl (.slice (some ⟨w.heap.size, (i + m), none⟩) (n + m - (i + m)) (G - (i + m))) (.slice (some ⟨g, i, none⟩) (n - i) (cap - i)) (by simp [Act.eval, Act.put]) (by simp [Act.eval, Act.put]) (hcpB _ hF _ _ _) ?_)
 go_wp2
 all_goals (go_ret; first | exact hfinal _ hF rfl rfl rfl | (simp only [List.append_assoc] at hfinal ⊢; exact hfinal _ hF rfl rfl rfl))
set_option maxHeartbeats 1000000 in
theorem zlv {w : World} {v : Value} {n i m vc : Nat} {va : Addr} {xs vs : List Value} (hi : i <= n) (hm : 0 < m) (hown : w.ownsRow 0 75 1 v n xs) (hox : z54 xs)
  (hbig : (n + m) * z0q Tryz.prog 75 <= 140737488355328) (h63 : n + m <= maxLen) (hvb : v.ownBlock ≠ some va.block)
  (hvl : vs.length = m) (hvs : ∀ j u, vs[j]? = some u -> w.cell? (va.add j) = some u) (h1v : z54 vs) :
  Calls Tryz.prog 97 #[v, .int .i64 i, .slice (some va) m vc] w fun e w' => ∃ v', e = .returned v' /\ w'.ownsRow 0 75 1 v' (n + m) (xs.take (i) ++ vs ++ xs.drop (i)) /\ w.grownBy w' v.ownBlock /\
   (∀ b, blockOf v' = some b -> blockOf v = some b \/ w.heap.size <= b) := by
 have hxl := hown.1
 obtain ⟨tA, kA, hsa, hkA⟩ : ∃ tA kA, w.shape? va.block = some (tA, kA) /\ kA ≠ 0 := by
  have h0 : 0 < vs.length := by rw [hvl]; omega
  have h1 := hvs 0 _ (List.getElem?_eq_getElem h0)
  have h2 : (va.add 0).block = va.block := by unfold Addr.add; split <;> rfl
  unfold World.cell? at h1
  rw [h2] at h1
  unfold World.shape?
  split at h1
  ·rename_i c t fz hh
   refine ⟨t, c.size, rfl, fun h3 => ?_⟩
   split at h1
   ·cases h1
   ·rw [Array.getElem?_eq_none (by omega)] at h1; cases h1
  ·cases h1
 by_cases hin : i = n
 ·subst hin
  obtain ⟨v', w', hr, hown', hg, hbl, _⟩ := z4q (P := Tryz.prog) (ty := 0) (t := 115) (e := 75) rfl (by rw [z63]; omega) (by kernel_rfl) (v := v) (n := i) (m := m) (xs := xs) (vs := vs) (by rw [z63]; exact hown) hbig h63 (.inr ⟨va, vc, rfl, h1v, by rw [z63, Nat.mul_one]; exact hvl, hvs⟩)
  rw [z63] at hown'
  obtain ⟨a, c, hvv⟩ := z6b hown
  refine (zxf (v' := v') (w' := w') hm hvv (fun ty => hr)).mono ?_
  rintro e w2 ⟨rfl, rfl⟩
  refine ⟨v', rfl, ?_, hg, hbl⟩
  rw [List.take_of_length_le (by omega), List.drop_of_length_le (by omega), List.append_nil]
  exact hown'
 ·rcases hown.2 with ⟨rfl, rfl⟩ | ⟨g, cap, cur, rfl, _, hg, hnc, hcm, hcs, htake⟩
  ·omega
  ·rw [Nat.mul_one] at hcs htake
   have hA : (xs.take (i)).length = i := by rw [List.length_take, hxl]; omega
   have hB : (xs.drop (i)).length = (n - i) := by rw [List.length_drop, hxl]; omega
   have hcl : cur.toList.length = cap := by rw [Array.length_toList]; exact hcs
   by_cases hroom : n + m <= cap
   ·refine (zpd (w := w) (g := g) (n := n) (cap := cap) (i := i) (m := m) (vc := vc) (va := va) (cur := cur) (A := xs.take (i)) (B := xs.drop (i)) (R := cur.toList.drop (n)) (vs := vs) (by omega) hm hroom (by simp only [maxLen] at hcm; omega) hg
     (by rw [List.take_append_drop, <- htake, List.take_append_drop]) hA hB (by rw [List.length_drop, hcl]; omega) (fun h => hvb (by rw [Value.ownBlock, h])) hvl hvs (fun u hu => hox u (List.mem_of_mem_drop hu)) h1v tA kA hsa hkA).mono ?_
    rintro e w2 ⟨rfl, rfl⟩
    refine ⟨_, rfl, ⟨?_, .inr ⟨g, cap, (xs.take (i) ++ vs ++ xs.drop (i) ++ (cur.toList.drop (n)).drop (m)).toArray, rfl, Nat.zero_le _, ?_, hroom, hcm, ?_, ?_⟩⟩, ⟨rfl, rfl, rfl, by simp [World.setRow], fun k hk hne => ?_⟩, fun b hb => .inl hb⟩
    ·rw [List.length_append, List.length_append, hA, hB, hvl]; omega
    ·have hgg : w.drew.heap[g]? = some (.cells cur 75 (0, 0)) := hg
     simp [World.setRow, Array.getElem?_modify, hgg]
    ·rw [List.size_toArray, List.length_append, List.length_append, List.length_append, hA, hB, hvl, List.length_drop, List.length_drop, hcl]; omega
    ·exact List.take_left' (by rw [List.length_append, List.length_append, hA, hB, hvl]; omega)
    ·simp only [World.setRow, Array.getElem?_modify]
     rw [if_neg (fun h => hne (by rw [Value.ownBlock, h]))]
     rfl
   ·refine (ztm (w := w) (g := g) (n := n) (cap := cap) (i := i) (m := m) (vc := vc) (va := va) (A := xs.take (i)) (B := xs.drop (i)) (vs := vs) (by omega) hm hnc (by omega) hbig h63 hA hB
     (by rw [List.take_append_drop]; intro j u hj; have := hown.cells (g := g) rfl j u hj; rwa [Addr.add_lit, Nat.zero_add] at this) hvl hvs (fun u hu => hox u (List.mem_of_mem_drop hu)) h1v).mono ?_
    rintro e w2 ⟨G, Y, rfl, hG, hG63, hY, hh, h1, h2, h3⟩
    refine ⟨_, rfl, ⟨?_, .inr ⟨w.heap.size, G, _, rfl, Nat.zero_le _, by rw [hh, Array.getElem?_push, if_pos rfl], hG, hG63, ?_, ?_⟩⟩, ⟨h1, h2, h3, by rw [hh, Array.size_push]; omega, fun k hk hne => by rw [hh, Array.getElem?_push, if_neg (by omega)]⟩, fun b hb => .inr ?_⟩
    ·rw [List.length_append, List.length_append, hA, hB, hvl]; omega
    ·rw [List.size_toArray, List.length_append, List.length_append, List.length_append, hA, hB, hvl, hY]; omega
    ·exact List.take_left' (by rw [List.length_append, List.length_append, hA, hB, hvl]; omega)
    ·simp only [blockOf, Option.some.injEq] at hb; omega
set_option maxHeartbeats 2000000 in
theorem zgi {H : HM} {nx id n i : Nat} {nn : Bool} {cs us els : List D} (hid : H id = some (.row 75 n cs)) (hi : i <= n) (hm : 0 < els.length) (hus : z1c 1 els = some us) (hb : n + els.length <= 1000000000) :
  AC Tryz.prog 97 [.osl id n, .int .i64 i, .rsl nn 1 els] H nx fun r H' nx' => r = .osl id (n + els.length) /\ H' = z0d H id (some (.row 75 (n + els.length) (cs.take (i) ++ us ++ cs.drop (i)))) /\ nx' = nx := by
 refine ⟨⟨_, Tryz.func97, by kernel_rfl, by kernel_rfl⟩, fun s w vs h1 h2 h h4 => ?_⟩
 subst h1; subst h2
 simp only [relAll] at h4
 obtain ⟨v, r1, rfl, hv, v2, r2, rfl, hv2, v3, r3, rfl, hv3, rfl⟩ := h4
 simp only [rel] at hv hv2
 subst hv2
 obtain ⟨hidn, _, hlive⟩ := hv
 have hv := (hlive _ _ _ hid).2 rfl
 subst hv
 obtain ⟨xs, ho, hrv, hov, _, _⟩ := z2s h hid
 rw [z63] at ho
 have hsrc := z53 h (e := 75) (n := 1) (m := els.length) (news := us) (by omega) (y := .rsl nn 1 els) z63 (by simp only [z7x, if_true, hus, Option.map_some]) hv3
 rcases hsrc with ⟨_, h0, _⟩ | ⟨a, c, ws, rfl, hrw, how, hwl, hwc⟩
 ·omega
 ·have hap := zkf h hv3 rfl hm (by omega)
  have hbt : z0q Tryz.prog 75 <= 1000 := by
   have : decide (z0q Tryz.prog 75 <= 1000) = true := by kernel_rfl
   exact of_decide_eq_true this
  have hne : (s.κ id).ownBlock ≠ some a.block := by
   rw [z45 ho]
   exact fun h5 => hap ⟨id, hidn, by rw [hid]; simp, h5⟩
  refine (zlv (w := w) (v := s.κ id) (n := n) (i := i) (m := els.length) (vc := c) (va := a) (xs := xs) (vs := ws) hi hm ho hov
   (by have := Nat.mul_le_mul hb hbt; omega) (by unfold maxLen; omega) hne (by rw [hwl, Nat.mul_one]) hwc how).mono ?_
  rintro e w' ⟨v', rfl, hown, hg, hbl⟩
  obtain ⟨g1, g2⟩ := z6u (w' := w') h id (.row 75 n cs) (.row 75 (n + els.length) (cs.take (i) ++ us ++ cs.drop (i))) v' hid hg.os hg.tape hg.output hg.size
   (fun k hk hne => hg.block k hk (by rw [z45 ho]; exact hne))
   (.inr ⟨n + els.length, _, rfl, Nat.le_add_right _ _, fun hnm => by omega⟩)
   (fun b hb => hbl b hb)
   (fun hl => ⟨xs.take (i) ++ ws ++ xs.drop (i), by rw [z63]; exact hown, relAll.later hl _ _ (z14 (z14 (z31 _ hrv) hrw) (z4n _ hrv)), z2d (z2d (z67 hov _) how) (z91 hov _)⟩)
  refine ⟨v', .osl id (n + els.length), s.set id v' (.row 75 (n + els.length) (cs.take (i) ++ us ++ cs.drop (i))), rfl, ⟨rfl, rfl, rfl⟩, g1, g2, ?_⟩
  simp only [rel]
  obtain ⟨a2, c2, hvs⟩ := z6b hown
  refine ⟨hidn, ⟨a2, c2, hvs⟩, fun e2 k2 cs2 hH => ?_⟩
  simp only [RS.set, z0d, if_true, Option.some.injEq, HObj.row.injEq] at hH
  obtain ⟨_, rfl, _⟩ := hH
  exact ⟨Nat.le_refl _, fun _ => by simp [RS.set]⟩
end
section
open Abs Facts Tr
attribute [local irreducible] awp
set_option maxRecDepth 100000
namespace Tr
theorem zir {α : Type} (f : α -> Bool) (l : List α) (h : z26 f l < l.length) : (l.take (z26 f l + 1)).filter (fun x => !f x) = l.take (z26 f l) := by
 have hk : ∀ j (hj : j < z26 f l), f (l[j]'(by omega)) = false := fun j hj => by
  have h2 := List.getElem_mem (l := l.takeWhile fun x => !f x) (n := j) hj
  have h3 : (l.takeWhile fun x => !f x)[j]'hj = l[j]'(by omega) := List.IsPrefix.getElem (List.takeWhile_prefix _) hj
  have h4 := List.all_eq_true.1 (List.all_takeWhile (p := fun x => !f x) (l := l)) _ h2
  rw [h3] at h4; simpa using h4
 have hf : f l[z26 f l] = true := by
  cases hq : f l[z26 f l] with
  | true => rfl
  | false =>
   exfalso
   have h5 : z26 f l = (z26 f l) + 1 \/ True := .inr trivial
   have : ∀ (m : List α) (hm : (m.takeWhile fun x => !f x).length < m.length), (!f (m[(m.takeWhile fun x => !f x).length]'hm)) = false := by
    intro m
    induction m with
    | nil => intro hm; simp at hm
    | cons a m ih =>
     intro hm
     cases ha : f a with
     | true => simp [List.takeWhile, ha]
     | false =>
      have ha' : (!f a) = true := by rw [ha]; rfl
      have e : ((a :: m).takeWhile fun x => !f x) = a :: m.takeWhile fun x => !f x := by simp [List.takeWhile, ha]
      have hm2 : (m.takeWhile fun x => !f x).length < m.length := by rw [e] at hm; simpa using hm
      have := ih hm2
      simp only [e, List.length_cons, List.getElem_cons_succ]
      exact this
   have := this l h
   have h9 : (!f l[z26 f l]) = false := this
   rw [hq] at h9; cases h9
 rw [List.take_succ_eq_append_getElem h, List.filter_append]
 have h1 : (l.take (z26 f l)).filter (fun x => !f x) = l.take (z26 f l) := by
  refine List.filter_eq_self.2 fun x hx => ?_
  obtain ⟨j, hj, rfl⟩ := List.getElem_of_mem hx
  rw [List.length_take] at hj
  rw [List.getElem_take, hk j (by omega)]; rfl
 rw [h1]; simp [hf]
end Tr
theorem z9v {K : St -> Prop} {Q : Exit -> St -> Prop} {st : St} (h : K st) : zsw K Q .normal st := h
theorem zoj {H : HM} {nx : Nat} : AC Tryz.prog 180 [.nil] H nx fun r H' nx' => r = .nil /\ H' = H /\ nx' = nx := by
 refine (z16 [] Tryz.func180 rfl (by decide +kernel) z0b (by decide +kernel) (by simp [Tryz.ntmps180]) ?_)
 show awp _ _ (Code.seq _ _) _ _
 repeat' (first | refine zqj ?_ | ((refine zqh fun K J => ?_); (simp (disch := omega) only [go_sem, Nat.reduceBEq, ↓reduceIte])) | ((refine zqd _ rfl (fun hc => ?_) (fun hc => ?_)) <;> (first | (cases hc; done) | ((try simp only [] at hc); (try (exfalso; omega))))) | refine zqg ?_ | refine zqu (by (simp (disch := omega) only [go_sem]); rfl) rfl ?_ | (refine J _ ?_; clear J K))
 (simp (disch := omega) only [go_sem, Nat.reduceBEq])
theorem zrr {H : HM} {nx id n : Nat} {cs : List D} (hid : H id = some (.row 75 n cs)) (hlt : id < nx) (hn : n <= 1000000) (hcs : cs.length = n) :
  AC Tryz.prog 180 [.osl id n] H nx fun r H' nx' => r = .osl (nx + 1) n /\ H' = z0d (z0d H nx (some row0)) (nx + 1) (some (.row 75 n cs)) /\ nx' = nx + 2 := by
 have hnb := z3z hlt
 refine zbl Tryz.func180 rfl (by decide +kernel) (by simp [Tryz.ntmps180]) ?_
 refine Sem.seq (Sem.walk (own := [2, 5]) z0b (by decide +kernel) ?_)
 repeat' (first | ((refine zqr fun K J => ?_); (simp (disch := omega) only [go_sem, Nat.reduceBEq, ↓reduceIte])) | (refine J _ ?_; clear J K))
 refine z9v ?_
 refine Sem.seq (Sem.seq (zrz (own := []) (l1 := [_]) (e := 75) rfl (by intro o ho; simp at ho; subst ho; decide) (by decide) zhy ?_))
 (simp (disch := omega) only [go_sem, Nat.reduceBEq])
 refine ⟨id, n, cs, rfl, by (simp (disch := omega) only [go_sem, hid, hnb]), ?_, fun h0 => ?_⟩
 ·refine z9v (Sem.cond false (by (simp (disch := omega) only [go_sem, Nat.reduceBEq])) (fun h => by cases h) fun _ => ?_)
  refine Sem.walk (own := []) z0b (by decide +kernel) (zqk (z9v ?_))
  refine Sem.walk (own := [2, 5]) z0b (by decide +kernel) ?_
  repeat' (first | ((refine zqh fun K J => ?_); (simp (disch := omega) only [go_sem, Nat.reduceBEq, ↓reduceIte, reduceCtorEq, Nat.reduceAdd, Nat.reduceLT, hid, hnb])) | refine zqn ?_ | refine zqu (by (simp (disch := omega) only [go_sem]); rfl) rfl ?_ | (refine J _ ?_; clear J K))
  (simp (disch := omega) only [go_sem, Nat.reduceBEq])
  rw [z4y]
  rfl
 ·subst h0
  have hc0 : cs = [] := List.eq_nil_of_length_eq_zero hcs
  subst hc0
  refine z9v (Sem.cond true (by (simp (disch := omega) only [go_sem, Nat.reduceBEq])) (fun _ => ?_) fun h => by cases h)
  refine Sem.walk (own := [2, 5]) z0b (by decide +kernel) ?_
  repeat' (first | ((refine zqh fun K J => ?_); (simp (disch := omega) only [go_sem, Nat.reduceBEq, ↓reduceIte])) | refine zqn ?_ | refine zqx ?_ | refine zqu (by (simp (disch := omega) only [go_sem]); rfl) rfl ?_ | (refine J _ ?_; clear J K))
  (simp (disch := omega) only [go_sem, Nat.reduceBEq])
  rfl
theorem zis {H : HM} {i : Nat} {o : HObj} (h : H i = some o) : z0d H i (some o) = H := by
 funext j; unfold z0d; split
 ·rename_i e; rw [e, h]
 ·rfl
theorem zmx {H : HM} {nx b : Nat} {i : Idv} {w : V} (hw : H w.num = some (.box 117 (z3c w))) (hb : H b = some (idB i)) (hwn : w.num < nx) (hbn : b < nx) :
  RC Tryz.prog 153 [.ptr w.num 0, .ptr b 0] H nx (.bool (decide (w.own.id = i))) := by
 refine (z16 [3000008, 3000009] Tryz.func153 rfl (by decide +kernel) z0b (by decide +kernel) (by simp [Tryz.ntmps153]) ?_)
 show awp _ _ (Code.seq _ _) _ _
 repeat' (first | ((first | refine zqh fun K J => ?_ | refine zqe (by decide +kernel) fun K J => ?_); (simp (disch := omega) only [go_sem, Nat.reduceBEq, Nat.reduceEqDiff, ↓reduceIte, reduceCtorEq, Nat.reduceAdd, Nat.reduceLeDiff, hw, hb, idB, z3c, z0j])) | refine zqn ?_ | refine zqu (by (simp (disch := omega) only [go_sem]); rfl) rfl ?_ | (refine J _ ?_; clear J K))
 (simp (disch := omega) only [go_sem, Nat.reduceBEq])
theorem zrs {H : HM} {nx id b : Nat} {i : Idv} {ks : List V} (hid : H id = some (rowV ks)) (hl : ks.length <= 1000000) (hb : H b = some (idB i)) (hbn : b < nx) (hks : ∀ k ∈ ks, H k.num = some (.box 117 (z3c k)) /\ k.num < nx) :
  RC Tryz.prog 183 [.osl id ks.length, .fn 153 [.ptr b 0]] H nx (.int .i64 (if z26 (fun k : V => decide (k.own.id = i)) ks < ks.length then (z26 (fun k : V => decide (k.own.id = i)) ks : Int) else -1)) := by
 obtain ⟨f, hf⟩ : ∃ f : V -> Bool, f = fun k : V => decide (k.own.id = i) := ⟨_, rfl⟩
 have hc : ∀ k ∈ ks, RC Tryz.prog 153 [.ptr k.num 0, .ptr b 0] H nx (.bool (f k)) := fun k hk => by rw [hf]; exact zmx (hks k hk).1 hb (hks k hk).2 hbn
 rw [<- hf]
 refine (z16 [] Tryz.func183 rfl (by decide +kernel) z0b (by decide +kernel) (by simp [Tryz.ntmps183]) ?_)
 show awp _ _ (Code.seq _ _) _ _
 repeat' (first | refine zqj ?_ | ((refine zqh fun K J => ?_); (simp (disch := omega) only [go_sem, Nat.reduceBEq])) | refine zqa ?_ | (refine J _ ?_; clear J K))
 unfold rowV at hid
 (refine z5b (fun U st => ∃ (j : _), U = ks.length - j /\ st.t 0 = .osl id ks.length /\ st.t 1 = .fn 153 [.ptr b 0] /\ st.t 7 = .int .i64 ks.length /\ st.t 8 = .int .i64 j /\ st.nx = nx /\ (j <= ks.length) /\ (st.H = H) /\ (∀ n, (hn : n < j) -> (h : n < ks.length) -> f ks[n] = false)) ?_ ?_); rotate_left; (rintro U st ⟨j, rfl, q0, q1, q7, q8, qnx, qp0, qp1, qp2⟩); rotate_left
 ·(refine ⟨_, 0, rfl, ?_⟩); (simp (disch := omega) only [go_sem, Nat.reduceBEq, true_and, Int.natCast_zero])
  exact fun n hn => by omega
 by_cases hj : j < ks.length
 ·have hg := List.getElem?_eq_getElem hj
  have hp := hc ks[j] (List.getElem_mem hj)
  repeat' (first | ((first | refine zqh fun K J => ?_ | refine zqr fun K J => ?_ | refine z10 (hp) ?_); (simp (disch := omega) only [go_sem, Nat.reduceBEq, ↓reduceIte, reduceCtorEq, Nat.reduceAdd, q0, q1, q7, q8, qnx, qp1, hid, hg])) | ((first | refine zqd _ rfl (fun hc => ?_) (fun hc => ?_) | refine zqm _ rfl (fun hc => ?_) (fun hc => ?_)) <;> (((try simp only [z0e] at hc); (try (exfalso; omega))))) | refine zqa ?_ | refine zqb ?_ | refine zqk ?_ | refine zqn ?_ | refine zqv ?_ | refine zqx ?_ | refine zqy ?_ | refine z8n ?_ | refine zqo ?_ | refine zqu (by (simp (disch := omega) only [go_sem]); rfl) rfl ?_ | (refine J _ ?_; clear J K))
  ·(simp (disch := omega) only [go_sem, Nat.reduceBEq])
   rw [z2k (k := j) (by omega) (fun n hn => qp2 n hn (by omega)) (fun h => by assumption), if_pos (by omega)]
  ·(refine Exists.intro _ (And.intro ?_ ⟨j + 1, rfl, ?_⟩)); rotate_left; (simp (disch := omega) only [go_sem, Nat.reduceBEq, q0, q1, q7, q8, true_and, Int.natCast_add, Int.natCast_one]); rotate_left
   ·omega
   ·refine ⟨by omega, fun n hn h => ?_⟩
    by_cases e : n = j
    ·subst e; assumption
    ·exact qp2 n (by omega) h
 ·repeat' (first | ((refine zqh fun K J => ?_); (simp (disch := omega) only [go_sem, ↓reduceIte, q7, q8, qnx])) | ((refine zqd _ rfl (fun hc => ?_) (fun hc => ?_)) <;> (((try simp only [z0e] at hc); (try (exfalso; omega))))) | refine zqc ?_ | refine zqn ?_ | refine zqv ?_ | refine zqz ?_ | refine zqp ?_ | refine zqu (by (simp (disch := omega) only [go_sem]); rfl) rfl ?_ | (refine J _ ?_; clear J K))
  have hj2 : j = ks.length := by omega
  subst hj2
  (simp (disch := omega) only [go_sem, Nat.reduceBEq, qp1])
  rw [z2k (k := ks.length) (by omega) (fun n hn => qp2 n hn (by omega)) (fun h => by omega), if_neg (by omega)]
theorem zok {H : HM} {nx id b : Nat} {i : Idv} {ks : List V} (hid : H id = some (rowV ks)) (hlt : id < nx) (hl : ks.length <= 1000000) (hb : H b = some (idB i)) (hbn : b < nx) (hbi : b ≠ id) (hks : ∀ k ∈ ks, H k.num = some (.box 117 (z3c k)) /\ k.num < nx /\ k.num ≠ id) (hk : ∃ k ∈ ks, k.own.id = i) :
  AC Tryz.prog 152 [.osl id ks.length, .fn 153 [.ptr b 0]] H nx fun r H' nx' => r = .osl nx (ks.filter fun k => !decide (k.own.id = i)).length /\ H' = z0d (z0d H id none) nx (some (rowV (ks.filter fun k => !decide (k.own.id = i)))) /\ nx' = nx + 1 := by
 have hix := zrs hid hl hb hbn (fun k hk => ⟨(hks k hk).1, (hks k hk).2.1⟩)
 obtain ⟨f, hf⟩ : ∃ f : V -> Bool, f = fun k : V => decide (k.own.id = i) := ⟨_, rfl⟩
 have hfn : z26 f ks < ks.length := by
  have := z7r f ks
  have ha : ks.any f = true := by
   obtain ⟨k, hk1, hk2⟩ := hk
   rw [List.any_eq_true]
   exact ⟨k, hk1, by rw [hf]; exact decide_eq_true hk2⟩
  rw [ha] at this; simpa using this
 have hfk : (ks.filter fun k => !decide (k.own.id = i)) = ks.filter fun k => !f k := by rw [hf]
 rw [hfk]
 rw [<- hf, if_pos hfn] at hix
 have hcl : ∀ k ∈ ks, ∀ H2 : HM, (∀ q, q ≠ id -> H2 q = H q) -> RC Tryz.prog 153 [.ptr k.num 0, .ptr b 0] H2 nx (.bool (f k)) := fun k hk H2 h2 => by
  rw [hf]; exact zmx (by rw [h2 _ (hks k hk).2.2]; exact (hks k hk).1) (by rw [h2 _ hbi]; exact hb) (hks k hk).2.1 hbn
 have hnb := z3z hlt
 have hfp : (ks.take (z26 f ks + 1)).filter (fun x => !f x) = ks.take (z26 f ks) := zir f ks hfn
 unfold rowV at hid
 refine zbl Tryz.func152 rfl (by decide +kernel) (by simp [Tryz.ntmps152]) ?_
 refine Sem.seq (Sem.walk (own := []) z0b (by decide +kernel) ?_)
 repeat' (first | ((refine zqr fun K J => ?_); (simp (disch := omega) only [go_sem, ↓reduceIte])) | (refine J _ ?_; clear J K))
 refine z9v ?_
 refine Sem.seq (Sem.walk (own := []) z0b (by decide +kernel) ?_)
 repeat' (first | ((first | refine zqr fun K J => ?_ | refine z10 (hix) ?_); (simp (disch := omega) only [go_sem, Nat.reduceBEq])) | (refine J _ ?_; clear J K))
 refine z9v ?_
 refine Sem.seq (Sem.walk (own := []) z0b (by decide +kernel) ?_)
 repeat' (first | ((refine zqh fun K J => ?_); (simp (disch := omega) only [go_sem, Nat.reduceBEq, ↓reduceIte, reduceCtorEq])) | ((refine zqm _ rfl (fun hc => ?_) (fun hc => ?_)) <;> (first | (cases hc; done) | ((try simp only [] at hc); (try (exfalso; omega))))) | refine zqk ?_ | (refine J _ ?_; clear J K))
 refine z9v ?_
 refine Sem.seq (Sem.walk (own := []) z0b (by decide +kernel) ?_)
 repeat' (first | ((refine zqh fun K J => ?_); (simp (disch := omega) only [go_sem, Nat.reduceBEq, ↓reduceIte])) | refine zqi ?_ | (refine J _ ?_; clear J K))
 (refine z5b (fun U st => ∃ (n : Nat) (j : Nat) (L : List V), U = ks.length - j /\ st.t 0 = .osl id ks.length /\ st.t 1 = .fn 153 [.ptr b 0] /\ st.t 5 = .int .i64 n /\ st.t 6 = .int .i64 j /\ st.nx = nx /\ (n < j) /\ (j <= ks.length) /\ (L.length = ks.length) /\ (L.take n = (ks.take j).filter (fun x => !f x)) /\ (L.drop j = ks.drop j) /\ (st.H = z0d H id (some (.row 75 ks.length (L.map fun v => .ptr v.num 0))))) ?_ ?_); rotate_left; (rintro U st ⟨n, j, L, rfl, q0, q1, q5, q6, qnx, qp0, qp1, qp2, qp3, qp4, qp5⟩); rotate_left
 ·(refine ⟨_, z26 f ks, z26 f ks + 1, ks, rfl, ?_⟩); (simp (disch := omega) only [go_sem, Nat.reduceBEq, true_and, Int.natCast_add, Int.natCast_one])
  exact ⟨by omega, by omega, hfp.symm, (zis hid).symm⟩
 by_cases hj : j < ks.length
 ·have hjL : L[j] = ks[j] := by
   have h1 : L.drop j = L[j] :: L.drop (j + 1) := List.drop_eq_getElem_cons (by omega)
   have h2 : ks.drop j = ks[j] :: ks.drop (j + 1) := List.drop_eq_getElem_cons hj
   rw [h1, h2, List.cons.injEq] at qp4
   exact qp4.1
  have hdj : L.drop (j + 1) = ks.drop (j + 1) := by
   rw [<- List.drop_drop, <- List.drop_drop, qp4]
  have htk := List.take_succ_eq_append_getElem hj
  have hg : L[j]? = some ks[j] := by rw [List.getElem?_eq_getElem (by omega), hjL]
  have hrw : st.H id = some (.row 75 ks.length (L.map fun v => .ptr v.num 0)) := by rw [qp5]; exact z29
  have hcj := hcl ks[j] (List.getElem_mem hj) st.H (fun q hq => by rw [qp5]; exact z6q hq)
  cases hfj : f ks[j] with
  | true =>
   rw [hfj] at hcj
   repeat' (first | refine zqj ?_ | ((first | refine zqh fun K J => ?_ | refine zqr fun K J => ?_ | refine z10 (hcj) ?_); (simp (disch := omega) only [go_sem, Nat.reduceBEq, ↓reduceIte, reduceCtorEq, Nat.reduceAdd, q0, q1, q6, qnx, hrw, hg])) | ((first | refine zqd _ rfl (fun hc => ?_) (fun hc => ?_) | refine zqm _ rfl (fun hc => ?_) (fun hc => ?_)) <;> (first | (cases hc; done) | ((try simp only [z0e] at hc); (try (exfalso; omega))))) | refine zqa ?_ | refine zqb ?_ | refine zqk ?_ | refine zqv ?_ | refine zqy ?_ | (refine J _ ?_; clear J K))
   (refine Exists.intro _ (And.intro ?_ ⟨n, j + 1, L, rfl, ?_⟩)); rotate_left; (simp (disch := omega) only [go_sem, Nat.reduceBEq, q0, q1, q5, q6, true_and, Int.natCast_add, Int.natCast_one]); rotate_left
   all_goals (repeat' (first | omega | (rw [qp3, htk, List.filter_append]; simp [hfj]; done) | refine And.intro ?_ ?_))
  | false =>
   rw [hfj] at hcj
   repeat' (first | refine zqj ?_ | ((first | refine zqh fun K J => ?_ | refine zqr fun K J => ?_ | refine z10 (hcj) ?_); (simp (disch := omega) only [go_sem, Nat.reduceBEq, ↓reduceIte, reduceCtorEq, Nat.reduceAdd, Nat.reduceLT, q0, q1, q5, q6, qnx, hrw, hg, List.length_map])) | ((first | refine zqd _ rfl (fun hc => ?_) (fun hc => ?_) | refine zqm _ rfl (fun hc => ?_) (fun hc => ?_)) <;> (first | (cases hc; done) | ((try simp only [z0e] at hc); (try (exfalso; omega))))) | refine zqa ?_ | refine zqb ?_ | refine zqv ?_ | refine zqy ?_ | (refine J _ ?_; clear J K))
   have e1 : (L.set n ks[j]).take (n + 1) = L.take n ++ [ks[j]] := by
    rw [List.take_succ_eq_append_getElem (by rw [List.length_set]; omega), List.getElem_set_self, List.take_set_of_le (Nat.le_refl _)]
   have e2 : (L.set n ks[j]).drop (j + 1) = ks.drop (j + 1) := by rw [List.drop_set_of_lt (by omega)]; exact hdj
   (refine Exists.intro _ (And.intro ?_ ⟨n + 1, j + 1, (L.set n ks[j]), rfl, ?_⟩)); rotate_left; (simp (disch := omega) only [go_sem, Nat.reduceBEq, q0, q1, q5, q6, true_and, Int.natCast_add, Int.natCast_one, List.length_set]); rotate_left
   all_goals (repeat' (first | omega | (rw [e1, qp3, htk, List.filter_append]; simp [hfj]; done) | (rw [qp5, z4y, List.map_set]; done) | refine And.intro ?_ ?_))
 ·have hje : j = ks.length := by omega
  subst hje
  rw [List.take_length] at qp3
  have hrw : st.H id = some (.row 75 ks.length (L.map fun v => .ptr v.num 0)) := by rw [qp5]; exact z29
  repeat' (first | refine zqj ?_ | ((refine zqh fun K J => ?_); (simp (disch := omega) only [go_sem, Nat.reduceBEq, ↓reduceIte, q0, q6])) | ((refine zqd _ rfl (fun hc => ?_) (fun hc => ?_)) <;> (((try simp only [z0e] at hc); (try (exfalso; omega))))) | refine zqc ?_ | refine zqp ?_ | (refine J _ ?_; clear J K))
  refine zqz (z9v ?_)
  refine Sem.seq (zry (own := []) (l1 := [_, _]) (e := 75) rfl (by intro o ho; simp at ho; rcases ho with rfl | rfl <;> decide) (by decide) zhy (by rw [z63]; decide) (z := .pointer none) (by kernel_rfl) (by rw [z63]; rfl) (by decide) ?_)
  (simp (disch := omega) only [go_sem, Nat.reduceBEq, q0, q5, qnx])
  refine ⟨id, ks.length, n, _, rfl, rfl, hrw, qp0, ?_⟩
  refine z9v (Sem.seq (zol (own := []) (l1 := [_, _]) (e := 75) rfl (by intro o ho; simp at ho; rcases ho with rfl | rfl <;> decide) (by decide) (by decide) zhy (by rw [z63]; decide) ?_))
  (simp (disch := omega) only [go_sem, Nat.reduceBEq, q0, q5])
  refine ⟨id, ks.length, n, _, rfl, rfl, by simp; rfl, by omega, by omega, z9v ?_⟩
  refine Sem.walk (own := []) z0b (by decide +kernel) ?_
  repeat' (first | refine zqn ?_ | refine zqu (by (simp (disch := omega) only [go_sem]); rfl) rfl ?_)
  have hln : (L.take n).length = n := by rw [List.length_take]; omega
  have htk : List.take n (List.map (fun v : V => D.ptr v.num 0) (List.take n L) ++ List.replicate (ks.length - n) D.any) = (L.take n).map fun v => .ptr v.num 0 := List.take_left' (by rw [List.length_map, hln])
  have hln2 : n = (ks.filter fun k => !f k).length := by rw [<- qp3, hln]
  refine ⟨?_, ?_, rfl⟩
  ·(simp (disch := omega) only [go_sem, Nat.reduceBEq])
   rw [<- hln2]
  ·(simp (disch := omega) only [go_sem])
   rw [htk, z4y, qp5, z4y, <- qp3]
   unfold rowV
   rw [hln]
end
end Go.Proofs.YtmnabhhdiinfaaaGreatDoor
namespace Go.Proofs.YtmnabhhdiinfaaaGreatDoor.Abs
theorem zjo {P : Program} {own : List Nat} {a b : Code} {Q : Exit -> St -> Prop} {st : St} (I : St -> Prop) (h2 : awp P own a (zsw I Q) st) (h1 : ∀ st, I st -> awp P own b Q st) : awp P own (.seq a b) Q st :=
 z6i a _ _ st (zjd (fun st h => ⟨st, SealTo.refl st, h1 st h⟩) (fun _ _ h => h)) h2
theorem zzb {I : St -> Prop} {Q : Exit -> St -> Prop} {st : St} (h : I st) : zsw I Q .normal st := h
end Go.Proofs.YtmnabhhdiinfaaaGreatDoor.Abs
namespace Go.Proofs.YtmnabhhdiinfaaaGreatDoor
section
open Abs Facts Tr
attribute [local irreducible] awp
set_option maxRecDepth 100000
def ptrO : Option Nat -> D
 | none => .nptr
 | some x => .ptr x 0
def zyz (g : FuncId) (cap : List D) (lo : Nat) (H0 : HM) (E : zpa) (w : V) : Prop := ∀ m H n c r, PreE lo m H n c r w -> Agree lo H0 H ->
 AC Tryz.prog g (.ptr c 0 :: cap) H n fun r' H' n' => r' = .tup [] /\ H' = (E w c r H n).1 /\ n' = (E w c r H n).2
theorem zop {g : FuncId} {cap : List D} {lo : Nat} {id : Idv} {E : zpa} {Q : V -> V -> Prop} {H0 : HM} : ∀ v : V, szB (treeV v) = true -> (∀ w ∈ nodesV v, w.own.id = id -> zyz g cap lo H0 E w /\ zlr lo H0 E Q w) -> ∀ H n, lo <= n -> Agree lo H0 H -> Stand H v -> Under lo v ->
  AC Tryz.prog 146 [.ptr v.num 0, z0y id, .fn g cap] H n fun r' H' n' => r' = ptrO (zlq id E v H n).1 /\ H' = (zlq id E v H n).2.1 /\ n' = (zlq id E v H n).2.2 := by
 refine zbz fun v ih hs hE H n hlo h0 hst hu => ?_
 have hun : Under n v := hu.le hlo
 have hnum := hun _ (z3j v)
 obtain ⟨s1, s2, s3⟩ := (z1p H v).1 hst
 have h3 : v.kids.length <= 1000000 := by
  obtain ⟨_, _, _, _, _, h3, _⟩ := (z2n _).1 hs
  rw [z1a, List.length_map] at h3; exact h3
 obtain ⟨hp, hag, hnk, hni⟩ := zjg (id := id) hlo hst hu
 have hk0 := zdq hst hun
 have hnb := z3z hnum
 rw [ztc]
 unfold chgF
 simp only
 generalize hk : zay v (z0d H n (some (idB id))) (n + 1) = k at hp hag hnk hni ⊢
 obtain ⟨r, Hk, c⟩ := k
 simp only at hp hag hnk hni ⊢
 refine (z16 [3000014, 3000018, 4000019, 10000019, 3000026, 3000027] Tryz.func146 rfl (by decide +kernel) z0b (by decide +kernel) (by simp [Tryz.ntmps146]) ?_)
 show awp _ _ (Code.seq _ _) _ _
 repeat' (first | ((refine z4u (N := 1) rfl fun K J => ?_); (simp (disch := omega) only [go_sem])) | (refine J _ ?_; clear J K))
 (refine zjo (fun st => st.t 0 = .ptr v.num 0 /\ st.t 2 = .fn g cap /\ st.t 4 = .ptr n 0 /\ st.t 7 = .ptr c 0 /\ st.nx = c + 1 /\ (st.H = z0d Hk c (some (nodeB v.own (kdR r v.kids.length))))) ?_ ?_); rotate_left; (rintro st ⟨p0, p2, p4, p7, pnx, pp0⟩); rotate_left
 ·rcases hk0 with ⟨hr, hnil⟩ | ⟨r0, hr, hrn, hrow⟩
  ·have e1 : kdD v = .nil := by unfold kdD; rw [hr]
   have c1 := fun H nx => zoj (H := H) (nx := nx)
   have hk2 : zay v (z0d H n (some (idB id))) (n + 1) = (none, z0d H n (some (idB id)), n + 1) := by unfold zay; rw [hr]
   rw [hk2, Prod.mk.injEq, Prod.mk.injEq] at hk
   obtain ⟨rfl, rfl, rfl⟩ := hk
   repeat' (first | ((first | refine zqq (by decide +kernel) fun K J => ?_ | refine z9k (c1 _ _) rfl ?_); (simp (disch := omega) only [go_sem, Nat.reduceBEq, Nat.reduceEqDiff, ↓reduceIte, reduceCtorEq, Nat.reduceAdd, Nat.reduceLeDiff, s1, hnb, z3c, e1])) | (refine J _ ?_; clear J K))
   (refine zzb ?_); (simp (disch := omega) only [go_sem, Nat.reduceBEq, true_and])
   rfl
  ·have e1 : kdD v = .osl r0 v.kids.length := by unfold kdD; rw [hr]
   have hk2 : zay v (z0d H n (some (idB id))) (n + 1) = (some (n + 1 + 1), z0d (z0d (z0d H n (some (idB id))) (n + 1) (some row0)) (n + 1 + 1) (some (rowV v.kids)), n + 1 + 2) := by unfold zay; rw [hr]
   rw [hk2, Prod.mk.injEq, Prod.mk.injEq] at hk
   obtain ⟨rfl, rfl, rfl⟩ := hk
   have hrb := z3z hrn
   repeat' (((refine zqq (by decide +kernel) fun K J => ?_); (simp (disch := omega) only [go_sem, Nat.reduceBEq, Nat.reduceEqDiff, ↓reduceIte, reduceCtorEq, Nat.reduceAdd, Nat.reduceLeDiff, s1, hnb, z3c, e1])))
   refine z48 (zrr (n := v.kids.length) (cs := v.kids.map fun k => .ptr k.num 0) (by (simp (disch := omega) only [go_sem, hrb, hrow])) (by (simp (disch := omega) only [go_sem])) h3 (by simp)) rfl rfl rfl ⟨Nat.le_add_right _ _, fun j hj => ?_⟩ ?_
   ·rw [z01 _ (by omega), z01 _ (by omega)]
   (try (simp (disch := omega) only [go_sem, Nat.reduceBEq, ↓reduceIte, Nat.reduceAdd, Nat.reduceLeDiff])); repeat' ((refine J _ ?_; clear J K))
   (refine zzb ?_); (simp (disch := omega) only [go_sem, Nat.reduceBEq, true_and])
   rfl
 have hH : st.H c = some (.box 117 (z3c (.mk c r v.own v.kids))) := by rw [pp0]; exact z29
 have hcn := hp.cn
 have hnc := hp.mc
 have hagS : Agree n H st.H := by rw [pp0]; exact hag
 have hHi : st.H n = some (idB id) := by rw [pp0]; exact hni
 have hHv : st.H v.num = some (.box 117 (z3c v)) := by rw [hagS _ hnum]; exact s1
 have h03 : Agree lo H0 (z0d Hk c (some (nodeB v.own (kdR r v.kids.length)))) := fun j hj => (hag j (by omega)).trans (h0 j hj)
 repeat' (first | refine zqj ?_ | ((first | refine z4u (N := 5) rfl fun K J => ?_ | refine zan (N := 5) rfl (by decide +kernel) fun K J => ?_); (simp (disch := omega) only [go_sem, Nat.reduceBEq, Nat.reduceEqDiff, ↓reduceIte, reduceCtorEq, Nat.reduceAdd, Nat.reduceLeDiff, p0, p2, p4, p7, pnx, hHi, hHv, z3c, idB, z0j])) | ((refine zqd _ rfl (fun hc => ?_) (fun hc => ?_)) <;> (((try simp only [z0e] at hc); (try (exfalso; omega))))) | refine zqb ?_ | (refine J _ ?_; clear J K))
 ·have hcall := (hE v (z3d v) (by assumption)).1 n _ (c + 1) c r hp h03
  rw [<- pp0, <- pnx] at hcall
  refine z1g (hcall.mono fun r' H' n' ⟨e1, e2, e3⟩ => ?_)
  subst e1
  (try (simp (disch := omega) only [go_sem])); repeat' (first | refine zqj ?_ | ((refine zqh fun K J => ?_); (simp (disch := omega) only [go_sem, Nat.reduceBEq, p7])) | refine zqg ?_ | refine zqu (by (simp (disch := omega) only [go_sem]); rfl) rfl ?_ | (refine J _ ?_; clear J K))
  rw [if_pos (by assumption)]
  rw [pp0, pnx] at e2 e3
  exact ⟨rfl, e2, e3⟩
 ·rw [if_neg (by assumption)]
  rcases hk0 with ⟨hr, hnil⟩ | ⟨r0, hr, hrn, hrow⟩
  ·have e1 : kdD v = .nil := by unfold kdD; rw [hr]
   repeat' (first | ((refine zqh fun K J => ?_); (simp (disch := omega) only [go_sem, Nat.reduceBEq, ↓reduceIte, reduceCtorEq, Nat.reduceAdd, p0, hHv, z3c, e1])) | refine zqa ?_ | (refine J _ ?_; clear J K))
   (refine z5b (fun U st => ∃ (i : Nat), U = 1 - i /\ st.t 37 = .int .i64 0 /\ st.t 38 = .int .i64 0 /\ st.nx = c + 1 /\ (st.H = z0d Hk c (some (nodeB v.own (kdR r v.kids.length))))) ?_ ?_); rotate_left; (rintro U st ⟨i, rfl, q37, q38, qnx, qp0⟩); rotate_left
   ·(refine ⟨_, 0, rfl, ?_⟩); (simp (disch := omega) only [go_sem, Nat.reduceBEq, pnx, true_and])
    exact pp0
   repeat' (first | ((refine zqh fun K J => ?_); (simp (disch := omega) only [go_sem, ↓reduceIte, Int.reduceLT, q37, q38, qnx])) | ((refine zqd _ rfl (fun hc => ?_) (fun hc => ?_)) <;> (first | (cases hc; done) | ((try simp only [] at hc); (try (exfalso; omega))))) | refine zqc ?_ | refine zqn ?_ | refine zqv ?_ | refine zqz ?_ | refine zqp ?_ | refine zqu (by (simp (disch := omega) only [go_sem]); rfl) rfl ?_ | (refine J _ ?_; clear J K))
   rw [show v.kids.map (zlq id E) = [] from by rw [hnil]; rfl]
   exact ⟨rfl, qp0, rfl⟩
  ·have e1 : kdD v = .osl r0 v.kids.length := by unfold kdD; rw [hr]
   have hrS := (hagS _ hrn).trans hrow
   repeat' (first | ((refine zqh fun K J => ?_); (simp (disch := omega) only [go_sem, Nat.reduceBEq, ↓reduceIte, reduceCtorEq, Nat.reduceAdd, p0, hHv, z3c, e1])) | refine zqa ?_ | (refine J _ ?_; clear J K))
   (refine z5b (fun U st => ∃ (i : _), U = v.kids.length - i /\ st.t 2 = .fn g cap /\ st.t 4 = .ptr n 0 /\ st.t 7 = .ptr c 0 /\ st.t 36 = .osl r0 v.kids.length /\ st.t 37 = .int .i64 v.kids.length /\ st.t 38 = .int .i64 i /\ (i <= v.kids.length) /\ (c + 1 <= st.nx) /\ (Agree (c + 1) (z0d Hk c (some (nodeB v.own (kdR r v.kids.length)))) st.H) /\ (zlp v c r ((v.kids.drop i).map (zlq id E)) i st.H st.nx = zlp v c r (v.kids.map (zlq id E)) 0 (z0d Hk c (some (nodeB v.own (kdR r v.kids.length)))) (c + 1))) ?_ ?_); rotate_left; (rintro U st ⟨i, rfl, q2, q4, q7, q36, q37, q38, qp0, qp1, qp2, qp3⟩); rotate_left
   ·(refine ⟨_, 0, rfl, ?_⟩); (simp (disch := omega) only [go_sem, Nat.reduceBEq, Nat.reduceLeDiff, p2, p4, p7, pnx, true_and, Int.natCast_zero])
    exact ⟨Nat.le_refl _, by rw [pp0]; exact Agree.refl _ _, by rw [pp0]⟩
   have hcS : st.H c = some (.box 117 (z3c (.mk c r v.own v.kids))) := by rw [qp2 c (Nat.lt_succ_self _)]; exact z29
   have hnS : st.H n = some (idB id) := by rw [qp2 n (by omega)]; exact hni
   have hrS : st.H r0 = some (.row 75 v.kids.length (v.kids.map fun k => .ptr k.num 0)) := ((qp2 r0 (by omega)).trans (hag _ hrn)).trans hrow
   by_cases hi : i < v.kids.length
   ·have hgt : v.kids[i]? = some v.kids[i] := List.getElem?_eq_getElem hi
    have hkm := List.getElem_mem hi
    have hdr : v.kids.drop i = v.kids[i] :: v.kids.drop (i + 1) := List.drop_eq_getElem_cons hi
    have hstk : Stand st.H v.kids[i] := Stand.on _ (fun j hj => (qp2 j (by have := z3e hun hkm j hj; omega)).trans (hag j (z3e hun hkm j hj))) (s3 _ hkm)
    have hagk : Agree lo H0 st.H := fun j hj => (qp2 j (by omega)).trans (h03 j hj)
    have hin := ih v.kids[i] hkm (zjm hs hkm) (fun w hw => hE w (z22 hkm hw)) st.H st.nx (by omega) hagk hstk (z3e hu hkm)
    have hfc := zjh v.kids[i] (fun w hw e => (hE w (z22 hkm hw) e).2) st.H st.nx (by omega) hagk hstk (z3e hu hkm)
    rw [hdr, List.map_cons] at qp3
    simp only [zlp] at qp3
    generalize zlq id E v.kids[i] st.H st.nx = o1 at hin hfc qp3
    obtain ⟨x1, H1, n1⟩ := o1
    have hle1 := hfc.le
    have hag1 := hfc.agree
    simp only at hin qp3 hle1 hag1
    repeat' (first | ((refine zqh fun K J => ?_); (simp (disch := omega) only [go_sem, Nat.reduceBEq, ↓reduceIte, reduceCtorEq, Nat.reduceAdd, Nat.reduceLeDiff, q2, q4, q36, q37, q38, hnS, hrS, hgt, idB, z0j])) | ((refine zqd _ rfl (fun hc => ?_) (fun hc => ?_)) <;> (((try simp only [z0e] at hc); (try (exfalso; omega))))) | refine zqa ?_ | refine zqb ?_ | (refine J _ ?_; clear J K))
    refine z1g (hin.mono fun r' H' n' ⟨e1, e2, e3⟩ => ?_)
    subst e1; subst e2; subst e3
    cases x1 with
    | none =>
     unfold ptrO
     simp only [Option.isSome_none, Bool.false_eq_true, if_false] at qp3
     (try (simp (disch := omega) only [go_sem, Nat.reduceBEq])); repeat' (first | ((first | refine zqh fun K J => ?_ | refine zqr fun K J => ?_); (simp (disch := omega) only [go_sem, Nat.reduceBEq, ↓reduceIte, q38])) | ((refine zqm _ rfl (fun hc => ?_) (fun hc => ?_)) <;> (first | (cases hc; done) | ((try simp only [] at hc); (try (exfalso; omega))))) | refine zqk ?_ | refine zqv ?_ | refine zqy ?_ | (refine J _ ?_; clear J K))
     (refine Exists.intro _ (And.intro ?_ ⟨i + 1, rfl, ?_⟩)); rotate_left; (simp (disch := omega) only [go_sem, Nat.reduceBEq, q2, q4, q7, q36, q37, q38, true_and, Int.natCast_add, Int.natCast_one]); rotate_left
     ·omega
     ·exact ⟨by omega, by omega, fun j hj => (hag1 j (by omega)).trans (qp2 j hj), qp3⟩
    | some x =>
     unfold ptrO
     simp only [Option.isSome_some, if_true, Option.getD_some] at qp3
     obtain ⟨q, hq⟩ : ∃ q, r = some q := by
      cases hr2 : r with
      | none =>
       have h0 : v.kids.length = 0 := by rw [hp.nor hr2]; rfl
       omega
      | some q => exact ⟨q, rfl⟩
     subst hq
     obtain ⟨r1, r2, r3⟩ := hp.row q rfl
     have hc1 : H' c = some (.box 117 [.int .i64 v.own.id.act, .int .i64 v.own.id.item, .int .i64 v.own.id.n, .int .i64 v.own.kind, .str v.own.label, z0u v.own.head, z0u v.own.words, .nil, .osl q v.kids.length]) := (hag1 c (by omega)).trans hcS
     have hq1 : H' q = some (rowV v.kids) := ((hag1 q (by omega)).trans (qp2 q (by omega))).trans r3
     (try (simp (disch := omega) only [go_sem, Nat.reduceBEq])); repeat' (first | ((refine zqh fun K J => ?_); (simp (disch := omega) only [go_sem, Nat.reduceBEq, ↓reduceIte, reduceCtorEq, Nat.reduceAdd, Nat.reduceLT, q7, hc1, hq1, rowV, List.length_map])) | ((refine zqm _ rfl (fun hc => ?_) (fun hc => ?_)) <;> (first | (cases hc; done) | ((try simp only [] at hc); (try (exfalso; omega))))) | refine zqn ?_ | refine zqx ?_ | refine z8n ?_ | refine zqo ?_ | refine zqu (by (simp (disch := omega) only [go_sem]); rfl) rfl ?_ | (refine J _ ?_; clear J K))
     rw [<- qp3]
     refine ⟨rfl, ?_, rfl⟩
     (simp (disch := omega) only [go_sem])
     rfl
   ·repeat' (first | ((refine zqh fun K J => ?_); (simp (disch := omega) only [go_sem, ↓reduceIte, q37, q38])) | ((refine zqd _ rfl (fun hc => ?_) (fun hc => ?_)) <;> (((try simp only [z0e] at hc); (try (exfalso; omega))))) | refine zqc ?_ | refine zqn ?_ | refine zqv ?_ | refine zqz ?_ | refine zqp ?_ | refine zqu (by (simp (disch := omega) only [go_sem]); rfl) rfl ?_ | (refine J _ ?_; clear J K))
    have hi2 : v.kids.drop i = [] := List.drop_eq_nil_of_le (by omega)
    rw [hi2] at qp3
    rw [<- qp3]
    exact ⟨rfl, rfl, rfl⟩
theorem zo3 : ∀ t : T, szB t = true -> ∀ H nx, AC Tryz.prog 37 [z0o t] H nx fun r H' nx' => r = .ptr (nx + 1) 0 /\ H' = (z4t t H nx).2.1 /\ nx' = (z4t t H nx).2.2 := by
 refine z5s fun t ih hs H nx => ?_
 obtain ⟨h0, h1, g1, h2, g2, h3, h4⟩ := (z2n _).1 hs
 have c1 := z4x t.head (by omega)
 have c2 := z4x t.words (by omega)
 have hnb := zxh (nx := nx + 3) (by omega)
 have hn1 : (nx == nx + 1) = false := by simp
 have hn2 : (nx + 1 == nx) = false := by simp
 have hcu := z0l t
 refine (z16 [3000038, 3000039, 4000040, 10000040] Tryz.func37 rfl (by decide +kernel) z0b (by decide +kernel) (by simp [Tryz.ntmps37]) ?_)
 show awp _ _ (Code.seq _ _) _ _
 repeat' (first | refine zqj ?_ | ((first | refine zqh fun K J => ?_ | refine zqe (by decide +kernel) fun K J => ?_ | refine zqt (c1) ?_ | refine zqt (c2) ?_); (simp (disch := omega) only [go_sem, Nat.reduceBEq, Nat.reduceEqDiff, ↓reduceIte, reduceCtorEq, Nat.reduceAdd, Nat.reduceLeDiff, Nat.reduceLT, hn1, hn2, z0o, hcu, z0u, List.set_cons_succ, List.set_cons_zero])) | refine zqa ?_ | (refine J _ ?_; clear J K))
 (refine z5b (fun U st => ∃ (i : _), U = t.kids.length - i /\ st.t 1 = .ptr nx 0 /\ st.t 3 = .ptr (nx + 1) 0 /\ st.t 28 = z1b t.kids /\ st.t 29 = .int .i64 t.kids.length /\ st.t 30 = .int .i64 i /\ (i <= t.kids.length) /\ (st.H = (zl9 t H nx i).H) /\ (st.nx = (zl9 t H nx i).n)) ?_ ?_); rotate_left; (rintro U st ⟨i, rfl, q1, q3, q28, q29, q30, qp0, qp1, qp2⟩); rotate_left
 ·(refine ⟨_, 0, rfl, ?_⟩); (simp (disch := omega) only [go_sem, Nat.reduceBEq, true_and, Int.natCast_zero, z1b, ziv])
  unfold gs0 unitB nodeB
  simp only [hcu, z4y]
  exact ⟨rfl, trivial⟩
 have hg := zs5 (t := t) (fun k _ => z5w k) H nx i qp0
 by_cases hi : i < t.kids.length
 ·have hkm := List.getElem_mem hi
  have hgt : (t.kids.map z0o)[i]? = some (z0o t.kids[i]) := by rw [List.getElem?_map, List.getElem?_eq_getElem hi]; rfl
  have hin := ih t.kids[i] hkm (h4 _ hkm)
  have hgr := z5w t.kids[i]
  obtain ⟨g, hgg⟩ : ∃ g, g = zl9 t H nx i := ⟨_, rfl⟩
  rw [<- hgg] at hg qp1 qp2
  have hle := hg.le
  have g1 := hg.unit
  have g2 := hg.node
  rw [<- qp1] at g1 g2
  have k1 : (nx + 1 == st.nx) = false := z75 (by omega)
  have k2 : (st.nx == nx + 1) = false := z75 (by omega)
  have hG := hgr (z0d st.H st.nx (some (unitB t.kids[i]))) (st.nx + 1)
  have hst : stG t (nx + 1) g (t.kids[i], z4t t.kids[i]) = zl9 t H nx (i + 1) := by rw [ziw t H nx hi, hgg]
  cases hr : g.r with
  | none =>
   have hkd : kdG g = .nil := by unfold kdG; rw [hr]
   rw [hkd] at g2
   repeat' (first | ((first | refine zqh fun K J => ?_ | refine zqq (by decide +kernel) fun K J => ?_); (simp (disch := omega) only [go_sem, Nat.reduceBEq, Nat.reduceEqDiff, ↓reduceIte, reduceCtorEq, Nat.reduceAdd, Nat.reduceLeDiff, q3, q28, q29, q30, z1b, g2, k1, nodeB])) | ((refine zqd _ rfl (fun hc => ?_) (fun hc => ?_)) <;> (((try simp only [z0e] at hc); (try (exfalso; omega))))) | refine zqa ?_ | refine zqb ?_ | (refine J _ ?_; clear J K))
   refine z48 (hin _ _) rfl rfl rfl ⟨Nat.le_trans (Nat.le_add_right _ 2) (hgr _ _).le, fun j hj => (hgr _ _).agree j hj⟩ ?_
   unfold unitB at hG
   simp only [H_put, zt5, zz3, znb, z4y]
   unfold stG unitB at hst
   simp only [hr] at hst
   rw [<- qp1, <- qp2] at hst
   have hov : (z4t t.kids[i] (z0d st.H st.nx (some (.box 27 (z0g t.kids[i])))) (st.nx + 1)).1.num = st.nx + 1 + 1 := by rw [z9d]; rfl
   generalize z4t t.kids[i] (z0d st.H st.nx (some (.box 27 (z0g t.kids[i])))) (st.nx + 1) = o at hG hst hov ⊢
   obtain ⟨ov, oH, on⟩ := o
   have hGn := hG.le
   have hGa := hG.agree
   simp only at hGn hGa hst hov ⊢
   have k5 : (nx + 1 == on) = false := z75 (by omega)
   have hvl : g.vs.length = i := by have := congrArg List.length hg.vs; rw [List.length_map, List.length_take] at this; omega
   have f1 : oH (nx + 1) = some (nodeB t .nil) := by rw [hGa _ (by omega), z6q (by omega)]; exact g2
   have hv0 := hg.none_ hr
   rw [hv0] at hst
   (try (simp (disch := omega) only [go_sem, Nat.reduceBEq, Nat.reduceEqDiff, ↓reduceIte, reduceCtorEq, Nat.reduceAdd, Nat.reduceMul, Nat.reduceLeDiff, Nat.reduceLT, f1, k5, nodeB])); repeat' (first | ((refine zqr fun K J => ?_); (simp (disch := omega) only [go_sem, Nat.reduceBEq, ↓reduceIte, q30])) | refine zqv ?_ | refine zqy ?_ | (refine J _ ?_; clear J K))
   (refine Exists.intro _ (And.intro ?_ ⟨i + 1, rfl, ?_⟩)); rotate_left; (simp (disch := omega) only [go_sem, Nat.reduceBEq, q1, q3, q28, q29, q30, true_and, Int.natCast_add, Int.natCast_one]); rotate_left
   ·omega
   ·rw [<- hst]
    refine ⟨by omega, ?_, rfl⟩
    unfold rowV nodeB
    simp [hov]
  | some r =>
   have hkd : kdG g = .osl r g.vs.length := by unfold kdG; rw [hr]
   obtain ⟨r1, r2, r3, r4⟩ := hg.row r hr
   rw [hkd] at g2
   rw [<- qp1] at r3
   have k3 : (r == st.nx) = false := z75 (by omega)
   have k4 : (st.nx == r) = false := z75 (by omega)
   repeat' (first | ((first | refine zqh fun K J => ?_ | refine zqq (by decide +kernel) fun K J => ?_); (simp (disch := omega) only [go_sem, Nat.reduceBEq, Nat.reduceEqDiff, ↓reduceIte, reduceCtorEq, Nat.reduceAdd, Nat.reduceLeDiff, q3, q28, q29, q30, z1b, g2, k1, nodeB])) | ((refine zqd _ rfl (fun hc => ?_) (fun hc => ?_)) <;> (((try simp only [z0e] at hc); (try (exfalso; omega))))) | refine zqa ?_ | refine zqb ?_ | (refine J _ ?_; clear J K))
   refine z48 (hin _ _) rfl rfl rfl ⟨Nat.le_trans (Nat.le_add_right _ 2) (hgr _ _).le, fun j hj => (hgr _ _).agree j hj⟩ ?_
   unfold unitB at hG
   simp only [H_put, zt5, zz3, znb, z4y]
   unfold stG unitB at hst
   simp only [hr] at hst
   rw [<- qp1, <- qp2] at hst
   have hov : (z4t t.kids[i] (z0d st.H st.nx (some (.box 27 (z0g t.kids[i])))) (st.nx + 1)).1.num = st.nx + 1 + 1 := by rw [z9d]; rfl
   generalize z4t t.kids[i] (z0d st.H st.nx (some (.box 27 (z0g t.kids[i])))) (st.nx + 1) = o at hG hst hov ⊢
   obtain ⟨ov, oH, on⟩ := o
   have hGn := hG.le
   have hGa := hG.agree
   simp only at hGn hGa hst hov ⊢
   have k5 : (nx + 1 == on) = false := z75 (by omega)
   have hvl : g.vs.length = i := by have := congrArg List.length hg.vs; rw [List.length_map, List.length_take] at this; omega
   have f1 : oH (nx + 1) = some (nodeB t (.osl r g.vs.length)) := by rw [hGa _ (by omega), z6q (by omega)]; exact g2
   have f2 : oH r = some (rowV g.vs) := by rw [hGa _ (by omega), z6q (by omega)]; exact r3
   have k6 : (nx + 1 == r) = false := z75 (by omega)
   (try (simp (disch := omega) only [go_sem, Nat.reduceBEq, Nat.reduceEqDiff, ↓reduceIte, reduceCtorEq, Nat.reduceAdd, Nat.reduceLeDiff, Nat.reduceLT, f1, f2, k6, nodeB, rowV])); repeat' (first | ((refine zqr fun K J => ?_); (simp (disch := omega) only [go_sem, Nat.reduceBEq, ↓reduceIte, q30])) | refine zqv ?_ | refine zqy ?_ | (refine J _ ?_; clear J K))
   (refine Exists.intro _ (And.intro ?_ ⟨i + 1, rfl, ?_⟩)); rotate_left; (simp (disch := omega) only [go_sem, Nat.reduceBEq, q1, q3, q28, q29, q30, true_and, Int.natCast_add, Int.natCast_one]); rotate_left
   ·omega
   ·rw [<- hst]
    refine ⟨by omega, ?_, rfl⟩
    unfold rowV nodeB
    simp [hov]
 ·repeat' (first | ((refine zqh fun K J => ?_); (simp (disch := omega) only [go_sem, Nat.reduceBEq, ↓reduceIte, q3, q29, q30])) | ((refine zqd _ rfl (fun hc => ?_) (fun hc => ?_)) <;> (((try simp only [z0e] at hc); (try (exfalso; omega))))) | refine zqc ?_ | refine zqn ?_ | refine zqv ?_ | refine zqz ?_ | refine zqp ?_ | refine zqu (by (simp (disch := omega) only [go_sem]); rfl) rfl ?_ | (refine J _ ?_; clear J K))
  have hi2 : i = t.kids.length := by omega
  subst hi2
  rw [z9d]
  exact ⟨rfl, qp1, qp2⟩
end
end Go.Proofs.YtmnabhhdiinfaaaGreatDoor
