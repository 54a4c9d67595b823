import Derived.Test.YtfechgagcgbldaaGreatDoorWE
/-
 Lemmas of the claim. No condition but those that each names.
-/
set_option linter.unusedSimpArgs false
set_option linter.unusedVariables false
set_option maxHeartbeats 8000000
set_option maxRecDepth 100000
set_option linter.unusedSectionVars false
namespace Go.Proofs.YtfechgagcgbldaaGreatDoor
open _root_.Go.Proofs.Tryz
section
open Abs Facts Tr
attribute [local irreducible] awp
set_option maxRecDepth 100000
namespace Abs
theorem Sem.cutS {P : Program} {N : Nat} {x y : Code} {Q : Exit -> St -> Prop} {st : St} (I : St -> Prop) (h1 : Sem P N x (zm6 (fun st => ∃ st', SealTo P st st' /\ I st') Q) st) (h2 : ∀ st, I st -> Sem P N y Q st) : Sem P N (.seq x y) Q st :=
 Sem.seq (Sem.mono h1 fun e st h => by
  cases e with
  | normal => obtain ⟨st', hs, hI⟩ := h; exact Sem.seal st' hs (h2 st' hI)
  | _ => exact h)
end Abs
namespace Tr
theorem zog (s : Idv -> Bool) (bs : List Idv) (x : T) : ∀ (l : List T) (i : Nat), prK s bs (l ++ [x]) i = prK s bs l i ++ if s x.id = true then [(i + l.length, bs.idxOf x.id)] else []
 | [], i => by
  simp only [List.nil_append, prK, List.length_nil, Nat.add_zero]
 | y :: l, i => by
  rw [List.cons_append, prK, prK, zog s bs x l (i + 1)]
  have e : i + 1 + l.length = i + (y :: l).length := by simp; omega
  rw [e]
  split <;> rfl
end Tr
theorem zoh (i : Idv) : ∀ l : List T, z7e (fun y => decide (y.id = i)) l = (l.map T.id).idxOf i
 | [] => rfl
 | y :: l => by
  have ih := zoh i l
  unfold z7e at ih ⊢
  rw [List.map_cons, List.idxOf_cons, List.takeWhile_cons]
  by_cases h : y.id = i
  ·simp [h]
  ·have hb : (y.id == i) = false := by simpa using h
   simp [h, hb, ih]
theorem zug (x k : T) : PC prog 49 [z1e k, .rptr (z1e x)] (.bool (decide (k.id = x.id))) := by
 refine z2i 1 (by simp only [pureD.pureL, z0b, pureD, Bool.and_self]) rfl (z23 [] func49 rfl (by decide +kernel) rfl ?_)
 show awp _ _ (Code.seq _ _) _ _
 repeat' (first | ((refine zqh fun K hK => ?_); (simp (disch := omega) only [go_sem, Nat.reduceBEq, ↓reduceIte, reduceCtorEq, Nat.reduceAdd, Nat.reduceLeDiff])) | refine zqn ?_ | refine zqu (by simp only [go_sem]; rfl) rfl ?_ | (refine hK _ ?_; clear hK K))
 exact z00 rfl
theorem zbi {A : T} (hn : (idsT A).Nodup) (i : Idv) : (z2e i A = true /\ (findR i A).1 ∈ nodesT A /\ ∃ n, z3o prog 23 (.agg [.int .i64 i.act, .int .i64 i.item, .int .i64 i.n]) (mapI z1e ((nodesT A).map unP)) = some (some (n, .agg (z08 (findR i A).1)))) \/
  (z2e i A = false /\ (findR i A).1 = T.zero /\ z3o prog 23 (.agg [.int .i64 i.act, .int .i64 i.item, .int .i64 i.n]) (mapI z1e ((nodesT A).map unP)) = some none) := by
 have O : ((nodesT A).map unP).map (·.1) = idsT A := by rw [List.map_map]; rfl
 have hg := z6u z1e ((nodesT A).map unP) i
 rw [O] at hg
 cases h : z2e i A with
 | true =>
  have h1 := z3g (id := i) (u := A) h
  have h2 := z9g (id := i) (t := A) h
  have h3 : (i, (findR i A).1) ∈ (nodesT A).map unP := List.mem_map.2 ⟨_, h1, by unfold unP; rw [h2]⟩
  rw [if_pos (by rw [z1l, decide_eq_true_eq] at h; exact h), z8x (by rw [O]; exact hn) h3] at hg
  exact .inl ⟨rfl, h1, _, hg⟩
 | false =>
  rw [if_neg (by rw [z1l, decide_eq_false_iff_not] at h; exact h)] at hg
  refine .inr ⟨rfl, ?_, hg⟩
  unfold z2e findR at h
  unfold findR
  split at h
  ·cases h
  ·rfl
theorem zuh (x y : T) (r : TT) (j0 j j2 b : Nat) {H : HM} {nx : Nat} (hb : b < nx) (hHb : H b = some (.box 52 [.mp j0, .mp j, .mp j2]))
  (h : ∀ H2 n2, nx <= n2 -> z3v nx H H2 -> RC prog 23 [.agg [.mp j0, .mp j, .mp j2], z1e y] H2 n2 (z26 r)) :
  RC prog 52 [z1e x, z1e y, .ptr b 0] H nx (z26 r) := by
 have hq := z02 hb
 refine RC_keep (z1h _) (z23 [] func52 rfl (by decide +kernel) rfl ?_)
 show awp _ _ (Code.seq _ _) _ _
 rw [show Tryz.f52.results.toList = [.cell 5 33] from rfl]
 repeat' (first | ((refine zqh fun K hK => ?_); (simp (disch := omega) only [go_sem, Nat.reduceBEq, ↓reduceIte, Nat.reduceAdd, Nat.reduceLeDiff, hq, hHb])) | (refine hK _ ?_; clear hK K))
 refine z3x (h _ _ ?_ ?_) ?_
 ·(simp (disch := omega) only [go_sem])
  all_goals omega
 ·intro id hid
  (simp (disch := omega) only [go_sem])
  simp (disch := omega) only [z09]
 (try (simp (disch := omega) only [go_sem, Nat.reduceBEq, ↓reduceIte, Nat.reduceAdd, Nat.reduceLeDiff, hq])); repeat' (first | refine zqn ?_ | refine zqu (by (simp (disch := omega) only [go_sem, Nat.reduceBEq, ↓reduceIte, Nat.reduceLeDiff, hq]); rfl) rfl ?_ | (refine hK _ ?_; clear hK K))
 refine ⟨rfl, fun id hid => ?_⟩
 (simp (disch := omega) only [go_sem])
 simp (disch := omega) only [z09]
set_option maxHeartbeats 16000000 in
theorem zz4 (A B : T) (ms : List Idv) (hbk : Books A B (fun i => decide (i ∈ ms))) (hA : szB A = true) (hB : szB B = true) (j0 j j2 : Nat) : ∀ u : T, u ∈ nodesT B -> szB u = true -> ∀ H nx, j0 < nx -> j < nx -> j2 < nx -> H j0 = some (zcy A) -> H j = some (zcy B) -> H j2 = some (.map (setI ms)) ->
  RC prog 23 [.agg [.mp j0, .mp j, .mp j2], z1e u] H nx (z26 (z3s A B (fun i => decide (i ∈ ms)) u)) := by
 refine z4l fun u ih hu hs H nx hj0 hj hj2 hHj0 hHj hHj2 => ?_
 obtain ⟨h0, h1, g1, h2, g2, h3, h4⟩ := (z33 u).1 hs
 obtain ⟨x, hx⟩ : ∃ x, x = (findR u.id A).1 := ⟨_, rfl⟩
 have xs : szB x = true := by
  rcases zbi hbk.na u.id with ⟨_, h, _⟩ | ⟨_, h, _⟩
  ·rw [hx]; exact zie A hA _ h
  ·rw [hx, h]; decide +kernel
 obtain ⟨x0, x1, y1, x2, y2, x3, x4⟩ := (z33 x).1 xs
 have c1 := z9f x.head u.head x1 h1
 have c2 := z9f x.words u.words x2 h2
 unfold z0q at c1 c2
 have hr0 := z02 hj0
 have hr05 := z5n hj0
 have hr06 := zen hj0
 have hr := z02 hj
 have hr5 := z5n hj
 have hr6 := zen hj
 have hr2 := z02 hj2
 have hr25 := z5n hj2
 have hr26 := zen hj2
 have hfm := zbe u.id ms
 refine zo0 (k := 4) (z1h _) ?_
 unfold zcy at hHj0 hHj
 refine z8n func23 rfl (by decide +kernel) (by simp [ntmps23]) ?_
 rw [show Tryz.f23.results.toList = [.cell 4 33] from rfl]
 rw [z78, <- hx]
 have hbox : ∀ st : St, st.H (nx + 3) = some (.box 27 [.int .i64 0, .int .i64 0, .int .i64 0, .int .i64 0, .str ByteArray.empty, .nil, .nil, .nil]) -> SealTo prog st { st with H := z10 st.H (nx + 3) (some (.box 27 (z08 T.zero))) } := fun st h => zzx h (by rw [z0s]; exact ⟨Le.refl _, Le.refl _, Le.refl _, Le.refl _, Le.refl _, Le.nil 4, Le.nil 4, Le.nil 8, trivial⟩)
 obtain ⟨mv, hmv⟩ : ∃ mv, mv = decide (u.id ∈ ms) := ⟨_, rfl⟩
 refine Sem.seq (Sem.walk (own := []) z53 (by decide +kernel) ?_)
 repeat' (first | ((refine zqr fun K hK => ?_); (simp (disch := omega) only [go_sem, Nat.reduceBEq])) | refine zqv ?_ | (refine hK _ ?_; clear hK K))
 (refine Sem.cutS (fun st => st.t 2 = .ptr nx 0 /\ st.t 3 = .ptr (nx + 1) 0 /\ st.t 4 = .ptr (nx + 2) 0 /\ st.t 5 = .ptr (nx + 3) 0 /\ st.t 6 = .bool (z2e u.id A) /\ st.H (nx) = some (.box 52 [.mp j0, .mp j, .mp j2]) /\ st.H (nx + 1) = some (.box 27 (z08 u)) /\ st.H (nx + 2) = some (.box 33 [.int .i64 0, .int .i64 0, .int .i64 0, .int .i64 0, .int .i64 0, .str ByteArray.empty, .str ByteArray.empty, .bool false, .nil, .nil, .nil]) /\ st.H (nx + 3) = some (.box 27 (z08 x)) /\ st.nx = nx + 4 /\ (∀ id, id < nx -> st.H id = H id)) ?_ ?_); rotate_left; (rintro st ⟨p2, p3, p4, p5, p6, pHnx, pHnx1, pHnx2, pHnx3, pnx, pp0⟩); rotate_left
 ·refine Sem.walk (own := []) z53 (by decide +kernel) ?_
  rcases zbi hbk.na u.id with ⟨ha, hxn, n, hf⟩ | ⟨ha, hx0, hf⟩
  ·rw [<- hx] at hf hxn
   repeat' (first | ((refine zqr fun K hK => ?_); (simp (disch := omega) only [go_sem, Nat.reduceBEq, ↓reduceIte, reduceCtorEq, Nat.reduceAdd, Nat.reduceLeDiff, hr0, hHj0, hf])) | refine zqv ?_ | (refine hK _ ?_; clear hK K))
   refine ⟨_, SealTo.refl _, ?_⟩
   (simp (disch := omega) only [go_sem, Nat.reduceBEq, hr0, ha])
   exact fun id hid => by simp (disch := omega) only [z09]
  ·rw [<- hx] at hx0
   subst hx0
   repeat' (first | ((refine zqr fun K hK => ?_); (simp (disch := omega) only [go_sem, Nat.reduceBEq, ↓reduceIte, reduceCtorEq, Nat.reduceAdd, Nat.reduceLeDiff, hr0, hHj0, hf])) | refine zqv ?_ | (refine hK _ ?_; clear hK K))
   refine ⟨_, hbox _ (by (simp (disch := omega) only [go_sem, hr0])), ?_⟩
   (simp (disch := omega) only [go_sem, Nat.reduceBEq, hr0, ha])
   exact fun id hid => by simp (disch := omega) only [z09]
 have hj0x : st.H j0 = some (.map (mapI z1e ((nodesT A).map unP))) := by rw [pp0 _ hj0]; exact hHj0
 have hjx : st.H j = some (.map (mapI z1e ((nodesT B).map unP))) := by rw [pp0 _ hj]; exact hHj
 have hj2x : st.H j2 = some (.map (setI ms)) := by rw [pp0 _ hj2]; exact hHj2
 (refine Sem.cutS (fun st => st.t 2 = .ptr nx 0 /\ st.t 3 = .ptr (nx + 1) 0 /\ st.t 4 = .ptr (nx + 2) 0 /\ st.t 5 = .ptr (nx + 3) 0 /\ st.t 6 = .bool (z2e u.id A) /\ st.H (nx) = some (.box 52 [.mp j0, .mp j, .mp j2]) /\ st.H (nx + 1) = some (.box 27 (z08 u)) /\ st.H (nx + 2) = some (.box 33 [.int .i64 0, .int .i64 0, .int .i64 0, .int .i64 0, .int .i64 0, .str ByteArray.empty, .str ByteArray.empty, .bool false, .nil, .nil, .nil]) /\ st.H (nx + 3) = some (.box 27 (z08 x)) /\ st.t 7 = .ptr (nx + 4) 0 /\ st.H (nx + 4) = some (.box 33 [.int .i64 0, .int .i64 u.kind, .int .i64 u.id.act, .int .i64 u.id.item, .int .i64 u.id.n, .str u.label, .str ByteArray.empty, .bool mv, z0q (z3r (txt x.head) (txt u.head)), z0q (z3r (txt x.words) (txt u.words)), .nil]) /\ st.nx = nx + 5 /\ (∀ id, id < nx -> st.H id = H id)) ?_ ?_); rotate_left; (rintro st ⟨q2, q3, q4, q5, q6, qHnx, qHnx1, qHnx2, qHnx3, q7, qHnx4, qnx, qp0⟩); rotate_left
 ·have hbr : ∃ o, z3o prog 23 (.agg [.int .i64 u.id.act, .int .i64 u.id.item, .int .i64 u.id.n]) (setI ms) = some o /\ ((∃ n, o = some (n, .bool true) /\ mv = true) \/ (o = none /\ mv = false)) := by
   by_cases hm : u.id ∈ ms
   ·rw [if_pos hm] at hfm; exact ⟨_, hfm, .inl ⟨_, rfl, by rw [hmv, decide_eq_true hm]⟩⟩
   ·rw [if_neg hm] at hfm; exact ⟨_, hfm, .inr ⟨rfl, by rw [hmv, decide_eq_false hm]⟩⟩
  obtain ⟨o, hfo, ho⟩ := hbr
  refine sem_two (own := [8000000, 3000023, 3000025, 3000027, 3000029, 3000031, 5000032, 3000034, 3000036, 5000037, 3000039, 3000041]) z53 (by decide +kernel) [0, 1, 2, 3, 4, 5, 6, 7, 8, 9, 10, 11, 12, 13, 14, 15, 16, 17, 18, 19] 20 22 [21, 22, 23] [20, 21, 23] (by decide +kernel) ?_
  refine z7r ?_ rfl
  (simp (disch := omega) only [go_sem, Nat.reduceBEq, Nat.reduceEqDiff, ↓reduceIte, reduceCtorEq, Nat.reduceAdd, Nat.reduceLeDiff, p3, p5, pHnx1, pHnx3, pnx, z76, zlh, List.map_cons, List.map_nil, z0t])
  refine zqt c1 ?_
  (simp (disch := omega) only [go_sem, Nat.reduceBEq, Nat.reduceEqDiff, ↓reduceIte, reduceCtorEq, Nat.reduceAdd, p3, p5, pHnx1, pHnx3, pnx, List.map_cons, List.map_nil, z0t])
  refine zqt c2 ?_
  (simp (disch := omega) only [go_sem, Nat.reduceBEq, Nat.reduceEqDiff, ↓reduceIte, reduceCtorEq, Nat.reduceAdd, Nat.reduceLeDiff, p2, p3, pHnx, pHnx1, pnx])
  rcases ho with ⟨n, rfl, rfl⟩ | ⟨rfl, rfl⟩
  ·refine ⟨?_, ?_⟩
   ·refine z3w ?_ rfl
    (simp (disch := omega) only [go_sem, Nat.reduceBEq, Nat.reduceEqDiff, ↓reduceIte, Nat.reduceAdd, Nat.reduceLeDiff, pnx, z76, zlh, List.map_cons, List.map_nil, hfo, hj2x])
    refine ⟨_, SealTo.refl _, ?_⟩
    (simp (disch := omega) only [go_sem, Nat.reduceBEq, p2, p3, p4, p5, p6, pHnx, pHnx1, pHnx2, pHnx3, hr05, z0q])
    exact fun id hid => by simp (disch := omega) only [z09]; exact pp0 id hid
   ·refine z3w ?_ rfl
    (simp (disch := omega) only [go_sem, Nat.reduceBEq, Nat.reduceEqDiff, ↓reduceIte, Nat.reduceAdd, Nat.reduceLeDiff, pnx, hr25, z76, zlh, List.map_cons, List.map_nil, hfo, hj2x])
    refine ⟨_, SealTo.refl _, ?_⟩
    (simp (disch := omega) only [go_sem, Nat.reduceBEq, p2, p3, p4, p5, p6, pHnx, pHnx1, pHnx2, pHnx3, hr05, z0q])
    exact fun id hid => by simp (disch := omega) only [z09]; exact pp0 id hid
  ·refine ⟨?_, ?_⟩
   ·refine z3w ?_ rfl
    (simp (disch := omega) only [go_sem, Nat.reduceBEq, Nat.reduceEqDiff, ↓reduceIte, Nat.reduceAdd, Nat.reduceLeDiff, pnx, z76, zlh, List.map_cons, List.map_nil, hfo, hj2x])
    refine ⟨_, SealTo.refl _, ?_⟩
    (simp (disch := omega) only [go_sem, Nat.reduceBEq, p2, p3, p4, p5, p6, pHnx, pHnx1, pHnx2, pHnx3, hr05, z0q])
    exact fun id hid => by simp (disch := omega) only [z09]; exact pp0 id hid
   ·refine z3w ?_ rfl
    (simp (disch := omega) only [go_sem, Nat.reduceBEq, Nat.reduceEqDiff, ↓reduceIte, Nat.reduceAdd, Nat.reduceLeDiff, pnx, hr25, z76, zlh, List.map_cons, List.map_nil, hfo, hj2x])
    refine ⟨_, SealTo.refl _, ?_⟩
    (simp (disch := omega) only [go_sem, Nat.reduceBEq, p2, p3, p4, p5, p6, pHnx, pHnx1, pHnx2, pHnx3, hr05, z0q])
    exact fun id hid => by simp (disch := omega) only [z09]; exact pp0 id hid
 obtain ⟨S, hS⟩ : ∃ S : Int, S = if z2e u.id A = true /\ mv = false then 0 else 1 := ⟨_, rfl⟩
 obtain ⟨W, hW⟩ : ∃ W, W = if z2e u.id A = true /\ x.label ≠ u.label then x.label else ByteArray.empty := ⟨_, rfl⟩
 refine Sem.walk (own := [8]) z53 (by decide +kernel) ?_
 refine zqj ?_
 (refine z88 (fun st => st.t 2 = .ptr nx 0 /\ st.t 3 = .ptr (nx + 1) 0 /\ st.t 4 = .ptr (nx + 2) 0 /\ st.t 5 = .ptr (nx + 3) 0 /\ st.t 6 = .bool (z2e u.id A) /\ st.H (nx) = some (.box 52 [.mp j0, .mp j, .mp j2]) /\ st.H (nx + 1) = some (.box 27 (z08 u)) /\ st.H (nx + 2) = some (.box 33 [.int .i64 0, .int .i64 0, .int .i64 0, .int .i64 0, .int .i64 0, .str ByteArray.empty, .str ByteArray.empty, .bool false, .nil, .nil, .nil]) /\ st.H (nx + 3) = some (.box 27 (z08 x)) /\ st.t 7 = .ptr (nx + 4) 0 /\ st.H (nx + 4) = some (.box 33 [.int .i64 S, .int .i64 u.kind, .int .i64 u.id.act, .int .i64 u.id.item, .int .i64 u.id.n, .str u.label, .str ByteArray.empty, .bool mv, z0q (z3r (txt x.head) (txt u.head)), z0q (z3r (txt x.words) (txt u.words)), .nil]) /\ st.nx = nx + 5 /\ (∀ id, id < nx -> st.H id = H id)) ?_ ?_); rotate_left; (rintro st ⟨r2, r3, r4, r5, r6, rHnx, rHnx1, rHnx2, rHnx3, r7, rHnx4, rnx, rp0⟩); rotate_left
 ·rcases Bool.eq_false_or_eq_true (z2e u.id A) with ha | ha <;> rcases Bool.eq_false_or_eq_true mv with hm2 | hm2
  ·rw [ha, hm2] at hS
   repeat' (first | ((first | refine zqh fun K hK => ?_ | refine zqr fun K hK => ?_); (simp (disch := omega) only [go_sem, Nat.reduceBEq, ↓reduceIte, reduceCtorEq, Nat.reduceAdd, Nat.reduceLeDiff, Nat.reduceLT, q6, q7, qHnx4, qnx, ha, hm2])) | ((refine zqm _ rfl (fun hc => ?_) (fun hc => ?_)) <;> (first | (cases hc; done) | ((try simp only [] at hc); (try omega)))) | refine zqv ?_ | (refine hK _ ?_; clear hK K))
   (simp (disch := omega) only [go_sem, Nat.reduceBEq, ↓reduceIte, reduceCtorEq, q2, q3, q4, q5, q6, qHnx, qHnx1, qHnx2, qHnx3, q7, qHnx4, true_and, hr05, ha, hm2, hS])
   first | exact qp0 | exact fun id hid => by simp (disch := omega) only [z09]; exact qp0 id hid
  ·rw [ha, hm2] at hS
   repeat' (first | ((refine zqh fun K hK => ?_); (simp (disch := omega) only [go_sem, Nat.reduceBEq, ↓reduceIte, reduceCtorEq, Nat.reduceAdd, q6, q7, qHnx4, ha, hm2])) | ((refine zqm _ rfl (fun hc => ?_) (fun hc => ?_)) <;> (first | (cases hc; done) | ((try simp only [] at hc); (try omega)))) | refine zqk ?_ | refine zqv ?_ | (refine hK _ ?_; clear hK K))
   (simp (disch := omega) only [go_sem, Nat.reduceBEq, ↓reduceIte, q2, q3, q4, q5, q6, qHnx, qHnx1, qHnx2, qHnx3, q7, qHnx4, qnx, true_and, and_self, ha, hm2, hS])
   first | exact qp0 | exact fun id hid => by simp (disch := omega) only [z09]; exact qp0 id hid
  ·rw [ha, hm2] at hS
   repeat' (first | ((first | refine zqh fun K hK => ?_ | refine zqr fun K hK => ?_); (simp (disch := omega) only [go_sem, Nat.reduceBEq, ↓reduceIte, reduceCtorEq, Nat.reduceAdd, Nat.reduceLeDiff, Nat.reduceLT, q6, q7, qHnx4, qnx, ha, hm2])) | ((refine zqm _ rfl (fun hc => ?_) (fun hc => ?_)) <;> (first | (cases hc; done) | ((try simp only [] at hc); (try omega)))) | refine zqv ?_ | (refine hK _ ?_; clear hK K))
   (simp (disch := omega) only [go_sem, Nat.reduceBEq, ↓reduceIte, reduceCtorEq, q2, q3, q4, q5, q6, qHnx, qHnx1, qHnx2, qHnx3, q7, qHnx4, true_and, and_self, hr05, ha, hm2, hS])
   first | exact qp0 | exact fun id hid => by simp (disch := omega) only [z09]; exact qp0 id hid
  ·rw [ha, hm2] at hS
   repeat' (first | ((first | refine zqh fun K hK => ?_ | refine zqr fun K hK => ?_); (simp (disch := omega) only [go_sem, Nat.reduceBEq, ↓reduceIte, reduceCtorEq, Nat.reduceAdd, Nat.reduceLeDiff, Nat.reduceLT, q6, q7, qHnx4, qnx, ha, hm2])) | ((refine zqm _ rfl (fun hc => ?_) (fun hc => ?_)) <;> (first | (cases hc; done) | ((try simp only [] at hc); (try omega)))) | refine zqv ?_ | (refine hK _ ?_; clear hK K))
   (simp (disch := omega) only [go_sem, Nat.reduceBEq, ↓reduceIte, q2, q3, q4, q5, q6, qHnx, qHnx1, qHnx2, qHnx3, q7, qHnx4, true_and, and_true, hr05, ha, hm2, hS])
   first | exact qp0 | exact fun id hid => by simp (disch := omega) only [z09]; exact qp0 id hid
 (refine z88 (fun st => st.t 2 = .ptr nx 0 /\ st.t 3 = .ptr (nx + 1) 0 /\ st.t 4 = .ptr (nx + 2) 0 /\ st.t 5 = .ptr (nx + 3) 0 /\ st.t 6 = .bool (z2e u.id A) /\ st.H (nx) = some (.box 52 [.mp j0, .mp j, .mp j2]) /\ st.H (nx + 1) = some (.box 27 (z08 u)) /\ st.H (nx + 2) = some (.box 33 [.int .i64 0, .int .i64 0, .int .i64 0, .int .i64 0, .int .i64 0, .str ByteArray.empty, .str ByteArray.empty, .bool false, .nil, .nil, .nil]) /\ st.H (nx + 3) = some (.box 27 (z08 x)) /\ st.t 7 = .ptr (nx + 4) 0 /\ st.H (nx + 4) = some (.box 33 [.int .i64 S, .int .i64 u.kind, .int .i64 u.id.act, .int .i64 u.id.item, .int .i64 u.id.n, .str u.label, .str W, .bool mv, z0q (z3r (txt x.head) (txt u.head)), z0q (z3r (txt x.words) (txt u.words)), .nil]) /\ st.t 8 = .osl (nx + 5) 0 /\ st.H (nx + 5) = some (.row 90 0 []) /\ st.nx = nx + 6 /\ (∀ id, id < nx -> st.H id = H id)) ?_ ?_); rotate_left; (rintro st ⟨v2, v3, v4, v5, v6, vHnx, vHnx1, vHnx2, vHnx3, v7, vHnx4, v8, vHnx5, vnx, vp0⟩); rotate_left
 ·rcases Bool.eq_false_or_eq_true (z2e u.id A) with ha | ha
  ·by_cases hl : x.label = u.label
   ·rw [if_neg (by rw [hl]; simp)] at hW
    repeat' (first | refine zqj ?_ | ((first | refine zqh fun K hK => ?_ | refine zqr fun K hK => ?_); (simp (disch := omega) only [go_sem, Nat.reduceBEq, ↓reduceIte, reduceCtorEq, Nat.reduceAdd, r3, r5, r6, rHnx1, rHnx3, rnx, ha, hl])) | (refine zqd _ rfl ?_ ?_ <;> intro hc <;> (first | (cases hc; done) | ((try simp only [] at hc); (try omega)))) | refine zqb ?_ | refine zqv ?_ | (refine hK _ ?_; clear hK K))
    (simp (disch := omega) only [go_sem, Nat.reduceBEq, r2, r3, r4, r5, r6, rHnx, rHnx1, rHnx2, rHnx3, r7, rHnx4, true_and, hr06, ha, hW])
    first | exact rp0 | exact fun id hid => by simp (disch := omega) only [z09]; exact rp0 id hid
   ·rw [if_pos ⟨ha, hl⟩] at hW
    repeat' (first | refine zqj ?_ | ((first | refine zqh fun K hK => ?_ | refine zqr fun K hK => ?_); (simp (disch := omega) only [go_sem, Nat.reduceBEq, ↓reduceIte, reduceCtorEq, Nat.reduceAdd, Nat.reduceLeDiff, Nat.reduceLT, r3, r5, r6, rHnx1, rHnx3, r7, rHnx4, rnx, ha, hl])) | (refine zqd _ rfl ?_ ?_ <;> intro hc <;> (first | (cases hc; done) | ((try simp only [] at hc); (try omega)))) | refine zqv ?_ | (refine hK _ ?_; clear hK K))
    (simp (disch := omega) only [go_sem, Nat.reduceBEq, r2, r3, r4, r5, r6, rHnx, rHnx1, rHnx2, rHnx3, r7, rHnx4, true_and, hr05, hr06, ha, hW])
    first | exact rp0 | exact fun id hid => by simp (disch := omega) only [z09]; exact rp0 id hid
  ·rw [if_neg (by rw [ha]; simp)] at hW
   repeat' (first | refine zqj ?_ | ((first | refine zqh fun K hK => ?_ | refine zqr fun K hK => ?_); (simp (disch := omega) only [go_sem, Nat.reduceBEq, ↓reduceIte, r6, rnx, ha])) | (refine zqd _ rfl ?_ ?_ <;> intro hc <;> (first | (cases hc; done) | ((try simp only [] at hc); (try omega)))) | refine zqb ?_ | refine zqv ?_ | (refine hK _ ?_; clear hK K))
   (simp (disch := omega) only [go_sem, Nat.reduceBEq, r2, r3, r4, r5, r6, rHnx, rHnx1, rHnx2, rHnx3, r7, rHnx4, true_and, hr06, ha, hW])
   first | exact rp0 | exact fun id hid => by simp (disch := omega) only [z09]; exact rp0 id hid
 have hj0v : st.H j0 = some (.map (mapI z1e ((nodesT A).map unP))) := by rw [vp0 _ hj0]; exact hHj0
 have hjv : st.H j = some (.map (mapI z1e ((nodesT B).map unP))) := by rw [vp0 _ hj]; exact hHj
 have hj2v : st.H j2 = some (.map (setI ms)) := by rw [vp0 _ hj2]; exact hHj2
 obtain ⟨sB, hsB⟩ : ∃ sB, sB = stayB A B (fun i => decide (i ∈ ms)) := ⟨_, rfl⟩
 rw [<- hsB]
 obtain ⟨bs, hbs⟩ : ∃ bs, bs = u.kids.map T.id := ⟨_, rfl⟩
 have hxk : ∀ k ∈ x.kids, k ∈ nodesT A := by
  rcases zbi hbk.na u.id with ⟨_, hxn, _⟩ | ⟨_, hx0, _⟩
  ·rw [<- hx] at hxn
   exact fun k O => z13 A x hxn k (z0j O (z0a k))
  ·rw [hx, hx0]; exact fun k O => by cases O
 have hline : (x.kids.filter fun k => sB k.id).map T.id = (u.kids.filter fun k => sB k.id).map T.id := by
  rw [hsB]
  rcases zbi hbk.na u.id with ⟨ha, hxn, _⟩ | ⟨ha, hx0, _⟩
  ·have e1 : findR u.id A = (x, true) := by rw [hx]; exact Prod.ext rfl ha
   exact hbk.line u.id x u e1 (z15 hbk.nb hu rfl)
  ·have hk0 : x.kids = [] := by rw [hx, hx0]; rfl
   have h0 : u.kids.filter (fun k => stayB A B (fun i => decide (i ∈ ms)) k.id) = [] := List.filter_eq_nil_iff.2 fun k O h => by
    simp only [stayB, Bool.and_eq_true, Bool.not_eq_true'] at h
    have hA2 : k.id ∈ idsT A := by have := h.1; rw [z1l, decide_eq_true_eq] at this; exact this
    have hn : u.id ∉ idsT A := by rw [z1l, decide_eq_false_iff_not] at ha; exact ha
    have := hbk.offB u hu hn k O hA2
    rw [h.2.2] at this; cases this
   rw [hk0, h0]; rfl
 repeat' (first | refine zqj ?_ | ((refine zqh fun K hK => ?_); (simp (disch := omega) only [go_sem, Nat.reduceBEq, ↓reduceIte, reduceCtorEq, Nat.reduceAdd, v5, vHnx3])) | refine zqa ?_ | (refine hK _ ?_; clear hK K))
 (refine z45 (fun U st => ∃ (i : Nat) (ps : List (Nat × Nat)), U = x.kids.length - i /\ st.t 2 = .ptr nx 0 /\ st.t 3 = .ptr (nx + 1) 0 /\ st.t 4 = .ptr (nx + 2) 0 /\ st.t 5 = .ptr (nx + 3) 0 /\ st.H (nx) = some (.box 52 [.mp j0, .mp j, .mp j2]) /\ st.H (nx + 1) = some (.box 27 (z08 u)) /\ st.H (nx + 2) = some (.box 33 [.int .i64 0, .int .i64 0, .int .i64 0, .int .i64 0, .int .i64 0, .str ByteArray.empty, .str ByteArray.empty, .bool false, .nil, .nil, .nil]) /\ st.H (nx + 3) = some (.box 27 (z08 x)) /\ st.t 7 = .ptr (nx + 4) 0 /\ st.H (nx + 4) = some (.box 33 [.int .i64 S, .int .i64 u.kind, .int .i64 u.id.act, .int .i64 u.id.item, .int .i64 u.id.n, .str u.label, .str W, .bool mv, z0q (z3r (txt x.head) (txt u.head)), z0q (z3r (txt x.words) (txt u.words)), .nil]) /\ st.t 8 = .osl (nx + 5) ps.length /\ st.t 63 = z0n x.kids /\ st.t 64 = .int .i64 x.kids.length /\ st.t 65 = .int .i64 i /\ st.H (nx + 5) = some (.row 90 ps.length (ps.flatMap z2l)) /\ st.H (j) = some (.map (mapI z1e ((nodesT B).map unP))) /\ st.H (j2) = some (.map (setI ms)) /\ (i <= x.kids.length) /\ (nx + 6 <= st.nx) /\ (ps = prK sB bs (x.kids.take i) 0) /\ (∀ id, id < nx -> st.H id = H id)) ?_ ?_); rotate_left; (rintro U st ⟨i, ps, rfl, w2, w3, w4, w5, wHnx, wHnx1, wHnx2, wHnx3, w7, wHnx4, w8, w63, w64, w65, wHnx5, wHj, wHj2, wp0, wp1, wp2, wp3⟩); rotate_left
 ·(refine ⟨_, 0, [], rfl, ?_⟩); (simp (disch := omega) only [go_sem, Nat.reduceBEq, Nat.reduceLeDiff, v2, v3, v4, v5, vHnx, vHnx1, vHnx2, vHnx3, v7, vHnx4, v8, vHnx5, vnx, true_and, Int.natCast_zero, List.flatMap_nil, z0n])
  exact ⟨hjv, hj2v, Nat.le_refl _, rfl, vp0⟩
 have hpl : ps.length <= i := by rw [wp2]; refine Nat.le_trans (zhk _ _ _ _) ?_; rw [List.length_take]; omega
 have f0 := z02 (show nx < st.nx by omega)
 have f1 := z02 (show nx + 1 < st.nx by omega)
 have f2 := z02 (show nx + 2 < st.nx by omega)
 have f3 := z02 (show nx + 3 < st.nx by omega)
 have f4 := z02 (show nx + 4 < st.nx by omega)
 have f5 := z02 (show nx + 5 < st.nx by omega)
 have fj := z02 (show j < st.nx by omega)
 have fj2 := z02 (show j2 < st.nx by omega)
 by_cases hi : i < x.kids.length
 ·have hkA := hxk _ (List.getElem_mem hi)
  have hkA2 : z2e x.kids[i].id A = true := by rw [z1l, decide_eq_true (id_in hkA)]
  have hsnoc := zog sB bs x.kids[i] (x.kids.take i) 0
  rw [<- List.take_succ_eq_append_getElem hi, <- wp2, Nat.zero_add, List.length_take, Nat.min_eq_left (by omega)] at hsnoc
  have hfk := zbe x.kids[i].id ms
  rcases zp3 B x.kids[i].id with ⟨_, hkB, n, z, hf⟩ | ⟨_, hkB, hf⟩
  ·by_cases hm : x.kids[i].id ∈ ms
   ·rw [if_pos hm] at hfk
    have hst : sB x.kids[i].id = false := by rw [hsB]; simp [stayB, hm]
    rw [hst, if_neg (by decide), List.append_nil] at hsnoc
    repeat' (first | ((refine zqh fun K hK => ?_); (simp (disch := omega) only [go_sem, Nat.reduceBEq, ↓reduceIte, reduceCtorEq, Nat.reduceAdd, Nat.reduceLeDiff, w2, wHnx, w63, w64, w65, wHj, wHj2, f0, fj, fj2, z0n, hf, hfk])) | ((first | refine zqd _ rfl (fun hc => ?_) (fun hc => ?_) | refine zqm _ rfl (fun hc => ?_) (fun hc => ?_)) <;> (first | (cases hc; done) | ((try simp only [z06] at hc); (try omega)))) | refine zqa ?_ | refine zqb ?_ | refine zqk ?_ | refine zqv ?_ | refine zqy ?_ | (refine hK _ ?_; clear hK K))
    refine ⟨_, SealTo.refl _, ?_⟩
    repeat' (first | ((refine zqr fun K hK => ?_); (simp (disch := omega) only [go_sem, Nat.reduceBEq, ↓reduceIte, w65])) | (refine hK _ ?_; clear hK K))
    (refine Exists.intro _ (And.intro ?_ ⟨i + 1, ps, rfl, ?_⟩)); rotate_left; (simp (disch := omega) only [go_sem, Nat.reduceBEq, Nat.reduceLeDiff, w2, w3, w4, w5, wHnx, wHnx1, wHnx2, wHnx3, w7, wHnx4, w8, w63, w64, w65, wHnx5, wHj, wHj2, true_and, Int.natCast_add, Int.natCast_one, f0, f1, f2, f3, f4, f5, fj, fj2]); rotate_left
    ·omega
    ·exact ⟨by omega, by omega, hsnoc.symm, fun id hid => by simp (disch := omega) only [z09]; exact wp3 id hid⟩
   ·rw [if_neg hm] at hfk
    have hst : sB x.kids[i].id = true := by rw [hsB]; simp [stayB, hm, hkA2, hkB]
    rw [hst, if_pos rfl] at hsnoc
    have hbsi : x.kids[i].id ∈ u.kids.map T.id := by
     have h : x.kids[i].id ∈ (x.kids.filter fun k => sB k.id).map T.id := List.mem_map.2 ⟨x.kids[i], List.mem_filter.2 ⟨List.getElem_mem hi, hst⟩, rfl⟩
     rw [hline] at h
     obtain ⟨y, hy, e⟩ := List.mem_map.1 h
     exact List.mem_map.2 ⟨y, (List.mem_filter.1 hy).1, e⟩
    have hlt : (u.kids.map T.id).idxOf x.kids[i].id < u.kids.length := by have := List.idxOf_lt_length_iff.2 hbsi; rwa [List.length_map] at this
    have hin : ∀ H2 n2, st.nx < n2 -> H2 st.nx = some (.box 27 (z08 x.kids[i])) -> RC prog 48 [z0n u.kids, .fn 49 [.ptr st.nx 0]] H2 n2 (.int .i64 (bs.idxOf x.kids[i].id)) := fun H2 n2 h1 h2 => by
     have h := zio false u.kids (by unfold maxLen; omega) (g := 49) (cap := [.rptr (z1e x.kids[i])]) (fun y => decide (y.id = x.kids[i].id)) (by simp only [pureD.pureL, z0b, pureD, Bool.and_self]) (fun y _ => zug x.kids[i] y)
     rw [zoh, if_pos hlt, <- hbs] at h
     exact PC.borrow h rfl 3 (z07 (z04 _ (z5r _)) (z07 (zjc 2 rfl (z07 (zkc 0 h2 z9o (z2a _)) z3j)) z3j))
    have hps2 : ps.length + 1 <= 1000001 := by omega
    repeat' (first | ((first | refine zqh fun K hK => ?_ | refine zqr fun K hK => ?_ | ((refine z3x (hin _ _ ?_ ?_) ?_); (focus (((simp (disch := omega) only [go_sem]); done))); (focus ((simp (disch := omega) only [go_sem, f0]); done)))); (simp (disch := omega) only [go_sem, Nat.reduceBEq, ↓reduceIte, reduceCtorEq, Nat.reduceAdd, Nat.reduceMul, Nat.reduceLeDiff, w2, w3, wHnx, wHnx1, w8, w63, w64, w65, wHnx5, wHj, wHj2, f0, f1, f5, fj, fj2, z0n, hf, hfk])) | ((first | refine zqd _ rfl (fun hc => ?_) (fun hc => ?_) | refine zqm _ rfl (fun hc => ?_) (fun hc => ?_)) <;> (first | (cases hc; done) | ((try simp only [z06] at hc); (try omega)))) | refine zqa ?_ | refine zqb ?_ | refine zqv ?_ | refine zqy ?_ | (refine hK _ ?_; clear hK K))
    refine ⟨_, SealTo.refl _, ?_⟩
    repeat' (first | ((refine zqr fun K hK => ?_); (simp (disch := omega) only [go_sem, Nat.reduceBEq, ↓reduceIte, w65])) | (refine hK _ ?_; clear hK K))
    (refine Exists.intro _ (And.intro ?_ ⟨i + 1, ps ++ [(i, bs.idxOf x.kids[i].id)], rfl, ?_⟩)); rotate_left; (simp (disch := omega) only [go_sem, Nat.reduceBEq, Nat.reduceLeDiff, w2, w3, w4, w5, wHnx, wHnx1, wHnx2, wHnx3, w7, wHnx4, w8, w63, w64, w65, wHnx5, wHj, wHj2, true_and, Int.natCast_add, Int.natCast_one, List.flatMap_append, List.flatMap_cons, List.flatMap_nil, List.append_nil, f0, f1, f2, f3, f4, f5, fj, fj2, hr06, hr6, hr26]); rotate_left
    ·omega
    ·exact ⟨rfl, by omega, by omega, hsnoc.symm, fun id hid => by simp (disch := omega) only [z09]; exact wp3 id hid⟩
  ·have hst : sB x.kids[i].id = false := by rw [hsB]; simp [stayB, hkB]
   rw [hst, if_neg (by decide), List.append_nil] at hsnoc
   repeat' (first | ((refine zqh fun K hK => ?_); (simp (disch := omega) only [go_sem, Nat.reduceBEq, ↓reduceIte, reduceCtorEq, Nat.reduceAdd, Nat.reduceLeDiff, w2, wHnx, w63, w64, w65, wHj, f0, fj, z0n, hf])) | ((first | refine zqd _ rfl (fun hc => ?_) (fun hc => ?_) | refine zqm _ rfl (fun hc => ?_) (fun hc => ?_)) <;> (first | (cases hc; done) | ((try simp only [z06] at hc); (try omega)))) | refine zqa ?_ | refine zqb ?_ | refine zqk ?_ | refine zqv ?_ | refine zqy ?_ | (refine hK _ ?_; clear hK K))
   refine ⟨_, SealTo.refl _, ?_⟩
   repeat' (first | ((refine zqr fun K hK => ?_); (simp (disch := omega) only [go_sem, Nat.reduceBEq, ↓reduceIte, w65])) | (refine hK _ ?_; clear hK K))
   (refine Exists.intro _ (And.intro ?_ ⟨i + 1, ps, rfl, ?_⟩)); rotate_left; (simp (disch := omega) only [go_sem, Nat.reduceBEq, Nat.reduceLeDiff, w2, w3, w4, w5, wHnx, wHnx1, wHnx2, wHnx3, w7, wHnx4, w8, w63, w64, w65, wHnx5, wHj, wHj2, true_and, Int.natCast_add, Int.natCast_one, f0, f1, f2, f3, f4, f5, fj, fj2]); rotate_left
   ·omega
   ·exact ⟨by omega, by omega, hsnoc.symm, fun id hid => by simp (disch := omega) only [z09]; exact wp3 id hid⟩
 ·have hta : x.kids.take i = x.kids := List.take_of_length_le (by omega)
  rw [hta] at wp2
  have hwm := zv3 (γ := TT) (s := sB) (ga := z4p B) (gb := z3s A B (fun i => decide (i ∈ ms))) (a := x.kids) (b := u.kids) (z41 hbk.nb hu) x.kids 0 0 0 rfl (Nat.le_refl _) (Nat.zero_le _) (Nat.zero_le _) hline
  rw [<- hbs, <- wp2] at hwm
  obtain ⟨hw1, hw2⟩ := hwm
  simp only [Nat.sub_self, List.take_zero, List.map_nil, List.nil_append, List.drop_zero] at hw1
  have hgp : D.rsl false (z01 prog 90) (z1u (z05 prog 90) (z01 prog 90) ps.length (ps.flatMap z2l)) = zxz ps := by
   rw [zp1, zv6, z5w (f := z2l) (fun _ => rfl)]; rfl
  repeat' (first | ((refine zqh fun K hK => ?_); (simp (disch := omega) only [go_sem, ↓reduceIte, w64, w65])) | (refine zqd _ rfl ?_ ?_ <;> intro hc <;> (((try simp only [z06] at hc); (try omega)))) | refine zqc ?_ | refine zqv ?_ | refine zqz ?_ | refine zqp ?_ | (refine hK _ ?_; clear hK K))
  refine ⟨_, zw6 (id := nx + 5) (j := 8) (e := 90) (n := ps.length) (cs := ps.flatMap z2l) (by (simp (disch := omega) only [go_sem, wHnx5])) (by decide +kernel) (z1f (fun _ => rfl) _) (by (simp (disch := omega) only [go_sem, Nat.reduceBEq, w8])), ?_⟩
  rw [hgp]
  repeat' (((refine zqh fun K hK => ?_); (simp (disch := omega) only [go_sem, Nat.reduceBEq, ↓reduceIte, reduceCtorEq, Nat.reduceAdd, Nat.reduceLeDiff, w2, w3, w5, wHnx, wHnx1, wHnx3, w8, z0n, hr06])))
  refine z3x (zt3 (z4p B) (z3s A B (fun i => decide (i ∈ ms))) (fun _ y => z3s A B (fun i => decide (i ∈ ms)) y) x.kids u.kids x3 h3 ps (by omega) hw2 (g1 := 51) (g2 := 23) (g3 := 52) (c1 := [.agg [.mp j0, .mp j, .mp j2]]) (c2 := [.agg [.mp j0, .mp j, .mp j2]]) (c3 := [.ptr nx 0]) (fun y hy H' n' hle hs => ?_) (fun y hy H' n' hle hs => ?_) (fun z hz y hy H' n' hle hs => ?_)) ?_
  ·have lj : ∀ {k : Nat}, k < nx -> k < n' := fun O => Nat.lt_of_lt_of_le (by (simp (disch := omega) only [go_sem]); all_goals omega) hle
   have e1 : H' j = some (zcy B) := (hs j (by (simp (disch := omega) only [go_sem]); all_goals omega)).trans (by (simp (disch := omega) only [go_sem, wHj, hr6]); all_goals rfl)
   exact rc_gone B j0 j j2 y (x4 y hy) H' n' (lj hj) e1
  ·have lj : ∀ {k : Nat}, k < nx -> k < n' := fun O => Nat.lt_of_lt_of_le (by (simp (disch := omega) only [go_sem]); all_goals omega) hle
   have e1 : H' j = some (zcy B) := (hs j (by (simp (disch := omega) only [go_sem]); all_goals omega)).trans (by (simp (disch := omega) only [go_sem, wHj, hr6]); all_goals rfl)
   have e2 : H' j2 = some (.map (setI ms)) := (hs j2 (by (simp (disch := omega) only [go_sem]); all_goals omega)).trans (by (simp (disch := omega) only [go_sem, wHj2, hr26]))
   have e0 : H' j0 = some (zcy A) := (hs j0 (by (simp (disch := omega) only [go_sem]); all_goals omega)).trans (by (simp (disch := omega) only [go_sem, hr06]); exact (wp3 j0 hj0).trans hHj0)
   exact ih y hy (z13 B u hu y (z0j hy (z0a y))) (h4 y hy) H' n' (lj hj0) (lj hj) (lj hj2) e0 e1 e2
  ·have lj : ∀ {k : Nat}, k < nx + 1 -> k < n' := fun O => Nat.lt_of_lt_of_le (by (simp (disch := omega) only [go_sem]); all_goals omega) hle
   have e1 : H' j = some (zcy B) := (hs j (by (simp (disch := omega) only [go_sem]); all_goals omega)).trans (by (simp (disch := omega) only [go_sem, wHj, hr6]); all_goals rfl)
   have e2 : H' j2 = some (.map (setI ms)) := (hs j2 (by (simp (disch := omega) only [go_sem]); all_goals omega)).trans (by (simp (disch := omega) only [go_sem, wHj2, hr26]))
   have e0 : H' j0 = some (zcy A) := (hs j0 (by (simp (disch := omega) only [go_sem]); all_goals omega)).trans (by (simp (disch := omega) only [go_sem, hr06]); exact (wp3 j0 hj0).trans hHj0)
   have eb : H' nx = some (.box 52 [.mp j0, .mp j, .mp j2]) := (hs nx (by (simp (disch := omega) only [go_sem]); all_goals omega)).trans (by (simp (disch := omega) only [go_sem, wHnx, hr06]))
   exact zuh z y (z3s A B (fun i => decide (i ∈ ms)) y) j0 j j2 nx (lj (by omega)) eb fun H2 n2 hle2 hs2 => ih y hy (z13 B u hu y (z0j hy (z0a y))) (h4 y hy) H2 n2 (by have := lj (show j0 < nx + 1 by omega); omega) (by have := lj (show j < nx + 1 by omega); omega) (by have := lj (show j2 < nx + 1 by omega); omega) ((hs2 j0 (lj (by omega))).trans e0) ((hs2 j (lj (by omega))).trans e1) ((hs2 j2 (lj (by omega))).trans e2)
  rw [hw1]
  unfold z17
  (try (simp (disch := omega) only [go_sem, Nat.reduceBEq, ↓reduceIte, reduceCtorEq, Nat.reduceAdd, Nat.reduceLeDiff, Nat.reduceLT, w7, wHnx4, hr06])); repeat' (first | ((refine zqh fun K hK => ?_); (simp (disch := omega) only [go_sem, Nat.reduceBEq, ↓reduceIte, Nat.reduceAdd, Nat.reduceLeDiff, w4, wHnx2, w7, wHnx4, hr05, hr06])) | refine zqn ?_ | refine zqu (by (simp (disch := omega) only [go_sem, Nat.reduceBEq, ↓reduceIte, Nat.reduceAdd, Nat.reduceLeDiff, w4, wHnx2, hr05, hr06]); rfl) rfl ?_ | (refine hK _ ?_; clear hK K))
  (simp (disch := omega) only [go_sem])
  refine ⟨?_, fun id hid => by simp (disch := omega) only [z09]; exact wp3 id hid⟩
  have key : ∀ (H2 : HM) (v : D) (t : TT), v = z26 t -> ∃ d, z2m prog H2 4 v = some d /\ Le d (z26 t) := fun H2 v t hv => by subst hv; exact z1p (nx := 0) (z1h _) (Le.refl _)
  refine key _ _ _ ?_
  rw [z62, z14, hS, hW, hmv, hx]
  rfl
end
section
open Abs
namespace Tr
theorem zof {α β : Type} (f : α -> List β) : ∀ (l : List α) (n : Nat), (l.zipIdx n).flatMap (fun q => f q.1) = l.flatMap f
 | [], _ => rfl
 | x :: l, n => by rw [List.zipIdx_cons, List.flatMap_cons, List.flatMap_cons, zof f l]
theorem zz1 : ∀ t : T, (zxo t).map (·.1) = t.kids.flatMap idsT := by
 refine z4l fun t ih => ?_
 rw [ziy, zol, List.take_length, List.map_flatMap, <- zof idsT t.kids 0]
 rw [List.flatMap_def, List.flatMap_def]
 refine congrArg _ (List.map_congr_left fun q hq => ?_)
 have O : q.1 ∈ t.kids := by
  obtain ⟨a, b⟩ := q
  exact (List.mem_zipIdx hq).2.2 ▸ List.getElem_mem _
 rw [List.map_cons, ih q.1 O, z2z]
theorem zek (t : T) : (plcs t).map (·.1) = idsT t := by
 rw [plcs, List.map_cons, zz1, z2z]
theorem plc_mem : ∀ (t q : T), q ∈ nodesT t -> ∀ (i : Nat) (h : i < q.kids.length), (q.kids[i].id, (⟨q.id, (i : Int), q.kids[i]⟩ : Plc)) ∈ zxo t := by
 refine z4l fun t ih q hq i h => ?_
 rw [ziy, zol, List.take_length, List.mem_flatMap]
 rw [z11, List.mem_cons, List.mem_flatMap] at hq
 rcases hq with rfl | ⟨k, O, hq⟩
 ·refine ⟨(q.kids[i], i), ?_, by simp⟩
  rw [List.mem_zipIdx_iff_getElem?]; simp [h]
 ·obtain ⟨j, hj, rfl⟩ := List.getElem_of_mem O
  refine ⟨(t.kids[j], j), ?_, List.mem_cons_of_mem _ (ih _ O q hq i h)⟩
  rw [List.mem_zipIdx_iff_getElem?]; simp [hj]
theorem plc_in {A : T} (hn : (idsT A).Nodup) {i : Idv} (hm : i ∈ idsT A) : ∃ p : Plc, (i, p) ∈ plcs A /\ p.unit = (findR i A).1 /\ (¬ A.id = i -> za3 i A = (p.par, p.pos, true)) := by
 by_cases h0 : A.id = i
 ·refine ⟨⟨Idv.zero, 0, A⟩, by rw [plcs, h0]; simp, ?_, fun h => absurd h0 h⟩
  rw [z15 hn (z0a A) h0]
 ·obtain ⟨q, hq, k, O, hki, hp⟩ := zei hn hm h0
  obtain ⟨j, hj, rfl⟩ := List.getElem_of_mem O
  refine ⟨⟨q.id, (j : Int), q.kids[j]⟩, ?_, ?_, fun _ => ?_⟩
  ·rw [plcs, <- hki]; exact List.mem_cons_of_mem _ (plc_mem A q hq j hj)
  ·rw [z15 hn (z13 A q hq _ (z0j O (z0a _))) hki]
  ·rw [<- hki]; exact zey hn hq j hj
theorem zz2 : ∀ (t : T), ∀ e ∈ zxo t, e.2.unit ∈ nodesT t /\ e.2.unit.id = e.1 := by
 refine z4l fun t ih e he => ?_
 rw [ziy, zol, List.take_length, List.mem_flatMap] at he
 obtain ⟨q, hq, he⟩ := he
 have O : q.1 ∈ t.kids := by
  obtain ⟨a, b⟩ := q
  exact (List.mem_zipIdx hq).2.2 ▸ List.getElem_mem _
 rcases List.mem_cons.1 he with rfl | he
 ·exact ⟨z0j O (z0a _), rfl⟩
 ·obtain ⟨h1, h2⟩ := ih q.1 O e he
  exact ⟨z0j O h1, h2⟩
theorem zud (t : T) : ∀ e ∈ plcs t, e.2.unit ∈ nodesT t /\ e.2.unit.id = e.1 := by
 intro e he
 rw [plcs] at he
 rcases List.mem_cons.1 he with rfl | he
 ·exact ⟨z0a t, rfl⟩
 ·exact zz2 t e he
end Tr
open Tr
theorem zhd {α : Type} [DecidableEq α] {l : List α} (h : l.Nodup) : z1g l = l := by
 have key : ∀ l : List α, l.Nodup -> z1g l = l := by
  refine znt (p := fun l => l.Nodup -> z1g l = l) (fun _ => rfl) fun l x ih h => ?_
  rw [List.nodup_append] at h
  rw [z9h, ih h.1, if_neg fun hx => h.2.2 x hx x (by simp) rfl]
 exact key l h
theorem zue {β : Type} {enc : β -> D} {l : List (Idv × β)} (hn : (l.map (·.1)).Nodup) {i : Nat} {k v : D} (h : (mapI enc l)[i]? = some (k, v)) : ∃ e, l[i]? = some e /\ k = z50 e.1 /\ v = enc e.2 := by
 unfold mapI at h
 rw [zhd hn, List.map_map, List.getElem?_map, Option.map_eq_some_iff] at h
 obtain ⟨e, h1, h2⟩ := h
 simp only [Function.comp_apply, Prod.mk.injEq] at h2
 refine ⟨e, h1, h2.1.symm, ?_⟩
 rw [<- h2.2]
 exact z8x hn (List.mem_of_getElem? h1)
theorem zkb {β : Type} {enc : β -> D} {l : List (Idv × β)} (hn : (l.map (·.1)).Nodup) : (mapI enc l).length = l.length := by
 rw [zem, zhd hn, List.length_map]
theorem zir {A : T} (hn : (idsT A).Nodup) (i : Idv) :
  (z2e i A = true /\ ∃ p : Plc, p.unit = (findR i A).1 /\ (¬ A.id = i -> za3 i A = (p.par, p.pos, true)) /\ ∃ n, z3o prog 23 (.agg [.int .i64 i.act, .int .i64 i.item, .int .i64 i.n]) (mapI encPl (plcs A)) = some (some (n, .agg (z3l p)))) \/
  (z2e i A = false /\ z3o prog 23 (.agg [.int .i64 i.act, .int .i64 i.item, .int .i64 i.n]) (mapI encPl (plcs A)) = some none) := by
 have hg := z6u encPl (plcs A) i
 rw [zek] at hg
 cases h : z2e i A with
 | true =>
  have hm : i ∈ idsT A := by rw [z1l, decide_eq_true_eq] at h; exact h
  obtain ⟨p, h1, h2, h3⟩ := plc_in hn hm
  rw [if_pos hm, z8x (by rw [zek]; exact hn) h1] at hg
  exact .inl ⟨rfl, p, h2, h3, _, hg⟩
 | false =>
  rw [if_neg (by rw [z1l, decide_eq_false_iff_not] at h; exact h)] at hg
  exact .inr ⟨rfl, hg⟩
end
end Go.Proofs.YtfechgagcgbldaaGreatDoor
namespace Go.Proofs.YtfechgagcgbldaaGreatDoor.Tr
structure Fit50 (u : T) : Prop where
 sz : szB u = true
 cnt : cntT u <= 1000000
 dep : depT u <= 1000000
end Go.Proofs.YtfechgagcgbldaaGreatDoor.Tr
namespace Go.Proofs.YtfechgagcgbldaaGreatDoor
open _root_.Go.Proofs.Tryz
section
open Abs Facts Tr
attribute [local irreducible] awp
set_option maxRecDepth 100000
namespace Tr
theorem zba (u : T) : ((((z1g (idsT u)).length : Nat) : Int) = ((cntT u : Nat) : Int)) ↔ (idsT u).Nodup := by
 rw [<- (z3d (idsT u)).2.2.2]
 have : (idsT u).length = cntT u := by unfold idsT cntT; rw [List.length_map]
 rw [this]
 exact ⟨fun h => by omega, fun h => by rw [h]⟩
theorem zbb (u : T) : z32 u = (z55 u && (decide (u.kind = 0) && decide (((z1g (idsT u)).length : Int) = (cntT u : Int)))) := by
 rw [Bool.eq_iff_iff, z1j]
 simp only [Bool.and_eq_true, decide_eq_true_eq, zba]
 constructor <;> rintro ⟨h1, h2, h3⟩ <;> exact ⟨h2, h1, h3⟩
end Tr
theorem zo5 (u : T) (h : Fit50 u) : PC prog 95 [z1e u] (.bool (z32 u)) := by
 have hc := h.cnt
 have V := h.dep
 have c1 := zi6 u h.sz (by omega) (by omega)
 have c2 := zee u (zgo u h.sz) (by omega)
 have c3 := zf3 u h.sz
 have hl : (mapI encPl (plcs u)).length = (z1g (idsT u)).length := by rw [zem, zek]
 refine z2i 1 (by simp only [pureD.pureL, z0b, Bool.and_self]) rfl (z23 [4000012, 3000003, 3000007, 3000011, 3000014, 5000004, 5000015] func95 rfl (by decide +kernel) rfl ?_)
 show awp _ _ (Code.seq _ _) _ _
 rw [zbb]
 have hle : (z1g (idsT u)).length <= cntT u := by have := (z3d (idsT u)).2.2.1; unfold idsT at this ⊢; unfold cntT; rwa [List.length_map] at this
 cases hv : z55 u <;> by_cases O : u.kind = 0
 all_goals
  rw [hv] at c1
  repeat' (first | ((first | refine zqh fun K hK => ?_ | refine zqe (by decide +kernel) fun K hK => ?_ | refine zqt (c1) ?_ | refine zqt (c2) ?_ | refine z9p (c3) rfl rfl rfl ?_); (simp (disch := omega) only [go_sem, Nat.reduceBEq, Nat.reduceEqDiff, ↓reduceIte, reduceCtorEq, Nat.reduceAdd, Nat.reduceLeDiff, Nat.reduceLT, O, hl])) | refine nxt ?_ | refine zqu (by simp only [go_sem]; rfl) rfl ?_ | (refine hK _ ?_; clear hK K))
  exact z00 (by simp [O])
end
section
open Abs Facts Tr
set_option maxRecDepth 100000
namespace Abs
def zeroPr : List D := [D.int .i64 0, D.int .i64 0, D.int .i64 0, D.int .i64 0, D.str ByteArray.empty, D.nil, D.nil, D.nil, D.int .i64 0, D.int .i64 0, D.int .i64 0, D.int .i64 0, D.str ByteArray.empty, D.nil, D.nil, D.nil, D.nmp, D.nmp]
@[go_sem] theorem zeroPr_T : z12 prog 111 = some zeroPr := zzj
def cellsPr (A B : T) (p q : Nat) : List D := z08 A ++ (z08 B ++ [.mp p, .mp q])
theorem z2f (A B : T) (p q : Nat) : cellsPr A B p q = [.int .i64 A.id.act, .int .i64 A.id.item, .int .i64 A.id.n, .int .i64 A.kind, .str A.label, z0t A.head, z0t A.words, z0n A.kids, .int .i64 B.id.act, .int .i64 B.id.item, .int .i64 B.id.n, .int .i64 B.kind, .str B.label, z0t B.head, z0t B.words, z0n B.kids, .mp p, .mp q] := by
 rw [cellsPr, z0s, z0s]; rfl
def pr1 (A : T) : List D := z18 zeroPr 0 (z08 A)
def pr2 (A B : T) : List D := z18 (pr1 A) 8 (z08 B)
def pr3 (A B : T) (p : Nat) : List D := z18 (pr2 A B) 16 [.mp p]
@[go_sem] theorem pr1_eq (A : T) : z18 zeroPr 0 (z08 A) = pr1 A := rfl
@[go_sem] theorem pr2_eq (A B : T) : z18 (pr1 A) 8 (z08 B) = pr2 A B := rfl
@[go_sem] theorem pr3_eq (A B : T) (p : Nat) : z18 (pr2 A B) 16 [.mp p] = pr3 A B p := rfl
@[go_sem] theorem pr4_eq (A B : T) (p q : Nat) : z18 (pr3 A B p) 17 [.mp q] = cellsPr A B p q := by
 rw [pr3, pr2, pr1, z2f, z0s, z0s, zeroPr]; simp only [z18, List.set_cons_zero, List.set_cons_succ]
@[go_sem] theorem pr4_set (A B : T) (p q : Nat) : ((pr2 A B).set 16 (.mp p)).set 17 (.mp q) = cellsPr A B p q := pr4_eq A B p q
@[go_sem] theorem pr0_len : zeroPr.length = 18 := rfl
@[go_sem] theorem pr1_len (A : T) : (pr1 A).length = 18 := by simp only [pr1, z3f, pr0_len]
@[go_sem] theorem pr2_len (A B : T) : (pr2 A B).length = 18 := by simp only [pr2, z3f, pr1_len]
@[go_sem] theorem pr3_len (A B : T) (p : Nat) : (pr3 A B p).length = 18 := by simp only [pr3, z3f, pr2_len]
@[go_sem] theorem zme (A B : T) (p q : Nat) : (cellsPr A B p q).length = 18 := by rw [z2f]; rfl
@[go_sem] theorem splice_Pr (A B : T) (p q : Nat) : z18 zeroPr 0 (cellsPr A B p q) = cellsPr A B p q := by rw [z2f, zeroPr]; simp only [z18, List.set_cons_zero, List.set_cons_succ]
@[go_sem] theorem splice_Pr0 : z18 zeroPr 0 zeroPr = zeroPr := rfl
@[go_sem] theorem take_Pr (A B : T) (p q : Nat) : List.take 18 (cellsPr A B p q) = cellsPr A B p q := List.take_of_length_le (by rw [zme]; exact Nat.le_refl _)
@[go_sem] theorem take_Pr0 : List.take 18 zeroPr = zeroPr := rfl
@[go_sem] theorem cellsPr_A (A B : T) (p q : Nat) : List.take 8 (cellsPr A B p q) = z08 A := by rw [z2f, z0s]; rfl
@[go_sem] theorem cellsPr_B (A B : T) (p q : Nat) : List.take 8 (List.drop 8 (cellsPr A B p q)) = z08 B := by rw [z2f, z0s]; rfl
@[go_sem] theorem cellsPr_p (A B : T) (p q : Nat) : (cellsPr A B p q)[16]? = some (.mp p) := by rw [z2f]; rfl
@[go_sem] theorem cellsPr_q (A B : T) (p q : Nat) : (cellsPr A B p q)[17]? = some (.mp q) := by rw [z2f]; rfl
end Abs
namespace Abs
theorem Sem.rangeL {P : Program} {N : Nat} {own : List Nat} {i0 b i1 b1 i4 : Nat} {l0 l1 l4 : List Oper} {t7 t8 t9 t10 : Nat} {T : TypeId} {x : Operand} {rest4 : List Oper} {body : Code} {Q : Exit -> St -> Prop} {st : St} (k : Nat) (hm0 : P.follows .mixedOrders = true) {o0 o1 o2 o4 : Oper} (h0 : l0.drop k = [o0]) (h1 : l1 = [o1, o2]) (h4 : l4 = o4 :: rest4)
  (e0 : o0.op = .range T x /\ o0.dst = some t7 /\ o0.guard = none) (e1 : o1.op = .next (.tmp t7) false /\ o1.dst = some t8 /\ o1.guard = none)
  (e2 : o2.op = .extract (.tmp t8) 0 /\ o2.dst = some t9 /\ o2.guard = none) (e4 : o4.op = .entry (.tmp t7) /\ o4.dst = some t10 /\ o4.guard = none) {kt et : TypeId} (hT : z3m P T = some (kt, et))
  (hN : decide (t7 < N /\ t8 < N /\ t9 < N /\ t10 < N /\ t7 ≠ t8 /\ t7 ≠ t9) = true) (V : (l0.all (z3p N) && rest4.all (z3p N)) = true) (hb : z6c N body = true)
  (hpre : z1v P own (l0.map (·.dst)) (l0.take k) (fun st1 => ∃ m es, st1.ev x = .mp m /\ st1.H m = some (.map es) /\ RngOK P own m es t7 t8 t9 t10 b1 (l4.map (·.dst)) rest4 body Q st1) st) :
  Sem P N (.seq (.region i0 l0.toArray false) (.block b (.loop (.seq (.region i1 l1.toArray false) (.seq (.cond (.tmp t9) .skip (.exit b)) (.block b1 (.seq (.region i4 l4.toArray false) body))))))) Q st := by
 simp only [Bool.and_eq_true, List.all_eq_true] at V
 refine Sem.rangeMap hm0 e0 e1 e2 e4 (pre := l0.take k) ?_ ?_ ?_ hT (of_decide_eq_true hN) (fun o ho => V.1 o (List.mem_of_mem_take ho)) V.2 hb hpre
 ·show l0 = _
  rw [<- h0, List.take_append_drop]
 ·exact h1
 ·exact h4
theorem zh8 {b1 : Nat} {I : St -> Prop} {Q : Exit -> St -> Prop} {st : St} (h : I st) : rndK b1 I Q .normal st := h
theorem rndK_r {b1 : Nat} {I : St -> Prop} {Q : Exit -> St -> Prop} {st : St} (h : Q .ret st) : rndK b1 I Q .ret st := h
end Abs
end
section
open Abs Facts
attribute [local irreducible] awp
set_option maxHeartbeats 2000000 in
theorem pc11 (l : List Int) (hl : l.length <= maxLen) : PC prog 117 [zad l] (zad ((Lis.lis l).map fun (n : Nat) => (n : Int))) := by
 unfold maxLen at hl
 refine z2i 2 (by simp only [pureD.pureL, z6e, Bool.and_self]) (z6e _) (z23 [7] func117 rfl (by decide +kernel) rfl ?_)
 show awp _ _ (Code.seq _ _) _ _
 (refine zqh fun K hK => ?_); (simp only [go_sem, Nat.reduceBEq, Nat.reduceBeqDiff, Nat.reduceEqDiff, ↓reduceIte, reduceCtorEq, Nat.reduceAdd, Nat.reduceMul, Nat.reduceLeDiff, Nat.reduceLT, Int.reduceLT, Int.reduceLE, Int.reduceEq]); (refine hK _ ?_); (clear hK K)
 repeat refine zqj ?_
 (refine zqh fun K hK => ?_); (simp only [go_sem, Nat.reduceBEq, Nat.reduceBeqDiff, Nat.reduceEqDiff, ↓reduceIte, reduceCtorEq, Nat.reduceAdd, Nat.reduceMul, Nat.reduceLeDiff, Nat.reduceLT, Int.reduceLT, Int.reduceLE, Int.reduceEq, zad]); (refine hK _ ?_); (clear hK K)
 refine z1o fun K hK => ?_
 (refine zqm _ rfl (fun hc => ?_) (fun hc => ?_)) <;> (simp only [z06] at hc)
 ·(refine zqh fun K hK => ?_); (simp only [go_sem, Nat.reduceBEq, Nat.reduceBeqDiff, Nat.reduceEqDiff, ↓reduceIte, reduceCtorEq, Nat.reduceAdd, Nat.reduceMul, Nat.reduceLeDiff, Nat.reduceLT, Int.reduceLT, Int.reduceLE, Int.reduceEq]); (refine hK _ ?_); (clear hK K)
  (refine zqn ?_); (refine Exists.intro _ (And.intro rfl ?_))
  exact zwk (by simp only [Lis.lis]; rw [if_pos (by omega)]; rfl)
 refine zqk (hK _ ?_); clear hK K
 repeat refine zqj ?_
 have g1 : (0 : Int) <= (l.length : Int) := by omega
 have g2 : l.length * 8 <= 140737488355328 := by omega
 have g3 : (l.length : Int) <= 9223372036854775807 := by omega
 (refine zqh fun K hK => ?_); (simp only [go_sem, Nat.reduceBEq, Nat.reduceBeqDiff, Nat.reduceEqDiff, ↓reduceIte, reduceCtorEq, Nat.reduceAdd, Nat.reduceMul, Nat.reduceLeDiff, Nat.reduceLT, Int.reduceLT, Int.reduceLE, Int.reduceEq, zad, g2, g3]); (refine hK _ ?_); (clear hK K)
 (refine zqh fun K hK => ?_); (simp only [go_sem, Nat.reduceBEq, Nat.reduceBeqDiff, Nat.reduceEqDiff, ↓reduceIte, reduceCtorEq, Nat.reduceAdd, Nat.reduceMul, Nat.reduceLeDiff, Nat.reduceLT, Int.reduceLT, Int.reduceLE, Int.reduceEq]); (refine hK _ ?_); (clear hK K)
 refine z1o fun K hK => ?_
 repeat refine zqj ?_
 have w1 : IntKind.i64.wrap ((l.length : Int) - 1) = (l.length : Int) - 1 := z3i (by omega)
 (refine zqh fun K hK => ?_); (simp only [go_sem, Nat.reduceBEq, Nat.reduceBeqDiff, Nat.reduceEqDiff, ↓reduceIte, reduceCtorEq, Nat.reduceAdd, Nat.reduceMul, Nat.reduceLeDiff, Nat.reduceLT, Int.reduceLT, Int.reduceLE, Int.reduceEq, zad, w1, zjb (D.int .i64) 0 l.length]); (refine hK _ ?_); (clear hK K)
 refine zqi (z5k (fun n st => ∃ cs : List Int, n <= l.length /\ st.t 0 = zad l /\ st.t 3 = .osl 0 l.length /\ st.H 0 = some (.row 3 l.length (cs.map (D.int .i64))) /\ cs.length = l.length /\
   cs.drop n = Lis.rows (l.drop n) /\ st.t 5 = .int .i64 ((n : Int) - 1) /\ st.t 4 = .int .i64 ((Lis.rows (l.drop n)).foldr max 0) /\ st.nx = 1) l.length ?_ ?_)
 ·exact ⟨List.replicate l.length 0, Nat.le_refl _, rfl, rfl, rfl, by simp, by simp [Lis.rows], rfl, by simp [Lis.rows]; rfl, rfl⟩
 rintro n st ⟨cs, hn, h0, h3, hH, hcl, hcd, h5, h4, hnx⟩
 repeat refine zqj ?_
 (refine zqh fun K hK => ?_); (simp only [go_sem, Nat.reduceBEq, Nat.reduceBeqDiff, Nat.reduceEqDiff, ↓reduceIte, reduceCtorEq, Nat.reduceAdd, Nat.reduceMul, Nat.reduceLeDiff, Nat.reduceLT, Int.reduceLT, Int.reduceLE, Int.reduceEq, h5]); (refine hK _ ?_); (clear hK K)
 refine z1o fun K2 hK2 => ?_
 (refine zqm _ rfl (fun hc => ?_) (fun hc => ?_)) <;> (simp only [z06] at hc)
 ·obtain ⟨j, rfl⟩ : ∃ j, n = j + 1 := ⟨n - 1, by omega⟩
  have h5' : st.t 5 = .int .i64 (j : Int) := by rw [h5]; congr 1; omega
  refine zqk (hK2 _ ?_); clear hK2 K2 h5
  repeat refine zqj ?_
  refine z1o fun K2 hK2 => ?_
  refine zqi ?_
  repeat refine zqj ?_
  have hj : (j : Int) < (l.length : Int) := by omega
  have hj2 : j + 1 <= l.length := by omega
  (refine zqh fun K hK => ?_); (simp only [go_sem, Nat.reduceBEq, Nat.reduceBeqDiff, Nat.reduceEqDiff, ↓reduceIte, reduceCtorEq, Nat.reduceAdd, Nat.reduceMul, Nat.reduceLeDiff, Nat.reduceLT, Int.reduceLT, Int.reduceLE, Int.reduceEq, h3, h5', hH, hj, hcl, hj2, zj6]); (refine hK _ ?_); (clear hK K)
  refine z1o fun K3 hK3 => ?_
  repeat refine zqj ?_
  have wj : IntKind.i64.wrap ((j : Int) + 1) = ((j + 1 + 0 : Nat) : Int) := by rw [z3i (by omega)]; omega
  (refine zqh fun K hK => ?_); (simp only [go_sem, Nat.reduceBEq, Nat.reduceBeqDiff, Nat.reduceEqDiff, ↓reduceIte, reduceCtorEq, Nat.reduceAdd, Nat.reduceMul, Nat.reduceLeDiff, Nat.reduceLT, Int.reduceLT, Int.reduceLE, Int.reduceEq, h5', wj]); (refine hK _ ?_); (clear hK K)
  refine zqi (z5k (fun m st => ∃ (k : Nat) (cs : List Int), m = l.length - (j + 1 + k) /\ j + 1 + k <= l.length /\ st.t 0 = zad l /\ st.t 3 = .osl 0 l.length /\ st.H 0 = some (.row 3 l.length (cs.map (D.int .i64))) /\ cs.length = l.length /\
   cs.drop (j + 1) = Lis.rows (l.drop (j + 1)) /\ st.t 5 = .int .i64 (j : Int) /\ st.t 6 = .int .i64 ((j + 1 + k : Nat) : Int) /\ cs[j]? = some (Lis.inner l j k) /\ 1 <= Lis.inner l j k /\ Lis.inner l j k <= l.length /\ st.t 4 = .int .i64 ((Lis.rows (l.drop (j + 1))).foldr max 0) /\ st.nx = 1) (l.length - (j + 1)) ?_ ?_)
  ·refine ⟨0, cs.set j 1, rfl, hj2, h0, h3, rfl, by simpa using hcl, ?_, h5', rfl, ?_, by simp [Lis.inner_zero], by simp [Lis.inner_zero]; omega, h4, hnx⟩
   ·rw [List.drop_set_of_lt (by omega)]; exact hcd
   ·have : j < cs.length := by omega
    simp [Lis.inner_zero, this]
  clear hH hcd hcl h0 h3 h4 hnx h5' hn
  rintro m st ⟨k, cs, rfl, O, h0, h3, hH, hcl, hcd, h5, h6, hcj, hi1, hi2, h4, hnx⟩
  repeat refine zqj ?_
  (refine zqh fun K hK => ?_); (simp only [go_sem, Nat.reduceBEq, Nat.reduceBeqDiff, Nat.reduceEqDiff, ↓reduceIte, reduceCtorEq, Nat.reduceAdd, Nat.reduceMul, Nat.reduceLeDiff, Nat.reduceLT, Int.reduceLT, Int.reduceLE, Int.reduceEq, h6, h0, zad]); (refine hK _ ?_); (clear hK K)
  refine z1o fun K4 hK4 => ?_
  (refine zqm _ rfl (fun hc => ?_) (fun hc => ?_)) <;> (simp only [z06] at hc)
  ·have hk' : j + 1 + k < l.length := by omega
   refine zqk (hK4 _ ?_); clear hK4 K4
   refine z1o fun K4 hK4 => ?_
   refine zqi ?_
   repeat refine zqj ?_
   have i1 := z4f (D.int .i64) l (j + 1 + k) hk'
   have i2 := z4f (D.int .i64) l j (by omega)
   (refine zqe (by decide +kernel) fun K hK => ?_); (simp only [go_sem, Nat.reduceBEq, Nat.reduceBeqDiff, Nat.reduceEqDiff, ↓reduceIte, reduceCtorEq, Nat.reduceAdd, Nat.reduceMul, Nat.reduceLeDiff, Nat.reduceLT, Int.reduceLT, Int.reduceLE, Int.reduceEq, h0, h5, h6, i1, i2, zad]); (refine hK _ ?_); (clear hK K)
   have hin := Lis.inner_succ l j k hk' cs hcl hcd
   have hle := Lis.rows_get_le l (j + 1 + k) cs hcl (j + 1) hcd (by omega) hk'
   (refine zqm _ rfl (fun hc => ?_) (fun hc => ?_)) <;> (simp only [z06] at hc)
   ·have wk : IntKind.i64.wrap (cs[j + 1 + k] + 1) = cs[j + 1 + k] + 1 := z3i (by omega)
    have e1 : cs[j + 1 + k]? = some cs[j + 1 + k] := List.getElem?_eq_getElem (by omega)
    have hkn : ((j + 1 + k : Nat) : Int) < (l.length : Int) := by omega
    (refine zep (by decide +kernel) ?_); (simp only [go_sem, Nat.reduceBEq, Nat.reduceBeqDiff, Nat.reduceEqDiff, ↓reduceIte, reduceCtorEq, Nat.reduceAdd, Nat.reduceMul, Nat.reduceLeDiff, Nat.reduceLT, Int.reduceLT, Int.reduceLE, Int.reduceEq, h3, h5, h6, hH, hj, hkn, hcl, hj2, e1, hcj, wk, zj6])
    show K4 _
    have wk2 : IntKind.i64.wrap (((j + 1 + k : Nat) : Int) + 1) = ((j + 1 + (k + 1) : Nat) : Int) := by rw [z3i (by omega)]; omega
    have e2 : Lis.inner l j (k + 1) = max (Lis.inner l j k) (cs[j + 1 + k] + 1) := by rw [hin]; unfold Lis.upd1; rw [if_pos hc]
    refine hK4 _ ?_
    (refine z3q ?_); (simp only [go_sem, Nat.reduceBEq, Nat.reduceBeqDiff, Nat.reduceEqDiff, ↓reduceIte, reduceCtorEq, Nat.reduceAdd, Nat.reduceMul, Nat.reduceLeDiff, Nat.reduceLT, Int.reduceLT, Int.reduceLE, Int.reduceEq, h6, wk2])
    refine ⟨l.length - (j + 1 + (k + 1)), by omega, k + 1, cs.set j (max (Lis.inner l j k) (cs[j + 1 + k] + 1)), rfl, by omega, h0, h3, rfl, by simpa using hcl, ?_, h5, rfl, ?_, by rw [e2]; omega, by rw [e2]; have := Lis.inner_le l j (k + 1) (by omega); rw [e2] at this; exact this, h4, hnx⟩
    ·rw [List.drop_set_of_lt (by omega)]; exact hcd
    ·rw [e2, List.getElem?_set_self (by omega)]
   ·refine zqk (hK4 _ ?_); clear hK4 K4
    have wk : IntKind.i64.wrap (((j + 1 + k : Nat) : Int) + 1) = ((j + 1 + (k + 1) : Nat) : Int) := by rw [z3i (by omega)]; omega
    have e2 : Lis.inner l j (k + 1) = Lis.inner l j k := by rw [hin]; unfold Lis.upd1; rw [if_neg hc]
    (refine z3q ?_); (simp only [go_sem, Nat.reduceBEq, Nat.reduceBeqDiff, Nat.reduceEqDiff, ↓reduceIte, reduceCtorEq, Nat.reduceAdd, Nat.reduceMul, Nat.reduceLeDiff, Nat.reduceLT, Int.reduceLT, Int.reduceLE, Int.reduceEq, h6, wk])
    exact ⟨l.length - (j + 1 + (k + 1)), by omega, k + 1, cs, rfl, by omega, h0, h3, hH, hcl, hcd, h5, rfl, by rw [e2]; exact hcj, by rw [e2]; exact hi1, by rw [e2]; exact hi2, h4, hnx⟩
  ·refine zql ?_
   show K3 _
   refine hK3 _ ?_
   have hkk : j + 1 + k = l.length := by omega
   (refine z3q ?_); (simp only [go_sem, Nat.reduceBEq, Nat.reduceBeqDiff, Nat.reduceEqDiff, ↓reduceIte, reduceCtorEq, Nat.reduceAdd, Nat.reduceMul, Nat.reduceLeDiff, Nat.reduceLT, Int.reduceLT, Int.reduceLE, Int.reduceEq, h4, h3, h5, hH, hj, hj2, hcl, hcj])
   refine (show K2 _ from hK2 _ ?_)
   have wj2 : IntKind.i64.wrap ((j : Int) - 1) = (j : Int) - 1 := z3i (by omega)
   (refine z3q ?_); (simp only [go_sem, Nat.reduceBEq, Nat.reduceBeqDiff, Nat.reduceEqDiff, ↓reduceIte, reduceCtorEq, Nat.reduceAdd, Nat.reduceMul, Nat.reduceLeDiff, Nat.reduceLT, Int.reduceLT, Int.reduceLE, Int.reduceEq, h5, wj2])
   have hall := Lis.inner_all l j (by omega)
   have hk0 : l.length - (j + 1) = k := by omega
   rw [hk0] at hall
   refine ⟨j, by omega, cs, by omega, h0, h3, hH, hcl, ?_, rfl, ?_, hnx⟩
   ·rw [hall, List.drop_eq_getElem_cons (by omega), hcd]
    congr 1
    rw [List.getElem?_eq_getElem (by omega)] at hcj
    exact Option.some.inj hcj
   ·show D.int .i64 _ = D.int .i64 _
    rw [hall, List.foldr_cons, Int.max_comm]
 ·refine zql ?_
  refine (show K _ from hK _ ?_)
  obtain rfl : n = 0 := by omega
  simp only [List.drop_zero] at hcd h4
  subst hcd
  (refine zqh fun K hK => ?_); (simp only [go_sem, Nat.reduceBEq, Nat.reduceBeqDiff, Nat.reduceEqDiff, ↓reduceIte, reduceCtorEq, Nat.reduceAdd, Nat.reduceMul, Nat.reduceLeDiff, Nat.reduceLT, Int.reduceLT, Int.reduceLE, Int.reduceEq, hnx]); (refine hK _ ?_); (clear hK K)
  repeat refine zqj ?_
  (refine zqh fun K hK => ?_); (simp only [go_sem, Nat.reduceBEq, Nat.reduceBeqDiff, Nat.reduceEqDiff, ↓reduceIte, reduceCtorEq, Nat.reduceAdd, Nat.reduceMul, Nat.reduceLeDiff, Nat.reduceLT, Int.reduceLT, Int.reduceLE, Int.reduceEq, h0, zad]); (refine hK _ ?_); (clear hK K)
  refine z1o fun K3 hK3 => ?_
  refine zqi (z5k (fun n st => ∃ i : Nat, n = l.length - i /\ i <= l.length /\ st.t 0 = zad l /\ st.t 3 = .osl 0 l.length /\ st.H 0 = some (.row 3 l.length ((Lis.rows l).map (D.int .i64))) /\
   st.t 4 = .int .i64 (Lis.most l) /\ st.t 62 = .int .i64 l.length /\ st.t 63 = .int .i64 i /\ st.t 7 = .osl 1 (Lis.sel l i).length /\ st.H 1 = some (.row 3 (Lis.sel l i).length ((Lis.sel l i).map fun (n : Nat) => D.int .i64 (n : Int)))) l.length ?_ ?_)
  ·exact ⟨0, by omega, by omega, h0, h3, hH, h4, rfl, rfl, rfl, rfl⟩
  clear h0 h3 hH h4 h5 hnx
  rintro n st ⟨i, rfl, hi, h0, h3, hH, h4, h62, h63, h7, hH1⟩
  repeat refine zqj ?_
  (refine zqh fun K hK => ?_); (simp only [go_sem, Nat.reduceBEq, Nat.reduceBeqDiff, Nat.reduceEqDiff, ↓reduceIte, reduceCtorEq, Nat.reduceAdd, Nat.reduceMul, Nat.reduceLeDiff, Nat.reduceLT, Int.reduceLT, Int.reduceLE, Int.reduceEq, h63, h62]); (refine hK _ ?_); (clear hK K)
  refine z1o fun K4 hK4 => ?_
  (refine zqm _ rfl (fun hc => ?_) (fun hc => ?_)) <;> (simp only [z06] at hc)
  ·have hi' : i < l.length := by omega
   refine zqk (hK4 _ ?_)
   refine z1o fun K5 hK5 => ?_
   refine zqi ?_
   repeat refine zqj ?_
   (refine zqh fun K hK => ?_); (simp only [go_sem, Nat.reduceBEq, Nat.reduceBeqDiff, Nat.reduceEqDiff, ↓reduceIte, reduceCtorEq, Nat.reduceAdd, Nat.reduceMul, Nat.reduceLeDiff, Nat.reduceLT, Int.reduceLT, Int.reduceLE, Int.reduceEq, h63]); (refine hK _ ?_); (clear hK K)
   have hs := Lis.sel_succ l i
   have hrl := Lis.rows_length l
   have hri : (Lis.rows l)[i]? = some ((Lis.rows l).getD i 0) := by rw [List.getD_eq_getElem?_getD, List.getElem?_eq_getElem (by omega)]; rfl
   have i1 := z4f (D.int .i64) l i hi'
   have hin : (i : Int) < (l.length : Int) := by omega
   have tail : ∀ st' : St, st'.t 0 = zad l -> st'.t 3 = .osl 0 l.length -> st'.H 0 = some (.row 3 l.length ((Lis.rows l).map (D.int .i64))) -> st'.t 4 = .int .i64 (Lis.most l) -> st'.t 62 = .int .i64 l.length -> st'.t 63 = .int .i64 i ->
     st'.t 7 = .osl 1 (Lis.sel l (i + 1)).length -> st'.H 1 = some (.row 3 (Lis.sel l (i + 1)).length ((Lis.sel l (i + 1)).map fun (n : Nat) => D.int .i64 (n : Int))) -> K5 st' := by
    intro st' h0 h3 hH h4 h62 h63 h7 hH1
    refine hK5 _ ?_
    have wi : IntKind.i64.wrap ((i : Int) + 1) = ((i + 1 : Nat) : Int) := by rw [z3i (by omega)]; omega
    (refine z3q ?_); (simp only [go_sem, Nat.reduceBEq, Nat.reduceBeqDiff, Nat.reduceEqDiff, ↓reduceIte, reduceCtorEq, Nat.reduceAdd, Nat.reduceMul, Nat.reduceLeDiff, Nat.reduceLT, Int.reduceLT, Int.reduceLE, Int.reduceEq, h63, wi])
    exact ⟨l.length - (i + 1), by omega, i + 1, rfl, by omega, h0, h3, hH, h4, h62, rfl, h7, hH1⟩
   have hmb := Lis.most_bd l
   have hsl := Lis.sel_len l i
   by_cases c1 : ((Lis.sel l i).length : Int) < Lis.most l
   ·have wm : IntKind.i64.wrap (Lis.most l - ((Lis.sel l i).length : Int)) = Lis.most l - ((Lis.sel l i).length : Int) := z3i (by omega)
    by_cases c2 : (Lis.rows l).getD i 0 = Lis.most l - ((Lis.sel l i).length : Int)
    ·have hb1 : ((Lis.sel l i).length + 1) * 8 <= 140737488355328 := by omega
     have hb2 : (Lis.sel l i).length + 1 <= maxLen := by unfold maxLen; omega
     have F : (Lis.sel l i).length <= 9223372036854775806 := by omega
     have fin : (Lis.sel l i = [] \/ l.getD ((Lis.sel l i).getLastD 0) 0 < l.getD i 0) -> Lis.sel l (i + 1) = Lis.sel l i ++ [i] := by
      intro h; rw [hs]; unfold Lis.sel1; rw [if_pos ⟨c1, c2, h⟩]
     have fin2 : ¬ (Lis.sel l i = [] \/ l.getD ((Lis.sel l i).getLastD 0) 0 < l.getD i 0) -> Lis.sel l (i + 1) = Lis.sel l i := by
      intro h; rw [hs]; unfold Lis.sel1; rw [if_neg (fun h' => h h'.2.2)]
     by_cases c3 : Lis.sel l i = []
     ·have c3' : ((Lis.sel l i).length : Int) = 0 := by rw [c3]; rfl
      rw [c3'] at c1 c2 wm
      (refine zqe (by decide +kernel) fun K hK => ?_); (simp only [go_sem, Nat.reduceBEq, Nat.reduceBeqDiff, Nat.reduceEqDiff, ↓reduceIte, reduceCtorEq, Nat.reduceAdd, Nat.reduceMul, Nat.reduceLeDiff, Nat.reduceLT, Int.reduceLT, Int.reduceLE, Int.reduceEq, h7, h4, c1, h3, hH, hin, hrl, hri, wm, c2, c3']); (refine hK _ ?_); (clear hK K)
      refine zqm true rfl (fun _ => ?_) (fun hc => (by cases hc))
      (refine z3q ?_); (simp only [go_sem, Nat.reduceBEq, Nat.reduceBeqDiff, Nat.reduceEqDiff, ↓reduceIte, reduceCtorEq, Nat.reduceAdd, Nat.reduceMul, Nat.reduceLeDiff, Nat.reduceLT, Int.reduceLT, Int.reduceLE, Int.reduceEq, h7, hH1, hb1, hb2, F])
      refine (show K5 _ from tail _ h0 h3 hH h4 h62 h63 ?_ ?_)
      ·rw [fin (.inl c3), List.length_append]; rfl
      ·rw [fin (.inl c3), List.length_append, List.map_append]; rfl
     ·have hpos : 0 < (Lis.sel l i).length := List.length_pos_iff.2 c3
      have c3' : ¬ ((Lis.sel l i).length : Int) = 0 := by omega
      have wl : IntKind.i64.wrap (((Lis.sel l i).length : Int) - 1) = (((Lis.sel l i).length - 1 : Nat) : Int) := by rw [z3i (by omega)]; omega
      have hcc : (((Lis.sel l i).length - 1 : Nat) : Int) < ((Lis.sel l i).length : Int) := by omega
      have hlast : (Lis.sel l i)[(Lis.sel l i).length - 1]? = some ((Lis.sel l i).getLastD 0) := by
       rw [List.getLastD_eq_getLast?, List.getLast?_eq_getElem?, List.getElem?_eq_getElem (by omega)]; rfl
      have hlt : (Lis.sel l i).getLastD 0 < l.length := by
       have := Lis.sel_lt l i _ (List.mem_of_getElem? hlast); omega
      have i2 := z4f (D.int .i64) l _ hlt
      have hle1 : (Lis.sel l i).length - 1 < (Lis.sel l i).length := by omega
      by_cases c4 : l[(Lis.sel l i).getLastD 0] < l[i]
      ·(refine zqe (by decide +kernel) fun K hK => ?_); (simp only [go_sem, Nat.reduceBEq, Nat.reduceBeqDiff, Nat.reduceEqDiff, ↓reduceIte, reduceCtorEq, Nat.reduceAdd, Nat.reduceMul, Nat.reduceLeDiff, Nat.reduceLT, Int.reduceLT, Int.reduceLE, Int.reduceEq, h7, h4, c1, h3, hH, hin, hrl, hri, wm, c2, c3', h0, zad, i1, i2, wl, hcc, hH1, hlast, c4]); (refine hK _ ?_); (clear hK K)
       have c4' : l.getD ((Lis.sel l i).getLastD 0) 0 < l.getD i 0 := by
        rw [List.getD_eq_getElem?_getD, List.getD_eq_getElem?_getD, List.getElem?_eq_getElem hlt, List.getElem?_eq_getElem hi']
        exact c4
       refine zqm true rfl (fun _ => ?_) (fun hc => (by cases hc))
       (refine z3q ?_); (simp only [go_sem, Nat.reduceBEq, Nat.reduceBeqDiff, Nat.reduceEqDiff, ↓reduceIte, reduceCtorEq, Nat.reduceAdd, Nat.reduceMul, Nat.reduceLeDiff, Nat.reduceLT, Int.reduceLT, Int.reduceLE, Int.reduceEq, h7, hH1, hb1, hb2, F])
       refine (show K5 _ from tail _ h0 h3 hH h4 h62 h63 ?_ ?_)
       ·rw [fin (.inr c4'), List.length_append]; rfl
       ·rw [fin (.inr c4'), List.length_append, List.map_append]; rfl
      ·(refine zqe (by decide +kernel) fun K hK => ?_); (simp only [go_sem, Nat.reduceBEq, Nat.reduceBeqDiff, Nat.reduceEqDiff, ↓reduceIte, reduceCtorEq, Nat.reduceAdd, Nat.reduceMul, Nat.reduceLeDiff, Nat.reduceLT, Int.reduceLT, Int.reduceLE, Int.reduceEq, h7, h4, c1, h3, hH, hin, hrl, hri, wm, c2, c3', h0, zad, i1, i2, wl, hcc, hH1, hlast, c4]); (refine hK _ ?_); (clear hK K)
       refine zqm false rfl (fun hc => (by cases hc)) (fun _ => ?_)
       have c4' : ¬ (Lis.sel l i = [] \/ l.getD ((Lis.sel l i).getLastD 0) 0 < l.getD i 0) := by
        rintro (h | h)
        ·exact c3 h
        ·apply c4
         rw [List.getD_eq_getElem?_getD, List.getD_eq_getElem?_getD, List.getElem?_eq_getElem hlt, List.getElem?_eq_getElem hi'] at h
         exact h
       refine zqk ?_
       refine tail _ h0 h3 hH h4 h62 h63 ?_ ?_
       ·rw [fin2 c4']; exact h7
       ·rw [fin2 c4']; exact hH1
    ·(refine zqe (by decide +kernel) fun K hK => ?_); (simp only [go_sem, Nat.reduceBEq, Nat.reduceBeqDiff, Nat.reduceEqDiff, ↓reduceIte, reduceCtorEq, Nat.reduceAdd, Nat.reduceMul, Nat.reduceLeDiff, Nat.reduceLT, Int.reduceLT, Int.reduceLE, Int.reduceEq, h7, h4, c1, h3, hH, hin, hrl, hri, wm, c2]); (refine hK _ ?_); (clear hK K)
     refine zqm false rfl (fun hc => (by cases hc)) (fun _ => ?_)
     refine zqk ?_
     refine tail _ h0 h3 hH h4 h62 h63 ?_ ?_
     ·rw [hs]; unfold Lis.sel1; rw [if_neg (fun h => c2 h.2.1)]; exact h7
     ·rw [hs]; unfold Lis.sel1; rw [if_neg (fun h => c2 h.2.1)]; exact hH1
   ·(refine zqe (by decide +kernel) fun K hK => ?_); (simp only [go_sem, Nat.reduceBEq, Nat.reduceBeqDiff, Nat.reduceEqDiff, ↓reduceIte, reduceCtorEq, Nat.reduceAdd, Nat.reduceMul, Nat.reduceLeDiff, Nat.reduceLT, Int.reduceLT, Int.reduceLE, Int.reduceEq, h7, h4, c1]); (refine hK _ ?_); (clear hK K)
    refine zqm false rfl (fun hc => (by cases hc)) (fun _ => ?_)
    refine zqk ?_
    refine tail _ h0 h3 hH h4 h62 h63 ?_ ?_
    ·rw [hs]; unfold Lis.sel1; rw [if_neg (fun h => c1 h.1)]; exact h7
    ·rw [hs]; unfold Lis.sel1; rw [if_neg (fun h => c1 h.1)]; exact hH1
  ·refine zql ?_
   show K3 _
   refine hK3 _ ?_
   (refine zqh fun K hK => ?_); (simp only [go_sem, Nat.reduceBEq, Nat.reduceBeqDiff, Nat.reduceEqDiff, ↓reduceIte, reduceCtorEq, Nat.reduceAdd, Nat.reduceMul, Nat.reduceLeDiff, Nat.reduceLT, Int.reduceLT, Int.reduceLE, Int.reduceEq, h7]); (refine hK _ ?_); (clear hK K)
   (refine zqn ?_); (refine Exists.intro _ (And.intro rfl ?_))
   obtain rfl : i = l.length := by omega
   refine fin_row 0 hH1 z39 z6t (by simp) (z0g (fun _ => rfl) _) ?_
   simp only [Lis.lis]
   rw [if_neg (by omega), List.map_map]
   rfl
end
section
open Abs Facts Tr
attribute [local irreducible] awp
set_option maxRecDepth 100000
namespace Tr
theorem par_no {A : T} {i : Idv} (h : z2e i A = false) : (za3 i A).2.2 = false := by
 rw [z1l, decide_eq_false_iff_not, <- z5z] at h
 unfold za3
 simp [h]
def zb9 (A u : T) (i : Nat) : List T := (u.kids.take i).filter (z42 A u)
theorem zq1 {A u : T} {i : Nat} (h : i < u.kids.length) : zb9 A u (i + 1) = zb9 A u i ++ if z42 A u u.kids[i] = true then [u.kids[i]] else [] := by
 unfold zb9
 rw [List.take_succ_eq_append_getElem h, List.filter_append]
 congr 1
 split <;> simp_all
theorem zo2 (A u : T) (i : Nat) : (zb9 A u i).length <= i := by
 unfold zb9
 refine Nat.le_trans (List.length_filter_le _ _) ?_
 rw [List.length_take]; omega
theorem zjt (A u : T) : zb9 A u u.kids.length = z3y A u := by unfold zb9 z3y; rw [List.take_length]
end Tr
open Tr
theorem zcm (l : List Idv) : z77 (.map (setI l)) = true := by
 show (pureD.pureL ((setI l).map (·.1)) && pureD.pureL ((setI l).map (·.2))) = true
 unfold setI
 rw [List.map_map, List.map_map, Bool.and_eq_true]
 exact ⟨z0g (fun _ => rfl) _, z0g (fun i => rfl) _⟩
set_option maxHeartbeats 16000000 in
theorem zyc (A B u : T) (p q : Nat) (na : (idsT A).Nodup) (hu : szB u = true) (hk0 : ∀ k ∈ u.kids, ¬ A.id = k.id) (hnk : (u.kids.map T.id).Nodup) (H : HM) (nx : Nat) (hp : p < nx) (hHp : H p = some (.map (mapI encPl (plcs A)))) :
  AC prog 99 [.agg (cellsPr A B p q), z1e u] H nx fun r' H' nx' => r' = renD (fun j => nx + j) (.mp 0) /\ H' = zjq H nx [.map (setI (z2h A u))] /\ nx' = nx + 1 := by
 obtain ⟨h0, h1, g1, h2, g2, h3, h4⟩ := (z33 u).1 hu
 have e0 := z02 hp
 have hb0 : zb9 A u 0 = [] := rfl
 refine zwv rfl (fun o ho => by rw [List.mem_singleton] at ho; subst ho; exact zcm _) (z23 [5, 6, 3000050, 3000055] func99 rfl (by decide +kernel) rfl ?_)
 show awp _ _ (Code.seq _ _) _ _
 repeat' (first | refine zqj ?_ | ((refine zqh fun K hK => ?_); (simp (disch := omega) only [go_sem, Nat.reduceBEq, ↓reduceIte, reduceCtorEq, Nat.reduceAdd, e0])) | refine zqa ?_ | (refine hK _ ?_; clear hK K))
 (refine z45 (fun U st => ∃ (i : Nat), U = u.kids.length - i /\ st.t 2 = .ptr nx 0 /\ st.t 3 = .ptr (nx + 1) 0 /\ st.t 5 = .osl (nx + 2) (zb9 A u i).length /\ st.t 6 = .osl (nx + 3) (zb9 A u i).length /\ st.t 17 = z0n u.kids /\ st.t 18 = .int .i64 u.kids.length /\ st.t 19 = .int .i64 i /\ st.H (nx) = some (.box 111 (cellsPr A B p q)) /\ st.H (nx + 1) = some (.box 27 (z08 u)) /\ st.H (nx + 2) = some (.row 23 (zb9 A u i).length (((zb9 A u i).map T.id).flatMap cellsId)) /\ st.H (nx + 3) = some (.row 3 (zb9 A u i).length ((zb9 A u i).map fun k => .int .i64 (za3 k.id A).2.1)) /\ st.H (p) = some (.map (mapI encPl (plcs A))) /\ (i <= u.kids.length) /\ (nx + 4 <= st.nx) /\ (∀ id, id < nx -> st.H id = H id)) ?_ ?_); rotate_left; (rintro U st ⟨i, rfl, v2, v3, v5, v6, v17, v18, v19, vHnx, vHnx1, vHnx2, vHnx3, vHp, vp0, vp1, vp2⟩); rotate_left
 ·(refine ⟨_, 0, rfl, ?_⟩); (simp (disch := omega) only [go_sem, Nat.reduceBEq, Nat.reduceLeDiff, true_and, Int.natCast_zero, List.flatMap_nil, List.map_nil, z0n, e0, hb0])
  exact ⟨hHp, Nat.le_refl _, fun id hid => by simp (disch := omega) only [z09]⟩
 have s0 := z02 (show nx < st.nx by omega)
 have s1 := z02 (show nx + 1 < st.nx by omega)
 have s2 := z02 (show nx + 2 < st.nx by omega)
 have s3 := z02 (show nx + 3 < st.nx by omega)
 have sp := z02 (show p < st.nx by omega)
 by_cases hi : i < u.kids.length
 ·have hs := zq1 (A := A) hi
  have hle := zo2 A u i
  have O := hk0 _ (List.getElem_mem hi)
  rcases zir na u.kids[i].id with ⟨hA, x, hxu, hxp, n, hf⟩ | ⟨hA, hf⟩
  ·have hxp := hxp O
   by_cases hpu : x.par = u.id
   ·rcases zir na u.id with ⟨hA2, y, _, _, n2, hf2⟩ | ⟨hA2, hf2⟩
    ·have hun : z42 A u u.kids[i] = true := by unfold z42; rw [hA2, hxp]; simp [hpu]
     rw [hun, if_pos rfl] at hs
     repeat' (first | ((first | refine zqh fun K hK => ?_ | refine zqq (by decide +kernel) fun K hK => ?_); (simp (disch := omega) only [go_sem, Nat.reduceBEq, Nat.reduceEqDiff, ↓reduceIte, reduceCtorEq, Nat.reduceAdd, Nat.reduceMul, Nat.reduceLeDiff, Nat.reduceLT, v2, v3, v5, v6, v17, v18, v19, vHnx, vHnx1, vHnx2, vHnx3, vHp, e0, s0, s1, s2, s3, sp, z0n, hf, hf2, hpu])) | ((first | refine zqd _ rfl (fun hc => ?_) (fun hc => ?_) | refine zqm _ rfl (fun hc => ?_) (fun hc => ?_)) <;> (first | (cases hc; done) | ((try simp only [z06] at hc); (try omega)))) | refine zqa ?_ | refine zqb ?_ | refine zqv ?_ | refine zqy ?_ | (refine hK _ ?_; clear hK K))
     refine ⟨_, SealTo.refl _, ?_⟩
     repeat' (first | ((refine zqr fun K hK => ?_); (simp (disch := omega) only [go_sem, Nat.reduceBEq, ↓reduceIte, v19])) | (refine hK _ ?_; clear hK K))
     (refine Exists.intro _ (And.intro ?_ ⟨i + 1, rfl, ?_⟩)); rotate_left; (simp (disch := omega) only [go_sem, Nat.reduceBEq, Nat.reduceLeDiff, v2, v3, v5, v6, v17, v18, v19, vHnx, vHnx1, vHnx2, vHnx3, vHp, true_and, Int.natCast_add, Int.natCast_one, List.flatMap_append, List.flatMap_cons, List.flatMap_nil, List.map_append, List.map_cons, List.map_nil, List.append_nil, e0, s0, s1, s2, s3, sp, hs, hxp, cellsId, List.length_append, List.length_cons, List.length_nil]); rotate_left
     ·omega
     ·exact ⟨by omega, by omega, fun id hid => by simp (disch := omega) only [z09]; exact vp2 id hid⟩
    ·have hun : z42 A u u.kids[i] = false := by unfold z42; rw [hA2]; rfl
     rw [hun, if_neg (by decide), List.append_nil] at hs
     repeat' (first | ((refine zqh fun K hK => ?_); (simp (disch := omega) only [go_sem, Nat.reduceBEq, ↓reduceIte, reduceCtorEq, Nat.reduceAdd, Nat.reduceLeDiff, v2, v3, v17, v18, v19, vHnx, vHnx1, vHp, s0, s1, sp, z0n, hf, hf2, hpu])) | ((first | refine zqd _ rfl (fun hc => ?_) (fun hc => ?_) | refine zqm _ rfl (fun hc => ?_) (fun hc => ?_)) <;> (first | (cases hc; done) | ((try simp only [z06] at hc); (try omega)))) | refine zqa ?_ | refine zqb ?_ | refine zqk ?_ | refine zqv ?_ | refine zqy ?_ | (refine hK _ ?_; clear hK K))
     refine ⟨_, SealTo.refl _, ?_⟩
     repeat' (first | ((refine zqr fun K hK => ?_); (simp (disch := omega) only [go_sem, Nat.reduceBEq, ↓reduceIte, v19])) | (refine hK _ ?_; clear hK K))
     (refine Exists.intro _ (And.intro ?_ ⟨i + 1, rfl, ?_⟩)); rotate_left; (simp (disch := omega) only [go_sem, Nat.reduceBEq, Nat.reduceLeDiff, v2, v3, v5, v6, v17, v18, v19, vHnx, vHnx1, vHnx2, vHnx3, vHp, true_and, Int.natCast_add, Int.natCast_one, s0, s1, s2, s3, sp, hs]); rotate_left
     ·omega
     ·exact ⟨by omega, by omega, fun id hid => by simp (disch := omega) only [z09]; exact vp2 id hid⟩
   ·have hun : z42 A u u.kids[i] = false := by unfold z42; rw [hxp]; simp [hpu]
    rw [hun, if_neg (by decide), List.append_nil] at hs
    repeat' (first | ((refine zqh fun K hK => ?_); (simp (disch := omega) only [go_sem, Nat.reduceBEq, ↓reduceIte, reduceCtorEq, Nat.reduceAdd, Nat.reduceLeDiff, v2, v3, v17, v18, v19, vHnx, vHnx1, vHp, s0, s1, sp, z0n, hf, hpu])) | ((first | refine zqd _ rfl (fun hc => ?_) (fun hc => ?_) | refine zqm _ rfl (fun hc => ?_) (fun hc => ?_)) <;> (first | (cases hc; done) | ((try simp only [z06] at hc); (try omega)))) | refine zqa ?_ | refine zqb ?_ | refine zqk ?_ | refine zqv ?_ | refine zqy ?_ | (refine hK _ ?_; clear hK K))
    refine ⟨_, SealTo.refl _, ?_⟩
    repeat' (first | ((refine zqr fun K hK => ?_); (simp (disch := omega) only [go_sem, Nat.reduceBEq, ↓reduceIte, v19])) | (refine hK _ ?_; clear hK K))
    (refine Exists.intro _ (And.intro ?_ ⟨i + 1, rfl, ?_⟩)); rotate_left; (simp (disch := omega) only [go_sem, Nat.reduceBEq, Nat.reduceLeDiff, v2, v3, v5, v6, v17, v18, v19, vHnx, vHnx1, vHnx2, vHnx3, vHp, true_and, Int.natCast_add, Int.natCast_one, s0, s1, s2, s3, sp, hs]); rotate_left
    ·omega
    ·exact ⟨by omega, by omega, fun id hid => by simp (disch := omega) only [z09]; exact vp2 id hid⟩
  ·have hun : z42 A u u.kids[i] = false := by unfold z42; rw [par_no hA]; simp
   rw [hun, if_neg (by decide), List.append_nil] at hs
   repeat' (first | ((refine zqh fun K hK => ?_); (simp (disch := omega) only [go_sem, Nat.reduceBEq, ↓reduceIte, reduceCtorEq, Nat.reduceAdd, Nat.reduceLeDiff, v2, v17, v18, v19, vHnx, vHp, s0, sp, z0n, hf])) | ((first | refine zqd _ rfl (fun hc => ?_) (fun hc => ?_) | refine zqm _ rfl (fun hc => ?_) (fun hc => ?_)) <;> (first | (cases hc; done) | ((try simp only [z06] at hc); (try omega)))) | refine zqa ?_ | refine zqb ?_ | refine zqk ?_ | refine zqv ?_ | refine zqy ?_ | (refine hK _ ?_; clear hK K))
   refine ⟨_, SealTo.refl _, ?_⟩
   repeat' (first | ((refine zqr fun K hK => ?_); (simp (disch := omega) only [go_sem, Nat.reduceBEq, ↓reduceIte, v19])) | (refine hK _ ?_; clear hK K))
   (refine Exists.intro _ (And.intro ?_ ⟨i + 1, rfl, ?_⟩)); rotate_left; (simp (disch := omega) only [go_sem, Nat.reduceBEq, Nat.reduceLeDiff, v2, v3, v5, v6, v17, v18, v19, vHnx, vHnx1, vHnx2, vHnx3, vHp, true_and, Int.natCast_add, Int.natCast_one, s0, s1, s2, s3, sp, hs]); rotate_left
   ·omega
   ·exact ⟨by omega, by omega, fun id hid => by simp (disch := omega) only [z09]; exact vp2 id hid⟩
 ·repeat' (first | ((refine zqh fun K hK => ?_); (simp (disch := omega) only [go_sem, ↓reduceIte, v18, v19])) | (refine zqd _ rfl ?_ ?_ <;> intro hc <;> (((try simp only [z06] at hc); (try omega)))) | refine zqc ?_ | refine zqv ?_ | refine zqz ?_ | refine zqp ?_ | (refine hK _ ?_; clear hK K))
  have hil : i = u.kids.length := by omega
  subst hil
  rw [zjt] at v5 v6 vHnx2 vHnx3
  have hlen : (z3y A u).length <= 1000000 := by have := zo2 A u u.kids.length; rw [zjt] at this; omega
  have hats : ((z3y A u).map fun k => D.int .i64 (za3 k.id A).2.1) = (z8g A u).map (D.int .i64) := by unfold z8g; rw [List.map_map]; rfl
  rw [hats] at vHnx3
  have cl := pc11 (z8g A u) (by unfold maxLen z8g; rw [List.length_map]; omega)
  have hl1 : D.rsl false (z01 prog 3) (z1u (z05 prog 3) (z01 prog 3) (z3y A u).length ((z8g A u).map (D.int .i64))) = zad (z8g A u) := by
   have h5 : (z3y A u).length = ((z8g A u).map (D.int .i64)).length := by unfold z8g; simp
   rw [z39, z6t, h5, z9t]; rfl
  have hl2 : D.rsl false (z01 prog 23) (z1u (z05 prog 23) (z01 prog 23) (z3y A u).length (((z3y A u).map T.id).flatMap cellsId)) = z2d ((z3y A u).map T.id) := by
   have := z5w (f := cellsId) (sz := 3) (fun _ => rfl) ((z3y A u).map T.id)
   rw [List.length_map] at this
   rw [zbu, zfg, this]; rfl
  refine ⟨_, SealTo.trans (zw6 (id := nx + 3) (j := 6) (e := 3) (n := (z3y A u).length) (cs := (z8g A u).map (D.int .i64)) (by (simp (disch := omega) only [go_sem, vHnx3])) (by decide +kernel) (z0g (fun _ => rfl) _) (by (simp (disch := omega) only [go_sem, Nat.reduceBEq, v6]))) (zw6 (id := nx + 2) (j := 5) (e := 23) (n := (z3y A u).length) (cs := ((z3y A u).map T.id).flatMap cellsId) (by (simp (disch := omega) only [go_sem, vHnx2, e0])) (by decide +kernel) (z1f (fun _ => rfl) _) (by (simp (disch := omega) only [go_sem, Nat.reduceBEq, v5]))), ?_⟩
  rw [hl1, hl2]
  obtain ⟨ids, hids⟩ : ∃ ids, ids = (z3y A u).map T.id := ⟨_, rfl⟩
  obtain ⟨L, hL⟩ : ∃ L, L = Lis.lis (z8g A u) := ⟨_, rfl⟩
  have hSe : z2h A u = L.map fun n => ids.getD n Idv.zero := by rw [hids, hL]; rfl
  have hLl : ∀ n ∈ L, n < ids.length := fun n hn => by rw [hL] at hn; have := (Lis.lis_rise (z8g A u)).2 n hn; rw [hids]; simpa [z8g] using this
  have hSn : (z2h A u).Nodup := (zia u).nodup hnk
  have hSl : (z2h A u).length = L.length := by rw [hSe, List.length_map]
  have hLb : L.length <= 1000000 := by rw [<- hSl]; have h5 := (zia (A := A) u).length_le; rw [List.length_map] at h5; omega
  rw [<- hL] at cl
  rw [<- hids]
  repeat' (first | refine zqj ?_ | ((first | refine zqh fun K hK => ?_ | refine zqs (cl) ?_); (simp (disch := omega) only [go_sem, Nat.reduceBEq, v6])) | refine zqa ?_ | (refine hK _ ?_; clear hK K))
  obtain ⟨m0, hm0⟩ : ∃ m0, m0 = st.nx := ⟨_, rfl⟩
  (refine z45 (fun U st => ∃ (i : Nat), U = L.length - i /\ st.t 5 = z2d ids /\ st.t 13 = .mp m0 /\ st.t 61 = zad (L.map fun (n : Nat) => (n : Int)) /\ st.t 62 = .int .i64 L.length /\ st.t 63 = .int .i64 i /\ st.H (m0) = some (.map (setI ((z2h A u).take i))) /\ (i <= L.length) /\ (m0 < st.nx) /\ (∀ id, id < nx -> st.H id = H id)) ?_ ?_); rotate_left; (rintro U st ⟨i, rfl, w5, w13, w61, w62, w63, wHm0, wp0, wp1, wp2⟩); rotate_left
  ·(refine ⟨_, 0, rfl, ?_⟩); (simp (disch := omega) only [go_sem, Nat.reduceBEq, v5, true_and, Int.natCast_zero, zad, s2, s3, hm0])
   exact ⟨rfl, Nat.lt_succ_self _, fun id hid => by simp (disch := omega) only [z09]; exact vp2 id hid⟩
  have f0 := z02 wp1
  by_cases hi : i < L.length
  ·have hlt := hLl _ (List.getElem_mem hi)
   have hSi : (z2h A u)[i]'(by omega) = ids[L[i]] := by simp only [hSe, List.getElem_map]; simp [List.getD, hlt]
   have hnew : ids[L[i]] ∉ (z2h A u).take i := by
    rw [<- hSi]
    intro hmem
    obtain ⟨j, hj, e⟩ := List.getElem_of_mem hmem
    rw [List.length_take] at hj
    rw [List.getElem_take] at e
    have := (List.getElem_inj hSn).1 e
    omega
   have hfk := zbe ids[L[i]] ((z2h A u).take i)
   rw [if_neg hnew] at hfk
   have hsn := z7b ((z2h A u).take i) ids[L[i]]
   have htk : (z2h A u).take (i + 1) = (z2h A u).take i ++ [ids[L[i]]] := by rw [List.take_succ_eq_append_getElem (by omega), hSi]
   repeat' (first | ((first | refine zqh fun K hK => ?_ | refine zqr fun K hK => ?_); (simp (disch := omega) only [go_sem, Nat.reduceBEq, ↓reduceIte, reduceCtorEq, Nat.reduceAdd, w5, w13, w61, w62, w63, wHm0, z2d, zad, hfk, hsn, Function.comp_apply])) | (refine zqd _ rfl ?_ ?_ <;> intro hc <;> (((try simp only [z06] at hc); (try omega)))) | refine zqa ?_ | refine zqb ?_ | refine zqv ?_ | refine zqy ?_ | (refine hK _ ?_; clear hK K))
   refine ⟨_, SealTo.refl _, ?_⟩
   repeat' (first | ((refine zqr fun K hK => ?_); (simp (disch := omega) only [go_sem, Nat.reduceBEq, ↓reduceIte, w63])) | (refine hK _ ?_; clear hK K))
   (refine Exists.intro _ (And.intro ?_ ⟨i + 1, rfl, ?_⟩)); rotate_left; (simp (disch := omega) only [go_sem, Nat.reduceBEq, w5, w13, w61, w62, w63, wHm0, true_and, Int.natCast_add, Int.natCast_one, htk]); rotate_left
   ·omega
   ·exact ⟨by omega, by omega, fun id hid => by simp (disch := omega) only [z09]; exact wp2 id hid⟩
  ·repeat' (first | ((refine zqh fun K hK => ?_); (simp (disch := omega) only [go_sem, ↓reduceIte, w62, w63])) | (refine zqd _ rfl ?_ ?_ <;> intro hc <;> (((try simp only [z06] at hc); (try omega)))) | refine zqc ?_ | refine zqv ?_ | refine zqz ?_ | refine zqp ?_ | (refine hK _ ?_; clear hK K))
   refine ⟨_, SealTo.refl _, ?_⟩
   repeat' (first | ((refine zqh fun K hK => ?_); (simp (disch := omega) only [go_sem, Nat.reduceBEq, w13])) | refine zqn ?_ | refine zqu (by simp only [go_sem]; rfl) rfl ?_ | (refine hK _ ?_; clear hK K))
   have hta : (z2h A u).take i = z2h A u := List.take_of_length_le (by omega)
   rw [hta] at wHm0
   refine ⟨fun id hid => ?_, fun _ => m0, fun i j hi hj _ => ?_, fun _ _ => ?_, ?_, fun j hj => ?_⟩
   ·(simp (disch := omega) only [go_sem])
    exact wp2 id hid
   ·simp only [List.length_cons, List.length_nil] at hi hj; omega
   ·show nx <= m0; omega
   ·rfl
   ·simp only [List.length_cons, List.length_nil] at hj
    obtain rfl : j = 0 := by omega
    (simp (disch := omega) only [go_sem, wHm0])
end
section
open Abs Facts Tr
attribute [local irreducible] awp
set_option maxRecDepth 100000
def z8y (A B : T) : List HObj := if z8k A B = true then [.map (mapI encPl (plcs A)), .map (mapI encPl (plcs B))] else []
def zau (A B : T) : D := .tup [.agg (if z8k A B = true then cellsPr A B 0 1 else zeroPr), .bool (z8k A B)]
def zfk (A : T) (e : Idv × Plc) : Bool := !z2e e.1 A || decide ((findR e.1 A).1.kind = e.2.unit.kind)
theorem zzz {A B : T} (na : (idsT A).Nodup) (nb : (idsT B).Nodup) (h : ∀ (i : Nat) (e : Idv × Plc), (plcs B)[i]? = some e -> zfk A e = true) : z3c A B = true := by
 unfold z3c
 rw [List.all_eq_true]
 intro x hx
 by_cases hB : z2e x.id B = true
 ·have hm : x.id ∈ idsT B := by rw [z1l, decide_eq_true_eq] at hB; exact hB
  obtain ⟨p, h1, h2, _⟩ := plc_in nb hm
  obtain ⟨i, hi, e⟩ := List.getElem_of_mem h1
  have h3 := h i _ (by rw [List.getElem?_eq_getElem hi, e])
  unfold zfk at h3
  have hA : z2e x.id A = true := by rw [z1l, decide_eq_true_eq]; exact List.mem_map.2 ⟨x, hx, rfl⟩
  simp only [hA, Bool.not_true, Bool.false_or, decide_eq_true_eq, h2] at h3
  rw [z15 na hx rfl] at h3
  simp only at h3
  simp [h3]
 ·simp [hB]
theorem z000 {A B : T} (na : (idsT A).Nodup) (nb : (idsT B).Nodup) {i : Nat} {e : Idv × Plc} (he : (plcs B)[i]? = some e) (h : zfk A e = false) : z3c A B = false := by
 obtain ⟨h1, h2⟩ := zud B e (List.mem_of_getElem? he)
 cases O : z3c A B with
 | false => rfl
 | true =>
  unfold z3c at O
  rw [List.all_eq_true] at O
  unfold zfk at h
  simp only [Bool.or_eq_false_iff, Bool.not_eq_false', decide_eq_false_iff_not] at h
  obtain ⟨hA, hne⟩ := h
  have hx := z3g (id := e.1) (u := A) hA
  have hi := z9g (id := e.1) (t := A) hA
  have h3 := O _ hx
  rw [hi] at h3
  have hB : z2e e.1 B = true := by rw [z1l, decide_eq_true_eq, <- h2]; exact List.mem_map.2 ⟨_, h1, rfl⟩
  rw [hB, z15 nb h1 h2] at h3
  simp only [Bool.not_true, Bool.false_or, decide_eq_true_eq] at h3
  exact absurd h3.symm hne
theorem zvh {A B : T} {l : List Nat} {i : Nat} {e : Idv × Plc} (h : ∀ i ∈ l, ∀ e, (plcs B)[i]? = some e -> zfk A e = true) (he : (plcs B)[i]? = some e) (O : zfk A e = true) : ∀ i_1 ∈ l ++ [i], ∀ e, (plcs B)[i_1]? = some e -> zfk A e = true := by
 intro j hj e' he'
 rcases List.mem_append.1 hj with hj | hj
 ·exact h j hj e' he'
 ·rw [List.mem_singleton] at hj
  subst hj
  rw [he, Option.some.injEq] at he'
  rw [<- he']; exact O
theorem ren_Pr (σ : Nat -> Nat) (A B : T) (p q : Nat) (b : Bool) : renD σ (.tup [.agg (cellsPr A B p q), .bool b]) = .tup [.agg (cellsPr A B (σ p) (σ q)), .bool b] := by
 rw [z2f, z2f]; rfl
theorem ok_held (A B : T) : okD (z8y A B).length (zau A B) = true := by
 unfold z8y zau
 by_cases h : z8k A B = true
 ·rw [if_pos h, if_pos h, z2f]
  simp [okD, okD.okL, pureD]
  exact ⟨z0r _, z0r _, z5r _, z0r _, z0r _, z5r _⟩
 ·rw [if_neg h, if_neg h]; rfl
theorem zrt (A B : T) : ∀ o ∈ z8y A B, z77 o = true := by
 intro o ho
 unfold z8y at ho
 split at ho
 ·simp only [List.mem_cons, List.not_mem_nil, or_false] at ho
  rcases ho with rfl | rfl <;> exact zhf zct _
 ·cases ho
set_option maxHeartbeats 16000000 in
theorem z001 (A B : T) (fa : Fit50 A) (fb : Fit50 B) : OC prog 75 [z1e A, z1e B] (z8y A B) (zau A B) := by
 have c1 := zo5 A fa
 have c2 := zo5 B fb
 have c3 := zf3 A fa.sz
 have c4 := zf3 B fb.sz
 refine zjd (by simp only [pureD.pureL, z0b, Bool.and_self]) (ok_held A B) (zrt A B) ?_
 refine z8n func75 rfl (by decide +kernel) (by simp [ntmps75]) ?_
 rw [show Tryz.f75.results.toList = [.cell 4 111, .tmp 5] from rfl]
 refine Sem.seq (Sem.walk (own := []) z53 (by decide +kernel) ?_)
 repeat' (first | ((refine zqr fun K hK => ?_); (simp (disch := omega) only [go_sem, Nat.reduceBEq, Nat.reduceAdd])) | refine zqv ?_ | (refine hK _ ?_; clear hK K))
 refine Sem.seq (Sem.walk (own := []) z53 (by decide +kernel) ?_)
 have hcm : z8k A B = (z32 A && (z32 B && z3c A B)) := rfl
 cases ha : z32 A
 ·rw [ha] at c1 hcm
  rw [Bool.false_and] at hcm
  have e1 : z8y A B = [] := by unfold z8y; rw [hcm]; rfl
  have e2 : zau A B = .tup [.agg zeroPr, .bool false] := by unfold zau; rw [hcm]; rfl
  rw [e1, e2]
  repeat' (first | ((first | refine zqh fun K hK => ?_ | refine zqs (c1) ?_); (simp (disch := omega) only [go_sem, Nat.reduceBEq, ↓reduceIte, Nat.reduceAdd, Nat.reduceLeDiff])) | ((refine zqm _ rfl (fun hc => ?_) (fun hc => ?_)) <;> (first | (cases hc; done) | ((try simp only [] at hc); (try omega)))) | refine zqn ?_ | refine zqx ?_ | refine zqu (by (simp (disch := omega) only [go_sem, Nat.reduceBEq, ↓reduceIte, Nat.reduceLeDiff]); rfl) rfl ?_ | (refine hK _ ?_; clear hK K))
  exact ⟨fun j => j, fun i j hi => (by cases hi), rfl, fun j hj => (by cases hj)⟩
 rw [ha] at c1 hcm
 cases hb2 : z32 B
 ·rw [hb2] at c2 hcm
  rw [Bool.false_and, Bool.and_false] at hcm
  have e1 : z8y A B = [] := by unfold z8y; rw [hcm]; rfl
  have e2 : zau A B = .tup [.agg zeroPr, .bool false] := by unfold zau; rw [hcm]; rfl
  rw [e1, e2]
  repeat' (first | ((first | refine zqh fun K hK => ?_ | refine zqs (c1) ?_ | refine zqs (c2) ?_); (simp (disch := omega) only [go_sem, Nat.reduceBEq, ↓reduceIte, Nat.reduceAdd, Nat.reduceLeDiff])) | ((refine zqm _ rfl (fun hc => ?_) (fun hc => ?_)) <;> (first | (cases hc; done) | ((try simp only [] at hc); (try omega)))) | refine zqn ?_ | refine zqx ?_ | refine zqu (by (simp (disch := omega) only [go_sem, Nat.reduceBEq, ↓reduceIte, Nat.reduceLeDiff]); rfl) rfl ?_ | (refine hK _ ?_; clear hK K))
  exact ⟨fun j => j, fun i j hi => (by cases hi), rfl, fun j hj => (by cases hj)⟩
 rw [hb2] at c2 hcm
 rw [Bool.true_and, Bool.true_and] at hcm
 repeat' (first | ((first | refine zqh fun K hK => ?_ | refine zqs (c1) ?_ | refine zqs (c2) ?_); (simp (disch := omega) only [go_sem, Nat.reduceBEq, ↓reduceIte, Nat.reduceAdd, Nat.reduceLeDiff])) | ((refine zqm _ rfl (fun hc => ?_) (fun hc => ?_)) <;> (first | (cases hc; done) | ((try simp only [] at hc); (try omega)))) | refine zqk ?_ | refine zqv ?_ | (refine hK _ ?_; clear hK K))
 refine Sem.cutS (fun st => ∃ j1 j2 jb : Nat, (j1 = 4 /\ j2 = 5 /\ jb = 3 \/ j1 = 3 /\ j2 = 5 /\ jb = 4 \/ j1 = 3 /\ j2 = 4 /\ jb = 5) /\ st.nx = 6 /\ st.t 4 = .ptr 2 0 /\ st.t 6 = .ptr jb 0 /\ st.H 2 = some (.box 111 zeroPr) /\ st.H jb = some (.box 111 (cellsPr A B j1 j2)) /\ st.H j1 = some (.map (mapI encPl (plcs A))) /\ st.H j2 = some (.map (mapI encPl (plcs B)))) (zpe (own := [3000020, 3000021, 3000022, 3000024, 4000023, 4000025]) z53 (by decide +kernel) [(0, 1), (0, 2), (0, 3), (0, 4), (0, 5), (0, 7), (1, 0), (1, 2), (1, 3), (1, 4), (1, 5), (1, 7), (2, 0), (2, 1), (2, 4), (2, 5), (2, 7), (4, 0), (4, 1), (4, 2), (4, 3), (4, 7), (7, 6)] (.fork [0, 1, 2, 4] (.run [7, 3, 5, 6, 8]) (.fork [3] (.run [7, 5, 6, 8]) (.run [5, 7, 6, 8]))) (by decide +kernel) (by decide +kernel) ?_) ?_
 ·refine z7r ?_ rfl
  (simp (disch := omega) only [go_sem, Nat.reduceBEq, Nat.reduceEqDiff, ↓reduceIte, Nat.reduceAdd, Nat.reduceLeDiff, z76, zlh, List.map_cons, List.map_nil])
  refine ⟨?_, ?_⟩
  ·refine z3w ?_ rfl
   (simp (disch := omega) only [go_sem, Nat.reduceBEq, ↓reduceIte, Nat.reduceAdd, z76, zlh, List.map_cons, List.map_nil])
   refine z9p c3 rfl rfl rfl ?_
   (simp (disch := omega) only [go_sem, Nat.reduceBEq, Nat.reduceAdd])
   refine z9p c4 rfl rfl rfl ?_
   (simp (disch := omega) only [go_sem, Nat.reduceBEq, Nat.reduceEqDiff, ↓reduceIte, Nat.reduceAdd, Nat.reduceLeDiff])
   refine ⟨_, SealTo.refl _, 4, 5, 3, .inl ⟨rfl, rfl, rfl⟩, ?_⟩
   (simp (disch := omega) only [go_sem, Nat.reduceBEq, and_self])
  ·refine z7r ?_ rfl
   (simp (disch := omega) only [go_sem, Nat.reduceBEq, z76, zlh, List.map_cons, List.map_nil])
   refine z9p c3 rfl rfl rfl ?_
   (simp (disch := omega) only [go_sem, Nat.reduceAdd])
   refine ⟨?_, ?_⟩
   ·refine z3w ?_ rfl
    (simp (disch := omega) only [go_sem, Nat.reduceBEq, ↓reduceIte, Nat.reduceAdd, z76, zlh, List.map_cons, List.map_nil])
    refine z9p c4 rfl rfl rfl ?_
    (simp (disch := omega) only [go_sem, Nat.reduceBEq, Nat.reduceEqDiff, ↓reduceIte, Nat.reduceAdd, Nat.reduceLeDiff])
    refine ⟨_, SealTo.refl _, 3, 5, 4, .inr (.inl ⟨rfl, rfl, rfl⟩), ?_⟩
    (simp (disch := omega) only [go_sem, Nat.reduceBEq, and_self])
   ·refine z3w ?_ rfl
    (simp (disch := omega) only [go_sem, Nat.reduceBEq, z76, zlh, List.map_cons, List.map_nil])
    refine z9p c4 rfl rfl rfl ?_
    (simp (disch := omega) only [go_sem, Nat.reduceBEq, Nat.reduceEqDiff, ↓reduceIte, Nat.reduceAdd, Nat.reduceLeDiff])
    refine ⟨_, SealTo.refl _, 3, 4, 5, .inr (.inr ⟨rfl, rfl, rfl⟩), ?_⟩
    (simp (disch := omega) only [go_sem, Nat.reduceBEq, and_self])
 rintro st ⟨j1, j2, jb, hj, hnx, h4, h6, H2, Hb, H1, HQ⟩
 have na := ((z1j A).1 ha).2.2
 have nb := ((z1j B).1 hb2).2.2
 have nk : ((plcs B).map (·.1)).Nodup := by rw [zek]; exact nb
 have d1 : (j2 == 6) = false := z21 (by omega)
 have d2 : (2 == j2) = false := z21 (by omega)
 have d3 : (jb == 6) = false := z21 (by omega)
 have d4 : (jb == j2) = false := z21 (by omega)
 have d5 : (j1 == 6) = false := z21 (by omega)
 have d6 : (j1 == j2) = false := z21 (by omega)
 have d7 : (j2 == 2) = false := z21 (by omega)
 have d8 : (j1 == 2) = false := z21 (by omega)
 have d9 : (jb == 2) = false := z21 (by omega)
 have lt2 : j2 < 6 := by omega
 have lt1 : j1 < 6 := by omega
 have ltb : jb < 6 := by omega
 refine Sem.seq (Sem.rangeL (own := []) 2 z53 rfl rfl rfl ⟨rfl, rfl, rfl⟩ ⟨rfl, rfl, rfl⟩ ⟨rfl, rfl, rfl⟩ ⟨rfl, rfl, rfl⟩ mapT109 (by decide +kernel) (by decide +kernel) (by decide +kernel) ?_)
 (simp (disch := omega) only [go_sem, Nat.reduceBEq, ↓reduceIte, reduceCtorEq, Nat.reduceAdd, h6, Hb, List.take_succ_cons, List.take_zero, List.map_cons, List.map_nil])
 refine ⟨j2, _, rfl, HQ, fun M J => ⟨fun l s => s.H j2 = some M /\ s.H 6 = some (J l) /\ s.t 29 = .it 6 /\ s.t 4 = .ptr 2 0 /\ s.t 6 = .ptr jb 0 /\ s.H 2 = some (.box 111 zeroPr) /\ s.H jb = some (.box 111 (cellsPr A B j1 j2)) /\ s.H j1 = some (.map (mapI encPl (plcs A))) /\ 7 <= s.nx /\ ∀ i ∈ l, ∀ e, (plcs B)[i]? = some e -> zfk A e = true, ?_, ?_, ?_, ?_⟩⟩
 ·rintro l s ⟨g1, g2, g3, _⟩
  refine ⟨g1, ?_, ?_⟩
  ·(simp (disch := omega) only [go_sem, hnx])
   exact g2
  ·(simp (disch := omega) only [go_sem, hnx])
   exact g3
 ·unfold ztv
  (simp (disch := omega) only [go_sem, Nat.reduceBEq, Nat.reduceAdd, Nat.reduceLeDiff, hnx, h4, h6, d1, d2, d3, d4, d5, d6, H2, Hb, H1, and_true, List.not_mem_nil, false_implies, implies_true])
 ·rintro l s i k v ⟨g1, g2, g3, g4, g5, g6, g7, g8, g9, g10⟩ hnd hlt hil hkv
  obtain ⟨e, he, rfl, rfl⟩ := zue nk hkv
  obtain ⟨i1, p1⟩ := e
  have s2 := z02 (show 2 < s.nx by omega)
  have s6 := z02 (show 6 < s.nx by omega)
  have sj1 := z02 (show j1 < s.nx by omega)
  have sj2 := z02 (show j2 < s.nx by omega)
  have sjb := z02 (show jb < s.nx by omega)
  unfold ztw
  rcases zir na i1 with ⟨hA, p2, hpu, _, n, hf⟩ | ⟨hA, hf⟩
  ·by_cases O : p2.unit.kind = p1.unit.kind
   ·(simp (disch := omega) only [go_sem, Nat.reduceBEq, ↓reduceIte, Nat.reduceAdd, Nat.reduceLeDiff, hnx])
    repeat' (first | ((refine zqh fun K hK => ?_); (simp (disch := omega) only [go_sem, Nat.reduceBEq, ↓reduceIte, reduceCtorEq, Nat.reduceAdd, Nat.reduceLeDiff, g5, g7, g8, d3, d5, s2, s6, sj1, sjb, hf, O])) | ((refine zqm _ rfl (fun hc => ?_) (fun hc => ?_)) <;> (first | (cases hc; done) | ((try simp only [] at hc); (try omega)))) | refine zqk ?_ | (refine hK _ ?_; clear hK K))
    refine zh8 ?_
    (simp (disch := omega) only [go_sem, Nat.reduceBEq, Nat.reduceLeDiff, g1, g2, g3, g4, g5, g6, g7, g8, d1, d3, d5, s2, s6, sj1, sj2, sjb, true_and])
    exact ⟨by omega, zvh g10 he (by unfold zfk; rw [hA, <- hpu, O]; simp)⟩
   ·(simp (disch := omega) only [go_sem, Nat.reduceBEq, ↓reduceIte, Nat.reduceAdd, Nat.reduceLeDiff, hnx])
    repeat' (first | ((refine zqh fun K hK => ?_); (simp (disch := omega) only [go_sem, Nat.reduceBEq, ↓reduceIte, reduceCtorEq, Nat.reduceAdd, Nat.reduceLeDiff, g4, g5, g6, g7, g8, d3, d5, s2, s6, sj1, sjb, hf, O])) | ((refine zqm _ rfl (fun hc => ?_) (fun hc => ?_)) <;> (first | (cases hc; done) | ((try simp only [] at hc); (try omega)))) | refine zqn ?_ | (refine hK _ ?_; clear hK K))
    refine rndK_r ?_
    have hkb : z3c A B = false := z000 na nb he (by unfold zfk; rw [hA, <- hpu]; simp [O])
    rw [hkb] at hcm
    have e1 : z8y A B = [] := by unfold z8y; rw [hcm]; rfl
    have e2 : zau A B = .tup [.agg zeroPr, .bool false] := by unfold zau; rw [hcm]; rfl
    rw [e1, e2]
    repeat' (first | refine zqx ?_ | refine zqu (by (simp (disch := omega) only [go_sem, Nat.reduceBEq, ↓reduceIte, Nat.reduceLeDiff, g4, g6, s2]); rfl) rfl ?_)
    exact ⟨fun j => j, fun i j hi => (by cases hi), rfl, fun j hj => (by cases hj)⟩
  ·(simp (disch := omega) only [go_sem, Nat.reduceBEq, ↓reduceIte, Nat.reduceAdd, Nat.reduceLeDiff, hnx])
   repeat' (first | ((refine zqh fun K hK => ?_); (simp (disch := omega) only [go_sem, Nat.reduceBEq, ↓reduceIte, reduceCtorEq, Nat.reduceAdd, Nat.reduceLeDiff, g5, g7, g8, d3, d5, s2, s6, sj1, sjb, hf])) | ((refine zqm _ rfl (fun hc => ?_) (fun hc => ?_)) <;> (first | (cases hc; done) | ((try simp only [] at hc); (try omega)))) | refine zqk ?_ | (refine hK _ ?_; clear hK K))
   refine zh8 ?_
   (simp (disch := omega) only [go_sem, Nat.reduceBEq, Nat.reduceLeDiff, g1, g2, g3, g4, g5, g6, g7, g8, d1, d3, d5, s2, s6, sj1, sj2, sjb, true_and])
   exact ⟨by omega, zvh g10 he (by unfold zfk; rw [hA]; rfl)⟩
 ·rintro l s ⟨g1, g2, g3, g4, g5, g6, g7, g8, g9, g10⟩ hnd hlt hall
  unfold zmd
  refine zqv (Sem.walk (own := []) z53 (by decide +kernel) ?_)
  repeat' (first | ((refine zqh fun K hK => ?_); (simp (disch := omega) only [go_sem, Nat.reduceBEq, ↓reduceIte, Nat.reduceAdd, Nat.reduceLeDiff, g4, g5, g6, g7, d2, d4])) | refine zqn ?_ | refine zqu (by (simp (disch := omega) only [go_sem, Nat.reduceBEq, ↓reduceIte, Nat.reduceLeDiff, g4, g6, d2]); rfl) rfl ?_ | (refine hK _ ?_; clear hK K))
  have hkt : z3c A B = true := zzz na nb fun i e he => by
   have hi := (List.getElem?_eq_some_iff.1 he).1
   exact g10 i (hall i (by rw [zkb nk]; exact hi)) e he
  rw [hkt] at hcm
  have e1 : z8y A B = [.map (mapI encPl (plcs A)), .map (mapI encPl (plcs B))] := by unfold z8y; rw [hcm]; rfl
  have e2 : zau A B = .tup [.agg (cellsPr A B 0 1), .bool true] := by unfold zau; rw [hcm]; rfl
  rw [e1, e2]
  refine ⟨fun j => if j = 0 then j1 else j2, fun i j hi hj h => ?_, ?_, fun j hj => ?_⟩
  ·simp only [List.length_cons, List.length_nil] at hi hj
   simp only at h
   split at h <;> split at h <;> omega
  ·rw [ren_Pr]; rfl
  ·simp only [List.length_cons, List.length_nil] at hj
   rcases (show j = 0 \/ j = 1 by omega) with rfl | rfl
   ·(simp (disch := omega) only [go_sem, ↓reduceIte, g8, d6, d8])
   ·(simp (disch := omega) only [go_sem, ↓reduceIte, reduceCtorEq, d7])
namespace Abs
theorem zl0 {P : Program} {n : FuncId} {args cap : List D} {g : List Oper -> (St -> Prop) -> St -> Prop} {rest : List Oper} {K : St -> Prop} {st : St} {dst : Option Nat} {objs : List HObj} {r : D} (h : AC P n (args ++ cap) st.H st.nx fun r' H2 n2 => r' = renD (fun j => st.nx + j) r /\ H2 = zjq st.H st.nx objs /\ n2 = st.nx + objs.length)
  (O : g rest K ((st.withH (zjq st.H st.nx objs) (st.nx + objs.length)).put dst (renD (fun j => st.nx + j) r))) : zfy P (.fn n cap) args g rest K st dst :=
 z3h (h.mono fun r' H2 n2 ⟨h1, h2, h3⟩ => by subst h1; subst h2; subst h3; exact O)
end Abs
namespace Tr
theorem zl1 {S l l' : List Idv} {ls : List Nat} {i : Nat} {c : Idv} (h : ∀ x, x ∈ l' ↔ x ∈ l \/ ∃ j ∈ ls, S[j]? = some x) (hc : S[i]? = some c) : (c ∈ l' -> ∀ x, x ∈ l' ↔ x ∈ l \/ ∃ j ∈ ls ++ [i], S[j]? = some x) /\ (∀ x, x ∈ l' ++ [c] ↔ x ∈ l \/ ∃ j ∈ ls ++ [i], S[j]? = some x) := by
 have key : ∀ x, (∃ j ∈ ls ++ [i], S[j]? = some x) ↔ (∃ j ∈ ls, S[j]? = some x) \/ x = c := fun x => by
  constructor
  ·rintro ⟨j, hj, e⟩
   rcases List.mem_append.1 hj with hj | hj
   ·exact .inl ⟨j, hj, e⟩
   ·rw [List.mem_singleton] at hj; subst hj; rw [hc, Option.some.injEq] at e; exact .inr e.symm
  ·rintro (⟨j, hj, e⟩ | rfl)
   ·exact ⟨j, List.mem_append_left _ hj, e⟩
   ·exact ⟨i, by simp, hc⟩
 refine ⟨fun hm x => ?_, fun x => ?_⟩
 ·rw [key, h x]
  constructor
  ·rintro (h1 | h1)
   ·exact .inl h1
   ·exact .inr (.inl h1)
  ·rintro (h1 | h1 | rfl)
   ·exact .inl h1
   ·exact .inr h1
   ·exact (h x).1 hm
 ·rw [key, List.mem_append, List.mem_singleton, h x, or_assoc]
def zrw (A u : T) (l out : List Idv) : List Idv := if z2e u.id A = true /\ ¬ u.kind = 0 /\ u.id ∉ l then out ++ [u.id] else out
end Tr
set_option maxHeartbeats 16000000 in
theorem zl2 (A B u : T) (pc : List D) (hpc : pc.length = 8) (x s sm o ow p q : Nat) (na : (idsT A).Nodup) (hu : szB u = true) (hk0 : ∀ k ∈ u.kids, ¬ A.id = k.id) (hnk : (u.kids.map T.id).Nodup) (l out : List Idv) (hl : l.Nodup) (hout : out.length <= 1000000) (H : HM) (nx : Nat)
  (hx : x < nx) (hs : s < nx) (hsm : sm < nx) (ho : o < nx) (how : ow < nx) (hp : p < nx) (hHx : H x = some (.box 111 (cellsPr A B p q))) (hHs : H s = some (.box 50 [.mp sm])) (hHsm : H sm = some (.map (setI l)))
  (hHo : H o = some (.box 56 [.osl ow out.length])) (hHow : H ow = some (.row 23 out.length (out.flatMap cellsId))) (hHp : H p = some (.map (mapI encPl (plcs A)))) (hps : p ≠ sm) (hso : s ≠ o) (hxs : x ≠ s) :
  AC prog 98 [z1e u, .agg pc, .ptr x 0, .ptr s 0, .ptr o 0] H nx fun r' H' nx' => r' = .tup [] /\ nx' = nx /\ ∃ l' : List Idv, l'.Nodup /\ (∀ i, i ∈ l' ↔ i ∈ l \/ i ∈ z2h A u) /\ H' sm = some (.map (setI l')) /\
   H' o = some (.box 56 [.osl ow (zrw A u l' out).length]) /\ H' ow = some (.row 23 (zrw A u l' out).length ((zrw A u l' out).flatMap cellsId)) /\ ∀ id, id < nx -> id ≠ sm -> id ≠ o -> id ≠ ow -> H' id = H id := by
 have a1 : x ≠ sm := fun e => by subst e; rw [hHx] at hHsm; cases hHsm
 have a2 : s ≠ sm := fun e => by subst e; rw [hHs] at hHsm; cases hHsm
 have a3 : o ≠ sm := fun e => by subst e; rw [hHo] at hHsm; cases hHsm
 have a4 : ow ≠ sm := fun e => by subst e; rw [hHow] at hHsm; cases hHsm
 have a5 : ow ≠ o := fun e => by subst e; rw [hHow] at hHo; cases hHo
 have a6 : p ≠ o := fun e => by subst e; rw [hHp] at hHo; cases hHo
 have a7 : p ≠ ow := fun e => by subst e; rw [hHp] at hHow; cases hHow
 have a8 : x ≠ ow := fun e => by subst e; rw [hHx] at hHow; cases hHow
 have a9 : s ≠ ow := fun e => by subst e; rw [hHs] at hHow; cases hHow
 have d1 := z21 a1
 have d2 := z21 a2
 have d3 := z21 a3
 have d4 := z21 a4
 have d5 := z21 a5
 have d6 := z21 hps
 have d7 := z21 hso
 have d8 := z21 (Ne.symm a5)
 have d9 := z21 (Ne.symm a3)
 have d10 := z21 (Ne.symm a4)
 have d11 := z21 (Ne.symm hso)
 have e1 := z02 hx
 have e2 := z02 hs
 have e3 := z02 hsm
 have e4 := z02 ho
 have e5 := z02 how
 have e6 := z02 hp
 suffices h : AC prog 98 [z1e u, .agg pc, .ptr x 0, .ptr s 0, .ptr o 0] H nx fun r' H' _ => r' = .tup [] /\ ∃ l' : List Idv, l'.Nodup /\ (∀ i, i ∈ l' ↔ i ∈ l \/ i ∈ z2h A u) /\ H' sm = some (.map (setI l')) /\
   H' o = some (.box 56 [.osl ow (zrw A u l' out).length]) /\ H' ow = some (.row 23 (zrw A u l' out).length ((zrw A u l' out).flatMap cellsId)) /\ ∀ id, id < nx -> id ≠ sm -> id ≠ o -> id ≠ ow -> H' id = H id by
  refine (zaz h ?_).mono ?_
  ·rintro r H' nx' ⟨rfl, l', _, _, h3, h4, h5, h6⟩
   refine ⟨rfl, fun id q hid hq => ?_⟩
   by_cases c1 : id = sm
   ·subst c1; rw [h3] at hq; cases hq; exact .inr (zed (zcm _))
   by_cases c2 : id = o
   ·subst c2; rw [h4] at hq; cases hq; refine .inr ?_; simp [lowO, lowD.lowL, lowD, how]
   by_cases c3 : id = ow
   ·subst c3; rw [h5] at hq; cases hq; exact .inr (zed (z1f (fun _ => rfl) _))
   exact .inl (by rw [<- h6 id hid c1 c2 c3]; exact hq)
  ·rintro r H2 n2 ⟨rfl, H', nx', ⟨rfl, l', h1, h2, h3, h4, h5, h6⟩, rfl⟩
   have hc : ∀ {id}, id < n2 -> znm n2 H' id = H' id := fun h => if_pos h
   exact ⟨rfl, rfl, l', h1, h2, (hc hsm).trans h3, (hc ho).trans h4, (hc how).trans h5, fun id hid c1 c2 c3 => (hc hid).trans (h6 id hid c1 c2 c3)⟩
 refine z8n func98 rfl (by decide +kernel) (by simp [ntmps98]) ?_
 refine Sem.seq (Sem.walk (own := []) z53 (by decide +kernel) ?_)
 repeat' (first | ((refine zqr fun K hK => ?_); (simp (disch := omega) only [go_sem, Nat.reduceBEq])) | refine zqv ?_ | (refine hK _ ?_; clear hK K))
 obtain ⟨S, hS⟩ : ∃ S, S = z2h A u := ⟨_, rfl⟩
 refine Sem.seq (Sem.rangeL (own := []) 3 z53 rfl rfl rfl ⟨rfl, rfl, rfl⟩ ⟨rfl, rfl, rfl⟩ ⟨rfl, rfl, rfl⟩ ⟨rfl, rfl, rfl⟩ mapT50 (by decide +kernel) (by decide +kernel) (by decide +kernel) ?_)
 (simp (disch := omega) only [go_sem, Nat.reduceBEq, ↓reduceIte, Nat.reduceAdd, Nat.reduceLeDiff, e1, hHx, List.take_succ_cons, List.take_zero, List.map_cons, List.map_nil])
 refine zl0 (zyc A B u p q na hu hk0 hnk _ _ ?_ ?_) ?_
 ·(simp (disch := omega) only [go_sem])
 ·(simp (disch := omega) only [go_sem, e6, hHp])
 rw [<- hS]
 (simp (disch := omega) only [go_sem, Nat.reduceBEq])
 refine ⟨nx + 2, setI S, rfl, by (simp (disch := omega) only [go_sem, e1]), fun M J => ⟨fun ls st => st.H (nx + 2) = some M /\ st.H (nx + 3) = some (J ls) /\ st.t 13 = .it (nx + 3) /\ st.t 2 = .ptr x 0 /\ st.t 3 = .ptr s 0 /\ st.t 4 = .ptr o 0 /\ st.t 5 = .ptr nx 0 /\ st.H nx = some (.box 27 (z08 u)) /\ nx + 4 <= st.nx /\ (∀ id, id < nx -> id ≠ sm -> st.H id = H id) /\
  ∃ l' : List Idv, l'.Nodup /\ (∀ i, i ∈ l' ↔ i ∈ l \/ ∃ j ∈ ls, S[j]? = some i) /\ st.H sm = some (.map (setI l')), ?_, ?_, ?_, ?_⟩⟩
 ·rintro ls st ⟨g1, g2, g3, _⟩
  refine ⟨g1, ?_, ?_⟩
  ·(simp (disch := omega) only [go_sem])
   exact g2
  ·(simp (disch := omega) only [go_sem])
   exact g3
 ·unfold ztv
  (simp (disch := omega) only [go_sem, Nat.reduceBEq, Nat.reduceLeDiff, e1, e3, true_and])
  refine ⟨Nat.le_refl _, fun id hid hne => ?_, l, hl, fun i => ?_, hHsm⟩
  ·simp (disch := omega) only [z09]
  ·exact ⟨.inl, fun h => h.elim id fun ⟨j, hj, _⟩ => by cases hj⟩
 ·rintro ls st i k v ⟨g1, g2, g3, g4, g5, g6, g7, g8, g9, g10, l', h1, h2, h3⟩ hnd hlt hil hkv
  obtain ⟨c, hc, rfl, rfl⟩ : ∃ c, S[i]? = some c /\ k = z50 c /\ v = .bool true := by
   unfold setI at hkv
   rw [List.getElem?_map, Option.map_eq_some_iff] at hkv
   obtain ⟨c, hc, he⟩ := hkv
   simp only [Prod.mk.injEq] at he
   exact ⟨c, hc, he.1.symm, he.2.symm⟩
  have gs : st.H s = some (.box 50 [.mp sm]) := (g10 s hs a2).trans hHs
  have f0 := z02 (show nx < st.nx by omega)
  have f1 := z02 (show nx + 2 < st.nx by omega)
  have f2 := z02 (show nx + 3 < st.nx by omega)
  have f3 := z02 (show s < st.nx by omega)
  have f4 := z02 (show sm < st.nx by omega)
  have hfk := zbe c l'
  unfold ztw
  by_cases hm : c ∈ l'
  ·rw [if_pos hm] at hfk
   have hsv := zcq h1 hm
   (simp (disch := omega) only [go_sem, Nat.reduceBEq, ↓reduceIte, Nat.reduceAdd, Nat.reduceLeDiff])
   repeat' (first | ((refine zqr fun K hK => ?_); (simp (disch := omega) only [go_sem, Nat.reduceBEq, ↓reduceIte, Nat.reduceAdd, Nat.reduceLeDiff, e2, e3, f2, f3, f4, g5, gs, h3, hfk, hsv])) | (refine hK _ ?_; clear hK K))
   refine zh8 ?_
   (simp (disch := omega) only [go_sem, Nat.reduceBEq, Nat.reduceLeDiff, e1, e3, f0, f1, f2, f4, g1, g2, g3, g4, g5, g6, g7, g8, true_and])
   exact ⟨by omega, fun id hid hne => by simp (disch := omega) only [z09]; exact g10 id hid hne, l', h1, (zl1 h2 hc).1 hm, rfl⟩
  ·rw [if_neg hm] at hfk
   have hsn := z7b l' c
   (simp (disch := omega) only [go_sem, Nat.reduceBEq, ↓reduceIte, Nat.reduceAdd, Nat.reduceLeDiff])
   repeat' (first | ((refine zqr fun K hK => ?_); (simp (disch := omega) only [go_sem, Nat.reduceBEq, ↓reduceIte, Nat.reduceAdd, Nat.reduceLeDiff, e2, e3, f2, f3, f4, g5, gs, h3, hfk, hsn])) | (refine hK _ ?_; clear hK K))
   refine zh8 ?_
   (simp (disch := omega) only [go_sem, Nat.reduceBEq, Nat.reduceLeDiff, e1, e3, f0, f1, f2, f4, g1, g2, g3, g4, g5, g6, g7, g8, true_and])
   exact ⟨by omega, fun id hid hne => by simp (disch := omega) only [z09]; exact g10 id hid hne, l' ++ [c], z6d h1 hm, (zl1 h2 hc).2, rfl⟩
 ·rintro ls st ⟨g1, g2, g3, g4, g5, g6, g7, g8, g9, g10, l', h1, h2, h3⟩ hnd hlt hall
  unfold zmd
  refine zqv (Sem.walk (own := []) z53 (by decide +kernel) ?_)
  have gx : st.H x = some (.box 111 (cellsPr A B p q)) := (g10 x hx a1).trans hHx
  have gs : st.H s = some (.box 50 [.mp sm]) := (g10 s hs a2).trans hHs
  have go : st.H o = some (.box 56 [.osl ow out.length]) := (g10 o ho a3).trans hHo
  have gow : st.H ow = some (.row 23 out.length (out.flatMap cellsId)) := (g10 ow how a4).trans hHow
  have gp : st.H p = some (.map (mapI encPl (plcs A))) := (g10 p hp hps).trans hHp
  have f0 := z02 (show nx < st.nx by omega)
  have f1 := z02 (show nx + 2 < st.nx by omega)
  have f2 := z02 (show nx + 3 < st.nx by omega)
  have f3 := z02 (show s < st.nx by omega)
  have f4 := z02 (show sm < st.nx by omega)
  have f5 := z02 (show x < st.nx by omega)
  have f6 := z02 (show o < st.nx by omega)
  have f7 := z02 (show ow < st.nx by omega)
  have f8 := z02 (show p < st.nx by omega)
  have hmem : ∀ i, i ∈ l' ↔ i ∈ l \/ i ∈ S := fun i => by
   rw [h2 i]
   refine or_congr Iff.rfl ⟨fun ⟨j, _, h⟩ => List.mem_of_getElem? h, fun h => ?_⟩
   obtain ⟨j, hj, e⟩ := List.getElem_of_mem h
   exact ⟨j, hall j (by unfold setI; rw [List.length_map]; exact hj), by rw [List.getElem?_eq_getElem hj, e]⟩
  have hfk := zbe u.id l'
  rcases zir na u.id with ⟨hA, y, _, _, n, hf⟩ | ⟨hA, hf⟩
  ·by_cases O : u.kind = 0
   ·repeat' (first | ((refine zqh fun K hK => ?_); (simp (disch := omega) only [go_sem, Nat.reduceBEq, ↓reduceIte, reduceCtorEq, Nat.reduceAdd, Nat.reduceLeDiff, e1, e6, f0, f1, gx, gp, g4, g7, g8, hf, O])) | ((refine zqm _ rfl (fun hc => ?_) (fun hc => ?_)) <;> (first | (cases hc; done) | ((try simp only [] at hc); (try omega)))) | refine zqk ?_ | refine zqu (by simp only [go_sem]; rfl) rfl ?_ | (refine hK _ ?_; clear hK K))
    have he : zrw A u l' out = out := if_neg fun h => h.2.1 O
    refine ⟨rfl, l', h1, hmem, ?_⟩
    rw [he]
    (simp (disch := omega) only [go_sem, e3, e4, e5, f4, f6, f7, go, gow, h3, true_and])
    exact fun id hid c1 c2 c3 => by simp (disch := omega) only [z09]; exact g10 id hid c1
   ·by_cases hm : u.id ∈ l'
    ·rw [if_pos hm] at hfk
     repeat' (first | ((refine zqh fun K hK => ?_); (simp (disch := omega) only [go_sem, Nat.reduceBEq, ↓reduceIte, reduceCtorEq, Nat.reduceAdd, Nat.reduceLeDiff, e1, e2, e3, e6, f0, f1, f3, f4, gx, gs, gp, g4, g5, g7, g8, h3, hf, O, hfk])) | ((refine zqm _ rfl (fun hc => ?_) (fun hc => ?_)) <;> (first | (cases hc; done) | ((try simp only [] at hc); (try omega)))) | refine zqk ?_ | refine zqu (by simp only [go_sem]; rfl) rfl ?_ | (refine hK _ ?_; clear hK K))
     have he : zrw A u l' out = out := if_neg fun h => h.2.2 hm
     refine ⟨rfl, l', h1, hmem, ?_⟩
     rw [he]
     (simp (disch := omega) only [go_sem, e3, e4, e5, f4, f6, f7, go, gow, h3, true_and])
     exact fun id hid c1 c2 c3 => by simp (disch := omega) only [z09]; exact g10 id hid c1
    ·rw [if_neg hm] at hfk
     repeat' (first | ((first | refine zqh fun K hK => ?_ | refine zqr fun K hK => ?_); (simp (disch := omega) only [go_sem, Nat.reduceBEq, ↓reduceIte, reduceCtorEq, Nat.reduceAdd, Nat.reduceMul, Nat.reduceLeDiff, Nat.reduceLT, e1, e2, e3, e4, e5, e6, f0, f1, f3, f4, f6, f7, d8, gx, gs, go, gow, gp, g4, g5, g6, g7, g8, h3, hf, O, hfk])) | ((refine zqm _ rfl (fun hc => ?_) (fun hc => ?_)) <;> (first | (cases hc; done) | ((try simp only [] at hc); (try omega)))) | refine zqu (by simp only [go_sem]; rfl) rfl ?_ | (refine hK _ ?_; clear hK K))
     have he : zrw A u l' out = out ++ [u.id] := if_pos ⟨hA, O, hm⟩
     refine ⟨rfl, l', h1, hmem, ?_⟩
     rw [he]
     (simp (disch := omega) only [go_sem, e3, e4, e5, f4, f6, f7, d5, d8, d9, d10, go, gow, h3, true_and, List.length_append, List.length_cons, List.length_nil, List.flatMap_append, List.flatMap_cons, List.flatMap_nil, List.append_nil, cellsId])
     exact fun id hid c1 c2 c3 => by simp (disch := omega) only [z09]; exact g10 id hid c1
  ·repeat' (first | ((refine zqh fun K hK => ?_); (simp (disch := omega) only [go_sem, Nat.reduceBEq, ↓reduceIte, reduceCtorEq, Nat.reduceAdd, Nat.reduceLeDiff, e1, e6, f1, gx, gp, g4, g7, g8, hf])) | ((refine zqm _ rfl (fun hc => ?_) (fun hc => ?_)) <;> (first | (cases hc; done) | ((try simp only [] at hc); (try omega)))) | refine zqk ?_ | refine zqu (by simp only [go_sem]; rfl) rfl ?_ | (refine hK _ ?_; clear hK K))
   have he : zrw A u l' out = out := if_neg fun h => by have := h.1; rw [hA] at this; cases this
   refine ⟨rfl, l', h1, hmem, ?_⟩
   rw [he]
   (simp (disch := omega) only [go_sem, e3, e4, e5, f4, f6, f7, go, gow, h3, true_and])
   exact fun id hid c1 c2 c3 => by simp (disch := omega) only [z09]; exact g10 id hid c1
end
section
open Abs Facts Tr
attribute [local irreducible] awp
set_option maxRecDepth 100000
namespace Tr
def outL (A : T) (done : List (T × T)) : List Idv := (done.filter fun e => z2e e.2.id A && !decide (e.2.id ∈ z2h A e.1)).map fun e => e.2.id
theorem znu (A B : T) : outL A (edT B) = zk0 A B := rfl
theorem zt9 (A : T) (done : List (T × T)) : (outL A done).length <= done.length := by
 unfold outL; rw [List.length_map]; exact List.length_filter_le _ _
theorem zta (A : T) (done : List (T × T)) (e : T × T) : outL A (done ++ [e]) = if z2e e.2.id A = true /\ e.2.id ∉ z2h A e.1 then outL A done ++ [e.2.id] else outL A done := by
 unfold outL
 rw [List.filter_append, List.map_append]
 by_cases h1 : z2e e.2.id A = true <;> by_cases h2 : e.2.id ∈ z2h A e.1 <;> simp [h1, h2]
def inS (A B : T) (done : List (T × T)) (i : Idv) : Prop := i ∈ z2h A B \/ ∃ e ∈ done, i ∈ z2h A e.2
theorem mv_step {A B : T} (bk : z32 B = true) {u k : T} (hu : u ∈ nodesT B) (O : k ∈ u.kids) {l l' : List Idv} {done : List (T × T)} (V : ∀ e ∈ done, e.2 ∈ nodesT B) (hl : ∀ i, i ∈ l ↔ inS A B done i) (hl' : ∀ i, i ∈ l' ↔ i ∈ l \/ i ∈ z2h A k) (hin : u = B \/ ∃ e ∈ done, e.2 = u) :
  zrw A k l' (outL A done) = outL A (done ++ [(u, k)]) /\ ∀ i, i ∈ l' ↔ inS A B (done ++ [(u, k)]) i := by
 have nb := ((z1j B).1 bk).2.2
 have hkn : k ∈ nodesT B := z13 B u hu k (z0j O (z0a k))
 have hm : ∀ i, i ∈ l' ↔ inS A B (done ++ [(u, k)]) i := fun i => by
  rw [hl', hl]
  unfold inS
  constructor
  ·rintro ((h | ⟨e, he, h⟩) | h)
   ·exact .inl h
   ·exact .inr ⟨e, List.mem_append_left _ he, h⟩
   ·exact .inr ⟨(u, k), by simp, h⟩
  ·rintro (h | ⟨e, he, h⟩)
   ·exact .inl (.inl h)
   ·rcases List.mem_append.1 he with he | he
    ·exact .inl (.inr ⟨e, he, h⟩)
    ·rw [List.mem_singleton] at he; subst he; exact .inr h
 refine ⟨?_, hm⟩
 have hkind : ¬ k.kind = 0 := (z97 bk hu).2.2.2.2 k O
 have key : k.id ∈ l' ↔ k.id ∈ z2h A u := by
  rw [hm]
  constructor
  ·intro h
   have fin : ∀ q ∈ nodesT B, k.id ∈ z2h A q -> k.id ∈ z2h A u := fun q hq hs => by
    obtain ⟨k', hk', e, _⟩ := z8m hs
    obtain ⟨e2, _⟩ := ztt nb hq hk' hu O e
    exact e2 ▸ hs
   rcases h with h | ⟨e, he, h⟩
   ·exact fin B (z0a B) h
   ·rcases List.mem_append.1 he with he | he
    ·exact fin _ (V e he) h
    ·rw [List.mem_singleton] at he; subst he; exact fin k hkn h
  ·intro h
   rcases hin with rfl | ⟨e, he, rfl⟩
   ·exact .inl h
   ·exact .inr ⟨e, List.mem_append_left _ he, h⟩
 rw [zta]
 unfold zrw
 simp only [key, hkind, not_false_iff, true_and]
theorem ed_len (t : T) : (edT t).length + 1 = cntT t := by
 have h := congrArg List.length (ed_ids t)
 rw [List.length_cons, List.length_map] at h
 unfold idsT at h
 rw [List.length_map] at h
 exact h.symm
def edN (u : T) (i : Nat) : List (T × T) := (u.kids.take i).flatMap fun k => (u, k) :: edT k
theorem znv {u : T} {i : Nat} (h : i < u.kids.length) : edN u (i + 1) = edN u i ++ [(u, u.kids[i])] ++ edT u.kids[i] := by
 unfold edN
 rw [List.take_succ_eq_append_getElem h, List.flatMap_append]
 simp
theorem edN_all (u : T) : edN u u.kids.length = edT u := by rw [zh5, edN, List.take_length]
theorem edN_le {u : T} {i : Nat} (h : i < u.kids.length) : (edN u i).length + 1 + (edT u.kids[i]).length <= (edT u).length := by
 have h1 : edT u = edN u (i + 1) ++ (u.kids.drop (i + 1)).flatMap fun k => (u, k) :: edT k := by
  rw [zh5, edN, <- List.flatMap_append, List.take_append_drop]
 rw [h1, znv h]
 simp only [List.length_append, List.length_cons, List.length_nil]
 omega
end Tr
section
variable (A B : T) (x s sm o ow p q : Nat)
structure MvI (done : List (T × T)) (H : HM) : Prop where
 sub : ∀ e ∈ done, e.2 ∈ nodesT B
 set : ∃ l : List Idv, l.Nodup /\ (∀ i, i ∈ l ↔ inS A B done i) /\ H sm = some (.map (setI l))
 ho : H o = some (.box 56 [.osl ow (outL A done).length])
 how : H ow = some (.row 23 (outL A done).length ((outL A done).flatMap cellsId))
structure MvF (nx : Nat) (H : HM) : Prop where
 lx : x < nx
 ls : s < nx
 lsm : sm < nx
 lo : o < nx
 low : ow < nx
 lp : p < nx
 hx : H x = some (.box 111 (cellsPr A B p q))
 hs : H s = some (.box 50 [.mp sm])
 hp : H p = some (.map (mapI encPl (plcs A)))
 xsm : x ≠ sm
 xo : x ≠ o
 xow : x ≠ ow
 ssm : s ≠ sm
 so : s ≠ o
 sow : s ≠ ow
 psm : p ≠ sm
 po : p ≠ o
 pow : p ≠ ow
end
theorem MvF.later {A B : T} {x s sm o ow p q nx nx' : Nat} {H H' : HM} (h : MvF A B x s sm o ow p q nx H) (hn : nx <= nx') (O : ∀ id, id < nx -> id ≠ sm -> id ≠ o -> id ≠ ow -> H' id = H id) : MvF A B x s sm o ow p q nx' H' where
 lx := Nat.lt_of_lt_of_le h.lx hn
 ls := Nat.lt_of_lt_of_le h.ls hn
 lsm := Nat.lt_of_lt_of_le h.lsm hn
 lo := Nat.lt_of_lt_of_le h.lo hn
 low := Nat.lt_of_lt_of_le h.low hn
 lp := Nat.lt_of_lt_of_le h.lp hn
 hx := (O x h.lx h.xsm h.xo h.xow).trans h.hx
 hs := (O s h.ls h.ssm h.so h.sow).trans h.hs
 hp := (O p h.lp h.psm h.po h.pow).trans h.hp
 xsm := h.xsm
 xo := h.xo
 xow := h.xow
 ssm := h.ssm
 so := h.so
 sow := h.sow
 psm := h.psm
 po := h.po
 pow := h.pow
theorem MvI.later {A B : T} {sm o ow : Nat} {done : List (T × T)} {H H' : HM} (h : MvI A B sm o ow done H) (h1 : H' sm = H sm) (h2 : H' o = H o) (h3 : H' ow = H ow) : MvI A B sm o ow done H' where
 sub := h.sub
 set := by obtain ⟨l, a, b, c⟩ := h.set; exact ⟨l, a, b, h1.trans c⟩
 ho := h2.trans h.ho
 how := h3.trans h.how
theorem ac_meet {A B : T} (na : (idsT A).Nodup) (bk : z32 B = true) (hr : A.id = B.id) {u k : T} (hu : u ∈ nodesT B) (O : k ∈ u.kids) (hz : szB k = true) (x s sm o ow p q : Nat) (pc : List D) (hpc : pc.length = 8) (done : List (T × T)) (hdl : done.length <= 1000000) (hin : u = B \/ ∃ e ∈ done, e.2 = u) (H : HM) (nx : Nat)
  (hF : MvF A B x s sm o ow p q nx H) (hI : MvI A B sm o ow done H) :
  AC prog 98 [z1e k, .agg pc, .ptr x 0, .ptr s 0, .ptr o 0] H nx fun r' H' nx' => r' = .tup [] /\ nx' = nx /\ MvI A B sm o ow (done ++ [(u, k)]) H' /\ ∀ id, id < nx -> id ≠ sm -> id ≠ o -> id ≠ ow -> H' id = H id := by
 have nb := ((z1j B).1 bk).2.2
 have hkn : k ∈ nodesT B := z13 B u hu k (z0j O (z0a k))
 obtain ⟨l, h1, h2, h3⟩ := hI.set
 refine (zl2 A B k pc hpc x s sm o ow p q na hz (fun y hy => by rw [hr]; exact z9l nb hkn hy) (z41 nb hkn) l (outL A done) h1 (Nat.le_trans (zt9 _ _) hdl) H nx hF.lx hF.ls hF.lsm hF.lo hF.low hF.lp hF.hx hF.hs h3 hI.ho hI.how hF.hp hF.psm hF.so (fun e => by have h9 := hF.hx; rw [e, hF.hs] at h9; cases h9)).mono ?_
 rintro r' H' nx' ⟨g1, g2, l', g3, g4, g5, g6, g7, g8⟩
 obtain ⟨m1, m2⟩ := mv_step bk hu O hI.sub h2 g4 hin
 rw [m1] at g6 g7
 refine ⟨g1, g2, ⟨fun e he => ?_, ⟨l', g3, m2, g5⟩, g6, g7⟩, g8⟩
 rcases List.mem_append.1 he with he | he
 ·exact hI.sub e he
 ·rw [List.mem_singleton] at he; subst he; exact hkn
theorem ztb {A B : T} {sm o ow nx : Nat} {done : List (T × T)} {H H' : HM} (hI : MvI A B sm o ow done H') (how : ow < nx) (O : ∀ id, id < nx -> id ≠ sm -> id ≠ o -> id ≠ ow -> H' id = H id) : ∀ id q, id < nx -> H' id = some q -> H id = some q \/ lowO nx q = true := by
 intro id q hid hq
 obtain ⟨l, _, _, h3⟩ := hI.set
 by_cases c1 : id = sm
 ·subst c1; rw [h3] at hq; cases hq; exact .inr (zed (zcm _))
 by_cases c2 : id = o
 ·subst c2; rw [hI.ho] at hq; cases hq; refine .inr ?_; simp [lowO, lowD.lowL, lowD, how]
 by_cases c3 : id = ow
 ·subst c3; rw [hI.how] at hq; cases hq; exact .inr (zed (z1f (fun _ => rfl) _))
 exact .inl (by rw [<- O id hid c1 c2 c3]; exact hq)
set_option maxHeartbeats 16000000 in
theorem zy3 {A B : T} (na : (idsT A).Nodup) (bk : z32 B = true) (hr : A.id = B.id) (x s sm o ow p q : Nat) : ∀ u : T, u ∈ nodesT B -> szB u = true -> ∀ (done : List (T × T)), done.length + (edT u).length <= 1000000 -> (u = B \/ ∃ e ∈ done, e.2 = u) -> ∀ (H : HM) (nx : Nat), MvF A B x s sm o ow p q nx H -> MvI A B sm o ow done H ->
  AC prog 116 [z1e u, .fn 98 [.ptr x 0, .ptr s 0, .ptr o 0]] H nx fun r' H' nx' => r' = .tup [] /\ nx' = nx /\ MvI A B sm o ow (done ++ edT u) H' /\ ∀ id, id < nx -> id ≠ sm -> id ≠ o -> id ≠ ow -> H' id = H id := by
 refine z4l fun u ih hu hsz done hdl hin H nx hF hI => ?_
 obtain ⟨h0, h1, g1, h2, g2, h3, h4⟩ := (z33 u).1 hsz
 suffices h : AC prog 116 [z1e u, .fn 98 [.ptr x 0, .ptr s 0, .ptr o 0]] H nx fun r' H' _ => r' = .tup [] /\ MvI A B sm o ow (done ++ edT u) H' /\ ∀ id, id < nx -> id ≠ sm -> id ≠ o -> id ≠ ow -> H' id = H id by
  refine (zaz h fun r H' nx' ⟨hr, hi, O⟩ => ⟨by rw [hr]; rfl, ztb hi hF.low O⟩).mono ?_
  rintro r H2 n2 ⟨rfl, H', nx', ⟨hr, hi, O⟩, rfl⟩
  have hc : ∀ {id}, id < n2 -> znm n2 H' id = H' id := fun h => if_pos h
  exact ⟨hr, rfl, hi.later (hc hF.lsm) (hc hF.lo) (hc hF.low), fun id hid c1 c2 c3 => (hc hid).trans (O id hid c1 c2 c3)⟩
 refine (z23 [] func116 rfl (by decide +kernel) rfl ?_)
 show awp _ _ (Code.seq _ _) _ _
 repeat' (first | ((refine zqh fun K hK => ?_); (simp (disch := omega) only [go_sem, Nat.reduceBEq, ↓reduceIte, reduceCtorEq, Nat.reduceAdd])) | refine zqi ?_ | (refine hK _ ?_; clear hK K))
 (refine z45 (fun U st => ∃ (i : Nat), U = u.kids.length - i /\ st.t 2 = .ptr nx 0 /\ st.t 1 = .fn 98 [.ptr x 0, .ptr s 0, .ptr o 0] /\ st.t 7 = z0n u.kids /\ st.t 8 = .int .i64 u.kids.length /\ st.t 9 = .int .i64 i /\ st.H (nx) = some (.box 27 (z08 u)) /\ (i <= u.kids.length) /\ (nx < st.nx) /\ (MvI A B sm o ow (done ++ edN u i) st.H) /\ (∀ id, id < nx -> id ≠ sm -> id ≠ o -> id ≠ ow -> st.H id = H id)) ?_ ?_); rotate_left; (rintro U st ⟨i, rfl, v2, v1, v7, v8, v9, vHnx, vp0, vp1, vp2, vp3⟩); rotate_left
 ·(refine ⟨_, 0, rfl, ?_⟩); (simp (disch := omega) only [go_sem, Nat.reduceBEq, true_and, Int.natCast_zero, z0n])
  have hz : done ++ edN u 0 = done := by rw [show edN u 0 = [] from rfl, List.append_nil]
  rw [hz]
  exact ⟨Nat.lt_succ_self _, hI.later (z29 _ (by have := hF.lsm; omega)) (z29 _ (by have := hF.lo; omega)) (z29 _ (by have := hF.low; omega)), fun id hid c1 c2 c3 => by simp (disch := omega) only [z09]⟩
 have f0 := z02 (show nx < st.nx by omega)
 by_cases hi : i < u.kids.length
 ·have hki := List.getElem_mem hi
  have hn := znv hi
  have hle := edN_le hi
  have hF1 : MvF A B x s sm o ow p q st.nx st.H := hF.later (by omega) vp3
  have hin1 : u = B \/ ∃ e ∈ done ++ edN u i, e.2 = u := hin.imp id fun ⟨e, he, h⟩ => ⟨e, List.mem_append_left _ he, h⟩
  have hdl1 : (done ++ edN u i).length <= 1000000 := by rw [List.length_append]; omega
  repeat' (first | ((refine zqh fun K hK => ?_); (simp (disch := omega) only [go_sem, Nat.reduceBEq, ↓reduceIte, reduceCtorEq, Nat.reduceAdd, Nat.reduceLeDiff, v2, v1, v7, v8, v9, vHnx, f0, z0n])) | (refine zqd _ rfl ?_ ?_ <;> intro hc <;> (((try simp only [z06] at hc); (try omega)))) | refine zqa ?_ | refine zqb ?_ | (refine hK _ ?_; clear hK K))
  refine z3h ((ac_meet na bk hr hu hki (h4 _ hki) x s sm o ow p q (z08 u) (z2u u) (done ++ edN u i) hdl1 hin1 _ _ ?_ ?_).mono ?_)
  ·refine hF.later (by (simp (disch := omega) only [go_sem]); all_goals omega) fun id hid c1 c2 c3 => ?_
   refine Eq.trans ?_ (vp3 id hid c1 c2 c3)
   (simp (disch := omega) only [go_sem])
  ·refine vp2.later ?_ ?_ ?_
   ·have := hF.lsm; (simp (disch := omega) only [go_sem])
   ·have := hF.lo; (simp (disch := omega) only [go_sem])
   ·have := hF.low; (simp (disch := omega) only [go_sem])
  rintro r1 H1 n1 ⟨rfl, hn1, hI1, hk1⟩
  have hn1 : n1 = st.nx + 1 := by rw [hn1]; (simp (disch := omega) only [go_sem])
  subst hn1
  have hk1 : ∀ id, id < st.nx + 1 -> id ≠ sm -> id ≠ o -> id ≠ ow -> H1 id = (if id = st.nx then some (.box 27 (z08 u.kids[i])) else st.H id) := fun id hid c1 c2 c3 => by
   refine (hk1 id (by (simp (disch := omega) only [go_sem]); all_goals omega) c1 c2 c3).trans ?_
   (simp (disch := omega) only [go_sem])
   by_cases e : id = st.nx
   ·subst e; simp
   ·simp only [z21 e, cond_false, if_neg e]
  have lsm := hF.lsm
  have lo := hF.lo
  have low := hF.low
  have hb1 : H1 st.nx = some (.box 27 (z08 u.kids[i])) := (hk1 _ (by omega) (by omega) (by omega) (by omega)).trans (if_pos rfl)
  have hb2 : H1 nx = some (.box 27 (z08 u)) := (hk1 _ (by omega) (by omega) (by omega) (by omega)).trans ((if_neg (by omega)).trans vHnx)
  have hk2 : ∀ id, id < nx -> id ≠ sm -> id ≠ o -> id ≠ ow -> H1 id = H id := fun id hid c1 c2 c3 => (hk1 id (by omega) c1 c2 c3).trans ((if_neg (by omega)).trans (vp3 id hid c1 c2 c3))
  clear hk1
  repeat' (first | ((refine zqr fun K hK => ?_); (simp (disch := omega) only [go_sem, Nat.reduceBEq, ↓reduceIte, Nat.reduceAdd, Nat.reduceLeDiff, v1, hb1])) | (refine hK _ ?_; clear hK K))
  refine z3h ((ih _ hki (z13 B u hu _ (z0j hki (z0a _))) (h4 _ hki) (done ++ edN u i ++ [(u, u.kids[i])]) (by simp only [List.length_append, List.length_cons, List.length_nil]; omega) (.inr ⟨(u, u.kids[i]), by simp, rfl⟩) _ _ ?_ ?_).mono ?_)
  ·refine hF.later (by (simp (disch := omega) only [go_sem]); all_goals omega) fun id hid c1 c2 c3 => ?_
   (simp (disch := omega) only [go_sem])
   exact hk2 id hid c1 c2 c3
  ·(simp (disch := omega) only [go_sem])
   exact hI1
  rintro r2 H2 n2 ⟨rfl, hn2, hI2, hk3⟩
  have hn2 : n2 = st.nx + 1 := by rw [hn2]; (simp (disch := omega) only [go_sem])
  subst hn2
  have hk3 : ∀ id, id < st.nx + 1 -> id ≠ sm -> id ≠ o -> id ≠ ow -> H2 id = H1 id := fun id hid c1 c2 c3 => by
   refine (hk3 id (by (simp (disch := omega) only [go_sem]); all_goals omega) c1 c2 c3).trans ?_
   (simp (disch := omega) only [go_sem])
  have F : H2 nx = some (.box 27 (z08 u)) := (hk3 _ (by omega) (by omega) (by omega) (by omega)).trans hb2
  have hn' : done ++ edN u i ++ [(u, u.kids[i])] ++ edT u.kids[i] = done ++ edN u (i + 1) := by rw [hn]; simp only [List.append_assoc]
  rw [hn'] at hI2
  (try (simp (disch := omega) only [go_sem])); repeat' (first | refine zqv ?_ | refine zqy ?_ | (refine hK _ ?_; clear hK K))
  refine ⟨_, SealTo.refl _, ?_⟩
  repeat' (first | ((refine zqr fun K hK => ?_); (simp (disch := omega) only [go_sem, Nat.reduceBEq, ↓reduceIte, v9])) | (refine hK _ ?_; clear hK K))
  (refine Exists.intro _ (And.intro ?_ ⟨i + 1, rfl, ?_⟩)); rotate_left; (simp (disch := omega) only [go_sem, Nat.reduceBEq, v2, v1, v7, v8, v9, true_and, Int.natCast_add, Int.natCast_one]); rotate_left
  ·omega
  ·exact ⟨F, by omega, hI2, fun id hid c1 c2 c3 => (hk3 id (by omega) c1 c2 c3).trans (hk2 id hid c1 c2 c3)⟩
 ·repeat' (first | ((refine zqh fun K hK => ?_); (simp (disch := omega) only [go_sem, ↓reduceIte, v8, v9])) | (refine zqd _ rfl ?_ ?_ <;> intro hc <;> (((try simp only [z06] at hc); (try omega)))) | refine zqc ?_ | refine zqz ?_ | refine zqp ?_ | refine zqu (by simp only [go_sem]; rfl) rfl ?_ | (refine hK _ ?_; clear hK K))
  have hil : i = u.kids.length := by omega
  subst hil
  rw [edN_all] at vp2
  (simp (disch := omega) only [go_sem])
  exact ⟨vp2, vp3⟩
set_option maxHeartbeats 16000000 in
theorem ac_each {A B : T} (na : (idsT A).Nodup) (bk : z32 B = true) (hr : A.id = B.id) (fb : Fit50 B) (x s sm o ow p q : Nat) (H : HM) (nx : Nat) (hF : MvF A B x s sm o ow p q nx H) (hsm : H sm = some (.map (setI []))) (ho : H o = some (.box 56 [.osl ow 0])) (how : H ow = some (.row 23 0 [])) :
  AC prog 97 [z1e B, .fn 98 [.ptr x 0, .ptr s 0, .ptr o 0]] H nx fun r' H' nx' => r' = .tup [] /\ nx' = nx /\ MvI A B sm o ow (edT B) H' /\ ∀ id, id < nx -> id ≠ sm -> id ≠ o -> id ≠ ow -> H' id = H id := by
 obtain ⟨O, _, nb⟩ := (z1j B).1 bk
 suffices h : AC prog 97 [z1e B, .fn 98 [.ptr x 0, .ptr s 0, .ptr o 0]] H nx fun r' H' _ => r' = .tup [] /\ MvI A B sm o ow (edT B) H' /\ ∀ id, id < nx -> id ≠ sm -> id ≠ o -> id ≠ ow -> H' id = H id by
  refine (zaz h fun r H' nx' ⟨hr, hi, O⟩ => ⟨by rw [hr]; rfl, ztb hi hF.low O⟩).mono ?_
  rintro r H2 n2 ⟨rfl, H', nx', ⟨hr, hi, O⟩, rfl⟩
  have hc : ∀ {id}, id < n2 -> znm n2 H' id = H' id := fun h => if_pos h
  exact ⟨hr, rfl, hi.later (hc hF.lsm) (hc hF.lo) (hc hF.low), fun id hid c1 c2 c3 => (hc hid).trans (O id hid c1 c2 c3)⟩
 have lsm := hF.lsm
 have lo := hF.lo
 have low := hF.low
 have hH0 : ∀ id, id < nx -> z10 H nx (some (.box 27 (z08 B))) id = H id := fun id hid => z29 _ (by omega)
 have hF1 : MvF A B x s sm o ow p q (nx + 1) (z10 H nx (some (.box 27 (z08 B)))) := hF.later (by omega) fun id hid _ _ _ => hH0 id hid
 refine (z23 [] func97 rfl (by decide +kernel) rfl ?_)
 show awp _ _ (Code.seq _ _) _ _
 repeat' (first | ((refine zqh fun K hK => ?_); (simp (disch := omega) only [go_sem, Nat.reduceBEq, ↓reduceIte, Nat.reduceAdd, Nat.reduceLeDiff])) | (refine hK _ ?_; clear hK K))
 refine z3h ((zl2 A B B _ ?_ x s sm o ow p q na fb.sz (fun y hy => by rw [hr]; exact z9l nb (z0a B) hy) (z41 nb (z0a B)) [] [] List.nodup_nil (Nat.zero_le _) _ _ ?_ ?_ ?_ ?_ ?_ ?_ ?_ ?_ ?_ ?_ ?_ ?_ hF.psm hF.so (fun e => by have h9 := hF.hx; rw [e, hF.hs] at h9; cases h9)).mono ?_)
 ·rfl
 ·exact hF1.lx
 ·exact hF1.ls
 ·exact hF1.lsm
 ·exact hF1.lo
 ·exact hF1.low
 ·exact hF1.lp
 ·exact hF1.hx
 ·exact hF1.hs
 ·exact (hH0 sm lsm).trans hsm
 ·exact (hH0 o lo).trans ho
 ·exact (hH0 ow low).trans how
 ·exact hF1.hp
 rintro r1 H1 n1 ⟨rfl, hn1, l', g1, g2, g3, g4, g5, hk1⟩
 have hn1 : n1 = nx + 1 := hn1
 subst hn1
 have hk1 : ∀ id, id < nx + 1 -> id ≠ sm -> id ≠ o -> id ≠ ow -> H1 id = z10 H nx (some (.box 27 (z08 B))) id := hk1
 have ho0 : zrw A B l' [] = [] := if_neg fun h => h.2.1 O
 rw [ho0] at g4 g5
 have hI1 : MvI A B sm o ow [] H1 := ⟨fun e he => (by cases he), ⟨l', g1, fun i => (g2 i).trans ⟨fun h => h.elim (fun h => by cases h) .inl, fun h => h.elim .inr fun ⟨e, he, _⟩ => by cases he⟩, g3⟩, g4, g5⟩
 have hb : H1 nx = some (.box 27 (z08 B)) := (hk1 nx (by omega) (by omega) (by omega) (by omega)).trans (if_pos rfl)
 repeat' (first | ((refine zqr fun K hK => ?_); (simp (disch := omega) only [go_sem, Nat.reduceBEq, ↓reduceIte, Nat.reduceAdd, Nat.reduceLeDiff, hb])) | (refine hK _ ?_; clear hK K))
 refine z3h ((zy3 na bk hr x s sm o ow p q B (z0a B) fb.sz [] (by have h1 := ed_len B; have h2 := fb.cnt; rw [List.length_nil]; omega) (.inl rfl) _ _ ?_ ?_).mono ?_)
 ·exact hF1.later (Nat.le_refl _) fun id hid c1 c2 c3 => hk1 id hid c1 c2 c3
 ·exact hI1
 rintro r2 H2 n2 ⟨rfl, _, hI2, hk2⟩
 have hk2 : ∀ id, id < nx + 1 -> id ≠ sm -> id ≠ o -> id ≠ ow -> H2 id = H1 id := hk2
 (try (simp (disch := omega) only [go_sem])); repeat' (first | refine zqu (by simp only [go_sem]; rfl) rfl ?_ | (refine hK _ ?_; clear hK K))
 exact ⟨rfl, hI2, fun id hid c1 c2 c3 => (hk2 id (by omega) c1 c2 c3).trans ((hk1 id (by omega) c1 c2 c3).trans (hH0 id hid))⟩
set_option maxHeartbeats 16000000 in
theorem ztc {A B : T} (fa : Fit50 A) (fb : Fit50 B) (ba : z32 A = true) (bk : z32 B = true) (p q : Nat) (H : HM) (nx : Nat) (hp : p < nx) (hHp : H p = some (.map (mapI encPl (plcs A)))) :
  AC prog 76 [.agg (cellsPr A B p q)] H nx fun r' H' nx' => r' = renD (fun j => nx + j) (.osl 0 (zk0 A B).length) /\ H' = zjq H nx [.row 23 (zk0 A B).length ((zk0 A B).flatMap cellsId)] /\ nx' = nx + 1 := by
 have na := ((z1j A).1 ba).2.2
 have nb := ((z1j B).1 bk).2.2
 have hr : A.id = B.id := (z9u ba).trans (z9u bk).symm
 have e1 := z02 hp
 have e2 := z5n hp
 refine zwv rfl (fun o ho => by rw [List.mem_singleton] at ho; subst ho; exact z1f (fun _ => rfl) _) (z23 [] func76 rfl (by decide +kernel) rfl ?_)
 show awp _ _ (Code.seq _ _) _ _
 repeat' (first | ((refine z1a (N := 1) rfl fun K hK => ?_); (simp (disch := omega) only [go_sem, ↓reduceIte])) | (refine hK _ ?_; clear hK K))
 refine z3b fun K hK => ?_
 (simp (disch := omega) only [go_sem])
 refine hK _ _ (zln (b := nx + 1) (e := 56) 23 (by (simp (disch := omega) only [go_sem, e1]))) ?_
 clear hK K
 repeat' (first | ((refine zqh fun K hK => ?_); (simp (disch := omega) only [go_sem, Nat.reduceBEq, ↓reduceIte, reduceCtorEq, Nat.reduceAdd, Nat.reduceLeDiff, Nat.reduceLT, e1, e2])) | (refine hK _ ?_; clear hK K))
 refine z3h ((ac_each na bk hr fb nx (nx + 4) (nx + 3) (nx + 1) (nx + 2) p q _ _ ?_ ?_ ?_ ?_).mono ?_)
 ·refine ⟨?_, ?_, ?_, ?_, ?_, ?_, ?_, ?_, ?_, by omega, by omega, by omega, by omega, by omega, by omega, by omega, by omega, by omega⟩
  all_goals first | omega | ((simp (disch := omega) only [go_sem, e1, e2, hHp]); all_goals omega)
 ·(simp (disch := omega) only [go_sem, e1, e2])
  all_goals rfl
 ·(simp (disch := omega) only [go_sem, e1, e2])
 ·(simp (disch := omega) only [go_sem, e1, e2])
 rintro r1 H1 n1 ⟨rfl, hn1, hI, O⟩
 have hn1 : n1 = nx + 5 := hn1
 subst hn1
 have O : ∀ id, id < nx -> H1 id = H id := fun id hid => (O id (by show id < nx + 5; omega) (by omega) (by omega) (by omega)).trans (by
  (simp (disch := omega) only [go_sem])
  simp (disch := omega) only [z09])
 have hb1 := hI.ho
 have hb2 := hI.how
 rw [znu] at hb1 hb2
 repeat' (first | ((refine zqh fun K hK => ?_); (simp (disch := omega) only [go_sem, Nat.reduceBEq, ↓reduceIte, Nat.reduceAdd, hb1])) | refine zqn ?_ | refine zqu (by simp only [go_sem]; rfl) rfl ?_ | (refine hK _ ?_; clear hK K))
 refine ⟨fun id hid => O id hid, fun _ => nx + 2, fun i j hi hj _ => ?_, fun _ _ => ?_, ?_, fun j hj => ?_⟩
 ·simp only [List.length_cons, List.length_nil] at hi hj; omega
 ·show nx <= nx + 2; omega
 ·rfl
 ·simp only [List.length_cons, List.length_nil] at hj
  obtain rfl : j = 0 := by omega
  exact hb2
set_option maxHeartbeats 16000000 in
theorem ztd (A B : T) (fa : Fit50 A) (fb : Fit50 B) : PC prog 46 [z1e A, z1e B] (z2d (if z8k A B = true then zk0 A B else [])) := by
 have c1 := z001 A B fa fb
 refine z2i 3 (by simp only [pureD.pureL, z0b, Bool.and_self]) (zam _) (z23 [] func46 rfl (by decide +kernel) rfl ?_)
 show awp _ _ (Code.seq _ _) _ _
 cases hc : z8k A B
 ·have e1 : z8y A B = [] := by unfold z8y; rw [hc]; rfl
  have e2 : zau A B = .tup [.agg zeroPr, .bool false] := by unfold zau; rw [hc]; rfl
  rw [e1, e2] at c1
  repeat' (first | refine zqj ?_ | ((first | refine zqh fun K hK => ?_ | refine zes (c1) ?_); (simp (disch := omega) only [go_sem, Nat.reduceBEq, ↓reduceIte, Nat.reduceAdd, Nat.reduceLeDiff])) | (refine zqd _ rfl ?_ ?_ <;> intro hc <;> (first | (cases hc; done) | ((try simp only [] at hc); (try omega)))) | refine zqg ?_ | refine zqu (by simp only [go_sem]; rfl) rfl ?_ | (refine hK _ ?_; clear hK K))
  rw [if_neg (by decide)]
  exact z1p rfl (Le.nil 3)
 ·have e1 : z8y A B = [.map (mapI encPl (plcs A)), .map (mapI encPl (plcs B))] := by unfold z8y; rw [hc]; rfl
  have e2 : zau A B = .tup [.agg (cellsPr A B 0 1), .bool true] := by unfold zau; rw [hc]; rfl
  rw [e1, e2] at c1
  obtain ⟨ba, bb, _⟩ := (zjg A B).1 hc
  have hren : renD.renL (fun j => 2 + j) (cellsPr A B 0 1) = cellsPr A B 2 3 := by rw [z2f, z2f]; rfl
  repeat' (first | refine zqj ?_ | ((first | refine zqh fun K hK => ?_ | refine zes (c1) ?_); (simp (disch := omega) only [go_sem, Nat.reduceBEq, ↓reduceIte, Nat.reduceAdd, Nat.reduceLeDiff, hren])) | (refine zqd _ rfl ?_ ?_ <;> intro hc <;> (first | (cases hc; done) | ((try simp only [] at hc); (try omega)))) | refine zqb ?_ | (refine hK _ ?_; clear hK K))
  refine zl0 (ztc fa fb ba bb 2 3 _ _ ?_ ?_) ?_
  ·show 2 < 5; decide
  ·(simp (disch := omega) only [go_sem, Nat.reduceBEq])
  (try (simp (disch := omega) only [go_sem, Nat.reduceBEq, Nat.reduceAdd])); repeat' (first | refine zqn ?_ | refine zqu (by simp only [go_sem]; rfl) rfl ?_ | (refine hK _ ?_; clear hK K))
  rw [if_pos rfl]
  refine z6f (nx := 0) ?_
  refine z1b (f := cellsId) (l := zk0 A B) 1 ?_ zbu zfg (fun _ => rfl) (fun _ => rfl)
  (simp (disch := omega) only [go_sem, Nat.reduceBEq])
end
section
open Abs Facts Tr
attribute [local irreducible] awp
set_option maxRecDepth 100000
namespace Tr
theorem zvf {A B : T} (nb : (idsT B).Nodup) : (zk0 A B).Nodup := by
 rw [ed_ids, List.nodup_cons] at nb
 exact ((List.filter_sublist (l := edT B)).map _).nodup nb.2
theorem zn0 (t : T) : ((nodesT t).map unP).map (·.1) = idsT t := by rw [List.map_map]; rfl
theorem zhm {A B : T} {ls : List Nat} {i : Nat} {x : T} (h : ∀ j ∈ ls, ∀ y, (nodesT A)[j]? = some y -> (!z2e y.id B || decide ((findR y.id B).1.kind = y.kind)) = true) (hx : (nodesT A)[i]? = some x) (O : (!z2e x.id B || decide ((findR x.id B).1.kind = x.kind)) = true) :
  ∀ j ∈ ls ++ [i], ∀ y, (nodesT A)[j]? = some y -> (!z2e y.id B || decide ((findR y.id B).1.kind = y.kind)) = true := by
 intro j hj y hy
 rcases List.mem_append.1 hj with hj | hj
 ·exact h j hj y hy
 ·rw [List.mem_singleton] at hj
  subst hj
  rw [hx, Option.some.injEq] at hy
  rw [<- hy]; exact O
end Tr
def HeldK (A B : T) (H : HM) (r' : D) (H' : HM) (nx' : Nat) : Prop := (∀ id, id < 3 -> H' id = H id) /\ r' = .tup [.agg [.mp 6, .mp 7, .mp 8], .bool (z8k A B)] /\ 9 <= nx' /\ (z8k A B = true -> H' 6 = some (zcy A) /\ H' 7 = some (zcy B) /\ H' 8 = some (.map (setI (zk0 A B))))
theorem z89 {A B : T} {H H' : HM} {nx' : Nat} (h : z8k A B = false) (O : ∀ id, id < 3 -> H' id = H id) (hn : 9 <= nx') : HeldK A B H (.tup [.agg [.mp 6, .mp 7, .mp 8], .bool false]) H' nx' := ⟨O, by rw [h], hn, fun h2 => by rw [h] at h2; cases h2⟩
set_option maxHeartbeats 32000000 in
theorem zzw (A B : T) (fa : Fit50 A) (fb : Fit50 B) (H : HM) : AC prog 22 [z1e A, z1e B] H 3 (HeldK A B H) := by
 have cca := fa.cnt
 have ccb := fb.cnt
 have cda := fa.dep
 have cdb := fb.dep
 have c1 := zi6 A fa.sz (by omega) (by omega)
 have c2 := zi6 B fb.sz (by omega) (by omega)
 have c3 := zee A (zgo A fa.sz) (by omega)
 have c4 := zee B (zgo B fb.sz) (by omega)
 have c5 := zo1 6 A fa.sz []
 have c6 := zo1 7 B fb.sz []
 have c7 := ztd A B fa fb
 rw [List.nil_append] at c5 c6
 have hla : (mapI z1e ((nodesT A).map unP)).length = (z1g (idsT A)).length := by rw [zem, zn0]
 have hlb : (mapI z1e ((nodesT B).map unP)).length = (z1g (idsT B)).length := by rw [zem, zn0]
 have lea : (z1g (idsT A)).length <= cntT A := by have := (z3d (idsT A)).2.2.1; unfold idsT at this ⊢; unfold cntT; rwa [List.length_map] at this
 have leb : (z1g (idsT B)).length <= cntT B := by have := (z3d (idsT B)).2.2.1; unfold idsT at this ⊢; unfold cntT; rwa [List.length_map] at this
 have hma : (.map [] : HObj) = .map (mapI z1e []) := rfl
 have bad : ∀ {b : Bool}, b = false -> ¬ (b = true) := fun h => by rw [h]; decide
 have noA : z32 A = false -> z8k A B = false := fun h => by unfold z8k; rw [h]; rfl
 have noB : z32 B = false -> z8k A B = false := fun h => by unfold z8k; rw [h]; simp
 refine z8n func22 rfl (by decide +kernel) (by simp [ntmps22]) ?_
 rw [show Tryz.f22.results.toList = [.cell 4 52, .tmp 5] from rfl]
 refine Sem.seq (Sem.walk (own := []) z53 (by decide +kernel) ?_)
 repeat' (first | ((refine zqr fun K hK => ?_); (simp (disch := omega) only [go_sem, Nat.reduceBEq, Nat.reduceAdd])) | refine zqv ?_ | (refine hK _ ?_; clear hK K))
 refine Sem.seq (Sem.walk (own := []) z53 (by decide +kernel) ?_)
 repeat' (first | ((refine zqr fun K hK => ?_); (simp (disch := omega) only [go_sem, Nat.reduceBEq, ↓reduceIte, Nat.reduceAdd, Nat.reduceLeDiff])) | refine zqv ?_ | (refine hK _ ?_; clear hK K))
 refine Sem.seq (Sem.walk (own := []) z53 (by decide +kernel) ?_)
 by_cases ka : A.kind = 0
 rotate_left
 ·repeat' (first | ((refine zqh fun K hK => ?_); (simp (disch := omega) only [go_sem, Nat.reduceBEq, ↓reduceIte, reduceCtorEq, Nat.reduceAdd, Nat.reduceLeDiff, ka])) | ((refine zqm _ rfl (fun hc => ?_) (fun hc => ?_)) <;> (first | (cases hc; done) | ((try simp only [] at hc); (try omega)))) | refine zqn ?_ | refine zqx ?_ | refine zqu (by (simp (disch := omega) only [go_sem, Nat.reduceBEq, ↓reduceIte, Nat.reduceAdd, Nat.reduceLeDiff]); rfl) rfl ?_ | (refine hK _ ?_; clear hK K))
  refine z89 (noA (by rw [zbb]; simp [ka])) (fun id hid => ?_) (by show 9 <= 10; decide)
  (simp (disch := omega) only [go_sem])
  simp (disch := omega) only [z09]
 by_cases kb : B.kind = 0
 rotate_left
 ·repeat' (first | ((refine zqh fun K hK => ?_); (simp (disch := omega) only [go_sem, Nat.reduceBEq, ↓reduceIte, reduceCtorEq, Nat.reduceAdd, Nat.reduceLeDiff, ka, kb])) | ((refine zqm _ rfl (fun hc => ?_) (fun hc => ?_)) <;> (first | (cases hc; done) | ((try simp only [] at hc); (try omega)))) | refine zqn ?_ | refine zqx ?_ | refine zqu (by (simp (disch := omega) only [go_sem, Nat.reduceBEq, ↓reduceIte, Nat.reduceAdd, Nat.reduceLeDiff]); rfl) rfl ?_ | (refine hK _ ?_; clear hK K))
  refine z89 (noB (by rw [zbb]; simp [kb])) (fun id hid => ?_) (by show 9 <= 10; decide)
  (simp (disch := omega) only [go_sem])
  simp (disch := omega) only [z09]
 cases va : z55 A
 ·rw [va] at c1
  repeat' (first | ((first | refine zqh fun K hK => ?_ | refine zqs (c1) ?_); (simp (disch := omega) only [go_sem, Nat.reduceBEq, ↓reduceIte, reduceCtorEq, Nat.reduceAdd, Nat.reduceLeDiff, ka, kb])) | ((refine zqm _ rfl (fun hc => ?_) (fun hc => ?_)) <;> (first | (cases hc; done) | ((try simp only [] at hc); (try omega)))) | refine zqn ?_ | refine zqx ?_ | refine zqu (by (simp (disch := omega) only [go_sem, Nat.reduceBEq, ↓reduceIte, Nat.reduceAdd, Nat.reduceLeDiff]); rfl) rfl ?_ | (refine hK _ ?_; clear hK K))
  refine z89 (noA (by rw [zbb]; simp [va])) (fun id hid => ?_) (by show 9 <= 10; decide)
  (simp (disch := omega) only [go_sem])
  simp (disch := omega) only [z09]
 rw [va] at c1
 cases vb : z55 B
 ·rw [vb] at c2
  repeat' (first | ((first | refine zqh fun K hK => ?_ | refine zqs (c1) ?_ | refine zqs (c2) ?_); (simp (disch := omega) only [go_sem, Nat.reduceBEq, ↓reduceIte, reduceCtorEq, Nat.reduceAdd, Nat.reduceLeDiff, ka, kb])) | ((refine zqm _ rfl (fun hc => ?_) (fun hc => ?_)) <;> (first | (cases hc; done) | ((try simp only [] at hc); (try omega)))) | refine zqn ?_ | refine zqx ?_ | refine zqu (by (simp (disch := omega) only [go_sem, Nat.reduceBEq, ↓reduceIte, Nat.reduceAdd, Nat.reduceLeDiff]); rfl) rfl ?_ | (refine hK _ ?_; clear hK K))
  refine z89 (noB (by rw [zbb]; simp [vb])) (fun id hid => ?_) (by show 9 <= 10; decide)
  (simp (disch := omega) only [go_sem])
  simp (disch := omega) only [z09]
 rw [vb] at c2
 repeat' (first | ((first | refine zqh fun K hK => ?_ | refine zqs (c1) ?_ | refine zqs (c2) ?_); (simp (disch := omega) only [go_sem, Nat.reduceBEq, ↓reduceIte, reduceCtorEq, Nat.reduceAdd, Nat.reduceLeDiff, ka, kb])) | ((refine zqm _ rfl (fun hc => ?_) (fun hc => ?_)) <;> (first | (cases hc; done) | ((try simp only [] at hc); (try omega)))) | refine zqk ?_ | refine zqv ?_ | (refine hK _ ?_; clear hK K))
 refine Sem.seq (Sem.walk (own := []) z53 (by decide +kernel) ?_)
 repeat' (first | ((first | refine zqr fun K hK => ?_ | ((refine z8e (c5) ?_ ?_ ?_); (focus ((simp (disch := omega) only [go_sem, Nat.reduceBEq]); done)); (focus (((simp (disch := omega) only [go_sem]); done))))); (simp (disch := omega) only [go_sem, Nat.reduceBEq, ↓reduceIte, reduceCtorEq, Nat.reduceAdd, Nat.reduceLeDiff, hma])) | refine zqv ?_ | (refine hK _ ?_; clear hK K))
 refine Sem.seq (Sem.walk (own := []) z53 (by decide +kernel) ?_)
 repeat' (first | ((first | refine zqr fun K hK => ?_ | ((refine z8e (c6) ?_ ?_ ?_); (focus ((simp (disch := omega) only [go_sem, Nat.reduceBEq]); done)); (focus (((simp (disch := omega) only [go_sem]); done))))); (simp (disch := omega) only [go_sem, Nat.reduceBEq, ↓reduceIte, reduceCtorEq, Nat.reduceAdd, Nat.reduceLeDiff])) | refine zqv ?_ | (refine hK _ ?_; clear hK K))
 refine Sem.seq (Sem.walk (own := []) z53 (by decide +kernel) ?_)
 have ba : z32 A = true ↔ (idsT A).Nodup := by rw [z1j]; exact ⟨fun h => h.2.2, fun h => ⟨ka, va, h⟩⟩
 have bb : z32 B = true ↔ (idsT B).Nodup := by rw [z1j]; exact ⟨fun h => h.2.2, fun h => ⟨kb, vb, h⟩⟩
 by_cases na : (idsT A).Nodup
 rotate_left
 ·have h1 : ¬ ((((z1g (idsT A)).length : Nat) : Int) = (cntT A : Int)) := fun h => na ((zba A).1 h)
  repeat' (first | ((first | refine zqh fun K hK => ?_ | refine zqs (c3) ?_); (simp (disch := omega) only [go_sem, Nat.reduceBEq, ↓reduceIte, reduceCtorEq, Nat.reduceAdd, Nat.reduceLeDiff, hla, h1])) | ((refine zqm _ rfl (fun hc => ?_) (fun hc => ?_)) <;> (first | (cases hc; done) | ((try simp only [] at hc); (try omega)))) | refine zqn ?_ | refine zqx ?_ | refine zqu (by (simp (disch := omega) only [go_sem, Nat.reduceBEq, ↓reduceIte, Nat.reduceAdd, Nat.reduceLeDiff]); rfl) rfl ?_ | (refine hK _ ?_; clear hK K))
  refine z89 (noA (by cases h : z32 A with | false => rfl | true => exact absurd (ba.1 h) na)) (fun id hid => ?_) (by show 9 <= 10; decide)
  (simp (disch := omega) only [go_sem])
  simp (disch := omega) only [z09]
 have ea : (((z1g (idsT A)).length : Nat) : Int) = (cntT A : Int) := (zba A).2 na
 by_cases nb : (idsT B).Nodup
 rotate_left
 ·have h1 : ¬ ((((z1g (idsT B)).length : Nat) : Int) = (cntT B : Int)) := fun h => nb ((zba B).1 h)
  repeat' (first | ((first | refine zqh fun K hK => ?_ | refine zqs (c3) ?_ | refine zqs (c4) ?_); (simp (disch := omega) only [go_sem, Nat.reduceBEq, ↓reduceIte, reduceCtorEq, Nat.reduceAdd, Nat.reduceLeDiff, hla, hlb, ea, h1])) | ((refine zqm _ rfl (fun hc => ?_) (fun hc => ?_)) <;> (first | (cases hc; done) | ((try simp only [] at hc); (try omega)))) | refine zqn ?_ | refine zqx ?_ | refine zqu (by (simp (disch := omega) only [go_sem, Nat.reduceBEq, ↓reduceIte, Nat.reduceAdd, Nat.reduceLeDiff]); rfl) rfl ?_ | (refine hK _ ?_; clear hK K))
  refine z89 (noB (by cases h : z32 B with | false => rfl | true => exact absurd (bb.1 h) nb)) (fun id hid => ?_) (by show 9 <= 10; decide)
  (simp (disch := omega) only [go_sem])
  simp (disch := omega) only [z09]
 have eb : (((z1g (idsT B)).length : Nat) : Int) = (cntT B : Int) := (zba B).2 nb
 repeat' (first | ((first | refine zqh fun K hK => ?_ | refine zqs (c3) ?_ | refine zqs (c4) ?_); (simp (disch := omega) only [go_sem, Nat.reduceBEq, ↓reduceIte, reduceCtorEq, Nat.reduceAdd, Nat.reduceLeDiff, hla, hlb, ea, eb])) | ((refine zqm _ rfl (fun hc => ?_) (fun hc => ?_)) <;> (first | (cases hc; done) | ((try simp only [] at hc); (try omega)))) | refine zqk ?_ | refine zqv ?_ | (refine hK _ ?_; clear hK K))
 clear c1 c2 c3 c4 c5 c6
 have hcm : z8k A B = z3c A B := by unfold z8k; rw [ba.2 na, bb.2 nb]; rfl
 have nk : (((nodesT A).map unP).map (·.1)).Nodup := by rw [zn0]; exact na
 refine Sem.seq (Sem.rangeL (own := []) 2 z53 rfl rfl rfl ⟨rfl, rfl, rfl⟩ ⟨rfl, rfl, rfl⟩ ⟨rfl, rfl, rfl⟩ ⟨rfl, rfl, rfl⟩ mapT49 (by decide +kernel) (by decide +kernel) (by decide +kernel) ?_)
 (simp (disch := omega) only [go_sem, Nat.reduceBEq, ↓reduceIte, reduceCtorEq, Nat.reduceAdd, List.take_succ_cons, List.take_zero, List.map_cons, List.map_nil])
 refine ⟨6, mapI z1e ((nodesT A).map unP), rfl, by (simp (disch := omega) only [go_sem, Nat.reduceBEq]), fun M J => ⟨fun ls st => st.H 6 = some M /\ st.H 10 = some (J ls) /\ st.t 61 = .it 10 /\ st.t 2 = .ptr 3 0 /\ st.t 3 = .ptr 4 0 /\ st.t 4 = .ptr 5 0 /\ st.t 6 = .ptr 9 0 /\ st.H 3 = some (.box 27 (z08 A)) /\ st.H 4 = some (.box 27 (z08 B)) /\ st.H 5 = some (.box 52 [.nmp, .nmp, .nmp]) /\ st.H 9 = some (.box 52 [.mp 6, .mp 7, .mp 8]) /\ st.H 7 = some (.map (mapI z1e ((nodesT B).map unP))) /\ st.H 8 = some (.map []) /\
  11 <= st.nx /\ (∀ id, id < 3 -> st.H id = H id) /\ ∀ j ∈ ls, ∀ y, (nodesT A)[j]? = some y -> (!z2e y.id B || decide ((findR y.id B).1.kind = y.kind)) = true, ?_, ?_, ?_, ?_⟩⟩
 ·rintro ls st ⟨g1, g2, g3, _⟩
  refine ⟨g1, ?_, ?_⟩
  ·(simp (disch := omega) only [go_sem])
   exact g2
  ·(simp (disch := omega) only [go_sem])
   exact g3
 ·unfold ztv
  (simp (disch := omega) only [go_sem, Nat.reduceBEq, Nat.reduceAdd, Nat.reduceLeDiff, true_and])
  refine ⟨rfl, fun id hid => ?_, fun j hj => by cases hj⟩
  simp (disch := omega) only [z09]
 ·rintro ls st i k v ⟨g1, g2, g3, g4, g5, g6, g7, g8, g9, g10, g11, g12, g13, g14, g15, g16⟩ hnd hlt hil hkv
  obtain ⟨e, he, rfl, rfl⟩ := zue nk hkv
  rw [List.getElem?_map, Option.map_eq_some_iff] at he
  obtain ⟨y, hy, rfl⟩ := he
  have s3 := z02 (show 3 < st.nx by omega)
  have s4 := z02 (show 4 < st.nx by omega)
  have s5 := z02 (show 5 < st.nx by omega)
  have s6 := z02 (show 6 < st.nx by omega)
  have s7 := z02 (show 7 < st.nx by omega)
  have s8 := z02 (show 8 < st.nx by omega)
  have s9 := z02 (show 9 < st.nx by omega)
  have s10 := z02 (show 10 < st.nx by omega)
  unfold ztw
  rw [show (unP y).1 = y.id from rfl, show (unP y).2 = y from rfl]
  rcases zbi nb y.id with ⟨hB, _, n, hf⟩ | ⟨hB, _, hf⟩
  ·by_cases O : (findR y.id B).1.kind = y.kind
   ·(simp (disch := omega) only [go_sem, Nat.reduceBEq, ↓reduceIte, Nat.reduceAdd, Nat.reduceLeDiff])
    repeat' (first | ((refine zqh fun K hK => ?_); (simp (disch := omega) only [go_sem, Nat.reduceBEq, ↓reduceIte, reduceCtorEq, Nat.reduceAdd, Nat.reduceLeDiff, s3, s7, s9, s10, g7, g11, g12, hf, O])) | ((refine zqm _ rfl (fun hc => ?_) (fun hc => ?_)) <;> (first | (cases hc; done) | ((try simp only [] at hc); (try omega)))) | refine zqk ?_ | (refine hK _ ?_; clear hK K))
    refine zh8 ?_
    (simp (disch := omega) only [go_sem, Nat.reduceBEq, Nat.reduceLeDiff, s3, s4, s5, s6, s7, s8, s9, s10, g1, g2, g3, g4, g5, g6, g7, g8, g9, g10, g11, g12, g13, true_and])
    exact ⟨by omega, fun id hid => by simp (disch := omega) only [z09]; exact g15 id hid, zhm g16 hy (by rw [O]; simp)⟩
   ·(simp (disch := omega) only [go_sem, Nat.reduceBEq, ↓reduceIte, Nat.reduceAdd, Nat.reduceLeDiff])
    repeat' (first | ((refine zqh fun K hK => ?_); (simp (disch := omega) only [go_sem, Nat.reduceBEq, ↓reduceIte, reduceCtorEq, Nat.reduceAdd, Nat.reduceLeDiff, s3, s5, s7, s9, s10, g6, g7, g10, g11, g12, hf, O])) | ((refine zqm _ rfl (fun hc => ?_) (fun hc => ?_)) <;> (first | (cases hc; done) | ((try simp only [] at hc); (try omega)))) | refine zqn ?_ | (refine hK _ ?_; clear hK K))
    refine rndK_r ?_
    have hkf : z8k A B = false := by
     rw [hcm]
     unfold z3c
     rw [List.all_eq_false]
     exact ⟨y, List.mem_of_getElem? hy, by rw [hB]; simp [O]⟩
    repeat' (first | refine zqx ?_ | refine zqu (by (simp (disch := omega) only [go_sem, Nat.reduceBEq, ↓reduceIte, Nat.reduceAdd, Nat.reduceLeDiff, s5, g6, g10]); rfl) rfl ?_)
    refine z89 hkf (fun id hid => ?_) ?_
    ·(simp (disch := omega) only [go_sem])
     simp (disch := omega) only [z09]
     exact g15 id hid
    ·(simp (disch := omega) only [go_sem, Nat.reduceLeDiff])
     all_goals omega
  ·(simp (disch := omega) only [go_sem, Nat.reduceBEq, ↓reduceIte, Nat.reduceAdd, Nat.reduceLeDiff])
   repeat' (first | ((refine zqh fun K hK => ?_); (simp (disch := omega) only [go_sem, Nat.reduceBEq, ↓reduceIte, reduceCtorEq, Nat.reduceAdd, Nat.reduceLeDiff, s3, s7, s9, s10, g7, g11, g12, hf])) | ((refine zqm _ rfl (fun hc => ?_) (fun hc => ?_)) <;> (first | (cases hc; done) | ((try simp only [] at hc); (try omega)))) | refine zqk ?_ | (refine hK _ ?_; clear hK K))
   refine zh8 ?_
   (simp (disch := omega) only [go_sem, Nat.reduceBEq, Nat.reduceLeDiff, s3, s4, s5, s6, s7, s8, s9, s10, g1, g2, g3, g4, g5, g6, g7, g8, g9, g10, g11, g12, g13, true_and])
   exact ⟨by omega, fun id hid => by simp (disch := omega) only [z09]; exact g15 id hid, zhm g16 hy (by rw [hB]; rfl)⟩
 ·rintro ls st ⟨g1, g2, g3, g4, g5, g6, g7, g8, g9, g10, g11, g12, g13, g14, g15, g16⟩ hnd hlt hall
  unfold zmd
  refine zqv (Sem.walk (own := []) z53 (by decide +kernel) ?_)
  have hkt : z3c A B = true := by
   unfold z3c
   rw [List.all_eq_true]
   intro y hy
   obtain ⟨i, hi, e⟩ := List.getElem_of_mem hy
   exact g16 i (hall i (by rw [zkb nk, List.length_map]; exact hi)) y (by rw [List.getElem?_eq_getElem hi, e])
  rw [hkt] at hcm
  rw [if_pos hcm] at c7
  repeat' (first | refine zqj ?_ | ((first | refine zqh fun K hK => ?_ | refine zqs (c7) ?_); (simp (disch := omega) only [go_sem, Nat.reduceBEq, ↓reduceIte, Nat.reduceAdd, Nat.reduceLeDiff, g4, g5, g8, g9])) | refine zqa ?_ | (refine hK _ ?_; clear hK K))
  obtain ⟨L, hL⟩ : ∃ L, L = zk0 A B := ⟨_, rfl⟩
  have hLn : L.Nodup := by rw [hL]; exact zvf nb
  have hLl : L.length <= 1000000 := by rw [hL, <- znu]; have h1 := zt9 A (edT B); have h2 := ed_len B; omega
  (refine z45 (fun U st => ∃ (i : Nat), U = L.length - i /\ st.t 4 = .ptr 5 0 /\ st.t 6 = .ptr 9 0 /\ st.t 85 = z2d L /\ st.t 86 = .int .i64 L.length /\ st.t 87 = .int .i64 i /\ st.H (5) = some (.box 52 [.nmp, .nmp, .nmp]) /\ st.H (9) = some (.box 52 [.mp 6, .mp 7, .mp 8]) /\ st.H (6) = some (.map (mapI z1e ((nodesT A).map unP))) /\ st.H (7) = some (.map (mapI z1e ((nodesT B).map unP))) /\ st.H (8) = some (.map (setI (L.take i))) /\ (i <= L.length) /\ (11 <= st.nx) /\ (∀ id, id < 3 -> st.H id = H id)) ?_ ?_); rotate_left; (rintro U st ⟨i, rfl, w4, w6, w85, w86, w87, wH5, wH9, wH6, wH7, wH8, wp0, wp1, wp2⟩); rotate_left
  ·(refine ⟨_, 0, rfl, ?_⟩); (simp (disch := omega) only [go_sem, Nat.reduceBEq, true_and, Int.natCast_zero, z2d, hL, g6, g7, g10, g11, g12, g13])
   exact ⟨rfl, g14, fun id hid => by simp (disch := omega) only [z09]; exact g15 id hid⟩
  have t5 := z02 (show 5 < st.nx by omega)
  have t6 := z02 (show 6 < st.nx by omega)
  have t7 := z02 (show 7 < st.nx by omega)
  have t8 := z02 (show 8 < st.nx by omega)
  have t9 := z02 (show 9 < st.nx by omega)
  by_cases hi : i < L.length
  ·have hnew : L[i] ∉ L.take i := by
    intro hmem
    obtain ⟨j, hj, e⟩ := List.getElem_of_mem hmem
    rw [List.length_take] at hj
    rw [List.getElem_take] at e
    have := (List.getElem_inj hLn).1 e
    omega
   have hfk := zbe L[i] (L.take i)
   rw [if_neg hnew] at hfk
   have hsn := z7b (L.take i) L[i]
   have htk : L.take (i + 1) = L.take i ++ [L[i]] := List.take_succ_eq_append_getElem hi
   repeat' (first | ((first | refine zqh fun K hK => ?_ | refine zqr fun K hK => ?_); (simp (disch := omega) only [go_sem, Nat.reduceBEq, ↓reduceIte, reduceCtorEq, Nat.reduceAdd, Nat.reduceLeDiff, w6, w85, w86, w87, wH9, wH8, t8, t9, z2d, hfk, hsn])) | (refine zqd _ rfl ?_ ?_ <;> intro hc <;> (((try simp only [z06] at hc); (try omega)))) | refine zqa ?_ | refine zqb ?_ | refine zqv ?_ | refine zqy ?_ | (refine hK _ ?_; clear hK K))
   refine ⟨_, SealTo.refl _, ?_⟩
   repeat' (first | ((refine zqr fun K hK => ?_); (simp (disch := omega) only [go_sem, Nat.reduceBEq, ↓reduceIte, w87])) | (refine hK _ ?_; clear hK K))
   (refine Exists.intro _ (And.intro ?_ ⟨i + 1, rfl, ?_⟩)); rotate_left; (simp (disch := omega) only [go_sem, Nat.reduceBEq, Nat.reduceLeDiff, w4, w6, w85, w86, w87, wH5, wH9, wH6, wH7, wH8, true_and, Int.natCast_add, Int.natCast_one, t5, t6, t7, t8, t9, htk]); rotate_left
   ·omega
   ·exact ⟨by omega, by omega, fun id hid => by simp (disch := omega) only [z09]; exact wp2 id hid⟩
  ·repeat' (first | ((refine zqh fun K hK => ?_); (simp (disch := omega) only [go_sem, ↓reduceIte, w86, w87])) | (refine zqd _ rfl ?_ ?_ <;> intro hc <;> (((try simp only [z06] at hc); (try omega)))) | refine zqc ?_ | refine zqv ?_ | refine zqz ?_ | refine zqp ?_ | (refine hK _ ?_; clear hK K))
   refine ⟨_, SealTo.refl _, ?_⟩
   repeat' (first | ((refine zqh fun K hK => ?_); (simp (disch := omega) only [go_sem, Nat.reduceBEq, ↓reduceIte, Nat.reduceAdd, Nat.reduceLeDiff, w4, w6, wH5, wH9])) | refine zqn ?_ | refine zqu (by (simp (disch := omega) only [go_sem, Nat.reduceBEq, ↓reduceIte, Nat.reduceAdd, Nat.reduceLeDiff, w4, wH5]); rfl) rfl ?_ | (refine hK _ ?_; clear hK K))
   have hta : L.take i = L := List.take_of_length_le (by omega)
   rw [hta, hL] at wH8
   refine ⟨fun id hid => ?_, by rw [hcm], ?_, fun _ => ⟨?_, ?_, ?_⟩⟩
   ·(simp (disch := omega) only [go_sem])
    simp (disch := omega) only [z09]
    exact wp2 id hid
   ·(simp (disch := omega) only [go_sem])
    all_goals omega
   ·(simp (disch := omega) only [go_sem, Nat.reduceBEq, wH6])
    rfl
   ·(simp (disch := omega) only [go_sem, Nat.reduceBEq, wH7])
    rfl
   ·(simp (disch := omega) only [go_sem, Nat.reduceBEq, wH8])
namespace Tr
def TT.zero : TT := .mk 0 0 Idv.zero ByteArray.empty ByteArray.empty false [] [] []
def ze7 (A B : T) : TT × Int := if z8k A B = true then (zeb A B, 0) else (TT.zero, 1)
end Tr
set_option maxHeartbeats 16000000 in
theorem zj3 (A B : T) (fa : Fit50 A) (fb : Fit50 B) : PC prog 8 [z1e A, z1e B] (.tup [z26 (ze7 A B).1, .int .i64 (ze7 A B).2]) := by
 refine z2i 3 (by simp only [pureD.pureL, z0b, Bool.and_self]) (by simp only [pureD, pureD.pureL, z1h, Bool.and_self]) (z23 [] func8 rfl (by decide +kernel) rfl ?_)
 show awp _ _ (Code.seq _ _) _ _
 rw [show Tryz.f8.results.toList = [.cell 4 33, .tmp 5] from rfl]
 repeat' (first | ((refine zqh fun K hK => ?_); (simp (disch := omega) only [go_sem, Nat.reduceBEq, ↓reduceIte, Nat.reduceAdd, Nat.reduceLeDiff])) | (refine hK _ ?_; clear hK K))
 refine z3h ((zzw A B fa fb _).mono ?_)
 rintro r1 H1 n1 ⟨h1, rfl, h2, h3⟩
 have a0 : H1 0 = some (.box 27 (z08 A)) := h1 0 (by decide)
 have a1 : H1 1 = some (.box 27 (z08 B)) := h1 1 (by decide)
 have a2 : H1 2 = some (.box 33 [.int .i64 0, .int .i64 0, .int .i64 0, .int .i64 0, .int .i64 0, .str ByteArray.empty, .str ByteArray.empty, .bool false, .nil, .nil, .nil]) := h1 2 (by decide)
 have k0 := z02 (show 0 < n1 by omega)
 have k1 := z02 (show 1 < n1 by omega)
 have k2 := z02 (show 2 < n1 by omega)
 cases hc : z8k A B
 ·have e : ze7 A B = (TT.zero, 1) := by unfold ze7; rw [if_neg (by rw [hc]; decide)]
  (try (simp (disch := omega) only [go_sem, Nat.reduceBEq, ↓reduceIte, Nat.reduceAdd, Nat.reduceLeDiff])); repeat' (first | refine nxt ?_ | ((refine zqh fun K hK => ?_); (simp (disch := omega) only [go_sem, Nat.reduceBEq, ↓reduceIte, Nat.reduceAdd, Nat.reduceLeDiff, a2, k2])) | (refine zqd _ rfl ?_ ?_ <;> intro hc <;> (first | (cases hc; done) | ((try simp only [] at hc); (try omega)))) | refine zqu (by (simp (disch := omega) only [go_sem, Nat.reduceBEq, ↓reduceIte, Nat.reduceAdd, Nat.reduceLeDiff, a2, k2]); rfl) rfl ?_ | (refine hK _ ?_; clear hK K))
  rw [e]
  refine z1p (nx := 0) rfl ?_
  show Le _ (D.tup [z26 TT.zero, D.int IntKind.i64 1])
  rw [z26, z14]
  exact Le.tup ⟨Le.agg ⟨Le.refl _, Le.refl _, Le.refl _, Le.refl _, Le.refl _, Le.refl _, Le.refl _, Le.refl _, Le.nil 2, Le.nil 2, Le.nil 11, trivial⟩, Le.refl _, trivial⟩
 ·obtain ⟨g6, g7, g8⟩ := h3 hc
  have e : ze7 A B = (zeb A B, 0) := by unfold ze7; rw [if_pos hc]
  have k6 := z02 (show 6 < n1 by omega)
  have k7 := z02 (show 7 < n1 by omega)
  have k8 := z02 (show 8 < n1 by omega)
  have cf := fun H nx h1 h2 h3 h4 h5 h6 => zz4 A B (zk0 A B) (zx0 hc) fa.sz fb.sz 6 7 8 B (z0a B) fb.sz H nx h1 h2 h3 h4 h5 h6
  (try (simp (disch := omega) only [go_sem, Nat.reduceBEq, ↓reduceIte, Nat.reduceAdd, Nat.reduceLeDiff])); repeat' (first | refine nxt ?_ | ((refine zqh fun K hK => ?_); (simp (disch := omega) only [go_sem, Nat.reduceBEq, ↓reduceIte, Nat.reduceAdd, Nat.reduceLeDiff, a1, k1])) | (refine zqd _ rfl ?_ ?_ <;> intro hc <;> (first | (cases hc; done) | ((try simp only [] at hc); (try omega)))) | (refine hK _ ?_; clear hK K))
  refine z3x (cf _ _ ?_ ?_ ?_ ?_ ?_ ?_) ?_
  ·(simp (disch := omega) only [go_sem])
   all_goals omega
  ·(simp (disch := omega) only [go_sem])
   all_goals omega
  ·(simp (disch := omega) only [go_sem])
   all_goals omega
  ·(simp (disch := omega) only [go_sem, k6])
   exact g6
  ·(simp (disch := omega) only [go_sem, k7])
   exact g7
  ·(simp (disch := omega) only [go_sem, k8])
   exact g8
  ·(try (simp (disch := omega) only [go_sem, Nat.reduceBEq, ↓reduceIte, Nat.reduceAdd, Nat.reduceLeDiff, a2, k2])); repeat' (first | refine nxt ?_ | refine zqu (by (simp (disch := omega) only [go_sem, Nat.reduceBEq, ↓reduceIte, Nat.reduceLeDiff, a2, k2]); rfl) rfl ?_ | (refine hK _ ?_; clear hK K))
   rw [e]
   refine z1p (nx := 0) (by simp only [pureD.pureL, pureD, z6r, Bool.and_self]) ?_
   exact Le.refl _
namespace Tr
def secL (n : Int) (label : ByteArray) (l : List ByteArray) : T := .mk ⟨1, 0, n⟩ 2 label [] (l.map fun s => ⟨s, Idv.zero⟩) []
def zm5 (ks : List T) : T := .mk Idv.zero 0 ByteArray.empty [] [] ks
def ex1 : T := secL 1 ⟨#[49]⟩ [⟨#[97]⟩, ⟨#[98]⟩]
def ex2 : T := secL 1 ⟨#[49]⟩ [⟨#[97]⟩, ⟨#[99]⟩]
def ex3 : T := secL 1 ⟨#[49]⟩ []
def ex4 : T := secL 2 ⟨#[50]⟩ []
def exK1 : TT := .mk 0 2 ⟨1, 0, 1⟩ ⟨#[49]⟩ ByteArray.empty false [] [⟨0, ⟨#[97]⟩⟩, ⟨2, ⟨#[98]⟩⟩, ⟨1, ⟨#[99]⟩⟩] []
def exK2 : TT := .mk 2 0 ⟨1, 0, 1⟩ ByteArray.empty ByteArray.empty true [] [] []
def exK3 : TT := .mk 0 2 ⟨1, 0, 2⟩ ⟨#[50]⟩ ByteArray.empty false [] [] []
def exK4 : TT := .mk 1 2 ⟨1, 0, 1⟩ ⟨#[49]⟩ ByteArray.empty true [] [] []
def exD1 : TT := .mk 0 0 Idv.zero ByteArray.empty ByteArray.empty false [] [] [exK1]
def exD2 : TT := .mk 0 0 Idv.zero ByteArray.empty ByteArray.empty false [] [] [exK2, exK3, exK4]
theorem exR1 : ze7 (zm5 [ex1]) (zm5 [ex2]) = (exD1, 0) := by kernel_rfl
theorem exR2 : ze7 (zm5 [ex3, ex4]) (zm5 [ex4, ex3]) = (exD2, 0) := by kernel_rfl
end Tr
theorem z6s (n : Int) (label : ByteArray) (l : List ByteArray) (hl : l.length <= 100) : PC prog 21 [.int .i64 n, .str label, z2b l] (z1e (secL n label l)) := by
 refine z2i 4 (by simp only [pureD.pureL, z31, pureD, Bool.and_self]) (z0b _) (z23 [] func21 rfl (by decide +kernel) rfl ?_)
 show awp _ _ (Code.seq _ _) _ _
 rw [show Tryz.f21.results.toList = [.cell 6 27] from rfl]
 repeat' (first | refine nxt ?_ | ((refine z1a (N := 2) rfl fun K hK => ?_); (simp (disch := omega) only [go_sem, Nat.reduceBEq, ↓reduceIte, Nat.reduceAdd, Nat.reduceLeDiff])) | (refine hK _ ?_; clear hK K))
 refine z3b fun K hK => ?_
 (simp (disch := omega) only [go_sem])
 refine hK _ _ (z7s (b := 1) (off := 6) (e := 27) 82 (by (simp (disch := omega) only [go_sem, Nat.reduceBEq]); rfl) rfl) ?_
 clear hK K
 repeat' (refine zqa ?_)
 (refine z45 (fun U st => ∃ (i : _), U = l.length - i /\ st.t 2 = z2b l /\ st.t 6 = .ptr 0 0 /\ st.t 7 = .ptr 1 0 /\ st.t 8 = .int .i64 i /\ st.H (0) = some (.box 27 [.int .i64 0, .int .i64 0, .int .i64 0, .int .i64 0, .str ByteArray.empty, .nil, .nil, .nil]) /\ st.H (1) = some (.box 27 [.int .i64 1, .int .i64 0, .int .i64 n, .int .i64 2, .str label, .nil, .osl 2 i, .nil]) /\ st.H (2) = some (.row 82 i (((l.take i).map fun s => (⟨s, Idv.zero⟩ : Wd)).flatMap z7y)) /\ st.nx = 3 /\ (i <= l.length)) ?_ ?_); rotate_left; (rintro U st ⟨i, rfl, q2, q6, q7, q8, qH0, qH1, qH2, qnx, qp0⟩); rotate_left
 ·(refine ⟨_, 0, rfl, ?_⟩); (simp (disch := omega) only [go_sem, Nat.reduceBEq, Nat.reduceAdd, and_self, Int.natCast_zero, List.flatMap_nil, List.map_nil, z2b])
 by_cases hi : i < l.length
 ·repeat' (first | refine nxt ?_ | ((first | refine zqh fun K hK => ?_ | refine zqr fun K hK => ?_ | refine zqq (by decide +kernel) fun K hK => ?_); (simp (disch := omega) only [go_sem, Nat.reduceBEq, ↓reduceIte, reduceCtorEq, Nat.reduceAdd, Nat.reduceMul, Nat.reduceLeDiff, Nat.reduceLT, q2, q7, q8, qH1, qH2, qnx, z2b])) | (refine zqd _ rfl ?_ ?_ <;> intro hc <;> (((try simp only [z06] at hc); (try omega)))) | refine Abs.zqv ?_ | (refine hK _ ?_; clear hK K))
  (refine Exists.intro _ (And.intro ?_ ⟨i + 1, rfl, ?_⟩)); rotate_left; (simp (disch := omega) only [go_sem, Nat.reduceBEq, q2, q6, q7, q8, qH0, qH1, qH2, true_and, Int.natCast_add, Int.natCast_one, List.flatMap_append, List.flatMap_cons, List.flatMap_nil, List.map_append, List.map_cons, List.map_nil, List.append_nil, List.take_succ_eq_append_getElem hi, z7y]); rotate_left
  ·omega
  ·exact ⟨rfl, by omega⟩
 ·repeat' (first | refine nxt ?_ | ((refine zqh fun K hK => ?_); (simp (disch := omega) only [go_sem, Nat.reduceBEq, ↓reduceIte, Nat.reduceAdd, Nat.reduceLeDiff, q2, q6, q7, q8, qH0, qH1, qnx, z2b])) | (refine zqd _ rfl ?_ ?_ <;> intro hc <;> (((try simp only [z06] at hc); (try omega)))) | refine Abs.zqv ?_ | refine zqz ?_ | refine zqu (by (simp (disch := omega) only [go_sem, Nat.reduceBEq, ↓reduceIte, Nat.reduceAdd, Nat.reduceLeDiff, q6, qH0]); rfl) rfl ?_ | (refine hK _ ?_; clear hK K))
  have hie : i = (l.map fun s => (⟨s, Idv.zero⟩ : Wd)).length := by rw [List.length_map]; omega
  have hta : l.take i = l := List.take_of_length_le (by omega)
  rw [hta] at qH2
  rw [z1e, z0s]
  refine ⟨_, z95 (k := 3) (by simp [pureD.pureL, pureD]) (z07 (z04 2 rfl) (z07 (z04 2 rfl) (z07 (z04 2 rfl) (z07 (z04 2 rfl) (z07 (z04 2 rfl) (z07 (z04 2 rfl) (z07 ?_ (z07 (z04 2 rfl) z3j)))))))), Le.agg ⟨Le.refl _, Le.refl _, Le.refl _, Le.refl _, Le.refl _, Le.nil 4, Le.refl _, Le.nil 8, trivial⟩⟩
  rw [hie]
  refine z1b (f := z7y) (l := l.map fun s => (⟨s, Idv.zero⟩ : Wd)) 1 ?_ zel zj5 (fun _ => rfl) (fun _ => rfl)
  rw [hie] at qH2
  (simp (disch := omega) only [go_sem, Nat.reduceBEq, qH2])
theorem zui (a b : T) : Le (.agg [.int .i64 0, .int .i64 0, .int .i64 0, .int .i64 0, .str ByteArray.empty, .nil, .nil, .rsl true 8 [.agg (z08 a), .agg (z08 b)]]) (z1e (zm5 [a, b])) := by
 rw [z1e, z0s (zm5 [a, b])]
 exact Le.agg ⟨Le.refl _, Le.refl _, Le.refl _, Le.refl _, Le.refl _, Le.nil 4, Le.nil 4, Le.rsl, trivial⟩
theorem le_sec (a : T) : Le (.agg [.int .i64 0, .int .i64 0, .int .i64 0, .int .i64 0, .str ByteArray.empty, .nil, .nil, .rsl true 8 [.agg (z08 a)]]) (z1e (zm5 [a])) := by
 rw [z1e, z0s (zm5 [a])]
 exact Le.agg ⟨Le.refl _, Le.refl _, Le.refl _, Le.refl _, Le.refl _, Le.nil 4, Le.nil 4, Le.rsl, trivial⟩
theorem fit_ex : (Fit50 (zm5 [ex1]) /\ Fit50 (zm5 [ex2])) /\ Fit50 (zm5 [ex3, ex4]) /\ Fit50 (zm5 [ex4, ex3]) := by
 refine ⟨⟨⟨?_, ?_, ?_⟩, ⟨?_, ?_, ?_⟩⟩, ⟨?_, ?_, ?_⟩, ⟨?_, ?_, ?_⟩⟩ <;> decide +kernel
theorem zre : PC prog 6 [] (.bool true) := by
 obtain ⟨⟨f1, f2⟩, f3, f4⟩ := fit_ex
 have s1 : PC prog 21 [.int .i64 1, .str ⟨#[49]⟩, .rsl true 1 [.str ⟨#[97]⟩, .str ⟨#[98]⟩]] (z1e ex1) := PC.le (z6s 1 ⟨#[49]⟩ [⟨#[97]⟩, ⟨#[98]⟩] (by decide)) rfl ⟨Le.refl _, Le.refl _, Le.rsl, trivial⟩
 have s2 : PC prog 21 [.int .i64 1, .str ⟨#[49]⟩, .rsl true 1 [.str ⟨#[97]⟩, .str ⟨#[99]⟩]] (z1e ex2) := PC.le (z6s 1 ⟨#[49]⟩ [⟨#[97]⟩, ⟨#[99]⟩] (by decide)) rfl ⟨Le.refl _, Le.refl _, Le.rsl, trivial⟩
 have s3 : PC prog 21 [.int .i64 1, .str ⟨#[49]⟩, .nil] (z1e ex3) := PC.le (z6s 1 ⟨#[49]⟩ [] (by decide)) rfl ⟨Le.refl _, Le.refl _, Le.nil 1, trivial⟩
 have s4 : PC prog 21 [.int .i64 2, .str ⟨#[50]⟩, .nil] (z1e ex4) := PC.le (z6s 2 ⟨#[50]⟩ [] (by decide)) rfl ⟨Le.refl _, Le.refl _, Le.nil 1, trivial⟩
 have d1 : PC prog 8 [.agg [.int .i64 0, .int .i64 0, .int .i64 0, .int .i64 0, .str ByteArray.empty, .nil, .nil, .rsl true 8 [.agg (z08 ex1)]], .agg [.int .i64 0, .int .i64 0, .int .i64 0, .int .i64 0, .str ByteArray.empty, .nil, .nil, .rsl true 8 [.agg (z08 ex2)]]] _ := PC.le (zj3 (zm5 [ex1]) (zm5 [ex2]) f1 f2) (by simp only [pureD.pureL, pureD, z2a, Bool.and_self]) ⟨le_sec ex1, le_sec ex2, trivial⟩
 have d2 : PC prog 8 [.agg [.int .i64 0, .int .i64 0, .int .i64 0, .int .i64 0, .str ByteArray.empty, .nil, .nil, .rsl true 8 [.agg (z08 ex3), .agg (z08 ex4)]], .agg [.int .i64 0, .int .i64 0, .int .i64 0, .int .i64 0, .str ByteArray.empty, .nil, .nil, .rsl true 8 [.agg (z08 ex4), .agg (z08 ex3)]]] _ := PC.le (zj3 (zm5 [ex3, ex4]) (zm5 [ex4, ex3]) f3 f4) (by simp only [pureD.pureL, pureD, z2a, Bool.and_self]) ⟨zui ex3 ex4, zui ex4 ex3, trivial⟩
 rw [exR1] at d1
 rw [exR2] at d2
 refine z2i 1 rfl rfl (z23 [] func6 rfl (by decide +kernel) rfl ?_)
 show awp _ _ (Code.seq _ _) _ _
 repeat' (first | refine nxt ?_ | ((first | refine z1a (N := 3) rfl fun K hK => ?_ | refine zqs (s1) ?_ | refine zqs (s2) ?_ | refine zqs (s3) ?_ | refine zqs (s4) ?_ | refine zqs (d1) ?_ | refine zqs (d2) ?_); (simp (disch := omega) only [go_sem, Nat.reduceBEq, ↓reduceIte, reduceCtorEq, Nat.reduceAdd, Nat.reduceMul, Nat.reduceLeDiff])) | (refine hK _ ?_; clear hK K))
 have k1 : exD1.kids = [exK1] := rfl
 have k2 : exD2.kids = [exK2, exK3, exK4] := rfl
 have w1 : exK1.words = [⟨0, ⟨#[97]⟩⟩, ⟨2, ⟨#[98]⟩⟩, ⟨1, ⟨#[99]⟩⟩] := rfl
 have hi0 : ∀ (d : D) (ds : List D), zgt (d :: ds) 0 = some d := fun d ds => by unfold zgt; simp
 have hi1 : ∀ (d e : D) (ds : List D), zgt (d :: e :: ds) 1 = some e := fun d e ds => by unfold zgt; rw [if_pos (by simp only [List.length_cons]; omega)]; rfl
 have hi2 : ∀ (d e f : D) (ds : List D), zgt (d :: e :: f :: ds) 2 = some f := fun d e f ds => by unfold zgt; rw [if_pos (by simp only [List.length_cons]; omega)]; rfl
 have m1 : exK2.moved = true := rfl
 have m2 : exK2.state = 2 := rfl
 have m3 : exK2.label = ByteArray.empty := rfl
 have m4 : exK3.state = 0 := rfl
 have m5 : exK4.state = 1 := rfl
 have m6 : exK4.label = ⟨#[49]⟩ := rfl
 repeat' (first | ((refine zqh fun K hK => ?_); (simp (disch := omega) only [go_sem, Nat.reduceBEq, ↓reduceIte, reduceCtorEq, Nat.reduceAdd, Nat.reduceLeDiff, k1, k2, w1, hi0, hi1, hi2, m1, m2, m3, z17, z0q, zk8, z2j, List.map_cons, List.map_nil, List.length_cons, List.length_nil, List.append_eq, List.cons_append, List.nil_append])) | (refine zqd _ rfl ?_ ?_ <;> intro hc <;> (first | (cases hc; done) | ((try simp only [z06] at hc); (try omega)))) | refine nxt ?_ | refine zqu (by (simp (disch := omega) only [go_sem, Nat.reduceBEq]); rfl) rfl ?_ | (refine hK _ ?_; clear hK K))
 all_goals exact z00 rfl
end
end Go.Proofs.YtfechgagcgbldaaGreatDoor
namespace Go.Proofs.YtfechgagcgbldaaGreatDoor.Tr
theorem unm_unm : ∀ t : T, z2c (z2c t) = z2c t := by
 refine z4l fun t ih => ?_
 rw [z36 (z2c t)]
 rw [z36 t]
 simp only [T.id, T.kind, T.label, T.head, T.words, T.kids, List.map_map]
 congr 1
 exact List.map_congr_left fun k O => ih k O
theorem unm_sz : ∀ t : T, szB t = true -> szB (z2c t) = true := by
 refine z4l fun t ih h => ?_
 obtain ⟨h1, h2, h3, h4, h5, h6, h7⟩ := (z33 t).1 h
 rw [z36]
 refine (z33 _).2 ⟨h1, ?_, ?_, ?_, ?_, ?_, ?_⟩
 ·simpa only [T.head, List.length_map] using h2
 ·intro w hw
  simp only [T.head, List.mem_map] at hw
  obtain ⟨v, hv, rfl⟩ := hw
  exact h3 v hv
 ·simpa only [T.words, List.length_map] using h4
 ·intro w hw
  simp only [T.words, List.mem_map] at hw
  obtain ⟨v, hv, rfl⟩ := hw
  exact h5 v hv
 ·simpa only [T.kids, List.length_map] using h6
 ·intro k O
  simp only [T.kids, List.mem_map] at O
  obtain ⟨q, hq, rfl⟩ := O
  exact ih q hq (h7 q hq)
theorem zt8 {t : T} (h : Fit50 t) : Fit50 (z2c t) := ⟨unm_sz t h.sz, by rw [zx3]; exact h.cnt, by rw [zx2]; exact h.dep⟩
end Go.Proofs.YtfechgagcgbldaaGreatDoor.Tr
namespace Go.Proofs.YtfechgagcgbldaaGreatDoor.Tr
open Abs
theorem zjs (a b : List ByteArray) : (z3r a b).length <= a.length + b.length := by
 have h := zix (ga := stW 2) (gb := stW 1) (gs := fun s _ => stW 0 s) (Lcs.pairs a b) 0 0 (zci _ 0 0 (z81 a b) (Nat.zero_le _) (Nat.zero_le _))
 unfold z3r
 omega
theorem zck (l : List Wd) : (txt l).length = l.length := by unfold txt; rw [List.length_map]
theorem gone_sz (B : T) : ∀ u : T, szB u = true -> zm4 (z4p B u) = true := by
 refine z4l fun u ih hs => ?_
 obtain ⟨h0, h1, g1, h2, g2, h3, h4⟩ := (z33 u).1 hs
 rw [zb6]
 split
 ·rfl
 ·rw [z5d]
  refine ⟨h0, Nat.zero_le _, ?_, ?_, ?_, fun k O => ?_⟩
  ·show ((txt u.head).map (stW 2)).length <= _; rw [List.length_map, zck]; omega
  ·show ((txt u.words).map (stW 2)).length <= _; rw [List.length_map, zck]; omega
  ·show (u.kids.map (z4p B)).length <= _; rw [List.length_map]; omega
  ·obtain ⟨y, hy, rfl⟩ := List.mem_map.1 (show k ∈ u.kids.map (z4p B) from O)
   exact ih y hy (h4 y hy)
theorem find_sz {A : T} (hA : szB A = true) (i : Idv) : szB (findR i A).1 = true := by
 cases h : z2e i A with
 | true => exact zie A hA _ (z3g (id := i) (u := A) h)
 | false =>
  have : (findR i A).1 = T.zero := by
   unfold z2e findR at h
   unfold findR
   split at h
   ·cases h
   ·rfl
  rw [this]; decide +kernel
theorem zya {A B : T} {mv : Idv -> Bool} (hA : szB A = true) : ∀ u : T, szB u = true -> zm4 (z3s A B mv u) = true := by
 refine z4l fun u ih hs => ?_
 obtain ⟨h0, h1, g1, h2, g2, h3, h4⟩ := (z33 u).1 hs
 obtain ⟨x0, x1, y1, x2, y2, x3, x4⟩ := (z33 _).1 (find_sz hA u.id)
 rw [z78, z5d]
 refine ⟨h0, ?_, ?_, ?_, ?_, fun k O => ?_⟩
 ·show (if _ then _ else ByteArray.empty).size <= _
  split
  ·exact x0
  ·exact Nat.zero_le _
 ·refine Nat.le_trans (zjs _ _) ?_; rw [zck, zck]; omega
 ·refine Nat.le_trans (zjs _ _) ?_; rw [zck, zck]; omega
 ·show (mg _ _ _ _).length <= _
  rw [(zch _ _ _ _).length_eq, List.length_append, List.length_map, List.length_map, List.length_map]
  have := List.length_filter_le (fun x : T => !stayB A B mv x.id) (findR u.id A).1.kids
  omega
 ·have O : k ∈ mg (stayB A B mv) (z4p B) (findR u.id A).1.kids (u.kids.map fun k => (k.id, z3s A B mv k)) := O
  rw [(zch _ _ _ _).mem_iff, List.mem_append, List.map_map] at O
  rcases O with O | O
  ·obtain ⟨y, hy, rfl⟩ := List.mem_map.1 O
   exact gone_sz B y (x4 y (List.mem_filter.1 hy).1)
  ·obtain ⟨y, hy, rfl⟩ := List.mem_map.1 O
   exact ih y hy (h4 y hy)
theorem diff_sz {A B : T} (hA : szB A = true) (hB : szB B = true) : zm4 (zeb A B) = true := zya hA B hB
end Go.Proofs.YtfechgagcgbldaaGreatDoor.Tr
namespace Go.Proofs.YtfechgagcgbldaaGreatDoor
open _root_.Go.Proofs.Tryz
section
open Abs Facts Tr
set_option maxRecDepth 100000
theorem fit_few {t : T} {most : Int} (h0 : 0 <= most) (h1 : most <= 1000) (h : fewB t most = true) : Fit50 t := by
 obtain ⟨a, b, c⟩ := few_sz h0 h1 h
 exact ⟨a, by omega, by omega⟩
theorem zth (a b : T) (fa : Fit50 a) (fb : Fit50 b) (hc : z8k a b = true) : PC prog 8 [z1e a, z1e b] (.tup [z26 (zeb a b), .int .i64 0]) := by
 have h := zj3 a b fa fb
 rwa [show ze7 a b = (zeb a b, 0) by unfold ze7; rw [if_pos hc]] at h
theorem zti (a b : T) (fa : Fit50 a) (fb : Fit50 b) (hc : z8k a b = false) : PC prog 8 [z1e a, z1e b] (.tup [z26 TT.zero, .int .i64 1]) := by
 have h := zj3 a b fa fb
 rwa [show ze7 a b = (TT.zero, 1) by unfold ze7; rw [if_neg (by rw [hc]; decide)]] at h
end
section
open Abs Facts Tr
attribute [local irreducible] awp
set_option maxRecDepth 100000
namespace Tr
def idxP {α : Type} (p : α -> Bool) (l : List α) : Int := if l.any p = true then (l.findIdx p : Int) else -1
theorem zp9 {α : Type} {p : α -> Bool} {l : List α} {n : Nat} (hn : n < l.length) (h : p l[n] = true) (hb : ∀ j, (hj : j < l.length) -> j < n -> p l[j] = false) : idxP p l = n := by
 have h1 : l.any p = true := List.any_eq_true.2 ⟨_, List.getElem_mem hn, h⟩
 unfold idxP
 rw [if_pos h1, (List.findIdx_eq hn).2 ⟨h, fun j hj => hb j (by omega) hj⟩]
theorem zlj {α : Type} {p : α -> Bool} {l : List α} (hb : ∀ j, (hj : j < l.length) -> p l[j] = false) : idxP p l = -1 := by
 unfold idxP
 rw [if_neg]
 rw [List.any_eq_true]
 rintro ⟨x, hx, h⟩
 obtain ⟨j, hj, rfl⟩ := List.getElem_of_mem hx
 rw [hb j hj] at h; cases h
theorem zpa {α : Type} {p : α -> Bool} {l : List α} : decide (0 <= idxP p l) = l.any p := by
 unfold idxP
 by_cases h : l.any p = true
 ·rw [if_pos h, h]; exact decide_eq_true (Int.natCast_nonneg _)
 ·rw [if_neg h, Bool.eq_false_iff.2 h]; rfl
theorem zwc {α : Type} {p : α -> Bool} : ∀ l : List α, (l.any fun x => !p x) = !l.all p
 | [] => rfl
 | x :: l => by rw [List.any_cons, List.all_cons, zwc l, Bool.not_and]
end Tr
theorem z00g (l : List Tw) (hl : l.length <= 2000000) (p : Tw -> Bool) {g : FuncId} (hp : ∀ x ∈ l, PC prog g [zk8 x] (.bool (p x))) :
  PC prog 65 [z0q l, .fn g []] (.int .i64 (idxP p l)) := by
 refine z2i 1 (by simp only [pureD.pureL, pureD, z2v, Bool.and_self]) rfl (z23 [] func65 rfl (by decide +kernel) rfl ?_)
 show awp _ _ (Code.seq _ _) _ _
 repeat' (first | refine nxt ?_ | ((refine zqh fun K hK => ?_); (simp (disch := omega) only [go_sem, Nat.reduceBEq, z0q])) | (refine hK _ ?_; clear hK K))
 (refine z45 (fun U st => ∃ (n : Nat), U = l.length - n /\ st.t 0 = z0q l /\ st.t 1 = .fn g [] /\ st.t 7 = .int .i64 l.length /\ st.t 8 = .int .i64 n /\ (n <= l.length) /\ (∀ j, (hj : j < l.length) -> j < n -> p l[j] = false)) ?_ ?_); rotate_left; (rintro U st ⟨n, rfl, v0, v1, v7, v8, vp0, vp1⟩); rotate_left
 ·(refine ⟨_, 0, rfl, ?_⟩); (simp (disch := omega) only [go_sem, Nat.reduceBEq, true_and, Int.natCast_zero, z0q])
  exact fun j _ h => absurd h (Nat.not_lt_zero _)
 by_cases hi : n < l.length
 ·have hin := hp l[n] (List.getElem_mem hi)
  cases hpn : p l[n]
  ·rw [hpn] at hin
   repeat' (first | ((first | refine zqh fun K hK => ?_ | refine zqr fun K hK => ?_ | refine zqs (hin) ?_); (simp (disch := omega) only [go_sem, Nat.reduceBEq, ↓reduceIte, reduceCtorEq, Nat.reduceAdd, v0, v1, v7, v8, z0q])) | ((first | refine zqd _ rfl (fun hc => ?_) (fun hc => ?_) | refine zqm _ rfl (fun hc => ?_) (fun hc => ?_)) <;> (first | (cases hc; done) | ((try simp only [z06] at hc); (try omega)))) | refine nxt ?_ | (refine hK _ ?_; clear hK K))
   (refine Exists.intro _ (And.intro ?_ ⟨n + 1, rfl, ?_⟩)); rotate_left; (simp (disch := omega) only [go_sem, Nat.reduceBEq, v0, v1, v7, v8, true_and, Int.natCast_add, Int.natCast_one]); rotate_left
   ·omega
   ·refine ⟨by omega, fun j hj hjn => ?_⟩
    by_cases e : j = n
    ·subst e; exact hpn
    ·exact vp1 j hj (by omega)
  ·rw [hpn] at hin
   repeat' (first | ((first | refine zqh fun K hK => ?_ | refine zqs (hin) ?_); (simp (disch := omega) only [go_sem, Nat.reduceBEq, ↓reduceIte, reduceCtorEq, Nat.reduceAdd, v0, v1, v7, v8, z0q])) | ((first | refine zqd _ rfl (fun hc => ?_) (fun hc => ?_) | refine zqm _ rfl (fun hc => ?_) (fun hc => ?_)) <;> (first | (cases hc; done) | ((try simp only [z06] at hc); (try omega)))) | refine nxt ?_ | refine zqu (by simp only [go_sem]; rfl) rfl ?_ | (refine hK _ ?_; clear hK K))
   exact z1q (zp9 hi hpn vp1).symm
 ·repeat' (first | ((refine zqh fun K hK => ?_); (simp (disch := omega) only [go_sem, ↓reduceIte, v7, v8])) | (refine zqd _ rfl ?_ ?_ <;> intro hc <;> (((try simp only [z06] at hc); (try omega)))) | refine nxt ?_ | refine zqz ?_ | refine zqu (by simp only [go_sem]; rfl) rfl ?_ | (refine hK _ ?_; clear hK K))
  exact z1q (zlj fun j hj => vp1 j hj (by omega)).symm
theorem zpb (l : List Tw) (hl : l.length <= 2000000) (p : Tw -> Bool) {g : FuncId} (hp : ∀ x ∈ l, PC prog g [zk8 x] (.bool (p x))) :
  PC prog 31 [z0q l, .fn g []] (.bool (l.any p)) := by
 have c1 := z00g l hl p hp
 refine z2i 1 (by simp only [pureD.pureL, pureD, z2v, Bool.and_self]) rfl (z23 [] func31 rfl (by decide +kernel) rfl ?_)
 show awp _ _ (Code.seq _ _) _ _
 repeat' (first | ((first | refine zqh fun K hK => ?_ | refine zqs (c1) ?_); (simp (disch := omega) only [go_sem, Nat.reduceBEq, ↓reduceIte])) | refine nxt ?_ | refine zqu (by simp only [go_sem]; rfl) rfl ?_ | (refine hK _ ?_; clear hK K))
 exact z00 zpa
theorem z00h (l : List TT) (hl : l.length <= 2000000) (p : TT -> Bool) {g : FuncId} (hp : ∀ x ∈ l, PC prog g [z26 x] (.bool (p x))) :
  PC prog 66 [z17 l, .fn g []] (.int .i64 (idxP p l)) := by
 refine z2i 1 (by simp only [pureD.pureL, pureD, zao, Bool.and_self]) rfl (z23 [] func66 rfl (by decide +kernel) rfl ?_)
 show awp _ _ (Code.seq _ _) _ _
 repeat' (first | refine nxt ?_ | ((refine zqh fun K hK => ?_); (simp (disch := omega) only [go_sem, Nat.reduceBEq, z17])) | (refine hK _ ?_; clear hK K))
 (refine z45 (fun U st => ∃ (n : Nat), U = l.length - n /\ st.t 0 = z17 l /\ st.t 1 = .fn g [] /\ st.t 7 = .int .i64 l.length /\ st.t 8 = .int .i64 n /\ (n <= l.length) /\ (∀ j, (hj : j < l.length) -> j < n -> p l[j] = false)) ?_ ?_); rotate_left; (rintro U st ⟨n, rfl, v0, v1, v7, v8, vp0, vp1⟩); rotate_left
 ·(refine ⟨_, 0, rfl, ?_⟩); (simp (disch := omega) only [go_sem, Nat.reduceBEq, true_and, Int.natCast_zero, z17])
  exact fun j _ h => absurd h (Nat.not_lt_zero _)
 by_cases hi : n < l.length
 ·have hin := hp l[n] (List.getElem_mem hi)
  cases hpn : p l[n]
  ·rw [hpn] at hin
   repeat' (first | ((first | refine zqh fun K hK => ?_ | refine zqr fun K hK => ?_ | refine zqs (hin) ?_); (simp (disch := omega) only [go_sem, Nat.reduceBEq, ↓reduceIte, reduceCtorEq, Nat.reduceAdd, v0, v1, v7, v8, z17])) | ((first | refine zqd _ rfl (fun hc => ?_) (fun hc => ?_) | refine zqm _ rfl (fun hc => ?_) (fun hc => ?_)) <;> (first | (cases hc; done) | ((try simp only [z06] at hc); (try omega)))) | refine nxt ?_ | (refine hK _ ?_; clear hK K))
   (refine Exists.intro _ (And.intro ?_ ⟨n + 1, rfl, ?_⟩)); rotate_left; (simp (disch := omega) only [go_sem, Nat.reduceBEq, v0, v1, v7, v8, true_and, Int.natCast_add, Int.natCast_one]); rotate_left
   ·omega
   ·refine ⟨by omega, fun j hj hjn => ?_⟩
    by_cases e : j = n
    ·subst e; exact hpn
    ·exact vp1 j hj (by omega)
  ·rw [hpn] at hin
   repeat' (first | ((first | refine zqh fun K hK => ?_ | refine zqs (hin) ?_); (simp (disch := omega) only [go_sem, Nat.reduceBEq, ↓reduceIte, reduceCtorEq, Nat.reduceAdd, v0, v1, v7, v8, z17])) | ((first | refine zqd _ rfl (fun hc => ?_) (fun hc => ?_) | refine zqm _ rfl (fun hc => ?_) (fun hc => ?_)) <;> (first | (cases hc; done) | ((try simp only [z06] at hc); (try omega)))) | refine nxt ?_ | refine zqu (by simp only [go_sem]; rfl) rfl ?_ | (refine hK _ ?_; clear hK K))
   exact z1q (zp9 hi hpn vp1).symm
 ·repeat' (first | ((refine zqh fun K hK => ?_); (simp (disch := omega) only [go_sem, ↓reduceIte, v7, v8])) | (refine zqd _ rfl ?_ ?_ <;> intro hc <;> (((try simp only [z06] at hc); (try omega)))) | refine nxt ?_ | refine zqz ?_ | refine zqu (by simp only [go_sem]; rfl) rfl ?_ | (refine hK _ ?_; clear hK K))
  exact z1q (zlj fun j hj => vp1 j hj (by omega)).symm
theorem z00i (l : List TT) (hl : l.length <= 2000000) (p : TT -> Bool) {g : FuncId} (hp : ∀ x ∈ l, PC prog g [z26 x] (.bool (p x))) :
  PC prog 32 [z17 l, .fn g []] (.bool (l.any p)) := by
 have c1 := z00h l hl p hp
 refine z2i 1 (by simp only [pureD.pureL, pureD, zao, Bool.and_self]) rfl (z23 [] func32 rfl (by decide +kernel) rfl ?_)
 show awp _ _ (Code.seq _ _) _ _
 repeat' (first | ((first | refine zqh fun K hK => ?_ | refine zqs (c1) ?_); (simp (disch := omega) only [go_sem, Nat.reduceBEq, ↓reduceIte])) | refine nxt ?_ | refine zqu (by simp only [go_sem]; rfl) rfl ?_ | (refine hK _ ?_; clear hK K))
 exact z00 zpa
theorem zpc (w : Tw) : PC prog 30 [zk8 w] (.bool (!decide (w.state = 0))) := by
 refine z2i 1 rfl rfl (z23 [] func30 rfl (by decide +kernel) rfl ?_)
 show awp _ _ (Code.seq _ _) _ _
 repeat' (first | ((refine zqh fun K hK => ?_); (simp (disch := omega) only [go_sem, Nat.reduceBEq, ↓reduceIte, reduceCtorEq, Nat.reduceAdd, zk8, z2j])) | refine nxt ?_ | refine zqu (by simp only [go_sem]; rfl) rfl ?_ | (refine hK _ ?_; clear hK K))
 exact z00 (by simp)
theorem z00j (t : TT) (h : PC prog 13 [z26 t] (.bool (z4v t))) : PC prog 33 [z26 t] (.bool (!z4v t)) := by
 refine z2i 1 (by simp only [pureD.pureL, z1h, Bool.and_self]) rfl (z23 [] func33 rfl (by decide +kernel) rfl ?_)
 show awp _ _ (Code.seq _ _) _ _
 repeat' (first | ((first | refine zqh fun K hK => ?_ | refine zqs (h) ?_); (simp (disch := omega) only [go_sem, Nat.reduceBEq, ↓reduceIte, Nat.reduceAdd, Nat.reduceLeDiff])) | refine nxt ?_ | refine zqu (by simp only [go_sem]; rfl) rfl ?_ | (refine hK _ ?_; clear hK K))
 exact z00 rfl
set_option maxHeartbeats 16000000 in
theorem zdt : ∀ t : TT, zm4 t = true -> PC prog 13 [z26 t] (.bool (z4v t)) := by
 refine zcs fun t ih hs => ?_
 obtain ⟨h0, h00, h1, h2, h3, h4⟩ := (z5d t).1 hs
 have c1 := zpb t.head h1 (fun w => !decide (w.state = 0)) fun x _ => zpc x
 have c2 := zpb t.words h2 (fun w => !decide (w.state = 0)) fun x _ => zpc x
 have c3 := z00i t.kids h3 (fun k => !z4v k) fun x hx => z00j x (ih x hx (h4 x hx))
 rw [zwc] at c1 c2 c3
 rw [z5u]
 refine z2i 1 (by simp only [pureD.pureL, z1h, Bool.and_self]) rfl (z23 [] func13 rfl (by decide +kernel) rfl ?_)
 show awp _ _ (Code.seq _ _) _ _
 repeat' (first | refine nxt ?_ | ((first | refine zqh fun K hK => ?_ | refine zqs (c1) ?_ | refine zqs (c2) ?_ | refine zqs (c3) ?_); (simp (disch := omega) only [go_sem, Nat.reduceBEq, ↓reduceIte, reduceCtorEq, Nat.reduceAdd])) | (refine zqd _ rfl ?_ ?_ <;> intro hc <;> (first | (cases hc; done) | ((try simp only [z06] at hc); (try omega)))) | refine zqu (by simp only [go_sem]; rfl) rfl ?_ | (refine hK _ ?_; clear hK K) | (refine zqf (fun hb => ?_) (fun hb => ?_) <;> (have hb2 := hb; try simp only [z06] at hb2) <;> ((first | have F : (_ : Bool) = _ := hb2 | have F := eq_false hb2 | have F := eq_true hb2); (simp (disch := omega) only [go_sem, Nat.reduceBEq, ↓reduceIte, reduceCtorEq, Nat.reduceAdd, F]); clear hb F; (try omega))))
 all_goals
  clear ih c1 c2 c3 h4
  refine z00 ?_
  rw [show ByteArray.empty = (⟨#[]⟩ : ByteArray) from rfl]
  simp [*]
end
section
open Abs Facts Tr
namespace Tr
structure Stp where
 kind : Int
 label : ByteArray
instance : DecidableEq Stp := fun a b => decidable_of_iff (a.kind = b.kind /\ a.label = b.label) ⟨fun ⟨h1, h2⟩ => by cases a; cases b; simp_all, fun h => by subst h; exact ⟨rfl, rfl⟩⟩
inductive It where
 | mk (kind : Int) (at_ to : List Stp) (wh nth : Int) (unit : T) (old new : List ByteArray) (label for_ : ByteArray) (sk sd : Int) (se : ByteArray) (act item day : Int) (event : ByteArray) (by_ : List It)
namespace It
def kind : It -> Int | .mk k _ _ _ _ _ _ _ _ _ _ _ _ _ _ _ _ _ => k
def at_ : It -> List Stp | .mk _ a _ _ _ _ _ _ _ _ _ _ _ _ _ _ _ _ => a
def to : It -> List Stp | .mk _ _ a _ _ _ _ _ _ _ _ _ _ _ _ _ _ _ => a
def wh : It -> Int | .mk _ _ _ a _ _ _ _ _ _ _ _ _ _ _ _ _ _ => a
def nth : It -> Int | .mk _ _ _ _ a _ _ _ _ _ _ _ _ _ _ _ _ _ => a
def unit : It -> T | .mk _ _ _ _ _ a _ _ _ _ _ _ _ _ _ _ _ _ => a
def old : It -> List ByteArray | .mk _ _ _ _ _ _ a _ _ _ _ _ _ _ _ _ _ _ => a
def new : It -> List ByteArray | .mk _ _ _ _ _ _ _ a _ _ _ _ _ _ _ _ _ _ => a
def label : It -> ByteArray | .mk _ _ _ _ _ _ _ _ a _ _ _ _ _ _ _ _ _ => a
def for_ : It -> ByteArray | .mk _ _ _ _ _ _ _ _ _ a _ _ _ _ _ _ _ _ => a
def sk : It -> Int | .mk _ _ _ _ _ _ _ _ _ _ a _ _ _ _ _ _ _ => a
def sd : It -> Int | .mk _ _ _ _ _ _ _ _ _ _ _ a _ _ _ _ _ _ => a
def se : It -> ByteArray | .mk _ _ _ _ _ _ _ _ _ _ _ _ a _ _ _ _ _ => a
def act : It -> Int | .mk _ _ _ _ _ _ _ _ _ _ _ _ _ a _ _ _ _ => a
def item : It -> Int | .mk _ _ _ _ _ _ _ _ _ _ _ _ _ _ a _ _ _ => a
def day : It -> Int | .mk _ _ _ _ _ _ _ _ _ _ _ _ _ _ _ a _ _ => a
def event : It -> ByteArray | .mk _ _ _ _ _ _ _ _ _ _ _ _ _ _ _ _ a _ => a
def by_ : It -> List It | .mk _ _ _ _ _ _ _ _ _ _ _ _ _ _ _ _ _ a => a
end It
mutual
theorem ind1I {p : It -> Prop} (h : ∀ t, (∀ k ∈ t.by_, p k) -> p t) : ∀ t, p t
 | .mk a0 a1 a2 a3 a4 a5 a6 a7 a8 a9 a10 a11 a12 a13 a14 a15 a16 ks => h (.mk a0 a1 a2 a3 a4 a5 a6 a7 a8 a9 a10 a11 a12 a13 a14 a15 a16 ks) (ind2I h ks)
theorem ind2I {p : It -> Prop} (h : ∀ t, (∀ k ∈ t.by_, p k) -> p t) : ∀ (ks : List It), ∀ k ∈ ks, p k
 | [], k, O => by cases O
 | t :: ts, k, O => by
  rcases List.mem_cons.1 O with e | O
  ·rw [e]; exact ind1I h t
  ·exact ind2I h ts k O
end
mutual
def recI {β : Type} (f : It -> List β -> β) : It -> β
 | .mk a0 a1 a2 a3 a4 a5 a6 a7 a8 a9 a10 a11 a12 a13 a14 a15 a16 ks => f (.mk a0 a1 a2 a3 a4 a5 a6 a7 a8 a9 a10 a11 a12 a13 a14 a15 a16 ks) (zz6 f ks)
def zz6 {β : Type} (f : It -> List β -> β) : List It -> List β
 | [] => []
 | t :: ts => recI f t :: zz6 f ts
end
theorem zoi {β : Type} (f : It -> List β -> β) : ∀ ks, zz6 f ks = ks.map (recI f)
 | [] => rfl
 | t :: ts => by simp [zz6, zoi f ts]
theorem recI_eq {β : Type} (f : It -> List β -> β) (t : It) : recI f t = f t (t.by_.map (recI f)) := by
 cases t
 rw [recI, zoi]; rfl
end Tr
namespace Abs
open Tr
def cellsSt (s : Stp) : List D := [.int .i64 s.kind, .str s.label]
def encSt (s : Stp) : D := .agg (cellsSt s)
def z8i (l : List Stp) : D := .rsl false 2 (l.map encSt)
@[go_sem] theorem encSt_agg (s : Stp) : encSt s = .agg [.int .i64 s.kind, .str s.label] := rfl
theorem zmj (l : List Stp) : pureD (z8i l) = true := by simp only [z8i, pureD]; exact z0g (fun _ => rfl) l
@[go_sem] theorem pureL_encSt (l : List Stp) : pureD.pureL (l.map encSt) = true := z0g (fun _ => rfl) l
def zoj (x : It) (ks : List (List D)) : List D := .int .i64 x.kind :: z8i x.at_ :: z8i x.to :: .int .i64 x.wh :: .int .i64 x.nth :: (z08 x.unit ++ [z2b x.old, z2b x.new, .str x.label, .str x.for_, .int .i64 x.sk, .int .i64 x.sd, .str x.se, .int .i64 x.act, .int .i64 x.item, .int .i64 x.day, .str x.event, .rsl false 25 (ks.map .agg)])
def z1c (x : It) : List D := recI zoj x
def encIt (x : It) : D := .agg (z1c x)
def zhe (l : List It) : D := .rsl false 25 (l.map encIt)
theorem zmk (x : It) : z1c x = .int .i64 x.kind :: z8i x.at_ :: z8i x.to :: .int .i64 x.wh :: .int .i64 x.nth :: (z08 x.unit ++ [z2b x.old, z2b x.new, .str x.label, .str x.for_, .int .i64 x.sk, .int .i64 x.sd, .str x.se, .int .i64 x.act, .int .i64 x.item, .int .i64 x.day, .str x.event, zhe x.by_]) := by
 unfold z1c
 rw [recI_eq, zoj, List.map_map]; rfl
theorem z0y (x : It) : z1c x = [.int .i64 x.kind, z8i x.at_, z8i x.to, .int .i64 x.wh, .int .i64 x.nth, .int .i64 x.unit.id.act, .int .i64 x.unit.id.item, .int .i64 x.unit.id.n, .int .i64 x.unit.kind, .str x.unit.label, z0t x.unit.head, z0t x.unit.words, z0n x.unit.kids,
  z2b x.old, z2b x.new, .str x.label, .str x.for_, .int .i64 x.sk, .int .i64 x.sd, .str x.se, .int .i64 x.act, .int .i64 x.item, .int .i64 x.day, .str x.event, zhe x.by_] := by
 rw [zmk, z0s]; rfl
@[go_sem] theorem encIt_agg (x : It) : encIt x = .agg (z1c x) := rfl
@[go_sem] theorem za9 (x : It) : (z1c x).length = 25 := by rw [z0y]; rfl
@[go_sem] theorem zkd (x : It) : (z1c x)[0]? = some (.int .i64 x.kind) := by rw [z0y]; rfl
@[go_sem] theorem zr7 (x : It) : (z1c x)[1]? = some (z8i x.at_) := by rw [z0y]; rfl
@[go_sem] theorem zr8 (x : It) : (z1c x)[2]? = some (z8i x.to) := by rw [z0y]; rfl
@[go_sem] theorem zr9 (x : It) : (z1c x)[3]? = some (.int .i64 x.wh) := by rw [z0y]; rfl
@[go_sem] theorem zml (x : It) : (z1c x)[4]? = some (.int .i64 x.nth) := by rw [z0y]; rfl
@[go_sem] theorem zmm (x : It) : (z1c x)[13]? = some (z2b x.old) := by rw [z0y]; rfl
@[go_sem] theorem zmn (x : It) : (z1c x)[14]? = some (z2b x.new) := by rw [z0y]; rfl
@[go_sem] theorem ziv (x : It) : (z1c x)[15]? = some (.str x.label) := by rw [z0y]; rfl
@[go_sem] theorem zmo (x : It) : (z1c x)[16]? = some (.str x.for_) := by rw [z0y]; rfl
@[go_sem] theorem zra (x : It) : (z1c x)[17]? = some (.int .i64 x.sk) := by rw [z0y]; rfl
@[go_sem] theorem zrb (x : It) : (z1c x)[18]? = some (.int .i64 x.sd) := by rw [z0y]; rfl
@[go_sem] theorem zrc (x : It) : (z1c x)[19]? = some (.str x.se) := by rw [z0y]; rfl
@[go_sem] theorem zmp (x : It) : (z1c x)[20]? = some (.int .i64 x.act) := by rw [z0y]; rfl
@[go_sem] theorem zke (x : It) : (z1c x)[21]? = some (.int .i64 x.item) := by rw [z0y]; rfl
@[go_sem] theorem zmq (x : It) : (z1c x)[22]? = some (.int .i64 x.day) := by rw [z0y]; rfl
@[go_sem] theorem ziw (x : It) : (z1c x)[23]? = some (.str x.event) := by rw [z0y]; rfl
@[go_sem] theorem zrd (x : It) : (z1c x)[24]? = some (zhe x.by_) := by rw [z0y]; rfl
@[go_sem] theorem zkf (x : It) : List.take 8 (List.drop 5 (z1c x)) = z08 x.unit := by rw [z0y, z0s]; rfl
@[go_sem] theorem zz7 (x : It) : List.take 3 (List.drop 17 (z1c x)) = [.int .i64 x.sk, .int .i64 x.sd, .str x.se] := by rw [z0y]; rfl
@[go_sem] theorem zkg (x : It) : List.take 25 (z1c x) = z1c x := List.take_of_length_le (by rw [za9]; decide)
theorem zdf : ∀ x, pureD.pureL (z1c x) = true := by
 refine ind1I fun x ih => ?_
 rw [z0y]
 have O : pureD (zhe x.by_) = true := by
  simp only [zhe, pureD]
  generalize x.by_ = l at ih ⊢
  induction l with
  | nil => rfl
  | cons t l ih2 =>
   simp only [List.map_cons, pureD.pureL, Bool.and_eq_true]
   exact ⟨by simpa only [encIt, pureD] using ih t (by simp), ih2 fun k O => ih k (List.mem_cons_of_mem _ O)⟩
 simp only [pureD.pureL, pureD, zmj, z0r, z5r, z31, O, Bool.and_self]
attribute [go_sem] zdf
end Abs
namespace Tr
structure EIt where
 act : Int
 item : Int
 day : Int
 it : It
end Tr
namespace Abs
def z0p (d : EIt) : List D := .int .i64 d.act :: .int .i64 d.item :: .int .i64 d.day :: z1c d.it
def encEi (d : EIt) : D := .agg (z0p d)
@[go_sem] theorem encEi_agg (d : EIt) : encEi d = .agg (z0p d) := rfl
@[go_sem] theorem zgq (d : EIt) : (z0p d).length = 28 := by unfold z0p; simp only [List.length_cons, za9]
@[go_sem] theorem cellsEi_act (d : EIt) : (z0p d)[0]? = some (.int .i64 d.act) := rfl
@[go_sem] theorem cellsEi_item (d : EIt) : (z0p d)[1]? = some (.int .i64 d.item) := rfl
@[go_sem] theorem cellsEi_it (d : EIt) : List.take 25 (List.drop 3 (z0p d)) = z1c d.it := by
 show List.take 25 (z1c d.it) = _
 rw [zkg]
@[go_sem] theorem cellsEi_take (d : EIt) : List.take 28 (z0p d) = z0p d := List.take_of_length_le (by rw [zgq]; decide)
theorem zkh (d : EIt) : pureD.pureL (z0p d) = true := by unfold z0p; simp only [pureD.pureL, pureD, zdf, Bool.and_self]
attribute [go_sem] zkh
@[go_sem] theorem zz8 (d : EIt) : (z0p d)[3]? = some (.int .i64 d.it.kind) := by unfold z0p; simp only [List.getElem?_cons_succ, zkd]
@[go_sem] theorem cellsEi_at' (d : EIt) : (z0p d)[4]? = some (z8i d.it.at_) := by unfold z0p; simp only [List.getElem?_cons_succ, zr7]
@[go_sem] theorem cellsEi_to' (d : EIt) : (z0p d)[5]? = some (z8i d.it.to) := by unfold z0p; simp only [List.getElem?_cons_succ, zr8]
@[go_sem] theorem cellsEi_wh' (d : EIt) : (z0p d)[6]? = some (.int .i64 d.it.wh) := by unfold z0p; simp only [List.getElem?_cons_succ, zr9]
@[go_sem] theorem cellsEi_nth' (d : EIt) : (z0p d)[7]? = some (.int .i64 d.it.nth) := by unfold z0p; simp only [List.getElem?_cons_succ, zml]
@[go_sem] theorem cellsEi_old' (d : EIt) : (z0p d)[16]? = some (z2b d.it.old) := by unfold z0p; simp only [List.getElem?_cons_succ, zmm]
@[go_sem] theorem cellsEi_new' (d : EIt) : (z0p d)[17]? = some (z2b d.it.new) := by unfold z0p; simp only [List.getElem?_cons_succ, zmn]
@[go_sem] theorem zxm (d : EIt) : (z0p d)[18]? = some (.str d.it.label) := by unfold z0p; simp only [List.getElem?_cons_succ, ziv]
@[go_sem] theorem cellsEi_for' (d : EIt) : (z0p d)[19]? = some (.str d.it.for_) := by unfold z0p; simp only [List.getElem?_cons_succ, zmo]
@[go_sem] theorem cellsEi_sk' (d : EIt) : (z0p d)[20]? = some (.int .i64 d.it.sk) := by unfold z0p; simp only [List.getElem?_cons_succ, zra]
@[go_sem] theorem cellsEi_sd' (d : EIt) : (z0p d)[21]? = some (.int .i64 d.it.sd) := by unfold z0p; simp only [List.getElem?_cons_succ, zrb]
@[go_sem] theorem cellsEi_se' (d : EIt) : (z0p d)[22]? = some (.str d.it.se) := by unfold z0p; simp only [List.getElem?_cons_succ, zrc]
@[go_sem] theorem cellsEi_act' (d : EIt) : (z0p d)[23]? = some (.int .i64 d.it.act) := by unfold z0p; simp only [List.getElem?_cons_succ, zmp]
@[go_sem] theorem zz9 (d : EIt) : (z0p d)[24]? = some (.int .i64 d.it.item) := by unfold z0p; simp only [List.getElem?_cons_succ, zke]
@[go_sem] theorem cellsEi_day' (d : EIt) : (z0p d)[25]? = some (.int .i64 d.it.day) := by unfold z0p; simp only [List.getElem?_cons_succ, zmq]
@[go_sem] theorem zxn (d : EIt) : (z0p d)[26]? = some (.str d.it.event) := by unfold z0p; simp only [List.getElem?_cons_succ, ziw]
@[go_sem] theorem cellsEi_by' (d : EIt) : (z0p d)[27]? = some (zhe d.it.by_) := by unfold z0p; simp only [List.getElem?_cons_succ, zrd]
@[go_sem] theorem cellsEi_unit (d : EIt) : List.take 8 (List.drop 8 (z0p d)) = z08 d.it.unit := by
 show List.take 8 (List.drop 5 (z1c d.it)) = _
 rw [zkf]
end Abs
end
section
open Abs Facts Tr
namespace Tr
end Tr
end
section
open Abs Facts Tr
attribute [local irreducible] awp
namespace Tr
theorem z4b {α : Type} {f : α -> Bool} {l : List α} {i : Nat} (hi : i < l.length) (h : (l.take i).any f = false) (hf : f l[i] = false) : (l.take (i + 1)).any f = false := by
 rw [List.take_succ_eq_append_getElem hi, List.any_append, h]; simp [hf]
end Tr

namespace Tr
def takeE (u : T) (id : Idv) : Int := if zxg u = false then 1 else if (findR id u).2 = false then 4 else if u.id = id then 9 else 0
end Tr
namespace Abs
end Abs
end
section
open Abs Facts Tr
namespace Tr
end Tr
end
section
open Abs Facts Tr
attribute [local irreducible] awp
namespace Tr
end Tr
namespace Tr
end Tr
namespace Tr
end Tr
namespace Tr
end Tr
namespace Tr
end Tr
namespace Tr
end Tr
namespace Tr
theorem take_zero {u x : T} {id : Idv} (h1 : zxg u = true) (h2 : findR id u = (x, true)) (h3 : ¬ u.id = id) : takeE u id = 0 := by
 unfold takeE; rw [if_neg (by rw [h1]; simp), if_neg (by rw [h2]; simp), if_neg h3]
end Tr
end
section
open Abs Facts Tr
namespace Tr
theorem ztl : ∀ u x : T, x ∈ nodesT u -> ∀ y ∈ nodesT x, y ∈ nodesT u := by
 refine fun u => z4l (p := fun u => ∀ x : T, x ∈ nodesT u -> ∀ y ∈ nodesT x, y ∈ nodesT u) (fun u ih x hx y hy => ?_) u
 rw [z11, List.mem_cons] at hx
 rcases hx with rfl | hx
 ·exact hy
 ·obtain ⟨k, O, hxk⟩ := List.mem_flatMap.1 hx
  exact z0j O (ih k O x hxk y hy)
theorem ztm (C : Ctx) {x y : T} (h : y ∈ nodesT x) : y ∈ nodesT (ze1 C x) := by
 induction C with
 | hole => exact h
 | node t l c r ih => exact z0j (t := ze1 (.node t l c r) x) (k := ze1 c x) (by show _ ∈ l ++ _ :: r; simp) ih
end Tr
namespace Tr
def bookS (s : Stp) : Bool := decide (s.kind = 0) && decide (s.label = z6h)
def zq2 (s : Stp) : Bool := decide (1 <= s.kind /\ s.kind <= 7) && z4i s.label
def okS (i : Nat) (s : Stp) : Bool := (decide (i = 0) && bookS s) || zq2 s
def atB (s : Stp) (u : T) : Bool := decide (u.kind = s.kind) && decide (u.label = s.label)
def nextT (now : List T) (s : Stp) : List T := now.flatMap fun x => x.kids.filter (atB s)
theorem zyd {now : List T} {s : Stp} {u : T} (h : ∀ x ∈ now, x ∈ nodesT u) : ∀ x ∈ nextT now s, x ∈ nodesT u := fun x hx => by
 unfold nextT at hx
 obtain ⟨y, hy, hx⟩ := List.mem_flatMap.1 hx
 have O := (List.mem_filter.1 hx).1
 exact ztl u y (h y hy) x (z0j O (z0a x))
theorem zef {u : T} : ∀ (r : List Stp) (now : List T), (∀ x ∈ now, x ∈ nodesT u) -> ∀ x ∈ r.foldl nextT now, x ∈ nodesT u
 | [], _, h => h
 | _ :: r, _, h => zef r _ (zyd h)
end Tr
namespace Tr
end Tr
namespace Tr
end Tr
namespace Tr
theorem above {u : T} {id : Idv} (hn : (idsT u).Nodup) (h0 : ¬ u.id = id) (hm : id ∈ idsT u) : ∃ (q : T) (l : List T) (x : T) (r : List T), za3 id u = (q.id, (l.length : Int), true) /\ findR id u = (x, true) /\ x.id = id /\
  findR q.id u = (q.setKids (l ++ x :: r), true) /\ q.setKids (l ++ x :: r) ∈ nodesT u /\ id ∉ l.flatMap idsT /\ id ∉ r.flatMap idsT /\ q.id ∈ idsT u /\ (∀ i ∈ idsT x, i ≠ q.id /\ i ∉ l.flatMap idsT /\ i ∉ r.flatMap idsT) := by
 obtain ⟨C, q, l, x, r, e, hx, hq, n1, n2, hf, hp⟩ := focus2 h0 hm
 refine ⟨q, l, x, r, hp, hf, hx, ?_⟩
 subst e
 have hqs : q.id ∈ idsT (q.setKids (l ++ x :: r)) := by rw [znn]; exact List.mem_cons_self
 obtain ⟨m1, m2⟩ := zss hn hqs
 have ns := (zx6 (zhz hn)).1
 refine ⟨by rw [zjz hqs C m1]; exact z9j rfl, ztm C (z0a _), n2, (ns id (hx ▸ z56 x)).2.2, zi8 C hqs, ns⟩
end Tr
namespace Tr
end Tr
end
section
open Abs Facts Tr
attribute [local irreducible] awp
set_option maxRecDepth 100000
namespace Tr
end Tr
theorem zx7 : ∀ t : T, szB t = true -> cntT t <= 1000000000 -> PC prog 40 [z1e t] (z0n (nodesT t)) := by
 refine z4l fun t ih hs hc => ?_
 obtain ⟨h0, h1, g1, h2, g2, h3, h4⟩ := (z33 t).1 hs
 have hce := zb4 t
 refine z2i 2 (by simp only [pureD.pureL, z0b, Bool.and_self]) (z5r _) (z23 [6] func40 rfl (by decide +kernel) rfl ?_)
 show awp _ _ (Code.seq _ _) _ _
 repeat' (first | refine nxt ?_ | ((refine zqh fun K hK => ?_); (simp (disch := omega) only [go_sem, Nat.reduceBEq, ↓reduceIte, reduceCtorEq, Nat.reduceAdd, Nat.reduceMul, Nat.reduceLeDiff])) | (refine hK _ ?_; clear hK K))
 (refine z45 (fun U st => ∃ (i : _), U = t.kids.length - i /\ st.t 1 = .ptr 0 0 /\ st.t 3 = .osl 1 (1 + ((t.kids.take i).flatMap nodesT).length) /\ st.t 4 = .int .i64 i /\ st.H 0 = some (.box 27 (z08 t)) /\ st.H 1 = some (.row 27 (1 + ((t.kids.take i).flatMap nodesT).length) ((t :: (t.kids.take i).flatMap nodesT).flatMap z08)) /\ (i <= t.kids.length) /\ (2 <= st.nx)) ?_ ?_); rotate_left; (rintro U st ⟨i, rfl, q1, q3, q4, qH0, qH1, qp0, qp1⟩); rotate_left
 ·(refine ⟨_, 0, rfl, ?_⟩); (simp (disch := omega) only [go_sem, Nat.reduceBEq, Nat.reduceLeDiff, true_and, and_true, and_self, Int.natCast_zero, List.flatMap_nil, List.append_nil])
  try simp
 have hin := fun (h : i < t.kids.length) => ih t.kids[i] (List.getElem_mem h) (h4 _ (List.getElem_mem h)) (by have := zjo (List.getElem_mem h); omega)
 have hb := z5p t.kids (i + 1)
 by_cases hi : i < t.kids.length
 ·have hsu := z5q t.kids i hi
  have hil : (nodesT t.kids[i]).length = cntT t.kids[i] := rfl
  have htk : (t.kids.take (i + 1)).flatMap nodesT = (t.kids.take i).flatMap nodesT ++ nodesT t.kids[i] := by
   rw [List.take_succ_eq_append_getElem hi, List.flatMap_append]; simp
  repeat' (first | refine nxt ?_ | ((first | refine zqh fun K hK => ?_ | refine zqr fun K hK => ?_ | refine zqs (hin hi) ?_); (simp (disch := omega) only [go_sem, Nat.reduceBEq, ↓reduceIte, reduceCtorEq, Nat.reduceAdd, q1, q3, q4, qH0, qH1, z0n, zc7])) | (refine zqd _ rfl ?_ ?_ <;> intro hc <;> (((try simp only [z06] at hc); (try omega)))) | (refine hK _ ?_; clear hK K))
  (refine Exists.intro _ (And.intro ?_ ⟨i + 1, rfl, ?_⟩)); rotate_left; (simp (disch := omega) only [go_sem, Nat.reduceBEq, q1, q3, q4, qH0, qH1, true_and, Int.natCast_add, Int.natCast_one, List.flatMap_append, List.flatMap_cons, htk, hil, Nat.add_assoc, List.append_assoc]); rotate_left
  ·omega
  ·omega
 ·repeat' (first | refine nxt ?_ | ((refine zqh fun K hK => ?_); (simp (disch := omega) only [go_sem, Nat.reduceBEq, ↓reduceIte, reduceCtorEq, Nat.reduceAdd, q1, q3, q4, qH0, z0n])) | (refine zqd _ rfl ?_ ?_ <;> intro hc <;> (((try simp only [z06] at hc); (try omega)))) | refine zqz ?_ | refine zqu (by simp only [go_sem]; rfl) rfl ?_ | (refine hK _ ?_; clear hK K))
  have hi2 : i = t.kids.length := by omega
  subst hi2
  rw [List.take_length] at qH1
  rw [List.take_length]
  rw [<- z11] at qH1
  refine z6f (zja (f := z08) (l := nodesT t) 0 ?_ ?_ z9o zfh z2u z2a)
  ·rw [z11, List.length_cons]; omega
  ·(simp (disch := omega) only [go_sem, qH1])
namespace Tr
def zc2 (id : Idv) (t : T) : Int := ((z1z id t).length : Int) - 1
theorem zw9 {id : Idv} {t : T} (h : t.id = id) : zc2 id t = 0 := by unfold zc2; rw [z2q h]; rfl
theorem zwa {id : Idv} {t : T} (h : z1z id t = []) : zc2 id t = -1 := by unfold zc2; rw [h]; rfl
theorem z00e {id : Idv} {t k : T} (h : z1z id t = t :: z1z id k) : zc2 id t = zc2 id k + 1 := by
 unfold zc2; rw [h, List.length_cons, Int.natCast_add]; omega
theorem zni {id : Idv} {t : T} : 0 <= zc2 id t ↔ z1z id t ≠ [] := by
 unfold zc2
 cases z1z id t with
 | nil => simp
 | cons a l => simp only [List.length_cons, Int.natCast_add, ne_eq, reduceCtorEq, not_false_eq_true, iff_true]; omega
end Tr
theorem z00f (id : Idv) : ∀ t : T, szB t = true -> depT t <= 1000000000 -> PC prog 41 [z1e t, z50 id] (.tup [z1e (findR id t).1, .int .i64 (zc2 id t)]) := by
 refine z4l fun t ih hs V => ?_
 obtain ⟨h0, h1, g1, h2, g2, h3, h4⟩ := (z33 t).1 hs
 refine z2i 3 (by simp only [pureD.pureL, z0b]; rfl) (by simp only [pureD, pureD.pureL, z0b, Bool.and_self]) (z23 [3000023, 3000025, 3000026, 3000027, 5000028] func41 rfl (by decide +kernel) rfl ?_)
 show awp _ _ (Code.seq _ _) _ _
 rw [show Tryz.f41.results.toList = [.cell 4 27, .tmp 5] from rfl]
 repeat' (first | refine nxt ?_ | ((refine zqh fun K hK => ?_); (simp (disch := omega) only [go_sem, Nat.reduceBEq, ↓reduceIte, reduceCtorEq, Nat.reduceAdd, Nat.reduceLeDiff])) | (refine zqd _ rfl ?_ ?_ <;> intro hc <;> (((try simp only [z06] at hc); (try omega)))) | refine zqu (by (simp (disch := omega) only [go_sem, Nat.reduceBEq, ↓reduceIte, Nat.reduceLeDiff]); rfl) rfl ?_ | (refine hK _ ?_; clear hK K))
 ·rw [z9j (by assumption), zw9 (by assumption)]
  exact z1p (by simp only [pureD, pureD.pureL, z2a, Bool.and_self]) (Le.refl _)
 ·have hne : ¬ t.id = id := by assumption
  (refine z45 (fun U st => ∃ (i : _), U = t.kids.length - i /\ st.t 2 = .ptr 0 0 /\ st.t 3 = .ptr 1 0 /\ st.t 4 = .ptr 2 0 /\ st.t 6 = .int .i64 i /\ st.H 0 = some (.box 27 (z08 t)) /\ st.H 1 = some (.box 23 (cellsId id)) /\ st.H 2 = some (.box 27 [.int .i64 0, .int .i64 0, .int .i64 0, .int .i64 0, .str ByteArray.empty, .nil, .nil, .nil]) /\ (i <= t.kids.length) /\ (3 <= st.nx) /\ (∀ j, (hj : j < i) -> (h : j < t.kids.length) -> z1z id t.kids[j] = [])) ?_ ?_); rotate_left; (rintro U st ⟨i, rfl, q2, q3, q4, q6, qH0, qH1, qH2, qp0, qp1, qp2⟩); rotate_left
  ·(refine ⟨_, 0, rfl, ?_⟩); (simp (disch := omega) only [go_sem, Nat.reduceBEq, Nat.reduceLeDiff, true_and, Int.natCast_zero, cellsId])
   (repeat' (omega))
  by_cases hi : i < t.kids.length
  ·have hdk := z9v (List.getElem_mem hi)
   have hin := ih t.kids[i] (List.getElem_mem hi) (h4 _ (List.getElem_mem hi)) (by omega)
   have hlen := wayT_len id t.kids[i]
   have hdi : zc2 id t.kids[i] <= 1000000000 := by unfold zc2; omega
   repeat' (first | refine nxt ?_ | ((first | refine zqh fun K hK => ?_ | refine zqe (by decide +kernel) fun K hK => ?_ | refine zqr fun K hK => ?_ | refine zqt (hin) ?_); (simp (disch := omega) only [go_sem, Nat.reduceBEq, Nat.reduceEqDiff, ↓reduceIte, reduceCtorEq, Nat.reduceAdd, Nat.reduceLeDiff, q2, q3, q4, q6, qH0, qH1, qH2, z0n, cellsId])) | ((first | refine zqd _ rfl (fun hc => ?_) (fun hc => ?_) | refine zqm _ rfl (fun hc => ?_) (fun hc => ?_)) <;> (((try simp only [z06] at hc); (try omega)))) | refine zqu (by (simp (disch := omega) only [go_sem, Nat.reduceBEq, ↓reduceIte, Nat.reduceLeDiff, q4, qH2]); rfl) rfl ?_ | (refine hK _ ?_; clear hK K))
   ·have hf := zni.1 ‹0 <= zc2 id t.kids[i]›
    rw [z9k (z6l hne hi qp2 hf) hf, z00e (z6l hne hi qp2 hf)]
    refine z1p (by simp only [pureD, pureD.pureL, z2a, Bool.and_self]) ?_
    exact Le.refl _
   ·have hf : z1z id t.kids[i] = [] := Classical.byContradiction fun g => by have := zni.2 g; omega
    (refine Exists.intro _ (And.intro ?_ ⟨i + 1, rfl, ?_⟩)); rotate_left; (simp (disch := omega) only [go_sem, Nat.reduceBEq, Nat.reduceLeDiff, q2, q3, q4, q6, qH0, qH1, qH2, true_and, Int.natCast_add, Int.natCast_one, cellsId]); rotate_left
    ·omega
    ·refine ⟨by omega, by omega, fun j hj h => ?_⟩
     by_cases e : j = i
     ·subst e; exact hf
     ·exact qp2 j (by omega) h
  ·repeat' (first | refine nxt ?_ | ((refine zqh fun K hK => ?_); (simp (disch := omega) only [go_sem, Nat.reduceBEq, ↓reduceIte, reduceCtorEq, Nat.reduceAdd, Nat.reduceLeDiff, q2, q4, q6, qH0, qH2, z0n])) | (refine zqd _ rfl ?_ ?_ <;> intro hc <;> (((try simp only [z06] at hc); (try omega)))) | refine zqz ?_ | refine zqu (by (simp (disch := omega) only [go_sem, Nat.reduceBEq, ↓reduceIte, Nat.reduceAdd, Nat.reduceLeDiff, q4, qH2]); rfl) rfl ?_ | (refine hK _ ?_; clear hK K))
   rw [zeg (zex hne (by omega) qp2), zwa (zex hne (by omega) qp2)]
   exact z1p (by simp only [pureD, pureD.pureL, Bool.and_self]) (Le.tup ⟨zz5, Le.refl _, trivial⟩)
theorem zlp (u : T) (h : Fit50 u) : PC prog 39 [z1e u] (.bool (z32 u)) := by
 have hc := h.cnt
 have V := h.dep
 have c1 := pc_May u h.sz (by omega) (by omega)
 obtain ⟨h0, h1, g1, h2, g2, h3, h4⟩ := (z33 u).1 h.sz
 refine z2i 1 (by simp only [pureD.pureL, z0b, Bool.and_self]) rfl (z23 [] func39 rfl (by decide +kernel) rfl ?_)
 show awp _ _ (Code.seq _ _) _ _
 unfold z32
 by_cases O : u.kind = 0
 ·cases hv : z55 u
  ·rw [hv] at c1
   repeat' (first | ((first | refine zqh fun K hK => ?_ | refine zqe (by decide +kernel) fun K hK => ?_ | refine zqt (c1) ?_); (simp (disch := omega) only [go_sem, Nat.reduceBEq, ↓reduceIte, reduceCtorEq, Nat.reduceAdd, Nat.reduceLeDiff, O])) | refine nxt ?_ | refine zqu (by simp only [go_sem]; rfl) rfl ?_ | (refine hK _ ?_; clear hK K))
   exact z00 (by simp [O])
  ·rw [hv] at c1
   cases hks : u.kids with
   | nil =>
    repeat' (first | ((first | refine zqh fun K hK => ?_ | refine zqe (by decide +kernel) fun K hK => ?_ | refine zqt (c1) ?_); (simp (disch := omega) only [go_sem, Nat.reduceBEq, ↓reduceIte, reduceCtorEq, Nat.reduceAdd, Nat.reduceLeDiff, O, hks, z0n, List.map_nil, List.length_nil])) | refine nxt ?_ | refine zqu (by (simp (disch := omega) only [go_sem, Nat.reduceBEq, ↓reduceIte]); rfl) rfl ?_ | (refine hK _ ?_; clear hK K))
    exact z00 (by simp [O])
   | cons k l =>
    have hi0 : ∀ (d : D) (ds : List D), zgt (d :: ds) 0 = some d := fun d ds => by unfold zgt; simp
    repeat' (first | ((first | refine zqh fun K hK => ?_ | refine zqe (by decide +kernel) fun K hK => ?_ | refine zqt (c1) ?_); (simp (disch := omega) only [go_sem, Nat.reduceBEq, ↓reduceIte, reduceCtorEq, Nat.reduceAdd, Nat.reduceLeDiff, O, hks, z0n, List.map_cons, List.length_cons])) | refine nxt ?_ | refine zqu (by simp only [go_sem]; rfl) rfl ?_ | (refine hK _ ?_; clear hK K) | (refine zqf (fun hb => ?_) (fun hb => ?_) <;> (have hb2 := hb; try simp only [z06] at hb2) <;> ((first | have F := eq_false hb2 | have F := eq_true hb2); (simp (disch := omega) only [go_sem, Nat.reduceBEq, ↓reduceIte, reduceCtorEq, Nat.reduceAdd, Nat.reduceLeDiff, F, hks, z0n, List.map_cons, List.length_cons, hi0]); clear hb F; (try omega))))
    exact z00 (by simp [O])
 ·skip
  repeat' (first | ((first | refine zqh fun K hK => ?_ | refine zqe (by decide +kernel) fun K hK => ?_); (simp (disch := omega) only [go_sem, Nat.reduceBEq, ↓reduceIte, reduceCtorEq, Nat.reduceAdd, O])) | refine nxt ?_ | refine zqu (by simp only [go_sem]; rfl) rfl ?_ | (refine hK _ ?_; clear hK K))
  exact z00 (by simp [O])
theorem deep_has (i : Idv) (u : T) : decide (0 <= zc2 i u) = z2e i u := by
 rw [z1l, decide_eq_decide, zni]
 exact zb7
theorem pc_Can49 (A B : T) (fa : Fit50 A) (fb : Fit50 B) : PC prog 18 [z1e A, z1e B] (.bool (z8k A B)) := by
 have V := fb.dep
 have hc := fa.cnt
 have c1 := zlp A fa
 have c2 := zlp B fb
 have c3 := zx7 A fa.sz (by omega)
 refine z2i 1 (by simp only [pureD.pureL, z0b, Bool.and_self]) rfl (z23 [3000026, 3000029, 3000031, 5000032] func18 rfl (by decide +kernel) rfl ?_)
 show awp _ _ (Code.seq _ _) _ _
 have hcm : z8k A B = (z32 A && (z32 B && z3c A B)) := rfl
 cases ha : z32 A
 ·rw [ha] at c1 hcm
  repeat' (first | refine nxt ?_ | ((first | refine zqh fun K hK => ?_ | refine zqs (c1) ?_); (simp (disch := omega) only [go_sem, Nat.reduceBEq, ↓reduceIte, Nat.reduceAdd, Nat.reduceLeDiff])) | (refine zqd _ rfl ?_ ?_ <;> intro hc <;> (first | (cases hc; done) | ((try simp only [] at hc); (try omega)))) | refine zqu (by simp only [go_sem]; rfl) rfl ?_ | (refine hK _ ?_; clear hK K))
  exact z00 (by rw [hcm]; rfl)
 rw [ha] at c1 hcm
 cases hb2 : z32 B
 ·rw [hb2] at c2 hcm
  repeat' (first | refine nxt ?_ | ((first | refine zqh fun K hK => ?_ | refine zqs (c1) ?_ | refine zqs (c2) ?_); (simp (disch := omega) only [go_sem, Nat.reduceBEq, ↓reduceIte, Nat.reduceAdd, Nat.reduceLeDiff])) | (refine zqd _ rfl ?_ ?_ <;> intro hc <;> (first | (cases hc; done) | ((try simp only [] at hc); (try omega)))) | refine zqu (by simp only [go_sem]; rfl) rfl ?_ | (refine hK _ ?_; clear hK K))
  exact z00 (by rw [hcm]; rfl)
 rw [hb2] at c2 hcm
 rw [Bool.true_and, Bool.true_and] at hcm
 repeat' (first | refine nxt ?_ | ((first | refine zqh fun K hK => ?_ | refine zqs (c1) ?_ | refine zqs (c2) ?_ | refine zqs (c3) ?_); (simp (disch := omega) only [go_sem, Nat.reduceBEq, ↓reduceIte, Nat.reduceAdd, Nat.reduceLeDiff])) | (refine zqd _ rfl ?_ ?_ <;> intro hc <;> (first | (cases hc; done) | ((try simp only [] at hc); (try omega)))) | (refine hK _ ?_; clear hK K))
 (refine z45 (fun U st => ∃ (n : Nat), U = cntT A - n /\ st.t 3 = .ptr 1 0 /\ st.t 5 = z0n (nodesT A) /\ st.t 6 = .int .i64 n /\ st.H (1) = some (.box 27 (z08 B)) /\ (n <= cntT A) /\ (2 <= st.nx) /\ (∀ x ∈ (nodesT A).take n, (!z2e x.id B || decide ((findR x.id B).1.kind = x.kind)) = true)) ?_ ?_); rotate_left; (rintro U st ⟨n, rfl, v3, v5, v6, vH1, vp0, vp1, vp2⟩); rotate_left
 ·(refine ⟨_, 0, rfl, ?_⟩); (simp (disch := omega) only [go_sem, Nat.reduceBEq, Nat.reduceLeDiff, true_and, Int.natCast_zero, z0n])
  exact fun x hx => by cases hx
 have e0 := z02 (show 1 < st.nx by omega)
 by_cases hn : n < cntT A
 ·have hn' : n < (nodesT A).length := hn
  have c4 := z00f (nodesT A)[n].id B fb.sz (by omega)
  have hdp := deep_has (nodesT A)[n].id B
  have htk := List.take_succ_eq_append_getElem hn'
  cases hB : z2e (nodesT A)[n].id B
  ·rw [hB, decide_eq_false_iff_not] at hdp
   repeat' (first | refine nxt ?_ | ((first | refine zqh fun K hK => ?_ | refine zqe (by decide +kernel) fun K hK => ?_ | refine zqr fun K hK => ?_ | refine zqt (c4) ?_); (simp (disch := omega) only [go_sem, Nat.reduceBEq, Nat.reduceEqDiff, ↓reduceIte, reduceCtorEq, Nat.reduceAdd, Nat.reduceLeDiff, v3, v5, v6, vH1, z0n, hdp])) | ((first | refine zqd _ rfl (fun hc => ?_) (fun hc => ?_) | refine zqm _ rfl (fun hc => ?_) (fun hc => ?_)) <;> (first | (cases hc; done) | ((try simp only [z06] at hc); (try omega)))) | (refine hK _ ?_; clear hK K))
   (refine Exists.intro _ (And.intro ?_ ⟨n + 1, rfl, ?_⟩)); rotate_left; (simp (disch := omega) only [go_sem, Nat.reduceBEq, Nat.reduceLeDiff, v3, v5, v6, vH1, true_and, Int.natCast_add, Int.natCast_one, e0]); rotate_left
   ·omega
   ·exact ⟨by omega, by omega, fun x hx => by
     rw [htk, List.mem_append, List.mem_singleton] at hx
     rcases hx with hx | rfl
     ·exact vp2 x hx
     ·rw [hB]; simp⟩
  ·rw [hB, decide_eq_true_eq] at hdp
   by_cases O : (findR (nodesT A)[n].id B).1.kind = (nodesT A)[n].kind
   ·repeat' (first | refine nxt ?_ | ((first | refine zqh fun K hK => ?_ | refine zqe (by decide +kernel) fun K hK => ?_ | refine zqr fun K hK => ?_ | refine zqt (c4) ?_); (simp (disch := omega) only [go_sem, Nat.reduceBEq, Nat.reduceEqDiff, ↓reduceIte, reduceCtorEq, Nat.reduceAdd, Nat.reduceLeDiff, v3, v5, v6, vH1, z0n, hdp, O])) | ((first | refine zqd _ rfl (fun hc => ?_) (fun hc => ?_) | refine zqm _ rfl (fun hc => ?_) (fun hc => ?_)) <;> (first | (cases hc; done) | ((try simp only [z06] at hc); (try omega)))) | (refine hK _ ?_; clear hK K))
    (refine Exists.intro _ (And.intro ?_ ⟨n + 1, rfl, ?_⟩)); rotate_left; (simp (disch := omega) only [go_sem, Nat.reduceBEq, Nat.reduceLeDiff, v3, v5, v6, vH1, true_and, Int.natCast_add, Int.natCast_one, e0]); rotate_left
    ·omega
    ·exact ⟨by omega, by omega, fun x hx => by
      rw [htk, List.mem_append, List.mem_singleton] at hx
      rcases hx with hx | rfl
      ·exact vp2 x hx
      ·rw [hB]; simp [O]⟩
   ·repeat' (first | refine nxt ?_ | ((first | refine zqh fun K hK => ?_ | refine zqe (by decide +kernel) fun K hK => ?_ | refine zqt (c4) ?_); (simp (disch := omega) only [go_sem, Nat.reduceBEq, Nat.reduceEqDiff, ↓reduceIte, reduceCtorEq, Nat.reduceAdd, Nat.reduceLeDiff, v3, v5, v6, vH1, z0n, hdp, O])) | ((first | refine zqd _ rfl (fun hc => ?_) (fun hc => ?_) | refine zqm _ rfl (fun hc => ?_) (fun hc => ?_)) <;> (first | (cases hc; done) | ((try simp only [z06] at hc); (try omega)))) | refine zqu (by simp only [go_sem]; rfl) rfl ?_ | (refine hK _ ?_; clear hK K))
    refine z00 ?_
    rw [hcm]
    unfold z3c
    refine (List.all_eq_false.2 ⟨_, List.getElem_mem hn', ?_⟩).symm
    rw [hB]; simp [O]
 ·have hn2 : ¬ n < (nodesT A).length := hn
  repeat' (first | refine nxt ?_ | ((refine zqh fun K hK => ?_); (simp (disch := omega) only [go_sem, Nat.reduceBEq, ↓reduceIte, v5, v6, z0n])) | (refine zqd _ rfl ?_ ?_ <;> intro hc <;> (((try simp only [z06] at hc); (try omega)))) | refine zqz ?_ | refine zqu (by simp only [go_sem]; rfl) rfl ?_ | (refine hK _ ?_; clear hK K))
  have hta : (nodesT A).take n = nodesT A := List.take_of_length_le (by omega)
  rw [hta] at vp2
  refine z00 ?_
  rw [hcm]
  unfold z3c
  exact (List.all_eq_true.2 vp2).symm
namespace Tr
theorem zkl {s : Int} (hs : ¬ s = 0) {l : List Tw} (h : (l.all fun w => decide (w.state = 0)) = true) : z7w s l = 0 := by
 unfold z7w
 rw [List.countP_eq_zero]
 intro w hw
 have := List.all_eq_true.1 h w hw
 simp only [decide_eq_true_eq] at this ⊢
 rw [this]; exact fun e => hs e.symm
theorem zom {s : Int} (hs : ¬ s = 0) : ∀ t : TT, z4v t = true -> wtT (wS s) t = 0 := by
 refine zcs fun t ih h => ?_
 rw [z5u] at h
 simp only [Bool.and_eq_true] at h
 obtain ⟨_, _, _, h4, h5, h6⟩ := h
 rw [zhp]
 have e : t.kids.map (wtT (wS s)) = t.kids.map fun _ => 0 := List.map_congr_left fun k O => ih k O (List.all_eq_true.1 h6 k O)
 rw [e, zc6]
 unfold wS
 rw [zkl hs h4, zkl hs h5]
theorem zrg {a : T} (h : z32 a = true) : z4v (zeb a (z2c a)) = true := by
 have na := ((z1j a).1 h).2.2
 have e : zeb a (z2c a) = zeb a a := by
  have e1 := zpo (A := a) (B := z2c a) na
  have e2 := zpo (A := a) (B := a) na
  rw [unm_unm] at e1
  rw [<- e1, e2]
 have e3 : mvB a a = fun _ => false := by
  funext i
  unfold mvB
  rw [zzi na fun x hx => by have := (z97 h hx).1; omega]
  rfl
 rw [e]
 unfold zeb
 rw [e3]
 exact zrr na (fun x hx => (z97 h hx).2.1) a (z0a a)
theorem new_fit : ∀ t : TT, zgw t = true -> zic (zpv t) = true := by
 refine zcs fun t ih h => ?_
 obtain ⟨h1, h2, h3, h4⟩ := (zfi t).1 h
 have ho : ∀ (s : Int) (l : List Tw), l.length <= maxLen -> (za2 s l).length <= maxLen := fun s l hl => by
  unfold za2
  rw [List.length_map]
  exact Nat.le_trans (List.length_filter_le _ _) hl
 rw [zma]
 refine (z8p _).2 ⟨ho _ _ h1, ho _ _ h2, ?_, fun k O => ?_⟩
 ·simp only [T.kids, List.length_map]
  exact Nat.le_trans (List.length_filter_le _ _) h3
 ·simp only [T.kids, List.mem_map] at O
  obtain ⟨q, hq, rfl⟩ := O
  have hq := (List.mem_filter.1 hq).1
  exact ih q hq (h4 q hq)
end Tr
theorem zrh : ∀ a : T, zic a = true -> PC prog 14 [z1e a, z1e a] (.bool true) := by
 refine z4l fun a ih hs => ?_
 obtain ⟨a1, a2, a3, a4⟩ := (z8p a).1 hs
 have r1 := zo3 a.head a.head a1 a1
 have r2 := zo3 a.words a.words a2 a2
 rw [decide_eq_true rfl] at r1 r2
 unfold maxLen at a1 a2 a3
 refine z2i 1 (by simp only [pureD.pureL, z0b, Bool.and_self]) rfl (z23 [] func14 rfl (by decide +kernel) rfl ?_)
 show awp _ _ (Code.seq _ _) _ _
 repeat' (first | refine nxt ?_ | ((first | refine zqh fun K hK => ?_ | refine zqs (r1) ?_ | refine zqs (r2) ?_); (simp (disch := omega) only [go_sem, Nat.reduceBEq, ↓reduceIte, reduceCtorEq, Nat.reduceAdd, Nat.reduceLeDiff, z0n])) | (refine zqd _ rfl ?_ ?_ <;> intro hc <;> (first | (cases hc; done) | ((try simp only [] at hc); (try omega)))) | (refine hK _ ?_; clear hK K))
 (refine z45 (fun U st => ∃ (k : Nat), U = a.kids.length - k /\ st.t 2 = .ptr 0 0 /\ st.t 3 = .ptr 1 0 /\ st.t 5 = .int .i64 k /\ st.H 0 = some (.box 27 (z08 a)) /\ st.H 1 = some (.box 27 (z08 a)) /\ (k <= a.kids.length) /\ (2 <= st.nx)) ?_ ?_); rotate_left; (rintro U st ⟨k, rfl, q2, q3, q5, qH0, qH1, qp0, qp1⟩); rotate_left
 ·(refine ⟨_, 0, rfl, ?_⟩); (simp (disch := omega) only [go_sem, Nat.reduceBEq, Nat.reduceLeDiff, and_self, Int.natCast_zero])
  try simp
 by_cases O : k < a.kids.length
 ·have hin := ih a.kids[k] (List.getElem_mem O) (a4 _ (List.getElem_mem O))
  repeat' (first | refine nxt ?_ | ((first | refine zqh fun K hK => ?_ | refine zqe (by decide +kernel) fun K hK => ?_ | refine zqr fun K hK => ?_ | refine zqt (hin) ?_); (simp (disch := omega) only [go_sem, Nat.reduceBEq, ↓reduceIte, reduceCtorEq, Nat.reduceAdd, q2, q3, q5, qH0, qH1, z0n])) | ((first | refine zqd _ rfl (fun hc => ?_) (fun hc => ?_) | refine zqm _ rfl (fun hc => ?_) (fun hc => ?_)) <;> (first | (cases hc; done) | ((try simp only [z06] at hc); (try omega)))) | refine Abs.zqv ?_ | (refine hK _ ?_; clear hK K))
  (refine Exists.intro _ (And.intro ?_ ⟨k + 1, rfl, ?_⟩)); rotate_left; (simp (disch := omega) only [go_sem, Nat.reduceBEq, q2, q3, q5, qH0, qH1, true_and, Int.natCast_add, Int.natCast_one]); rotate_left
  ·omega
  ·omega
 ·repeat' (first | refine nxt ?_ | ((refine zqh fun K hK => ?_); (simp (disch := omega) only [go_sem, Nat.reduceBEq, ↓reduceIte, reduceCtorEq, Nat.reduceAdd, q2, q5, qH0, z0n])) | (refine zqd _ rfl ?_ ?_ <;> intro hc <;> (((try simp only [z06] at hc); (try omega)))) | refine Abs.zqv ?_ | refine zqz ?_ | refine zqu (by simp only [go_sem]; rfl) rfl ?_ | (refine hK _ ?_; clear hK K))
  exact z00 rfl
set_option maxHeartbeats 16000000 in
theorem zgs (a : T) (t : TT) (hfa : zic a = true) (hft : zgw t = true) : PC prog 4 [z1e a, z26 t] (.bool true) := by
 have c1 := zre
 have c2 := pc_Few a hfa 30 (by decide) (by decide)
 have c3 := zzv t hft 40 (by decide) (by decide)
 refine z2i 1 (by simp only [pureD.pureL, z0b, z1h, Bool.and_self]) rfl (z23 [8000000, 3000019, 5000020, 3000022, 5000023, 3000024, 5000025, 5000026, 3000030, 3000031, 5000032, 5000033] func4 rfl (by decide +kernel) rfl ?_)
 show awp _ _ (Code.seq _ _) _ _
 cases h : fewB a 30
 ·rw [h] at c2
  repeat' (first | refine nxt ?_ | ((first | refine zqh fun K hK => ?_ | refine zqs (c1) ?_ | refine zqs (c2) ?_); (simp (disch := omega) only [go_sem, Nat.reduceBEq, ↓reduceIte, Nat.reduceAdd, Nat.reduceLeDiff])) | (refine zqd _ rfl ?_ ?_ <;> intro hc <;> (first | (cases hc; done) | ((try simp only [] at hc); (try omega)))) | refine zqu (by simp only [go_sem]; rfl) rfl ?_ | (refine hK _ ?_; clear hK K))
  exact z00 rfl
 rw [h] at c2
 have fa := fit_few (by omega) (by omega) h
 cases h3 : decide (z2k t 0 40 <= 40)
 ·rw [h3] at c3
  repeat' (first | refine nxt ?_ | ((first | refine zqh fun K hK => ?_ | refine zqs (c1) ?_ | refine zqs (c2) ?_ | refine zqs (c3) ?_); (simp (disch := omega) only [go_sem, Nat.reduceBEq, ↓reduceIte, Nat.reduceAdd, Nat.reduceLeDiff])) | (refine zqd _ rfl ?_ ?_ <;> intro hc <;> (first | (cases hc; done) | ((try simp only [] at hc); (try omega)))) | refine zqu (by simp only [go_sem]; rfl) rfl ?_ | (refine hK _ ?_; clear hK K))
  exact z00 rfl
 rw [h3] at c3
 have hs := zvd t 0 40 (by omega) (by omega) (of_decide_eq_true h3)
 have c4 := zdt t hs
 have m1 := zmg a fa.sz
 have k1 := pc_Can49 a a fa fa
 have c5 := zyq t hs
 have c7 := zrh (zpv t) (new_fit t hft)
 rw [zjh] at k1
 cases hb : z32 a
 ·rw [hb] at k1
  have d1 := zti a (z2c a) fa (zt8 fa) (by rw [zpn, zjh]; exact hb)
  cases hp : z4v t
  ·rw [hp] at c4
   repeat' (first | refine nxt ?_ | ((first | refine zqh fun K hK => ?_ | refine zqe (by decide +kernel) fun K hK => ?_ | refine zqs (c1) ?_ | refine zqs (c2) ?_ | refine zqs (c3) ?_ | refine zqt (c4) ?_ | refine zqt (m1) ?_ | refine zqt (d1) ?_ | refine zqs (k1) ?_); (simp (disch := omega) only [go_sem, Nat.reduceBEq, Nat.reduceEqDiff, ↓reduceIte, Nat.reduceAdd, Nat.reduceLeDiff, Nat.reduceLT, Int.reduceEq])) | (refine zqd _ rfl ?_ ?_ <;> intro hc <;> (first | (cases hc; done) | ((try simp only [] at hc); (try omega)))) | refine zqu (by simp only [go_sem]; rfl) rfl ?_ | (refine hK _ ?_; clear hK K))
   exact z00 rfl
  ·have c6 := pc_Old (zrq t + 1) t hs (zpv t) [] (zov t hp _ (Nat.lt_succ_self _) [])
   rw [hp] at c4
   repeat' (first | refine nxt ?_ | ((first | refine zqh fun K hK => ?_ | refine zqe (by decide +kernel) fun K hK => ?_ | refine zqs (c1) ?_ | refine zqs (c2) ?_ | refine zqs (c3) ?_ | refine zqt (c4) ?_ | refine zqt (c5) ?_ | refine zqt (c6) ?_ | refine zqt (c7) ?_ | refine zqt (m1) ?_ | refine zqt (d1) ?_ | refine zqs (k1) ?_); (simp (disch := omega) only [go_sem, Nat.reduceBEq, Nat.reduceEqDiff, ↓reduceIte, Nat.reduceAdd, Nat.reduceLeDiff, Nat.reduceLT, Int.reduceEq])) | (refine zqd _ rfl ?_ ?_ <;> intro hc <;> (first | (cases hc; done) | ((try simp only [] at hc); (try omega)))) | refine zqu (by simp only [go_sem]; rfl) rfl ?_ | (refine hK _ ?_; clear hK K))
   exact z00 rfl
 ·have hc : z8k a (z2c a) = true := by rw [zpn, zjh]; exact hb
  have d1 := zth a (z2c a) fa (zt8 fa) hc
  have hz := diff_sz fa.sz (unm_sz a fa.sz)
  have hpl := zrg hb
  have w1 := zom (s := 1) (by decide) _ hpl
  have w2 := zom (s := 2) (by decide) _ hpl
  have d2 := zq7 _ hz (by rw [w1]; omega) (by rw [w2]; omega)
  have d3 := zdt _ hz
  rw [w1, w2] at d2
  rw [hpl] at d3
  cases hp : z4v t
  ·rw [hp] at c4
   repeat' (first | refine nxt ?_ | ((first | refine zqh fun K hK => ?_ | refine zqe (by decide +kernel) fun K hK => ?_ | refine zqs (c1) ?_ | refine zqs (c2) ?_ | refine zqs (c3) ?_ | refine zqt (c4) ?_ | refine zqt (m1) ?_ | refine zqt (d1) ?_ | refine zqs (d2) ?_ | refine zqs (d3) ?_); (simp (disch := omega) only [go_sem, Nat.reduceBEq, Nat.reduceEqDiff, ↓reduceIte, Nat.reduceAdd, Nat.reduceLeDiff, Nat.reduceLT])) | (refine zqd _ rfl ?_ ?_ <;> intro hc <;> (first | (cases hc; done) | ((try simp only [] at hc); (try omega)))) | refine zqu (by (simp (disch := omega) only [go_sem, Nat.reduceBEq]); rfl) rfl ?_ | (refine hK _ ?_; clear hK K))
   exact z00 rfl
  ·have c6 := pc_Old (zrq t + 1) t hs (zpv t) [] (zov t hp _ (Nat.lt_succ_self _) [])
   rw [hp] at c4
   repeat' (first | refine nxt ?_ | ((first | refine zqh fun K hK => ?_ | refine zqe (by decide +kernel) fun K hK => ?_ | refine zqs (c1) ?_ | refine zqs (c2) ?_ | refine zqs (c3) ?_ | refine zqt (c4) ?_ | refine zqt (c5) ?_ | refine zqt (c6) ?_ | refine zqt (c7) ?_ | refine zqt (m1) ?_ | refine zqt (d1) ?_ | refine zqs (d2) ?_ | refine zqs (d3) ?_); (simp (disch := omega) only [go_sem, Nat.reduceBEq, Nat.reduceEqDiff, ↓reduceIte, Nat.reduceAdd, Nat.reduceLeDiff, Nat.reduceLT])) | (refine zqd _ rfl ?_ ?_ <;> intro hc <;> (first | (cases hc; done) | ((try simp only [] at hc); (try omega)))) | refine zqu (by (simp (disch := omega) only [go_sem, Nat.reduceBEq]); rfl) rfl ?_ | (refine hK _ ?_; clear hK K))
   exact z00 rfl
end
end Go.Proofs.YtfechgagcgbldaaGreatDoor
