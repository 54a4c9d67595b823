import Derived.Test.YtmnabhhdiinfaaaGreatDoorWE
/-
 Lemmas of the claim. No condition but those that each names.
-/
set_option linter.unusedSimpArgs false
set_option linter.unusedVariables false
set_option maxRecDepth 100000
set_option maxHeartbeats 8000000
set_option linter.unusedSectionVars false
namespace Go.Proofs.YtmnabhhdiinfaaaGreatDoor
section
open Abs Facts Tr
attribute [local irreducible] awp
namespace Tr
def T.setLabel (t : T) (s : ByteArray) : T := .mk t.id t.kind s t.head t.words t.kids
def T.setWords (t : T) (l : List Wd) : T := .mk t.id t.kind t.label t.head l t.kids
def T.setHead (t : T) (l : List Wd) : T := .mk t.id t.kind t.label l t.words t.kids
def zd2 (u : T) (id : Idv) (name : ByteArray) : Bool := decide ((z08 id u).1.label = name) || ((z6d id u).2.2 && z44 (z08 (z6d id u).1 u).1.kids (z08 id u).1.kind name)
def zln (u : T) (id : Idv) (name : ByteArray) : Int :=
 if standsT u = false \/ z46 name = false then 1 else
 if (z08 id u).2 = false then 4 else
 if (z08 id u).1.kind = 0 then 9 else
 if zd2 u id name = true then 10 else 0
end Tr
theorem zne (u : T) (hu : szB u = true) (cu : cntT u <= 1000000) (du : depT u <= 1000000) (x : T) (id : Idv) (name : ByteArray) : PC Tryz.prog 81 [.rptr (z0p u), .rptr (z16 id), .rptr (z0p x), .rptr (.str name)] (.bool (decide (x.label = name) || ((z6d id u).2.2 && z44 (z08 (z6d id u).1 u).1.kids x.kind name))) := by
 have hp := zf7 (z6d id u).1 u hu
 have c1 := zbg u (z7g u hu) (by omega) id
 have c2 := z84 u (z7g u hu) (by omega) (z6d id u).1
 have c3 := zi8 (z08 (z6d id u).1 u).1.kids (zek hp).1 x.kind name
 refine z24 1 (by simp only [pureD.pureL, z02, pureD, Bool.and_self]; rfl) rfl (z17 [] Tryz.func81 rfl (by decide +kernel) z0b (by decide +kernel) (by simp [Tryz.ntmps81]) ?_)
 show awp _ _ (Code.seq _ _) _ _
 repeat' (first | ((first | refine zqh fun K J => ?_ | refine zqs (c1) ?_ | refine zqs (c2) ?_ | refine zqs (c3) ?_); (simp (disch := omega) only [go_sem, Nat.reduceBEq, ↓reduceIte, reduceCtorEq, Nat.reduceAdd, Nat.reduceLeDiff])) | refine zqn ?_ | refine zqu (by (simp (disch := omega) only [go_sem]); rfl) rfl ?_ | (refine J _ ?_; clear J K) | (refine zqf (fun hb => ?_) (fun hb => ?_) <;> (have hb2 := hb; try simp only [z0d] at hb2) <;> ((first | have hb3 : (_ : Bool) = _ := hb2 | have hb3 := eq_false hb2 | have hb3 := eq_true hb2); (simp (disch := omega) only [go_sem, Nat.reduceBEq, ↓reduceIte, reduceCtorEq, Nat.reduceAdd, hb, hb3, z1p]); clear hb hb3; (try (exfalso; omega)))))
 all_goals exact z03 (by simp [*])
theorem znf (ok : Bool) : PC Tryz.prog 83 [.rptr (.bool ok)] (.bool (!ok)) := by
 refine z24 1 (by simp only [pureD.pureL, pureD, Bool.and_self]) rfl (z17 [] Tryz.func83 rfl (by decide +kernel) z0b (by decide +kernel) (by simp [Tryz.ntmps83]) ?_)
 show awp _ _ (Code.seq _ _) _ _
 repeat' (first | ((refine zqh fun K J => ?_); (simp (disch := omega) only [go_sem, Nat.reduceBEq, ↓reduceIte, Nat.reduceAdd])) | refine zqn ?_ | refine zqu (by (simp (disch := omega) only [go_sem]); rfl) rfl ?_ | (refine J _ ?_; clear J K))
 exact z03 rfl
theorem zng (x : T) : PC Tryz.prog 84 [.rptr (z0p x)] (.bool (decide (x.kind = 0))) := by
 refine z24 1 (by simp only [pureD.pureL, z02, pureD, Bool.and_self]) rfl (z17 [] Tryz.func84 rfl (by decide +kernel) z0b (by decide +kernel) (by simp [Tryz.ntmps84]) ?_)
 show awp _ _ (Code.seq _ _) _ _
 repeat' (first | ((refine zqh fun K J => ?_); (simp (disch := omega) only [go_sem, Nat.reduceBEq, ↓reduceIte, reduceCtorEq, Nat.reduceAdd])) | refine zqn ?_ | refine zqu (by (simp (disch := omega) only [go_sem]); rfl) rfl ?_ | (refine J _ ?_; clear J K))
 exact z03 rfl
theorem znh (q : T) (name : ByteArray) : PC Tryz.prog 85 [z0p q, .rptr (.str name)] (z0p (q.setLabel name)) := by
 refine z24 1 (by simp only [pureD.pureL, z02, pureD, Bool.and_self]) (z02 _) (z17 [] Tryz.func85 rfl (by decide +kernel) z0b (by decide +kernel) (by simp [Tryz.ntmps85]) ?_)
 show awp _ _ (Code.seq _ _) _ _
 rw [show Tryz.f85.results.toList = [.cell 3 27] from rfl]
 rw [show z0p q = .agg _ from by rw [z0p, z0l]]
 repeat' (first | ((refine zqh fun K J => ?_); (simp (disch := omega) only [go_sem, Nat.reduceBEq, ↓reduceIte, reduceCtorEq, Nat.reduceAdd, Nat.reduceLeDiff, Nat.reduceLT, List.set_cons_succ, List.set_cons_zero])) | refine zqn ?_ | refine zqu (by (simp (disch := omega) only [go_sem, Nat.reduceBEq, ↓reduceIte, Nat.reduceAdd, Nat.reduceLeDiff]); rfl) rfl ?_ | (refine J _ ?_; clear J K))
 rw [z0p, z0l]
 exact z0v (by simp only [pureD, pureD.pureL, z0j, z4c, Bool.and_self]) (Le.refl _)
theorem zwj (ok : Bool) (x : T) (b : Bool) (f1 f2 f3 : FuncId) (c1 c2 c3 : List D) : z7e [(f1, c1, 4, !ok), (f2, c2, 9, decide (x.kind = 0)), (f3, c3, 10, b)] = (if ok = false then 4 else if x.kind = 0 then 9 else if b = true then 10 else 0) := by
 cases ok
 ·rw [if_pos rfl]; rfl
 rw [if_neg (by simp), Bool.not_true, z48]
 by_cases h : x.kind = 0
 ·rw [if_pos h, decide_eq_true h]; rfl
 rw [if_neg h, decide_eq_false h, z48]
 cases b
 ·rw [if_neg (by simp)]; rfl
 ·rw [if_pos rfl]; rfl
theorem zry (u : T) (hu : szB u = true) (cu : cntT u <= 1000000) (du : depT u <= 1000000) (id : Idv) (name : ByteArray) (hn : name.size <= 1000000) :
  PC Tryz.prog 29 [z0p u, z16 id, .str name] (.tup [z0p (if zln u id name = 0 then z1b id (fun q => q.setLabel name) u else T.zero), .int .i64 (zln u id name)]) := by
 have c1 := z7i u hu (by omega) (by omega)
 have c2 := zbn name (by unfold maxLen; omega)
 have c3 := z84 u (z7g u hu) (by omega) id
 have c4 := z9r [(83, [.rptr (.bool (z08 id u).2)], 4, !(z08 id u).2), (84, [.rptr (z0p (z08 id u).1)], 9, decide ((z08 id u).1.kind = 0)), (81, [.rptr (z0p u), .rptr (z16 id), .rptr (z0p (z08 id u).1), .rptr (.str name)], 10, zd2 u id name)]
  (by simp) (by
   intro c hc
   simp only [List.mem_cons, List.not_mem_nil, or_false] at hc
   rcases hc with rfl | rfl | rfl
   ·exact ⟨rfl, znf _⟩
   ·exact ⟨by simp only [pureD.pureL, z02, pureD, Bool.and_self], zng _⟩
   ·exact ⟨by simp only [pureD.pureL, z02, pureD, Bool.and_self]; rfl, zne u hu cu du _ id name⟩)
 rw [zwj] at c4
 refine z24 3 (by simp only [pureD.pureL, z02, pureD, Bool.and_self]; rfl) (by simp only [pureD.pureL, z02, pureD, Bool.and_self]) (z17 [] Tryz.func29 rfl (by decide +kernel) z0b (by decide +kernel) (by simp [Tryz.ntmps29]) ?_)
 show awp _ _ (Code.seq _ _) _ _
 rw [show Tryz.f29.results.toList = [.cell 6 27, .tmp 7] from rfl]
 by_cases h1 : standsT u = false
 ·rw [show zln u id name = 1 from by unfold zln; rw [if_pos (.inl h1)], if_neg (by decide)]
  rw [h1] at c1
  repeat' (first | refine zqj ?_ | ((first | refine zqh fun K J => ?_ | refine zqs (c1) ?_); (simp (disch := omega) only [go_sem, Nat.reduceBEq, ↓reduceIte, Nat.reduceAdd, Nat.reduceLeDiff])) | ((refine zqd _ rfl (fun hc => ?_) (fun hc => ?_)) <;> (first | (cases hc; done) | ((try simp only [] at hc); (try (exfalso; omega))))) | refine zqg ?_ | refine zqu (by (simp (disch := omega) only [go_sem, Nat.reduceBEq, ↓reduceIte, Nat.reduceAdd, Nat.reduceLeDiff]); rfl) rfl ?_ | (refine J _ ?_; clear J K))
  exact z0v rfl (Le.tup ⟨z3w, Le.refl _, trivial⟩)
 by_cases h2 : z46 name = false
 ·rw [show zln u id name = 1 from by unfold zln; rw [if_pos (.inr h2)], if_neg (by decide)]
  rw [Bool.not_eq_false] at h1
  rw [h1] at c1
  rw [h2] at c2
  repeat' (first | refine zqj ?_ | ((first | refine zqh fun K J => ?_ | refine zqs (c1) ?_ | refine zqs (c2) ?_); (simp (disch := omega) only [go_sem, Nat.reduceBEq, ↓reduceIte, Nat.reduceAdd, Nat.reduceLeDiff])) | ((refine zqd _ rfl (fun hc => ?_) (fun hc => ?_)) <;> (first | (cases hc; done) | ((try simp only [] at hc); (try (exfalso; omega))))) | refine zqg ?_ | refine zqu (by (simp (disch := omega) only [go_sem, Nat.reduceBEq, ↓reduceIte, Nat.reduceAdd, Nat.reduceLeDiff]); rfl) rfl ?_ | (refine J _ ?_; clear J K))
  exact z0v rfl (Le.tup ⟨z3w, Le.refl _, trivial⟩)
 have e0 : zln u id name = (if (z08 id u).2 = false then 4 else if (z08 id u).1.kind = 0 then 9 else if zd2 u id name = true then 10 else 0) := by unfold zln; rw [if_neg (by rw [not_or]; exact ⟨h1, h2⟩)]
 rw [<- e0] at c4
 rw [Bool.not_eq_false] at h1 h2
 rw [h1] at c1
 rw [h2] at c2
 by_cases hw : zln u id name = 0
 ·have hmf : (z08 id u).2 = true := by
   rw [e0] at hw
   by_cases h : (z08 id u).2 = false
   ·rw [if_pos h] at hw; cases hw
   ·simpa using h
  have hm : id ∈ idsT u := by rw [z2f, decide_eq_true_eq] at hmf; exact hmf
  have c5 := zfg u hu id (fun q => q.setLabel name) (g := 85) (cap := [.rptr (.str name)]) rfl (fun q _ _ => znh q name)
  rw [(show (atR id (fun q => q.setLabel name) u).1 = z1b id (fun q => q.setLabel name) u from by rw [zeo _ (z13 h1) hm])] at c5
  rw [hw] at c4 ⊢
  rw [if_pos rfl]
  repeat' (first | refine zqj ?_ | ((first | refine z59 (N := 5) rfl fun K J => ?_ | refine zqs (c1) ?_ | refine zqs (c2) ?_ | refine zqs (c3) ?_); (simp (disch := omega) only [go_sem, Nat.reduceBEq, ↓reduceIte, Nat.reduceAdd, Nat.reduceLeDiff, Nat.reduceLT])) | ((refine zqd _ rfl (fun hc => ?_) (fun hc => ?_)) <;> (first | (cases hc; done) | ((try simp only [] at hc); (try (exfalso; omega))))) | refine zqb ?_ | (refine J _ ?_; clear J K))
  refine z4d fun K J => ?_
  (simp (disch := omega) only [go_sem, Nat.reduceBEq, ↓reduceIte, reduceCtorEq, Nat.reduceAdd, Nat.reduceMul, Nat.reduceLeDiff])
  refine z0z (PC.borrow c4 rfl 6 (z00 (z2p 5 rfl (z00 (z0t _ 2 rfl (z00 (z1y (e := 4) 2 ?_ zfi (z07 1 rfl)) z09)) (z00 (z0t _ 2 rfl (z00 (z04 (e := 27) 1 ?_ z0g (z05 _)) z09)) (z00 (z0t _ 2 rfl (z00 (z04 (e := 27) 1 ?_ z0g (z05 _)) (z00 (z04 (e := 23) 1 ?_ z1c rfl) (z00 (z04 (e := 27) 1 ?_ z0g (z05 _)) (z00 (z1y (e := 9) 2 ?_ z88 (z07 1 rfl)) z09))))) z09)))) z09)) ?_
  all_goals try (focus ((simp (disch := omega) only [go_sem, Nat.reduceBEq, z0s]); done))
  (simp (disch := omega) only [go_sem, Nat.reduceBEq])
  refine J _ _ (zok (b := 2) (j := 5) (e := 9) (cs := [.str name]) (d := .str name) (by (simp (disch := omega) only [go_sem, Nat.reduceBEq])) (.inl rfl) rfl (by (simp (disch := omega) only [go_sem, Nat.reduceBEq]))) ?_
  clear J K
  repeat' (first | refine zqj ?_ | ((first | refine zqh fun K J => ?_ | refine zqs (c5) ?_); (simp (disch := omega) only [go_sem, Nat.reduceBEq, ↓reduceIte, Nat.reduceAdd, Nat.reduceLeDiff])) | ((refine zqd _ rfl (fun hc => ?_) (fun hc => ?_)) <;> (first | (cases hc; done) | ((try simp only [] at hc); (try (exfalso; omega))))) | refine zqb ?_ | refine zqn ?_ | refine zqu (by (simp (disch := omega) only [go_sem, Nat.reduceBEq, ↓reduceIte, Nat.reduceLeDiff]); rfl) rfl ?_ | (refine J _ ?_; clear J K))
  refine z0v ?_ (Le.refl _)
  simp only [pureD, pureD.pureL, z05, Bool.and_self]
 ·rw [if_neg hw]
  repeat' (first | refine zqj ?_ | ((first | refine zqh fun K J => ?_ | refine zqs (c1) ?_ | refine zqs (c2) ?_ | refine zqs (c3) ?_); (simp (disch := omega) only [go_sem, Nat.reduceBEq, ↓reduceIte, reduceCtorEq, Nat.reduceAdd, Nat.reduceMul, Nat.reduceLeDiff, Nat.reduceLT])) | ((refine zqd _ rfl (fun hc => ?_) (fun hc => ?_)) <;> (first | (cases hc; done) | ((try simp only [] at hc); (try (exfalso; omega))))) | refine zqb ?_ | (refine J _ ?_; clear J K))
  refine z0z (PC.borrow c4 rfl 6 (z00 (z2p 5 rfl (z00 (z0t _ 2 rfl (z00 (z1y (e := 4) 2 ?_ zfi (z07 1 rfl)) z09)) (z00 (z0t _ 2 rfl (z00 (z04 (e := 27) 1 ?_ z0g (z05 _)) z09)) (z00 (z0t _ 2 rfl (z00 (z04 (e := 27) 1 ?_ z0g (z05 _)) (z00 (z04 (e := 23) 1 ?_ z1c rfl) (z00 (z04 (e := 27) 1 ?_ z0g (z05 _)) (z00 (z1y (e := 9) 2 ?_ z88 (z07 1 rfl)) z09))))) z09)))) z09)) ?_
  all_goals try (focus ((simp (disch := omega) only [go_sem, Nat.reduceBEq, z0s]); done))
  (try (simp (disch := omega) only [go_sem, Nat.reduceBEq])); repeat' (first | refine zqj ?_ | ((refine zqh fun K J => ?_); (simp (disch := omega) only [go_sem, Nat.reduceBEq, ↓reduceIte, Nat.reduceAdd, Nat.reduceLeDiff])) | ((refine zqd _ rfl (fun hc => ?_) (fun hc => ?_)) <;> (((try simp only [z0d] at hc); (try (exfalso; omega))))) | refine zqg ?_ | refine zqu (by (simp (disch := omega) only [go_sem, Nat.reduceBEq, ↓reduceIte, Nat.reduceAdd, Nat.reduceLeDiff]); rfl) rfl ?_ | (refine J _ ?_; clear J K))
  exact z0v rfl (Le.tup ⟨z3w, Le.refl _, trivial⟩)
namespace Tr
def zxf (l : List Wd) : Bool := l.any fun w => !z79 w.text
def z4b (u : T) (id : Idv) (l : List Wd) : Int :=
 if standsT u = false \/ zxf l = true then 1 else
 if (z08 id u).2 = false then 4 else
 if (z08 id u).1.kind = 0 then 9 else
 if 256 < l.length then 6 else 0
theorem zaz {u : T} {id : Idv} {l : List Wd} (h : z4b u id l = 0) : standsT u = true /\ id ∈ idsT u /\ zxf l = false /\ ¬ (z08 id u).1.kind = 0 /\ l.length <= 256 := by
 unfold z4b at h
 split at h
 ·cases h
 rename_i h1
 split at h
 ·cases h
 rename_i h2
 split at h
 ·cases h
 rename_i h3
 split at h
 ·cases h
 rename_i h4
 rw [not_or, Bool.not_eq_false, Bool.not_eq_true] at h1
 rw [Bool.not_eq_false, z2f, decide_eq_true_eq] at h2
 exact ⟨h1.1, h2, h1.2, h3, by omega⟩
end Tr
theorem zso (w : Wd) (hw : w.text.size <= maxLen) : PC Tryz.prog 139 [z90 w] (.bool (!z79 w.text)) := by
 have c1 := zh6 true [w.text] (by unfold maxLen; simp) (by intro s hs; simp at hs; subst hs; exact hw)
 rw [show zv8 [w.text] = z79 w.text from by unfold zv8; simp] at c1
 refine z24 1 rfl rfl (z17 [] Tryz.func139 rfl (by decide +kernel) z0b (by decide +kernel) (by simp [Tryz.ntmps139]) ?_)
 show awp _ _ (Code.seq _ _) _ _
 repeat' (first | ((first | refine zqh fun K J => ?_ | refine zqs (c1) ?_); (simp (disch := omega) only [go_sem, Nat.reduceBEq, ↓reduceIte, reduceCtorEq, Nat.reduceAdd, Nat.reduceLeDiff])) | refine zqn ?_ | refine zqu (by (simp (disch := omega) only [go_sem]); rfl) rfl ?_ | (refine J _ ?_; clear J K))
 exact z03 rfl
theorem zsp (u : T) (hu : szB u = true) (cu : cntT u <= 1000000) (du : depT u <= 1000000) (l : List Wd) (hl : l.length <= 1000000) (hw : ∀ w ∈ l, w.text.size <= maxLen) : PC Tryz.prog 141 [.rptr (z0p u), .rptr (z0w l), .rptr (.fn 139 [])] (.bool (!standsT u || zxf l)) := by
 have c1 := z7i u hu (by omega) (by omega)
 have c2 := ze0 false l (by unfold maxLen; omega) (g := 139) (cap := []) (fun w => !z79 w.text) rfl (fun w h => zso w (hw w h))
 refine z24 1 (by simp only [pureD.pureL, z02, z0j, pureD, Bool.and_self]) rfl (z17 [] Tryz.func141 rfl (by decide +kernel) z0b (by decide +kernel) (by simp [Tryz.ntmps141]) ?_)
 show awp _ _ (Code.seq _ _) _ _
 repeat' (first | ((first | refine zqh fun K J => ?_ | refine zqs (c1) ?_ | refine zqs (c2) ?_); (simp (disch := omega) only [go_sem, Nat.reduceBEq, ↓reduceIte, Nat.reduceAdd, z0w])) | refine zqn ?_ | refine zqu (by (simp (disch := omega) only [go_sem]); rfl) rfl ?_ | (refine J _ ?_; clear J K) | (refine zqf (fun hb => ?_) (fun hb => ?_) <;> (have hb2 := hb; try simp only [z0d] at hb2) <;> ((have hb3 : (_ : Bool) = _ := hb2); (simp (disch := omega) only [go_sem, Nat.reduceBEq, ↓reduceIte, Nat.reduceAdd, hb3]); clear hb hb3; (try (exfalso; omega)))))
 all_goals exact z03 (by simp [hb2, zxf])
theorem zsq (ok : Bool) : PC Tryz.prog 143 [.rptr (.bool ok)] (.bool (!ok)) := by
 refine z24 1 (by simp only [pureD.pureL, pureD, Bool.and_self]) rfl (z17 [] Tryz.func143 rfl (by decide +kernel) z0b (by decide +kernel) (by simp [Tryz.ntmps143]) ?_)
 show awp _ _ (Code.seq _ _) _ _
 repeat' (first | ((refine zqh fun K J => ?_); (simp (disch := omega) only [go_sem, Nat.reduceBEq, ↓reduceIte, Nat.reduceAdd])) | refine zqn ?_ | refine zqu (by (simp (disch := omega) only [go_sem]); rfl) rfl ?_ | (refine J _ ?_; clear J K))
 exact z03 rfl
theorem zsr (x : T) : PC Tryz.prog 144 [.rptr (z0p x)] (.bool (decide (x.kind = 0))) := by
 refine z24 1 (by simp only [pureD.pureL, z02, pureD, Bool.and_self]) rfl (z17 [] Tryz.func144 rfl (by decide +kernel) z0b (by decide +kernel) (by simp [Tryz.ntmps144]) ?_)
 show awp _ _ (Code.seq _ _) _ _
 repeat' (first | ((refine zqh fun K J => ?_); (simp (disch := omega) only [go_sem, Nat.reduceBEq, ↓reduceIte, reduceCtorEq, Nat.reduceAdd])) | refine zqn ?_ | refine zqu (by (simp (disch := omega) only [go_sem]); rfl) rfl ?_ | (refine J _ ?_; clear J K))
 exact z03 rfl
theorem zss (l : List Wd) : PC Tryz.prog 145 [.rptr (z0w l)] (.bool (decide (256 < l.length))) := by
 refine z24 1 (by simp only [pureD.pureL, z0j, pureD, Bool.and_self]) rfl (z17 [] Tryz.func145 rfl (by decide +kernel) z0b (by decide +kernel) (by simp [Tryz.ntmps145]) ?_)
 show awp _ _ (Code.seq _ _) _ _
 repeat' (first | ((refine zqh fun K J => ?_); (simp (disch := omega) only [go_sem, Nat.reduceBEq, ↓reduceIte, Nat.reduceAdd, z0w])) | refine zqn ?_ | refine zqu (by (simp (disch := omega) only [go_sem]); rfl) rfl ?_ | (refine J _ ?_; clear J K))
 exact z03 (decide_eq_decide.2 (by omega))
theorem zm3 (u : T) (id : Idv) (l : List Wd) (f1 f2 f3 f4 : FuncId) (c1 c2 c3 c4 : List D) : z7e [(f1, c1, 1, !standsT u || zxf l), (f2, c2, 4, !(z08 id u).2), (f3, c3, 9, decide ((z08 id u).1.kind = 0)), (f4, c4, 6, decide (256 < l.length))] = z4b u id l := by
 unfold z4b
 cases h1 : standsT u
 ·rw [if_pos (.inl rfl)]; rfl
 by_cases h2 : zxf l = true
 ·rw [if_pos (.inr h2), h2]; rfl
 rw [Bool.not_eq_true] at h2
 rw [h2]
 rw [if_neg (by simp)]
 cases h3 : (z08 id u).2
 ·rw [if_pos rfl]; rfl
 rw [if_neg (by simp)]
 by_cases h4 : (z08 id u).1.kind = 0
 ·rw [if_pos h4, decide_eq_true h4]; rfl
 rw [if_neg h4, decide_eq_false h4]
 by_cases h5 : 256 < l.length
 ·rw [if_pos h5, decide_eq_true h5]; rfl
 ·rw [if_neg h5, decide_eq_false h5]; rfl
theorem zns (u : T) (hu : szB u = true) (cu : cntT u <= 1000000) (du : depT u <= 1000000) (id : Idv) (l : List Wd) (hl : l.length <= 1000000) (hw : ∀ w ∈ l, w.text.size <= maxLen) (f : T -> T) {g : FuncId} {cp : List D} (hc : pureD.pureL cp = true)
  (hg : ∀ q : T, PC Tryz.prog g (z0p q :: cp) (z0p (f q))) :
  PC Tryz.prog 86 [z0p u, z16 id, z0w l, .fn g cp] (.tup [z0p (if z4b u id l = 0 then z1b id f u else T.zero), .int .i64 (z4b u id l)]) := by
 have c3 := z84 u (z7g u hu) (by omega) id
 have c4 := z9r [(141, [.rptr (z0p u), .rptr (z0w l), .rptr (.fn 139 [])], 1, !standsT u || zxf l), (143, [.rptr (.bool (z08 id u).2)], 4, !(z08 id u).2), (144, [.rptr (z0p (z08 id u).1)], 9, decide ((z08 id u).1.kind = 0)), (145, [.rptr (z0w l)], 6, decide (256 < l.length))]
  (by simp) (by
   intro c hc
   simp only [List.mem_cons, List.not_mem_nil, or_false] at hc
   rcases hc with rfl | rfl | rfl | rfl
   ·exact ⟨by simp only [pureD.pureL, z02, z0j, pureD, Bool.and_self], zsp u hu cu du l hl hw⟩
   ·exact ⟨rfl, zsq _⟩
   ·exact ⟨by simp only [pureD.pureL, z02, pureD, Bool.and_self], zsr _⟩
   ·exact ⟨by simp only [pureD.pureL, z0j, pureD, Bool.and_self], zss l⟩)
 rw [zm3] at c4
 refine z24 3 (by simp only [pureD.pureL, z02, z0j, pureD, hc, Bool.and_self]; rfl) (by simp only [pureD.pureL, z02, pureD, Bool.and_self]) (z17 [] Tryz.func86 rfl (by decide +kernel) z0b (by decide +kernel) (by simp [Tryz.ntmps86]) ?_)
 show awp _ _ (Code.seq _ _) _ _
 rw [show Tryz.f86.results.toList = [.cell 8 27, .tmp 9] from rfl]
 by_cases ht : z4b u id l = 0
 ·obtain ⟨h1, hm, _, _, _⟩ := zaz ht
  have c5 := zfg u hu id f hc (fun q _ _ => hg q)
  rw [(show (atR id f u).1 = z1b id f u from by rw [zeo _ (z13 h1) hm])] at c5
  rw [ht] at c4 ⊢
  rw [if_pos rfl]
  repeat' (first | ((first | refine zqh fun K J => ?_ | refine zqs (c3) ?_); (simp (disch := omega) only [go_sem, Nat.reduceBEq, ↓reduceIte, reduceCtorEq, Nat.reduceAdd, Nat.reduceMul, Nat.reduceLeDiff, Nat.reduceLT])) | (refine J _ ?_; clear J K))
  refine z0z (PC.borrow c4 rfl 6 (z00 (z2p 5 rfl (z00 (z0t _ 2 rfl (z00 (z04 (e := 27) 1 ?_ z0g (z05 _)) (z00 (z1y (e := 24) 2 ?_ zef (z07 1 (z0j _))) (z00 (z1y (e := 148) 2 ?_ zl2 (z07 1 rfl)) z09)))) (z00 (z0t _ 2 rfl (z00 (z1y (e := 4) 2 ?_ zfi (z07 1 rfl)) z09)) (z00 (z0t _ 2 rfl (z00 (z04 (e := 27) 1 ?_ z0g (z05 _)) z09)) (z00 (z0t _ 2 rfl (z00 (z1y (e := 24) 2 ?_ zef (z07 1 (z0j _))) z09)) z09))))) z09)) ?_
  all_goals try (focus ((simp (disch := omega) only [go_sem, Nat.reduceBEq]); done))
  (try (simp (disch := omega) only [go_sem, Nat.reduceBEq])); repeat' (first | refine zqj ?_ | ((first | refine zqh fun K J => ?_ | refine zqs (c5) ?_); (simp (disch := omega) only [go_sem, Nat.reduceBEq, ↓reduceIte, Nat.reduceAdd, Nat.reduceLeDiff])) | ((refine zqd _ rfl (fun hc => ?_) (fun hc => ?_)) <;> (first | (cases hc; done) | ((try simp only [] at hc); (try (exfalso; omega))))) | refine zqb ?_ | refine zqn ?_ | refine zqu (by (simp (disch := omega) only [go_sem, Nat.reduceBEq, ↓reduceIte, Nat.reduceLeDiff]); rfl) rfl ?_ | (refine J _ ?_; clear J K))
  refine z0v ?_ (Le.refl _)
  simp only [pureD, pureD.pureL, z05, Bool.and_self]
 ·rw [if_neg ht]
  repeat' (first | ((first | refine zqh fun K J => ?_ | refine zqs (c3) ?_); (simp (disch := omega) only [go_sem, Nat.reduceBEq, ↓reduceIte, reduceCtorEq, Nat.reduceAdd, Nat.reduceMul, Nat.reduceLeDiff, Nat.reduceLT])) | (refine J _ ?_; clear J K))
  refine z0z (PC.borrow c4 rfl 6 (z00 (z2p 5 rfl (z00 (z0t _ 2 rfl (z00 (z04 (e := 27) 1 ?_ z0g (z05 _)) (z00 (z1y (e := 24) 2 ?_ zef (z07 1 (z0j _))) (z00 (z1y (e := 148) 2 ?_ zl2 (z07 1 rfl)) z09)))) (z00 (z0t _ 2 rfl (z00 (z1y (e := 4) 2 ?_ zfi (z07 1 rfl)) z09)) (z00 (z0t _ 2 rfl (z00 (z04 (e := 27) 1 ?_ z0g (z05 _)) z09)) (z00 (z0t _ 2 rfl (z00 (z1y (e := 24) 2 ?_ zef (z07 1 (z0j _))) z09)) z09))))) z09)) ?_
  all_goals try (focus ((simp (disch := omega) only [go_sem, Nat.reduceBEq]); done))
  (try (simp (disch := omega) only [go_sem, Nat.reduceBEq])); repeat' (first | refine zqj ?_ | ((refine zqh fun K J => ?_); (simp (disch := omega) only [go_sem, Nat.reduceBEq, ↓reduceIte, Nat.reduceAdd, Nat.reduceLeDiff])) | ((refine zqd _ rfl (fun hc => ?_) (fun hc => ?_)) <;> (((try simp only [z0d] at hc); (try (exfalso; omega))))) | refine zqg ?_ | refine zqu (by (simp (disch := omega) only [go_sem, Nat.reduceBEq, ↓reduceIte, Nat.reduceAdd, Nat.reduceLeDiff]); rfl) rfl ?_ | (refine J _ ?_; clear J K))
  exact z0v rfl (Le.tup ⟨z3w, Le.refl _, trivial⟩)
theorem zjo (q : T) (l : List Wd) (hl : l.length <= 1000000) : PC Tryz.prog 87 [z0p q, .rptr (z0w l)] (z0p (q.setWords l)) := by
 have c1 := zc3 l hl
 refine z24 5 (by simp only [pureD.pureL, z02, z0j, pureD, Bool.and_self]) (z02 _) (z17 [] Tryz.func87 rfl (by decide +kernel) z0b (by decide +kernel) (by simp [Tryz.ntmps87]) ?_)
 show awp _ _ (Code.seq _ _) _ _
 rw [show Tryz.f87.results.toList = [.cell 3 27] from rfl]
 rw [show z0p q = .agg _ from by rw [z0p, z0l]]
 repeat' (first | ((first | refine zqh fun K J => ?_ | refine zig (c1) ?_); (simp (disch := omega) only [go_sem, Nat.reduceBEq, ↓reduceIte, reduceCtorEq, Nat.reduceAdd, Nat.reduceLeDiff, Nat.reduceLT, z0w, znb, List.set_cons_succ, List.set_cons_zero])) | refine zqn ?_ | refine zqu (by (simp (disch := omega) only [go_sem, Nat.reduceBEq, ↓reduceIte, Nat.reduceAdd, Nat.reduceLeDiff]); rfl) rfl ?_ | (refine J _ ?_; clear J K))
 rw [z0p, z0l]
 refine z7n (z6f 4 (by simp only [pureD.pureL, pureD, Bool.and_false, Bool.false_and]) (z00 (z07 3 rfl) (z00 (z07 3 rfl) (z00 (z07 3 rfl) (z00 (z07 3 rfl) (z00 (z07 3 rfl) (z00 (z07 3 (z0j _)) (z00 (z2q (f := z40) (l := l) 2 rfl ?_ z9z zcy (fun _ => rfl) (fun _ => rfl)) (z00 (z07 3 (z4c _)) z09)))))))))
 (simp (disch := omega) only [go_sem, Nat.reduceBEq])
theorem zm4 (u : T) (hu : szB u = true) (cu : cntT u <= 1000000) (du : depT u <= 1000000) (id : Idv) (l : List Wd) (hl : l.length <= 1000000) (hw : ∀ w ∈ l, w.text.size <= maxLen) :
  PC Tryz.prog 30 [z0p u, z16 id, z0w l] (.tup [z0p (if z4b u id l = 0 then z1b id (fun q => q.setWords l) u else T.zero), .int .i64 (z4b u id l)]) := by
 have c1 := zns u hu cu du id l hl hw (fun q => q.setWords l) (g := 87) (cp := [.rptr (z0w l)]) (by simp only [pureD.pureL, z0j, pureD, Bool.and_self]) (fun q => zjo q l hl)
 refine z24 3 (by simp only [pureD.pureL, z02, z0j, Bool.and_self]; rfl) (by simp only [pureD.pureL, z02, pureD, Bool.and_self]) (z17 [] Tryz.func30 rfl (by decide +kernel) z0b (by decide +kernel) (by simp [Tryz.ntmps30]) ?_)
 show awp _ _ (Code.seq _ _) _ _
 rw [show Tryz.f30.results.toList = [.cell 6 27, .tmp 7] from rfl]
 refine z4d fun K J => ?_
 (simp (disch := omega) only [go_sem, Nat.reduceBEq, Nat.reduceAdd])
 refine J _ _ (zok (b := 2) (j := 5) (e := 24) (cs := [z0w l]) (d := z0w l) (by (simp (disch := omega) only [go_sem, Nat.reduceBEq, Nat.reduceAdd])) (.inl rfl) (z0j _) (by (simp (disch := omega) only [go_sem, Nat.reduceBEq, Nat.reduceAdd]))) ?_
 clear J K
 repeat' (first | ((first | refine zqh fun K J => ?_ | refine zqs (c1) ?_); (simp (disch := omega) only [go_sem, Nat.reduceBEq, ↓reduceIte, Nat.reduceAdd, Nat.reduceLeDiff, z0w])) | refine zqn ?_ | refine zqu (by (simp (disch := omega) only [go_sem, Nat.reduceBEq, ↓reduceIte, Nat.reduceLeDiff]); rfl) rfl ?_ | (refine J _ ?_; clear J K))
 refine z0v ?_ (Le.refl _)
 simp only [pureD, pureD.pureL, z05, Bool.and_self]
theorem zgg (q : T) (l : List Wd) (hl : l.length <= 1000000) : PC Tryz.prog 89 [z0p q, .rptr (z0w l)] (z0p (q.setHead l)) := by
 have c1 := zc3 l hl
 refine z24 5 (by simp only [pureD.pureL, z02, z0j, pureD, Bool.and_self]) (z02 _) (z17 [] Tryz.func89 rfl (by decide +kernel) z0b (by decide +kernel) (by simp [Tryz.ntmps89]) ?_)
 show awp _ _ (Code.seq _ _) _ _
 rw [show Tryz.f89.results.toList = [.cell 3 27] from rfl]
 rw [show z0p q = .agg _ from by rw [z0p, z0l]]
 repeat' (first | ((first | refine zqh fun K J => ?_ | refine zig (c1) ?_); (simp (disch := omega) only [go_sem, Nat.reduceBEq, ↓reduceIte, reduceCtorEq, Nat.reduceAdd, Nat.reduceLeDiff, Nat.reduceLT, z0w, znb, List.set_cons_succ, List.set_cons_zero])) | refine zqn ?_ | refine zqu (by (simp (disch := omega) only [go_sem, Nat.reduceBEq, ↓reduceIte, Nat.reduceAdd, Nat.reduceLeDiff]); rfl) rfl ?_ | (refine J _ ?_; clear J K))
 rw [z0p, z0l]
 refine z7n (z6f 4 (by simp only [pureD.pureL, pureD, Bool.and_false, Bool.false_and]) (z00 (z07 3 rfl) (z00 (z07 3 rfl) (z00 (z07 3 rfl) (z00 (z07 3 rfl) (z00 (z07 3 rfl) (z00 (z2q (f := z40) (l := l) 2 rfl ?_ z9z zcy (fun _ => rfl) (fun _ => rfl)) (z00 (z07 3 (z0j _)) (z00 (z07 3 (z4c _)) z09)))))))))
 (simp (disch := omega) only [go_sem, Nat.reduceBEq])
theorem zi3 (u : T) (hu : szB u = true) (cu : cntT u <= 1000000) (du : depT u <= 1000000) (id : Idv) (l : List Wd) (hl : l.length <= 1000000) (hw : ∀ w ∈ l, w.text.size <= maxLen) :
  PC Tryz.prog 31 [z0p u, z16 id, z0w l] (.tup [z0p (if z4b u id l = 0 then z1b id (fun q => q.setHead l) u else T.zero), .int .i64 (z4b u id l)]) := by
 have c1 := zns u hu cu du id l hl hw (fun q => q.setHead l) (g := 89) (cp := [.rptr (z0w l)]) (by simp only [pureD.pureL, z0j, pureD, Bool.and_self]) (fun q => zgg q l hl)
 refine z24 3 (by simp only [pureD.pureL, z02, z0j, Bool.and_self]; rfl) (by simp only [pureD.pureL, z02, pureD, Bool.and_self]) (z17 [] Tryz.func31 rfl (by decide +kernel) z0b (by decide +kernel) (by simp [Tryz.ntmps31]) ?_)
 show awp _ _ (Code.seq _ _) _ _
 rw [show Tryz.f31.results.toList = [.cell 6 27, .tmp 7] from rfl]
 refine z4d fun K J => ?_
 (simp (disch := omega) only [go_sem, Nat.reduceBEq, Nat.reduceAdd])
 refine J _ _ (zok (b := 2) (j := 5) (e := 24) (cs := [z0w l]) (d := z0w l) (by (simp (disch := omega) only [go_sem, Nat.reduceBEq, Nat.reduceAdd])) (.inl rfl) (z0j _) (by (simp (disch := omega) only [go_sem, Nat.reduceBEq, Nat.reduceAdd]))) ?_
 clear J K
 repeat' (first | ((first | refine zqh fun K J => ?_ | refine zqs (c1) ?_); (simp (disch := omega) only [go_sem, Nat.reduceBEq, ↓reduceIte, Nat.reduceAdd, Nat.reduceLeDiff, z0w])) | refine zqn ?_ | refine zqu (by (simp (disch := omega) only [go_sem, Nat.reduceBEq, ↓reduceIte, Nat.reduceLeDiff]); rfl) rfl ?_ | (refine J _ ?_; clear J K))
 refine z0v ?_ (Le.refl _)
 simp only [pureD, pureD.pureL, z05, Bool.and_self]
namespace Tr
end Tr
end
section
open Abs Facts Tr
attribute [local irreducible] awp
set_option maxRecDepth 100000
def fldE (f : T -> T) : zq2 := fun w c r H n => (z0e H c (some (nodeB (f w.own) (kdR r w.kids.length))), n)
def rowE (w : V) (c q : Nat) (ks : List V) (H : HM) : HM := z0e (z0e H q (some (rowV ks))) c (some (nodeB w.own (.osl q ks.length)))
def outK (i : Idv) (w : V) : List V := w.kids.filter fun k => !decide (k.own.id = i)
def outE (i : Idv) : zq2 := fun w c r H n => (rowE w c n (outK i w) (z0e H (r.getD 0) none), n + 1)
def zcd (w : V) (c : Nat) (r : Option Nat) (H : HM) (n : Nat) : Nat × HM × Nat := match r with
 | some q => (q, H, n)
 | none => (n, z0e (z0e H n (some row0)) c (some (nodeB w.own (.osl n 0))), n + 1)
def zno (at_ : Nat) (x : V) (w : V) : List V := w.kids.take at_ ++ x :: w.kids.drop at_
def movE (at_ : Nat) (x : V) : zq2 := fun w c r H n => (rowE w c (zcd w c r H n).1 (zno at_ x w) (zcd w c r H n).2.1, (zcd w c r H n).2.2)
def insE (at_ : Nat) (t : T) : zq2 := fun w c r H n =>
 let g := z58 t (zcd w c r H n).2.1 (zcd w c r H n).2.2
 (rowE w c (zcd w c r H n).1 (zno at_ g.1 w) g.2.1, g.2.2)
theorem zhz {lo m n c : Nat} {H : HM} {r : Option Nat} {w : V} {Q : V -> V -> Prop} (hp : PreE lo m H n c r w) {q n2 : Nat} {ks : List V} {H2 : HM} (hq : m <= q) (hqc : q ≠ c) (hqn : q < n2) (hn : n <= n2) (hag : Agree m H H2)
  (hks : ∀ k ∈ ks, Stand H2 k /\ ∀ j ∈ objsV k, (j < lo \/ m <= j) /\ j < n2 /\ j ≠ q /\ j ≠ c) (hQ : Q w (.mk c (some q) w.own ks)) : PostE lo m H n c w Q (rowE w c q ks H2, n2) (.mk c (some q) w.own ks) := by
 have hmc := hp.mc
 have hcn := hp.cn
 unfold rowE
 have hobj : ∀ j ∈ objsV (.mk c (some q) w.own ks), j = c \/ j = q \/ ∃ k ∈ ks, j ∈ objsV k := fun j hj => by
  rw [z6x, List.mem_cons, List.mem_append] at hj
  rcases hj with e | hj | hj
  ·exact .inl e
  ·have hj : j ∈ (some q).toList := hj
   simp only [Option.toList_some, List.mem_singleton] at hj
   exact .inr (.inl hj)
  ·obtain ⟨k, hk, hj⟩ := List.mem_flatMap.1 hj
   exact .inr (.inr ⟨k, hk, hj⟩)
 refine ⟨rfl, rfl, (z1v _ _).2 ⟨?_, ?_, fun k hk => ?_⟩, fun j hj => ?_, fun j hj => ?_, hn, fun j hj => ?_, hQ⟩
 ·exact z1u _ _ _
 ·show z0e (z0e H2 q _) c _ q = _
  rw [z01 _ hqc, z1u]; rfl
 ·refine Stand.on k (fun j hj => ?_) (hks k hk).1
  have := (hks k hk).2 j hj
  show z0e (z0e H2 q _) c _ j = _
  rw [z01 _ (by omega), z01 _ (by omega)]
 ·rcases hobj j hj with e | e | ⟨k, hk, hj⟩
  ·simp only; omega
  ·simp only; omega
  ·exact ((hks k hk).2 j hj).2.1
 ·rcases hobj j hj with e | e | ⟨k, hk, hj⟩
  ·omega
  ·omega
  ·exact ((hks k hk).2 j hj).1
 ·show z0e (z0e H2 q _) c _ j = _
  rw [z01 _ (by omega), z01 _ (by omega), hag j hj]
theorem zly {f : T -> T} (hf : ∀ q : T, (f q).id = q.id /\ (f q).setKids q.kids = f q) {lo : Nat} {H0 : HM} {w : V} : zmp lo H0 (fldE f) (fun w w' => w'.own = f w.own /\ w'.kids = w.kids) w := fun m H n c r hp _ => by
 have hmc := hp.mc
 have hcn := hp.cn
 have hlom := hp.lom
 have hobj : ∀ j ∈ objsV (.mk c r (f w.own) w.kids), j = c \/ (m <= j /\ j < c) \/ j < lo := fun j hj => by
  rw [z6x, List.mem_cons, List.mem_append] at hj
  rcases hj with e | hj | hj
  ·exact .inl e
  ·have hj : j ∈ r.toList := hj
   cases hr : r with
   | none => rw [hr] at hj; cases hj
   | some q =>
    rw [hr] at hj
    simp only [Option.toList_some, List.mem_singleton] at hj
    have := hp.row q hr
    exact .inr (.inl ⟨by omega, by omega⟩)
  ·obtain ⟨k, hk, hj⟩ := List.mem_flatMap.1 hj
   exact .inr (.inr ((hp.kids k hk).2 j hj))
 refine ⟨.mk c r (f w.own) w.kids, rfl, (hf w.own).1, (z1v _ _).2 ⟨z1u _ _ _, ?_, fun k hk => ?_⟩, fun j hj => ?_, fun j hj => ?_, Nat.le_refl _, fun j hj => z01 _ (by omega), rfl, rfl⟩
 ·unfold zi5
  cases r with
  | none => exact hp.nor rfl
  | some q =>
   obtain ⟨h1, h2, h3⟩ := hp.row q rfl
   show z0e H c _ q = _
   rw [z01 _ (by omega), h3]; rfl
 ·refine Stand.on k (fun j hj => ?_) (hp.kids k hk).1
  have := (hp.kids k hk).2 j hj
  exact z01 _ (by omega)
 ·have := hobj j hj
  show j < n
  omega
 ·have := hobj j hj; omega
theorem zsb {i : Idv} {lo : Nat} {H0 : HM} {w : V} (hk : ∃ k ∈ w.kids, k.own.id = i) : zmp lo H0 (outE i) (fun w w' => w'.own = w.own /\ w'.kids = outK i w) w := fun m H n c r hp _ => by
 have hmc := hp.mc
 have hcn := hp.cn
 have hlom := hp.lom
 obtain ⟨q, rfl⟩ : ∃ q, r = some q := by
  cases hr : r with
  | none =>
   obtain ⟨k, hk, _⟩ := hk
   rw [hp.nor hr] at hk; cases hk
  | some q => exact ⟨q, rfl⟩
 obtain ⟨h1, h2, h3⟩ := hp.row q rfl
 refine ⟨_, zhz hp (q := n) (ks := outK i w) (n2 := n + 1) (H2 := z0e H q none) (by omega) (by omega) (by omega) (by omega) (fun j hj => z01 _ (by omega)) (fun k hk => ?_) ⟨rfl, rfl⟩⟩
 obtain ⟨g1, g2⟩ := hp.kids k (List.mem_filter.1 hk).1
 exact ⟨Stand.on k (fun j hj => z01 _ (by have := g2 j hj; omega)) g1, fun j hj => by have := g2 j hj; omega⟩
theorem z9q {lo m n c : Nat} {H : HM} {r : Option Nat} {w : V} (hp : PreE lo m H n c r w) : let o := zcd w c r H n
  m <= o.1 /\ o.1 ≠ c /\ o.1 < o.2.2 /\ n <= o.2.2 /\ Agree m H o.2.1 /\ o.2.1 c = some (nodeB w.own (.osl o.1 w.kids.length)) /\ o.2.1 o.1 = some (rowV w.kids) /\ (∀ k ∈ w.kids, Stand o.2.1 k /\ Under lo k) := by
 have hmc := hp.mc
 have hcn := hp.cn
 have hlom := hp.lom
 cases hr : r with
 | none =>
  have hn0 := hp.nor hr
  unfold zcd
  simp only
  refine ⟨by omega, by omega, by omega, by omega, fun j hj => ?_, ?_, ?_, fun k hk => ?_⟩
  ·rw [z01 _ (by omega), z01 _ (by omega)]
  ·rw [z1u, hn0]; rfl
  ·rw [z01 _ (by omega), z1u, hn0]; rfl
  ·rw [hn0] at hk; cases hk
 | some q =>
  obtain ⟨h1, h2, h3⟩ := hp.row q hr
  have hb := hp.box
  rw [hr] at hb
  unfold zcd
  simp only
  exact ⟨by omega, by omega, by omega, Nat.le_refl _, Agree.refl _ _, hb, h3, hp.kids⟩
theorem eff_mov {at_ : Nat} {x : V} {lo : Nat} {H0 : HM} {w : V} (hx : Stand H0 x) (hux : Under lo x) : zmp lo H0 (movE at_ x) (fun w w' => w'.own = w.own /\ w'.kids = zno at_ x w) w := fun m H n c r hp h0 => by
 have hmc := hp.mc
 have hcn := hp.cn
 have hlom := hp.lom
 obtain ⟨a1, a2, a3, a4, a5, a6, a7, a8⟩ := z9q hp
 unfold movE
 generalize zcd w c r H n = o at a1 a2 a3 a4 a5 a6 a7 a8 ⊢
 refine ⟨_, zhz hp (q := o.1) (ks := zno at_ x w) (n2 := o.2.2) (H2 := o.2.1) a1 a2 a3 a4 a5 (fun k hk => ?_) ⟨rfl, rfl⟩⟩
 have old : ∀ k, Stand o.2.1 k -> Under lo k -> Stand o.2.1 k /\ ∀ j ∈ objsV k, (j < lo \/ m <= j) /\ j < o.2.2 /\ j ≠ o.1 /\ j ≠ c := fun k h1 h2 => ⟨h1, fun j hj => by have := h2 j hj; omega⟩
 unfold zno at hk
 rcases List.mem_append.1 hk with hk | hk
 ·exact old k (a8 k (List.mem_of_mem_take hk)).1 (a8 k (List.mem_of_mem_take hk)).2
 ·rcases List.mem_cons.1 hk with rfl | hk
  ·exact old k (Stand.on k (fun j hj => by have := hux j hj; rw [a5 j (by omega), h0 j this]) hx) hux
  ·exact old k (a8 k (List.mem_of_mem_drop hk)).1 (a8 k (List.mem_of_mem_drop hk)).2
theorem eff_ins {at_ : Nat} {t : T} {lo : Nat} {H0 : HM} {w : V} : zmp lo H0 (insE at_ t) (fun w w' => w'.own = w.own /\ ∃ g, treeV g = t /\ (objsV g).Nodup /\ (∀ j ∈ objsV g, lo <= j) /\ w'.kids = zno at_ g w) w := fun m H n c r hp h0 => by
 have hmc := hp.mc
 have hcn := hp.cn
 have hlom := hp.lom
 obtain ⟨a1, a2, a3, a4, a5, a6, a7, a8⟩ := z9q hp
 unfold insE
 simp only
 generalize zcd w c r H n = o at a1 a2 a3 a4 a5 a6 a7 a8 ⊢
 have hg := z6b t o.2.1 o.2.2
 generalize z58 t o.2.1 o.2.2 = g at hg ⊢
 obtain ⟨b1, b2, b3, b4, b5, b6, b7⟩ := hg
 refine ⟨_, zhz hp (q := o.1) (ks := zno at_ g.1 w) (n2 := g.2.2) (H2 := g.2.1) a1 a2 (by omega) (by omega) (fun j hj => (b3 j (by omega)).trans (a5 j hj)) (fun k hk => ?_) ⟨rfl, g.1, b1, b7, fun j hj => by have := b6 j hj; omega, rfl⟩⟩
 have old : ∀ k, Stand o.2.1 k -> Under lo k -> Stand g.2.1 k /\ ∀ j ∈ objsV k, (j < lo \/ m <= j) /\ j < g.2.2 /\ j ≠ o.1 /\ j ≠ c := fun k h1 h2 => ⟨Stand.on k (fun j hj => b3 j (by have := h2 j hj; omega)) h1, fun j hj => by have := h2 j hj; omega⟩
 unfold zno at hk
 rcases List.mem_append.1 hk with hk | hk
 ·exact old k (a8 k (List.mem_of_mem_take hk)).1 (a8 k (List.mem_of_mem_take hk)).2
 ·rcases List.mem_cons.1 hk with rfl | hk
  ·exact ⟨b4, fun j hj => by have := b5 j hj; have := b6 j hj; omega⟩
  ·exact old k (a8 k (List.mem_of_mem_drop hk)).1 (a8 k (List.mem_of_mem_drop hk)).2
end
section
open Abs Facts Tr
namespace Tr
theorem zyd {id k : Idv} : ∀ u : T, (idsT u).Nodup -> ¬ u.id = id -> k ∈ idsT u -> (∀ y, z08 id u = (y, true) -> k ∉ idsT y) -> z41 k (z0m id u) = z41 k u := by
 refine z5k fun u ih hn h0 hk hy => ?_
 by_cases hid : id ∉ idsT u
 ·rw [zin hid]
 rw [Classical.not_not] at hid
 by_cases hku : u.id = k
 ·rw [z96 hku]
  exact z96 (by rw [(z78 id u).1]; exact hku)
 ·obtain ⟨i, hi, h1, h2, h3⟩ := z9k hku (z4v.2 hk)
  have hkm := z4v.1 h2
  obtain ⟨g1, g2, g3⟩ := z54 hn
  have hki := List.getElem_mem hi
  have hkeep : ¬ u.kids[i].id = id := fun e => by
   refine hy u.kids[i] ?_ hkm
   have hw : z1s id u.kids[i] = [u.kids[i]] := z47 e
   have hne : z1s id u.kids[i] ≠ [] := by rw [hw]; simp
   rw [z4e (z4q h0 hi (fun j hj h => (z4u id _).2 (g3 i j hi h (by omega) id (e ▸ z1e _))) hne) hne]
   exact z2y e
  have hyk : ∀ y, z08 id u.kids[i] = (y, true) -> k ∉ idsT y := fun y hf => hy y (by
   have hne : z1s id u.kids[i] ≠ [] := za0.1 (by rw [hf])
   rw [z4e (z4q h0 hi (fun j hj h => (z4u id _).2 (g3 i j hi h (by omega) id (z4v.1 hne))) hne) hne]
   exact hf)
  have hin := ih _ hki (g2 _ hki) hkeep hkm hyk
  have hfw := zkt u.kids[i] (g2 _ hki) hkeep hkm hyk
  have hsp : u.kids = u.kids.take i ++ u.kids[i] :: u.kids.drop (i + 1) := by rw [<- List.drop_eq_getElem_cons hi, List.take_append_drop]
  have hwk : k ∈ idsT (z0m id u.kids[i]) := by
   have : (z08 k (z0m id u.kids[i])).2 = true := by rw [hfw]
   rw [z2f, decide_eq_true_eq] at this; exact this
  rw [zop hku hi h1 h2, z4m]
  have e : (u.kids.filter (z6q id)).map (z0m id) = ((u.kids.take i).filter (z6q id)).map (z0m id) ++ z0m id u.kids[i] :: ((u.kids.drop (i + 1)).filter (z6q id)).map (z0m id) := by
   conv => lhs; rw [hsp]
   rw [List.filter_append, List.filter_cons, if_pos (zen hkeep), List.map_append, List.map_cons]
  rw [e, zlw hku ?_ hwk, hin]
  intro hm
  obtain ⟨y, hym, hyk⟩ := List.mem_flatMap.1 hm
  obtain ⟨y', hy', rfl⟩ := List.mem_map.1 hym
  have hmem := (List.mem_filter.1 hy').1
  obtain ⟨j, hj, rfl⟩ := List.getElem_of_mem hmem
  rw [List.length_take] at hj
  rw [List.getElem_take] at hyk
  have := h1 j (by omega) (by omega)
  rw [z4u] at this
  exact this (zed id _ k hyk)
end Tr
namespace Tr
def zfk (t : T) : T := t.setKids []
def ziw (id : Idv) (a b : T) : Prop := ∀ p ∈ z0f a, ∃ p' ∈ z0f b, p'.id = p.id /\ (p.id ≠ id -> zfk p' = zfk p) /\ ∀ y ∈ p.kids, ∃ y' ∈ p'.kids, y'.id = y.id
theorem zbr : ∀ u x : T, x ∈ z0f u -> ∀ y ∈ z0f x, y ∈ z0f u := by
 refine fun u => z5k (p := fun u => ∀ x : T, x ∈ z0f u -> ∀ y ∈ z0f x, y ∈ z0f u) (fun u ih x hx y hy => ?_) u
 rw [z1h, List.mem_cons] at hx
 rcases hx with rfl | hx
 ·exact hy
 ·obtain ⟨k, hk, hxk⟩ := List.mem_flatMap.1 hx
  exact z2o hk (ih k hk x hxk y hy)
theorem zhi : ∀ t : T, (idsT t).Nodup -> ∀ p ∈ z0f t, ∀ y ∈ p.kids, (z6d y.id t).1 = p.id := by
 refine z5k fun t ih hn p hp y hy => ?_
 obtain ⟨g1, g2, g3⟩ := z54 hn
 rw [z1h, List.mem_cons] at hp
 rcases hp with rfl | hp
 ·obtain ⟨i, hi, rfl⟩ := List.getElem_of_mem hy
  rw [zla (id := p.kids[i].id) (t := p) (i := i) (fun e => g1 _ hy (e ▸ z1e _)) hi (fun j hj h => (z4u _ _).2 (g3 i j hi h (by omega) _ (z1e _))) rfl]
 ·obtain ⟨k, hk, hpk⟩ := List.mem_flatMap.1 hp
  obtain ⟨i, hi, rfl⟩ := List.getElem_of_mem hk
  have hyi : y.id ∈ idsT t.kids[i] := List.mem_map.2 ⟨y, zbr _ p hpk y (z2o hy (z26 y)), rfl⟩
  have hne : ¬ t.kids[i].id = y.id := by
   intro e
   have hn2 := g2 _ hk
   have key : ∀ t : T, (idsT t).Nodup -> ∀ p ∈ z0f t, ∀ y ∈ p.kids, t.id ≠ y.id := by
    intro t hn p hp y hy e
    rw [z19, List.nodup_cons] at hn
    refine hn.1 ?_
    rw [e]
    rw [z1h, List.mem_cons] at hp
    rcases hp with rfl | hp
    ·exact List.mem_flatMap.2 ⟨y, hy, z1e y⟩
    ·obtain ⟨k, hk, hpk⟩ := List.mem_flatMap.1 hp
     refine List.mem_flatMap.2 ⟨k, hk, List.mem_map.2 ⟨y, ?_, rfl⟩⟩
     exact zbr k p hpk y (z2o hy (z26 y))
   exact key _ hn2 p hpk y hy e
  rw [zvw (id := y.id) (t := t) (i := i) (fun e => g1 _ hk (e ▸ hyi)) hi (fun j hj h => (z4u _ _).2 (g3 i j hi h (by omega) _ hyi)) hne (z4v.2 hyi)]
  exact ih _ hk (g2 _ hk) p hpk y hy
theorem zl5 (C : Ctx) {x y : T} (h : y ∈ z0f x) : y ∈ z0f (z28 C x) := by
 induction C with
 | hole => exact h
 | node t l c r ih => exact z2o (t := z28 (.node t l c r) x) (k := z28 c x) (by show _ ∈ l ++ _ :: r; simp) ih
theorem zvk {t : T} {k : Idv} (hk : k ∈ idsT t) (h0 : ¬ t.id = k) : ∃ p ∈ z0f t, ∃ y ∈ p.kids, y.id = k := by
 obtain ⟨C, q, l, x, r, e, hx, _⟩ := zjg h0 hk
 refine ⟨q.setKids (l ++ x :: r), ?_, x, by show x ∈ l ++ x :: r; simp, hx⟩
 rw [e]
 exact zl5 C (z26 _)
theorem z51 {id : Idv} {a b : T} (J : ziw id a b) (ha : (idsT a).Nodup) (hb : (idsT b).Nodup) {k : Idv} (hk : k ∈ idsT a) :
  (z08 k b).2 = true /\ (k ≠ id -> zfk (z08 k a).1 = zfk (z08 k b).1) /\ (¬ a.id = k -> (z6d k a).1 = (z6d k b).1) := by
 obtain ⟨p, hp, hpk⟩ := List.mem_map.1 hk
 obtain ⟨p', hp', e1, e2, _⟩ := J p hp
 have h1 := zc0 ha hp hpk
 have h2 := zc0 hb hp' (e1.trans hpk)
 refine ⟨by rw [h2], fun hne => ?_, fun h0 => ?_⟩
 ·rw [h1, h2]; exact (e2 (by rw [hpk]; exact hne)).symm
 ·obtain ⟨q, hq, y, hy, hyk⟩ := zvk hk h0
  obtain ⟨q', hq', f1, _, f3⟩ := J q hq
  obtain ⟨y', hy', f4⟩ := f3 y hy
  have g1 := zhi a ha q hq y hy
  have g2 := zhi b hb q' hq' y' hy'
  rw [hyk] at g1
  rw [f4, hyk] at g2
  rw [g1, g2, f1]
def zgm : Ctx -> Ctx -> Ctx
 | .hole, D => D
 | .node t l c r, D => .node t l (zgm c D) r
theorem zfl (D : Ctx) (x : T) : ∀ C, z28 (zgm C D) x = z28 C (z28 D x)
 | .hole => rfl
 | .node t l c r => by rw [zgm, z28, zfl D x c, z28]
theorem zoo (D : Ctx) : ∀ C, z6a (zgm C D) = z6a C ++ z6a D
 | .hole => by simp [zgm, z6a]
 | .node t l c r => by rw [zgm, z6a, z6a, zoo D c, List.cons_append, List.append_assoc]
theorem zl6 (D : Ctx) : ∀ C, z3i (zgm C D) = z3i D ++ z3i C
 | .hole => by simp [zgm, z3i]
 | .node t l c r => by rw [zgm, z3i, z3i, zl6 D c, List.append_assoc]
theorem zl7 {id : Idv} {a b : T} (h : ∀ p ∈ z0f a, p ∈ z0f b) : ziw id a b := fun p hp => ⟨p, h p hp, rfl, fun _ => rfl, fun y hy => ⟨y, hy, rfl⟩⟩
theorem zcz {id : Idv} {a b : T} (J : ziw id a b) (hid : b.id = a.id) : ∀ C, ziw id (z28 C a) (z28 C b)
 | .hole => J
 | .node t l c r => by
  have ih := zcz J hid c
  have hr : (z28 c b).id = (z28 c a).id := by
   cases c with
   | hole => exact hid
   | node t' l' c' r' => rfl
  intro p hp
  rw [z28, z1h, List.mem_cons] at hp
  rcases hp with rfl | hp
  ·refine ⟨z28 (.node t l c r) b, z26 _, rfl, fun _ => rfl, fun y hy => ?_⟩
   have hy : y ∈ l ++ z28 c a :: r := hy
   show ∃ y' ∈ l ++ z28 c b :: r, y'.id = y.id
   rcases List.mem_append.1 hy with h | h
   ·exact ⟨y, List.mem_append_left _ h, rfl⟩
   ·rcases List.mem_cons.1 h with rfl | h
    ·exact ⟨z28 c b, by simp, hr⟩
    ·exact ⟨y, List.mem_append_right _ (List.mem_cons_of_mem _ h), rfl⟩
  ·have hp : p ∈ (l ++ z28 c a :: r).flatMap z0f := hp
   rw [List.flatMap_append, List.flatMap_cons, List.mem_append, List.mem_append] at hp
   have sub : ∀ k ∈ l ++ z28 c b :: r, ∀ y ∈ z0f k, y ∈ z0f (z28 (.node t l c r) b) := fun k hk y hy => z2o (t := z28 (.node t l c r) b) hk hy
   rcases hp with h | h | h
   ·obtain ⟨k, hk, hpk⟩ := List.mem_flatMap.1 h
    exact ⟨p, sub k (List.mem_append_left _ hk) p hpk, rfl, fun _ => rfl, fun y hy => ⟨y, hy, rfl⟩⟩
   ·obtain ⟨p', hp', e⟩ := ih p h
    exact ⟨p', sub _ (by simp) p' hp', e⟩
   ·obtain ⟨k, hk, hpk⟩ := List.mem_flatMap.1 h
    exact ⟨p, sub k (List.mem_append_right _ (List.mem_cons_of_mem _ hk)) p hpk, rfl, fun _ => rfl, fun y hy => ⟨y, hy, rfl⟩⟩
theorem zvl {id : Idv} (q x : T) (l r : List T) : ziw id (q.setKids (l ++ r)) (q.setKids (l ++ x :: r)) := by
 intro p hp
 have sub : ∀ k ∈ l ++ x :: r, ∀ y ∈ z0f k, y ∈ z0f (q.setKids (l ++ x :: r)) := fun k hk y hy => z2o (t := q.setKids (l ++ x :: r)) hk hy
 have mem : ∀ k ∈ l ++ r, k ∈ l ++ x :: r := fun k hk => by
  rcases List.mem_append.1 hk with h | h
  ·exact List.mem_append_left _ h
  ·exact List.mem_append_right _ (List.mem_cons_of_mem _ h)
 rw [z1h, List.mem_cons] at hp
 rcases hp with rfl | hp
 ·exact ⟨_, z26 _, rfl, fun _ => rfl, fun y hy => ⟨y, mem y hy, rfl⟩⟩
 ·obtain ⟨k, hk, hpk⟩ := List.mem_flatMap.1 hp
  exact ⟨p, sub k (mem k hk) p hpk, rfl, fun _ => rfl, fun y hy => ⟨y, hy, rfl⟩⟩
theorem zvm {q q' : T} (h1 : q'.id = q.id) (h2 : q'.kids = q.kids) : ziw q.id q q' := by
 intro p hp
 rw [z1h, List.mem_cons] at hp
 rcases hp with rfl | hp
 ·exact ⟨q', z26 _, h1, fun h => (h rfl).elim, fun y hy => ⟨y, by rw [h2]; exact hy, rfl⟩⟩
 ·refine ⟨p, ?_, rfl, fun _ => rfl, fun y hy => ⟨y, hy, rfl⟩⟩
  rw [z1h, h2]; exact List.mem_cons_of_mem _ hp
theorem zrg (id : Idv) : ∀ u : T, ∀ p ∈ z0f (z0m id u), ∃ q ∈ z0f u, p = z0m id q := by
 refine z5k fun u ih p hp => ?_
 by_cases hpu : p = z0m id u
 ·exact ⟨u, z26 u, hpu⟩
 ·have hp2 : p ∈ ((u.kids.filter (z6q id)).map (z0m id)).flatMap z0f := by
   have e : z0f (z0m id u) = z0m id u :: ((u.kids.filter (z6q id)).map (z0m id)).flatMap z0f := by
    conv => lhs; rw [z1h]
    rw [show (z0m id u).kids = (u.kids.filter (z6q id)).map (z0m id) from by rw [z4m]; rfl]
   rw [e, List.mem_cons] at hp
   exact hp.resolve_left hpu
  obtain ⟨k, hk, hpk⟩ := List.mem_flatMap.1 hp2
  obtain ⟨k', hk', rfl⟩ := List.mem_map.1 hk
  have hm := (List.mem_filter.1 hk').1
  obtain ⟨q, hq, e⟩ := ih k' hm p hpk
  exact ⟨q, z2o hm hq, e⟩
theorem zhj (id : Idv) (j : Idv) (u : T) : ziw id (z0m j u) u := by
 intro p hp
 obtain ⟨q, hq, rfl⟩ := zrg j u p hp
 refine ⟨q, hq, (z78 j q).1.symm, fun _ => ?_, fun y hy => ?_⟩
 ·unfold zfk
  obtain ⟨h1, h2, h3, h4, h5⟩ := z78 j q
  unfold T.setKids
  rw [h1, h2, h3, h4, h5]
 ·rw [z4m] at hy
  obtain ⟨y', hy', rfl⟩ := List.mem_map.1 hy
  exact ⟨y', (List.mem_filter.1 hy').1, (z78 j y').1.symm⟩
theorem zd0 {C : Ctx} {q q' : T} (hs : standsT (z28 C q) = true) (h1 : q'.id = q.id) (h2 : q'.kind = q.kind) (h3 : q'.kids = q.kids) (ha : z2u q' = true) (hC : ctxR C (z5q q) -> ctxR C (z5q q')) : standsT (z28 C q') = true := by
 rw [z1o] at hs ⊢
 obtain ⟨u1, u2, u3, u4, u5, u6⟩ := hs
 rw [z3c] at u1
 obtain ⟨hr, hp⟩ := z8s C (x := q') (y := q) h1 h2
 have hi : idsT q' = idsT q := by rw [z19, z19, h1, h3]
 have hd : depT q' = depT q := by rw [z52, z52 q, h3]
 have hc : cntT q' = cntT q := by rw [<- z2m, <- z2m, hi]
 refine ⟨?_, ?_, ?_, ?_, by rw [hr, hp]; exact u5, ?_⟩
 ·rw [z3c]
  refine ⟨hC u1.1, ?_⟩
  have := u1.2
  rw [z43] at this ⊢
  rw [h3, h2]
  simp only [Bool.and_eq_true] at this ⊢
  exact ⟨ha, this.2⟩
 ·rw [z7t] at u2 ⊢; omega
 ·rw [z55] at u3 ⊢; omega
 ·rw [z29, hi, <- z29]; exact u4
 ·rw [z6v, hi, <- z6v]; exact u6
def LRP (u v : T) (id : Idv) (gone : List Idv) : Prop := standsT v = true /\ cntT v + gone.length = cntT u /\ gone.Nodup /\
 ∀ k ∈ idsT u, (z08 k v).2 = (!decide (k ∈ gone)) /\ ((z08 k v).2 = true -> k ≠ id -> zfk (z08 k u).1 = zfk (z08 k v).1 /\ (z6d k u).1 = (z6d k v).1)
theorem zrh {u : T} {id : Idv} (h : zc1 u id = 0) : LRP u (z0m id u) id (idsT (z08 id u).1) := by
 obtain ⟨h1, h2, h3⟩ := ziq h
 obtain ⟨under, n, x, d1, d2, d3, d4, d5, d6, d7, d8, d9, d10, d11, d12⟩ := zfc h1 h3 h2
 rw [d2]
 refine ⟨d4, by rw [z2m]; exact d11, z13 d5, fun k hk => ?_⟩
 by_cases hx : k ∈ idsT x
 ·have : k ∉ idsT (z0m id u) := d9 k hx
  rw [z2f, decide_eq_false this, decide_eq_true hx]
  exact ⟨rfl, fun h => by cases h⟩
 ·have hr : k ∈ idsT (z0m id u) := (d12 k hk).resolve_left hx
  rw [z2f, decide_eq_true hr, decide_eq_false hx]
  refine ⟨rfl, fun _ hne => ?_⟩
  obtain ⟨_, f2, f3⟩ := z51 (zhj id id u) (z13 d4) (z13 h1) hr
  refine ⟨(f2 hne).symm, ?_⟩
  by_cases hu : u.id = k
  ·rw [z7o hu, z7o (by rw [(z78 id u).1]; exact hu)]
  ·exact (f3 (by rw [(z78 id u).1]; exact hu)).symm
theorem zzg {u : T} {id parent : Idv} {m : Nat} (h : z8q u id parent m = 0) : LRP u (z1b parent (z6r m (z08 id u).1) (z0m id u)) id [] := by
 obtain ⟨h1, h2, h3, h4, h5, hw⟩ := zff h
 obtain ⟨under, n, x, d1, d2, d3, d4, d5, d6, d7, d8, d9, d10, d11, d12⟩ := zfc h1 h4 h2
 rw [d2] at hw h5 ⊢
 simp only at hw h5 ⊢
 obtain ⟨C, q, l, r, e1, e2, e3, e4, f1, f2, f3, f4, f5, _, f7, f8⟩ := zfb hw
 refine ⟨f1, by simp; omega, List.nodup_nil, fun k hk => ?_⟩
 have hnv := z13 f1
 have hxu : x ∈ z0f u := by have := z9j (id := id) (u := u) (by rw [d2]); rw [d2] at this; exact this
 have hxv : x ∈ z0f (z1b parent (z6r m x) (z0m id u)) := by have := z9j (id := x.id) (u := z1b parent (z6r m x) (z0m id u)) (by rw [f3]); rw [f3] at this; exact this
 by_cases hx : k ∈ idsT x
 ·obtain ⟨a1, a2, a3⟩ := z51 (id := id) (zl7 fun p hp => zbr u x hxu p hp) (z13 d5) (z13 h1) hx
  obtain ⟨b1, b2, b3⟩ := z51 (id := id) (zl7 fun p hp => zbr _ x hxv p hp) (z13 d5) hnv hx
  refine ⟨by rw [b1]; rfl, fun _ hne => ⟨(a2 hne).symm.trans (b2 hne), ?_⟩⟩
  have hr : ¬ x.id = k := fun e => hne (e.symm.trans d3)
  exact (a3 hr).symm.trans (b3 hr)
 ·have hr : k ∈ idsT (z0m id u) := (d12 k hk).resolve_left hx
  obtain ⟨a1, a2, a3⟩ := z51 (zhj id id u) (z13 d4) (z13 h1) hr
  have J : ziw id (z0m id u) (z1b parent (z6r m x) (z0m id u)) := by
   have := zcz (id := id) (zvl q x l r) rfl C
   rw [<- e1, <- e4] at this
   exact this
  obtain ⟨b1, b2, b3⟩ := z51 J (z13 d4) hnv hr
  refine ⟨by rw [b1]; rfl, fun _ hne => ⟨(a2 hne).symm.trans (b2 hne), ?_⟩⟩
  by_cases hu : u.id = k
  ·have h0 : (z0m id u).id = k := by rw [(z78 id u).1]; exact hu
   have hv : (z1b parent (z6r m x) (z0m id u)).id = (z0m id u).id := by
    rw [e4]; conv => rhs; rw [e1]
    exact (z8s C (x := q.setKids (l ++ x :: r)) (y := q.setKids (l ++ r)) rfl rfl).1
   rw [z7o hu, z7o (hv.trans h0)]
  ·have h0 : ¬ (z0m id u).id = k := by rw [(z78 id u).1]; exact hu
   exact (a3 h0).symm.trans (b3 h0)
theorem zvn {u : T} {id : Idv} {f : T -> T} (h1 : standsT u = true) (hm : id ∈ idsT u) (hf : ∀ q : T, (f q).id = q.id /\ (f q).kids = q.kids) (hs : standsT (z1b id f u) = true) : LRP u (z1b id f u) id [] := by
 obtain ⟨C, e, hq, hpre, _⟩ := focus id u hm
 generalize (z08 id u).1 = q at e hq
 have hpost : id ∉ z3i C := (z2j (x := q) (by rw [<- e]; exact z13 h1) (hq ▸ z1e q)).2
 have e4 : z1b id f u = z28 C (f q) := by rw [e, z4l f hq C hpre hpost]
 have hi : idsT (f q) = idsT q := by rw [z19, z19 q, (hf q).1, (hf q).2]
 have hids : idsT (z1b id f u) = idsT u := by rw [e4, z29, hi, <- z29, <- e]
 refine ⟨hs, by rw [<- z2m, <- z2m, hids]; rfl, List.nodup_nil, fun k hk => ?_⟩
 have J : ziw id u (z1b id f u) := by
  have := zcz (zvm (hf q).1 (hf q).2) (hf q).1 C
  rw [hq, <- e, <- e4] at this
  exact this
 obtain ⟨b1, b2, b3⟩ := z51 J (z13 h1) (z13 hs) hk
 refine ⟨by rw [b1]; rfl, fun _ hne => ⟨b2 hne, ?_⟩⟩
 by_cases hu : u.id = k
 ·have hv : (z1b id f u).id = u.id := by
   rw [e4]; conv => rhs; rw [e]
   cases C with
   | hole => exact (hf q).1
   | node t l c r => rfl
  rw [z7o hu, z7o (hv.trans hu)]
 ·exact b3 hu
theorem zvo {u : T} {id : Idv} {l : List Wd} (h : z4b u id l = 0) : LRP u (z1b id (fun q => q.setWords l) u) id [] := by
 obtain ⟨h1, hm, h3, h4, h5⟩ := zaz h
 refine zvn h1 hm (fun q => ⟨rfl, rfl⟩) ?_
 obtain ⟨C, e, hq, hpre, _⟩ := focus id u hm
 generalize (z08 id u).1 = q at e hq h4
 have hpost : id ∉ z3i C := (z2j (x := q) (by rw [<- e]; exact z13 h1) (hq ▸ z1e q)).2
 rw [e, z4l (fun q => q.setWords l) hq C hpre hpost]
 rw [e] at h1
 refine zd0 h1 rfl rfl rfl ?_ (fun h => h)
 have hr := ((z1o _).1 h1).1
 rw [z3c] at hr
 have ha := (zay hr.2).1
 unfold z2u at ha ⊢
 simp only [Bool.and_eq_true, decide_eq_true_eq] at ha ⊢
 obtain ⟨a1, a2, a3, a4, a5⟩ := ha
 refine ⟨a1, a2, a3, ?_, ?_⟩
 ·show zhg l = true
  unfold zhg
  rw [decide_eq_true h5, Bool.true_and, List.all_eq_true]
  intro w hw
  unfold zxf at h3
  have := List.any_eq_false.1 h3 w hw
  simpa using this
 ·rw [if_neg h4] at a5
  rw [if_neg (show ¬ (q.setWords l).kind = 0 from h4)]; exact a5
theorem zvp {u : T} {id : Idv} {name : ByteArray} (h : zln u id name = 0) : standsT u = true /\ z46 name = true /\ id ∈ idsT u /\ ¬ (z08 id u).1.kind = 0 /\ zd2 u id name = false := by
 unfold zln at h
 split at h
 ·cases h
 rename_i h1
 split at h
 ·cases h
 rename_i h2
 split at h
 ·cases h
 rename_i h3
 split at h
 ·cases h
 rename_i h4
 rw [not_or, Bool.not_eq_false, Bool.not_eq_false] at h1
 rw [Bool.not_eq_false, z2f, decide_eq_true_eq] at h2
 exact ⟨h1.1, h1.2, h2, h3, by simpa using h4⟩
theorem zvq {u : T} {id : Idv} {name : ByteArray} (h : zln u id name = 0) : LRP u (z1b id (fun q => q.setLabel name) u) id [] := by
 obtain ⟨h1, h2, hm, h4, h5⟩ := zvp h
 refine zvn h1 hm (fun q => ⟨rfl, rfl⟩) ?_
 have alone : ∀ q : T, z2u q = true -> ¬ q.kind = 0 -> z2u (q.setLabel name) = true := fun q ha hk => by
  unfold z2u at ha ⊢
  simp only [Bool.and_eq_true, decide_eq_true_eq] at ha ⊢
  obtain ⟨a1, a2, a3, a4, _⟩ := ha
  refine ⟨a1, a2, a3, a4, ?_⟩
  rw [if_neg (show ¬ (q.setLabel name).kind = 0 from hk)]; exact h2
 by_cases h0 : u.id = id
 ·rw [z2y h0] at h4
  rw [z5u, if_pos h0]
  refine zd0 (C := .hole) h1 rfl rfl rfl (alone u (zay ((z1o u).1 h1).1).1 h4) (fun _ => trivial)
 ·obtain ⟨C, q, l, x, r, e, hx, hq, n1, n2, hf, hp⟩ := zjg h0 hm
  have hnd := z13 h1
  have hnd' := hnd
  rw [e] at hnd
  have hqs : q.id ∈ idsT (q.setKids (l ++ x :: r)) := by rw [z23]; exact List.mem_cons_self
  obtain ⟨m1, m2⟩ := z2j hnd hqs
  have hxm : id ∈ idsT (q.setKids (l ++ x :: r)) := by rw [z23]; exact List.mem_cons_of_mem _ (zcc.2 (.inr (.inl (hx ▸ z1e x))))
  obtain ⟨k1, k2⟩ := z2j hnd hxm
  have ns := (zb0 (z7h hnd)).1 id (hx ▸ z1e x)
  have hfq : z08 q.id u = (q.setKids (l ++ x :: r), true) := by rw [e, z8r hqs C m1]; exact z2y rfl
  -- the edit at x, seen from above it
  have he : z1b id (fun q => q.setLabel name) u = z28 C (q.setKids (l ++ x.setLabel name :: r)) := by
   have hC2 : u = z28 (zgm C (.node q l .hole r)) x := by rw [zfl]; exact e
   rw [hC2, z4l (fun q => q.setLabel name) hx _ ?_ ?_, zfl]; rfl
   ·rw [zoo, List.mem_append]
    rintro (h | h)
    ·exact k1 h
    ·simp only [z6a, List.append_nil, List.mem_cons] at h
     rcases h with h | h
     ·exact hq h.symm
     ·exact n2 h
   ·rw [zl6, List.mem_append]
    rintro (h | h)
    ·simp only [z3i, List.nil_append] at h
     exact ns.2.2 h
    ·exact k2 h
  rw [he]
  rw [hf] at h4
  have hb : zd2 u id name = false := h5
  unfold zd2 at hb
  rw [hp, hf, hfq] at hb
  simp only [Bool.true_and, Bool.or_eq_false_iff, decide_eq_false_iff_not] at hb
  obtain ⟨_, hb⟩ := hb
  have htk : (name, x.kind) = (name, x.kind) := rfl
  have hs := h1
  rw [e, z1o] at hs
  obtain ⟨u1, u2, u3, u4, u5, u6⟩ := hs
  have hi : idsT (q.setKids (l ++ x.setLabel name :: r)) = idsT (q.setKids (l ++ x :: r)) := by
   rw [z23, z23, List.flatMap_append, List.flatMap_append, List.flatMap_cons, List.flatMap_cons, z19 (x.setLabel name), z19 x]; rfl
  have hdx : depT (x.setLabel name) = depT x := by rw [z52, z52 x]; rfl
  obtain ⟨hr, hk⟩ := z8s C (x := q.setKids (l ++ x.setLabel name :: r)) (y := q.setKids (l ++ x :: r)) rfl rfl
  rw [z1o]
  refine ⟨?_, ?_, ?_, ?_, by rw [hr, hk]; exact u5, ?_⟩
  ·rw [z3c, zav] at u1 ⊢
   obtain ⟨uC, ⟨a1, a2, a3, a4, a5⟩, uX⟩ := u1
   refine ⟨uC, ⟨a1, a2, a3, a4, ?_⟩, ?_⟩
   ·intro hmem
    obtain ⟨y, hy, hk⟩ := List.mem_map.1 hmem
    have hy2 : y ∈ l ++ x :: r := by
     rcases List.mem_append.1 hy with h | h
     ·exact List.mem_append_left _ h
     ·exact List.mem_append_right _ (List.mem_cons_of_mem _ h)
    have := List.any_eq_false.1 hb y hy2
    simp only [Bool.and_eq_true, decide_eq_true_eq, not_and] at this
    exact this (congrArg Prod.fst hk) (congrArg Prod.snd hk)
   ·have := uX
    rw [z43] at this ⊢
    simp only [Bool.and_eq_true] at this ⊢
    exact ⟨alone x this.1 h4, this.2⟩
  ·rw [z7t, zlz] at u2 ⊢; omega
  ·have hc : cntT (q.setKids (l ++ x.setLabel name :: r)) = cntT (q.setKids (l ++ x :: r)) := by rw [<- z2m, <- z2m, hi]
   rw [z55] at u3 ⊢; omega
  ·rw [z29, hi, <- z29]; exact u4
  ·rw [z6v, hi, <- z6v]; exact u6
theorem zvr {u : T} {id parent : Idv} {i : Int} (h : z8q u id parent i = 0) : 0 <= i := by
 obtain ⟨_, _, _, _, _, hw⟩ := zff h
 unfold z3r at hw
 split at hw
 ·cases hw
 split at hw
 ·cases hw
 split at hw
 ·cases hw
 split at hw
 ·cases hw
 omega
theorem zvs {u : T} {id parent : Idv} {i : Int} (h : z8q u id parent i = 0) : LRP u (z1b parent (z6r i.toNat (z08 id u).1) (z0m id u)) id [] := by
 have h0 := zvr h
 obtain ⟨m, rfl⟩ := Int.eq_ofNat_of_zero_le h0
 exact zzg h
end Tr
namespace Tr
theorem Upd.congr {lo : Nat} {m1 m2 : List Idv} {v v' : V} (h : Upd lo m1 v v') (hm : ∀ i, i ∈ m1 ↔ i ∈ m2) : Upd lo m2 v v' := fun a ha => by
 rcases h a ha with ⟨h1, h2, h3⟩ | ⟨h1, h2⟩
 ·exact .inl ⟨h1, h2, fun h => h3 ((hm _).2 h)⟩
 ·exact .inr ⟨h1, h2.imp (hm _).1 _root_.id⟩
theorem zc4 {v : V} {id : Idv} (hm : id ∈ idsT (treeV v)) (i : Idv) : i ∈ zam id v ↔ i ∈ id :: z41 id (treeV v) := by
 have hne := z4v.2 hm
 have hl := zj5 id (treeV v) hne
 unfold zam z41
 have e : z1s id (treeV v) = (z1s id (treeV v)).dropLast ++ [(z1s id (treeV v))[(z1s id (treeV v)).length - 1]'(by have := List.length_pos_iff.2 hne; omega)] := by
  conv => lhs; rw [<- List.dropLast_concat_getLast hne]
  rw [List.getLast_eq_getElem]
 conv => lhs; rw [e]
 rw [List.map_append, List.mem_append, List.mem_cons, List.mem_reverse]
 simp only [List.map_cons, List.map_nil, List.mem_singleton, hl]
 exact or_comm
theorem z3s {n : Nat} {v : V} (hu : Under n v) : ∀ a ∈ nodesV v, a.num < n := fun a ha => z2w hu ha _ (z3u a)
theorem znc {m n : Nat} {id : Idv} {f : T -> T} (hf : ∀ q ks, f (T.setKids q ks) = (f q).setKids ks) (hfi : ∀ q : T, (f q).id = q.id) {v v' : V} (hn : (idsT (treeV v)).Nodup) (hu : Under n v) (hnm : n <= m) (h : Chg m id (fun w w' => w'.own = f w.own /\ w'.kids = w.kids) v v') :
  treeV v' = z1b id f (treeV v) /\ Upd n (id :: z41 id (treeV v)) v v' /\ n <= v'.num := by
 have hm := h.hit
 refine ⟨zec h hn fun w _ w' _ ⟨h1, h2⟩ => ?_, Upd.congr (m1 := zam id v) (fun a ha => ?_) fun i => zc4 hm i, Nat.le_trans hnm h.root.1⟩
 ·rw [z2g w', z2g w, h1, h2, hf]
 ·rcases zbk (New := fun _ => False) h hn (fun a ha => Nat.lt_of_lt_of_le (z3s hu a ha) hnm) (fun w _ w' _ ⟨_, h2⟩ c hc a ha => .inl ⟨c, h2 ▸ hc, ha⟩) a ha with ⟨h1, h2⟩ | ⟨h1, h2, h3⟩ | h
  ·exact .inr ⟨by omega, .inl h2⟩
  ·exact .inl ⟨z3s hu a h2, h2, h3⟩
  ·exact h.elim
theorem upd_ins {m n lo at_ : Nat} {x : T} {id : Idv} {v v' : V} (hw : z3r (treeV v) id at_ x = 0) (hn : (idsT (treeV v)).Nodup) (hu : Under n v) (hnm : n <= m) (hnl : n <= lo)
  (h : Chg m id (fun w w' => w'.own = w.own /\ ∃ g, treeV g = x /\ (objsV g).Nodup /\ (∀ j ∈ objsV g, lo <= j) /\ w'.kids = w.kids.take at_ ++ g :: w.kids.drop at_) v v') :
  treeV v' = z1b id (z6r at_ x) (treeV v) /\ Upd n (id :: z41 id (treeV v)) v v' /\ n <= v'.num := by
 have hm := h.hit
 obtain ⟨_, _, _, _, _, _, _, _, _, _, _, _, _, _, hdis, _⟩ := zfb hw
 refine ⟨zec h hn fun w _ w' _ ⟨h1, g, hg, _, _, h2⟩ => ?_, Upd.congr (m1 := zam id v) (fun a ha => ?_) fun i => zc4 hm i, Nat.le_trans hnm h.root.1⟩
 ·rw [z2g w', z2g w, h1, h2]
  unfold z6r
  show w.own.setKids _ = w.own.setKids (List.take at_ (w.kids.map treeV) ++ x :: List.drop at_ (w.kids.map treeV))
  rw [List.map_append, List.map_cons, hg, List.map_take, List.map_drop]
 ·have hE : ∀ w ∈ nodesV v, ∀ w' : V, w.own.id = id -> (w'.own = w.own /\ ∃ g, treeV g = x /\ (objsV g).Nodup /\ (∀ j ∈ objsV g, lo <= j) /\ w'.kids = w.kids.take at_ ++ g :: w.kids.drop at_) -> ∀ c ∈ w'.kids, ∀ a ∈ nodesV c, (∃ d ∈ w.kids, a ∈ nodesV d) \/ (n <= a.num /\ a.own.id ∈ idsT x) := by
   intro w _ w' _ ⟨_, g, hg, _, hgo, h2⟩ c hc a ha
   rw [h2, List.mem_append, List.mem_cons] at hc
   rcases hc with hc | rfl | hc
   ·exact .inl ⟨c, List.mem_of_mem_take hc, ha⟩
   ·refine .inr ⟨Nat.le_trans hnl (hgo _ (zjs c a ha _ (z3u a))), ?_⟩
    rw [<- hg, z33]
    exact List.mem_map.2 ⟨a, ha, rfl⟩
   ·exact .inl ⟨c, List.mem_of_mem_drop hc, ha⟩
  rcases zbk (New := fun a => n <= a.num /\ a.own.id ∈ idsT x) h hn (fun a ha => Nat.lt_of_lt_of_le (z3s hu a ha) hnm) hE a ha with ⟨h1, h2⟩ | ⟨h1, h2, h3⟩ | ⟨h1, h2⟩
  ·exact .inr ⟨by omega, .inl h2⟩
  ·exact .inl ⟨z3s hu a h2, h2, h3⟩
  ·exact .inr ⟨h1, .inr (hdis _ h2)⟩
theorem zg3 {u : T} {id : Idv} (hn : (idsT u).Nodup) (h0 : ¬ u.id = id) (hm : id ∈ idsT u) : ∃ under : Idv, (z6d id u).1 = under /\ under ∈ idsT u /\ z41 id u = under :: z41 under u /\ under ∉ idsT (z08 id u).1 /\ (∃ q ∈ z0f u, q.id = under /\ ∃ k ∈ q.kids, k.id = id) /\
  z1b under (fun q => q.setKids (q.kids.filter fun k => !decide (k.id = id))) u = z0m id u := by
 obtain ⟨C, q, l, x, r, e, hx, hq, n1, n2, hf, hp⟩ := zjg h0 hm
 subst e
 have hxm : id ∈ idsT (q.setKids (l ++ x :: r)) := by rw [z23]; exact List.mem_cons_of_mem _ (zcc.2 (.inr (.inl (hx ▸ z1e x))))
 obtain ⟨k1, k2⟩ := z2j hn hxm
 have ns := (zb0 (z7h hn)).1 id (hx ▸ z1e x)
 have hqs : q.id ∈ idsT (q.setKids (l ++ x :: r)) := by rw [z23]; exact List.mem_cons_self
 obtain ⟨m1, m2⟩ := z2j hn hqs
 refine ⟨q.id, by rw [hp], z6u C hqs, ?_, ?_, ⟨q.setKids (l ++ x :: r), ?_, rfl, x, by show x ∈ l ++ x :: r; simp, hx⟩, ?_⟩
 ·have e0 : z41 q.id (q.setKids (l ++ x :: r)) = [] := z96 rfl
  rw [ze5 hxm C k1, ze5 hqs C m1, e0, zlw hq n2 (hx ▸ z1e x), z96 hx]
  rfl
 ·rw [hf]
  have hnd := z7h hn
  rw [z23, List.nodup_cons, List.flatMap_append, List.flatMap_cons, List.mem_append, List.mem_append] at hnd
  exact fun h => hnd.1 (.inr (.inl h))
 ·exact zl5 C (z26 _)
 ·have e1 := z4l (id := q.id) (fun q => q.setKids (q.kids.filter fun k => !decide (k.id = id))) (q := q.setKids (l ++ x :: r)) rfl C m1 m2
  rw [e1, z8u hq hx n2 ns.2.2 C k1 k2]
  congr 1
  show q.setKids ((l ++ x :: r).filter _) = _
  have hkl : ∀ k ∈ l, (!decide (k.id = id)) = true := fun k hk => by
   simp only [Bool.not_eq_true', decide_eq_false_iff_not]
   exact fun e => n2 (List.mem_flatMap.2 ⟨k, hk, e ▸ z1e k⟩)
  have hkr : ∀ k ∈ r, (!decide (k.id = id)) = true := fun k hk => by
   simp only [Bool.not_eq_true', decide_eq_false_iff_not]
   exact fun e => ns.2.2 (List.mem_flatMap.2 ⟨k, hk, e ▸ z1e k⟩)
  rw [List.filter_append, List.filter_cons, if_neg (by simp [hx]), List.filter_eq_self.2 hkl, List.filter_eq_self.2 hkr]
theorem zzy {w : V} {i : Idv} : treeV (V.mk w.num w.row w.own (w.kids.filter fun k => !decide (k.own.id = i))) = (treeV w).setKids ((treeV w).kids.filter fun k => !decide (k.id = i)) := by
 rw [z2g, z2g w]
 show w.own.setKids ((w.kids.filter fun k => !decide (k.own.id = i)).map treeV) = w.own.setKids ((w.kids.map treeV).filter fun k => !decide (k.id = i))
 rw [List.filter_map]
 congr 2
 refine List.filter_congr fun k _ => ?_
 simp only [Function.comp, z2b]
theorem zwg {m n : Nat} {id under : Idv} {v v' : V} (hn : (idsT (treeV v)).Nodup) (hu : Under n v) (hnm : n <= m) (he : z1b under (fun q => q.setKids (q.kids.filter fun k => !decide (k.id = id))) (treeV v) = z0m id (treeV v))
  (h : Chg m under (fun w w' => w'.own = w.own /\ w'.kids = w.kids.filter fun k => !decide (k.own.id = id)) v v') :
  treeV v' = z0m id (treeV v) /\ Upd n (under :: z41 under (treeV v)) v v' /\ n <= v'.num := by
 have hm := h.hit
 refine ⟨?_, Upd.congr (m1 := zam under v) (fun a ha => ?_) fun i => zc4 hm i, Nat.le_trans hnm h.root.1⟩
 ·rw [<- he]
  refine zec h hn fun w _ w' _ ⟨h1, h2⟩ => ?_
  rw [<- zzy, z2g w', z2g (V.mk _ _ _ _), h1, h2]
  rfl
 ·rcases zbk (New := fun _ => False) h hn (fun a ha => Nat.lt_of_lt_of_le (z3s hu a ha) hnm) (fun w _ w' _ ⟨_, h2⟩ c hc a ha => .inl ⟨c, (List.mem_filter.1 (h2 ▸ hc)).1, ha⟩) a ha with ⟨h1, h2⟩ | ⟨h1, h2, h3⟩ | h
  ·exact .inr ⟨by omega, .inl h2⟩
  ·exact .inl ⟨z3s hu a h2, h2, h3⟩
  ·exact h.elim
theorem zhs : ∀ t : T, ∀ y ∈ z0f t, ∀ z ∈ z0f y, z ∈ z0f t := by
 refine z5k fun t ih y hy z hz => ?_
 rw [z1h, List.mem_cons] at hy
 rcases hy with rfl | hy
 ·exact hz
 ·obtain ⟨k, hk, hy⟩ := List.mem_flatMap.1 hy
  exact z2o hk (ih k hk y hy z hz)
theorem zzz (t y : T) (hy : y ∈ z0f t) (i : Idv) (hi : i ∈ idsT y) : i ∈ idsT t := by
 obtain ⟨z, hz, rfl⟩ := List.mem_map.1 hi
 exact List.mem_map.2 ⟨z, zhs t y hy z hz, rfl⟩
theorem zwh {k : Idv} : ∀ u : T, ∀ y ∈ z1s k u, k ∈ idsT y := by
 refine z5k fun u ih y hy => ?_
 have hne : z1s k u ≠ [] := List.ne_nil_of_mem hy
 by_cases h0 : u.id = k
 ·rw [z47 h0, List.mem_singleton] at hy
  subst hy
  rw [<- h0]; exact z1e _
 ·obtain ⟨i, hi, h1, h2, h3⟩ := z9k h0 hne
  rw [h3, List.mem_cons] at hy
  rcases hy with rfl | hy
  ·exact z4v.1 hne
  ·exact ih _ (List.getElem_mem hi) y hy
theorem zwi {u : T} {id k : Idv} (hn : (idsT u).Nodup) (hk : k ∈ idsT u) (hid : id ∈ idsT u) (hx : k ∉ idsT (z08 id u).1) : ∀ i ∈ k :: z41 k u, i ∉ idsT (z08 id u).1 := by
 intro i hi hm
 have hf2 : (z08 id u).2 = true := by rw [z2f, decide_eq_true hid]
 have hiu : i ∈ idsT u := zoh i hm hf2
 -- k is below i
 obtain ⟨y, hy, e⟩ : ∃ y ∈ z1s k u, y.id = i := by
  have hne := z4v.2 hk
  rcases List.mem_cons.1 hi with rfl | hi
  ·exact ⟨_, List.getElem_mem _, zj5 i u hne⟩
  ·unfold z41 at hi
   rw [List.mem_reverse] at hi
   obtain ⟨y, hy, e⟩ := List.mem_map.1 hi
   exact ⟨y, (List.dropLast_sublist _).subset hy, e⟩
 have hyk := zwh u y hy
 -- y is the node of i, that lies below x
 obtain ⟨z, hz, ez⟩ := List.mem_map.1 hm
 have hyu := zcr k u y hy
 have hzu : z ∈ z0f u := zhs u _ (z9j hf2) z hz
 have hyz : y = z := z6o (f := T.id) hn y hyu z hzu (e.trans ez.symm)
 subst hyz
 exact hx (zzz _ y hz k hyk)
theorem znd : ∀ v : V, ∀ x ∈ nodesV v, ∀ a ∈ nodesV x, a ∈ nodesV v := by
 refine zch fun v ih x hx a ha => ?_
 rw [z2v, List.mem_cons] at hx
 rcases hx with rfl | hx
 ·exact ha
 ·obtain ⟨k, hk, hx⟩ := List.mem_flatMap.1 hx
  exact z2a hk (ih k hk x hx a ha)
theorem upd_mov {m n m2 n2 at_ : Nat} {id under parent : Idv} {v r v' x : V} (h1 : standsT (treeV v) = true) (h0 : ¬ (treeV v).id = id) (hid : id ∈ idsT (treeV v)) (hp : parent ∈ idsT (treeV v)) (hpx : parent ∉ idsT (z08 id (treeV v)).1)
  (hun : z41 id (treeV v) = under :: z41 under (treeV v)) (hum : under ∈ idsT (treeV v)) (hux : under ∉ idsT (z08 id (treeV v)).1)
  (hx : treeV x = (z08 id (treeV v)).1) (hxv : x ∈ nodesV v) (hu : Under n v) (hnm : n <= m) (ho : treeV r = z0m id (treeV v) /\ Upd n (under :: z41 under (treeV v)) v r /\ n <= r.num) (hnr : (idsT (treeV r)).Nodup)
  (hur : Under n2 r) (hn2 : n <= n2) (hnm2 : n2 <= m2) (h : Chg m2 parent (fun w w' => w'.own = w.own /\ w'.kids = w.kids.take at_ ++ x :: w.kids.drop at_) r v') :
  treeV v' = z1b parent (z6r at_ (z08 id (treeV v)).1) (z0m id (treeV v)) /\ Upd n (z41 id (treeV v) ++ parent :: z41 parent (treeV v)) v v' /\ n <= v'.num := by
 have hn := z13 h1
 obtain ⟨o1, o2, o3⟩ := ho
 have hm := h.hit
 have hanc : z41 parent (treeV r) = z41 parent (treeV v) := by
  rw [o1]
  exact zyd (treeV v) hn h0 hp fun y hy => by rw [hy] at hpx; exact hpx
 refine ⟨?_, fun a ha => ?_, Nat.le_trans (Nat.le_trans hn2 hnm2) h.root.1⟩
 ·rw [<- o1]
  refine zec h hnr fun w _ w' _ ⟨g1, g2⟩ => ?_
  rw [z2g w', z2g w, g1, g2]
  unfold z6r
  show w.own.setKids _ = w.own.setKids (List.take at_ (w.kids.map treeV) ++ (z08 id (treeV v)).1 :: List.drop at_ (w.kids.map treeV))
  rw [List.map_append, List.map_cons, hx, List.map_take, List.map_drop]
 ·have hxi : ∀ a ∈ nodesV x, a.own.id ∈ idsT (z08 id (treeV v)).1 := fun a ha => by
   rw [<- hx, z33]; exact List.mem_map.2 ⟨a, ha, rfl⟩
  have hE : ∀ w ∈ nodesV r, ∀ w' : V, w.own.id = parent -> (w'.own = w.own /\ w'.kids = w.kids.take at_ ++ x :: w.kids.drop at_) -> ∀ c ∈ w'.kids, ∀ a ∈ nodesV c, (∃ d ∈ w.kids, a ∈ nodesV d) \/ a ∈ nodesV x := by
   intro w _ w' _ ⟨_, g2⟩ c hc a ha
   rw [g2, List.mem_append, List.mem_cons] at hc
   rcases hc with hc | rfl | hc
   ·exact .inl ⟨c, List.mem_of_mem_take hc, ha⟩
   ·exact .inr ha
   ·exact .inl ⟨c, List.mem_of_mem_drop hc, ha⟩
  have hmem : ∀ i, i ∈ z41 id (treeV v) ++ parent :: z41 parent (treeV v) ↔ i ∈ under :: z41 under (treeV v) \/ i ∈ parent :: z41 parent (treeV v) := fun i => by rw [List.mem_append, hun]
  rw [hmem]
  rcases zbk (New := fun a => a ∈ nodesV x) h hnr (fun a ha => Nat.lt_of_lt_of_le (z3s hur a ha) hnm2) hE a ha with ⟨g1, g2⟩ | ⟨g1, g2, g3⟩ | g
  ·rw [zc4 hm, hanc] at g2
   exact .inr ⟨by omega, .inl (.inr g2)⟩
  ·rw [zc4 hm, hanc] at g3
   rcases o2 a g2 with ⟨e1, e2, e3⟩ | ⟨e1, e2⟩
   ·exact .inl ⟨e1, e2, fun h => h.elim e3 g3⟩
   ·exact .inr ⟨e1, e2.imp .inl _root_.id⟩
  ·have hav : a ∈ nodesV v := by
    have := znd v x hxv a g
    exact this
   refine .inl ⟨z3s hu a hav, hav, fun h => ?_⟩
   rcases h with h | h
   ·exact zwi hn hum hid hux _ h (hxi a g)
   ·exact zwi hn hp hid hpx _ h (hxi a g)
end Tr
end
section
open Abs Facts Tr
attribute [local irreducible] awp
set_option maxRecDepth 100000
end
section
open Abs Facts Tr
attribute [local irreducible] awp
set_option maxRecDepth 100000
structure VnSz (x : Vn) : Prop where
 sz : szB x.u = true
 cn : cntT x.u <= 1000000
 dp : depT x.u <= 100000
 ln : x.l.length <= 1000000
namespace Tr
theorem zi0 {id : Idv} {f : T -> T} (hf : ∀ q : T, (f q).id = q.id /\ (f q).kids = q.kids) : ∀ u : T, idsT (z1b id f u) = idsT u := by
 refine z5k fun u ih => ?_
 rw [z5u]
 split
 ·rw [z19, z19 u, (hf u).1, (hf u).2]
 ·rw [z23, z19 u, List.flatMap_map]
  congr 1
  generalize u.kids = l at ih
  induction l with
  | nil => rfl
  | cons k l ihl => rw [List.flatMap_cons, List.flatMap_cons, ih k (by simp), ihl fun k hk => ih k (List.mem_cons_of_mem _ hk)]
end Tr
section
variable {x : Vn}
end
end
section
open Abs Facts Tr
attribute [local irreducible] awp
set_option maxRecDepth 100000
theorem z8w {st : St} {q e e2 k k2 : Nat} {cs cs2 : List D} (h : st.H q = some (.row e k cs)) : z8p st (z0e st.H q (some (.row e2 k2 cs2))) st.nx := by
 refine ⟨Nat.le_refl _, fun id => ⟨fun _ e0 c0 h0 => ?_, fun hlt e0 c0 h0 => ?_⟩⟩
 ·unfold z0e
  split
  ·rename_i e1; rw [e1, h] at h0; cases h0
  ·exact h0
 ·unfold z0e at h0
  split at h0
  ·cases h0
  ·exact ⟨hlt, h0⟩
theorem zog {at_ : Nat} {x w : V} (h : at_ <= w.kids.length) : rowV (zno at_ x w) = .row 75 (w.kids.length + 1) (((w.kids.take at_).map fun v => .ptr v.num 0) ++ [.ptr x.num 0] ++ ((w.kids.drop at_).map fun v => .ptr v.num 0)) := by
 unfold rowV zno
 have hl : (w.kids.take at_ ++ x :: w.kids.drop at_).length = w.kids.length + 1 := by
  rw [List.length_append, List.length_cons, List.length_take, List.length_drop]; omega
 rw [hl]
 simp
theorem zuy {at_ : Nat} {x w : V} (h : at_ <= w.kids.length) : (zno at_ x w).length = w.kids.length + 1 := by
 unfold zno
 rw [List.length_append, List.length_cons, List.length_take, List.length_drop]; omega
section
variable {lo : Nat} {H0 : HM} {w : V}
theorem do_rel {b : Nat} {name : ByteArray} (hb : H0 b = some (.box 9 [.str name])) (hbl : b < lo) : DoOK 100 [.ptr b 0] lo H0 (fldE fun q => q.setLabel name) w := by
 intro m H n c r hp h0
 have hbx := hp.box
 have hbb := (h0 b hbl).trans hb
 have hmc := hp.mc
 have hcn := hp.cn
 have hlom := hp.lom
 have k1 : (b == c) = false := za7 (by omega)
 refine (z17 [] Tryz.func100 rfl (by decide +kernel) z0b (by decide +kernel) (by simp [Tryz.ntmps100]) ?_)
 show awp _ _ (Code.region _ _ _) _ _
 repeat' (first | ((refine zqr fun K J => ?_); (simp (disch := omega) only [go_sem, Nat.reduceBEq, ↓reduceIte, reduceCtorEq, Nat.reduceAdd, Nat.reduceLeDiff, Nat.reduceLT, hbx, hbb, nodeB])) | refine zqu (by (simp (disch := omega) only [go_sem]); rfl) rfl ?_ | (refine J _ ?_; clear J K))
 (simp (disch := omega) only [go_sem])
 exact ⟨rfl, rfl⟩
theorem zyo {b : Nat} {l : List Wd} (hl : l.length <= 1000000) (hb : H0 b = some (.box 24 [z0w l])) (hbl : b < lo) : DoOK 91 [.ptr b 0] lo H0 (fldE fun q => q.setWords l) w := by
 intro m H n c r hp h0
 have hbx := hp.box
 have hbb := (h0 b hbl).trans hb
 have hmc := hp.mc
 have hcn := hp.cn
 have hlom := hp.lom
 have c1 := z5c l (by omega)
 refine (z17 [] Tryz.func91 rfl (by decide +kernel) z0b (by decide +kernel) (by simp [Tryz.ntmps91]) ?_)
 show awp _ _ (Code.region _ _ _) _ _
 repeat' (first | ((first | refine zqr fun K J => ?_ | refine zqs (c1) ?_); (simp (disch := omega) only [go_sem, Nat.reduceBEq, ↓reduceIte, reduceCtorEq, Nat.reduceAdd, hbx, hbb, nodeB])) | refine zqu (by (simp (disch := omega) only [go_sem]); rfl) rfl ?_ | (refine J _ ?_; clear J K))
 (simp (disch := omega) only [go_sem])
 exact ⟨rfl, rfl⟩
theorem do_head {b : Nat} {l : List Wd} (hl : l.length <= 1000000) (hb : H0 b = some (.box 24 [z0w l])) (hbl : b < lo) : DoOK 101 [.ptr b 0] lo H0 (fldE fun q => q.setHead l) w := by
 intro m H n c r hp h0
 have hbx := hp.box
 have hbb := (h0 b hbl).trans hb
 have hmc := hp.mc
 have hcn := hp.cn
 have hlom := hp.lom
 have c1 := z5c l (by omega)
 refine (z17 [] Tryz.func101 rfl (by decide +kernel) z0b (by decide +kernel) (by simp [Tryz.ntmps101]) ?_)
 show awp _ _ (Code.region _ _ _) _ _
 repeat' (first | ((first | refine zqr fun K J => ?_ | refine zqs (c1) ?_); (simp (disch := omega) only [go_sem, Nat.reduceBEq, ↓reduceIte, reduceCtorEq, Nat.reduceAdd, hbx, hbb, nodeB])) | refine zqu (by (simp (disch := omega) only [go_sem]); rfl) rfl ?_ | (refine J _ ?_; clear J K))
 (simp (disch := omega) only [go_sem])
 exact ⟨rfl, rfl⟩
theorem do_out {b : Nat} {i : Idv} (hb : H0 b = some (idB i)) (hbl : b < lo) (hk : ∃ k ∈ w.kids, k.own.id = i) (hl : w.kids.length <= 1000000) : DoOK 151 [.ptr b 0] lo H0 (outE i) w := by
 intro m H n c r hp h0
 have hbx := hp.box
 have hbb := (h0 b hbl).trans hb
 have hmc := hp.mc
 have hcn := hp.cn
 have hlom := hp.lom
 obtain ⟨q, rfl⟩ : ∃ q, r = some q := by
  cases hr : r with
  | none =>
   obtain ⟨k, hk, _⟩ := hk
   rw [hp.nor hr] at hk; cases hk
  | some q => exact ⟨q, rfl⟩
 obtain ⟨h1, h2, h3⟩ := hp.row q rfl
 have hdel := zpc (nx := n) h3 (by omega) hl hbb (by omega) (by omega) (fun k hk => by
  obtain ⟨g1, g2⟩ := hp.kids k hk
  have := g2 _ (z3u k)
  exact ⟨((z1v _ _).1 g1).1, by omega, by omega⟩) hk
 have k1 : (c == n) = false := za7 (by omega)
 have k2 : (c == q) = false := za7 (by omega)
 refine (z17 [] Tryz.func151 rfl (by decide +kernel) z0b (by decide +kernel) (by simp [Tryz.ntmps151]) ?_)
 show awp _ _ (Code.region _ _ _) _ _
 repeat' (((refine zqr fun K J => ?_); (simp (disch := omega) only [go_sem, Nat.reduceBEq, ↓reduceIte, reduceCtorEq, Nat.reduceAdd, hbx, nodeB, kdR])))
 refine z1k (hdel.mono fun r' H' n' ⟨e1, e2, e3⟩ => ?_)
 subst e1; subst e2; subst e3
 (try (simp (disch := omega) only [go_sem, Nat.reduceBEq, ↓reduceIte, reduceCtorEq, Nat.reduceAdd, Nat.reduceLeDiff, Nat.reduceLT, hbx, nodeB, kdR, k1, k2])); repeat' (first | refine zqu (by (simp (disch := omega) only [go_sem]); rfl) rfl ?_ | (refine J _ ?_; clear J K))
 (simp (disch := omega) only [go_sem])
 exact ⟨rfl, rfl⟩
theorem do_mov {a b at_ : Nat} {x : V} (ha : H0 a = some (.box 3 [.int .i64 at_])) (hal : a < lo) (hb : H0 b = some (.box 75 [.ptr x.num 0])) (hbl : b < lo) (hx : Stand H0 x) (hux : Under lo x) (hat : at_ <= w.kids.length) (hl : w.kids.length <= 1000000) :
  DoOK 99 [.ptr a 0, .ptr b 0] lo H0 (movE at_ x) w := by
 intro m H n c r hp h0
 obtain ⟨a1, a2, a3, a4, a5, a6, a7, a8⟩ := z9q hp
 have hmc := hp.mc
 have hcn := hp.cn
 have hlom := hp.lom
 have hbx := hp.box
 refine zc2 Tryz.func99 rfl (by decide +kernel) (by simp [Tryz.ntmps99]) ?_
 obtain ⟨o, ho⟩ : ∃ o, o = zcd w c r H n := ⟨_, rfl⟩
 rw [<- ho] at a1 a2 a3 a4 a5 a6 a7 a8
 have hseal : SealTo Tryz.prog (st0 [.ptr c 0, .ptr a 0, .ptr b 0] H n) (st0 [.ptr c 0, .ptr a 0, .ptr b 0] o.2.1 o.2.2) := by
  cases hr : r with
  | none =>
   rw [hr] at ho hbx
   have h1 : (st0 [.ptr c 0, .ptr a 0, .ptr b 0] H n).H c = some (.box 117 [.int .i64 w.own.id.act, .int .i64 w.own.id.item, .int .i64 w.own.id.n, .int .i64 w.own.kind, .str w.own.label, z0w w.own.head, z0w w.own.words, .nil, .nil]) := hbx
   have h2 := z9t (P := Tryz.prog) (off := 8) 75 h1 rfl
   rw [ho]
   exact h2
  | some q =>
   rw [hr] at ho
   rw [ho]
   exact SealTo.refl _
 refine Sem.seal _ hseal ?_
 have hba := ((a5 a (by omega)).trans (h0 a hal)).trans ha
 have hbb := ((a5 b (by omega)).trans (h0 b hbl)).trans hb
 obtain ⟨q, H1, n1⟩ := o
 simp only at a1 a2 a3 a4 a5 a6 a7 a8 hba hbb ⊢
 refine Sem.walk (own := [3000008, 3000009, 3000010, 4000012]) z0b (by decide +kernel) ?_
 show awp _ _ (Code.region _ _ _) _ _
 unfold rowV at a7
 have k1 : (c == q) = false := za7 (by omega)
 repeat' (((refine zqq (by decide +kernel) fun K J => ?_); (simp (disch := omega) only [go_sem, Nat.reduceBEq, Nat.reduceEqDiff, ↓reduceIte, reduceCtorEq, Nat.reduceAdd, Nat.reduceLeDiff, a6, hba, hbb, nodeB])))
 refine zee (zh7 (i := at_) (nn := true) (els := [.ptr x.num 0]) a7 hat (by simp) rfl (by simp; omega)) rfl rfl (z8w a7) ?_
 (try (simp (disch := omega) only [go_sem, Nat.reduceBEq, Nat.reduceEqDiff, ↓reduceIte, reduceCtorEq, Nat.reduceAdd, Nat.reduceLeDiff, Nat.reduceLT, a6, k1, nodeB])); repeat' (first | refine zqu (by (simp (disch := omega) only [go_sem]); rfl) rfl ?_ | (refine J _ ?_; clear J K))
 unfold movE rowE
 rw [<- ho, zog hat, zuy hat]
 exact ⟨rfl, rfl, rfl⟩
theorem do_ins {a b at_ : Nat} {t : T} (ht : szB t = true) (ha : H0 a = some (.box 3 [.int .i64 at_])) (hal : a < lo) (hb : H0 b = some (unitB t)) (hbl : b < lo) (hat : at_ <= w.kids.length) (hl : w.kids.length <= 1000000) :
  DoOK 96 [.ptr a 0, .ptr b 0] lo H0 (insE at_ t) w := by
 intro m H n c r hp h0
 obtain ⟨a1, a2, a3, a4, a5, a6, a7, a8⟩ := z9q hp
 have hmc := hp.mc
 have hcn := hp.cn
 have hlom := hp.lom
 have hbx := hp.box
 refine zc2 Tryz.func96 rfl (by decide +kernel) (by simp [Tryz.ntmps96]) ?_
 obtain ⟨o, ho⟩ : ∃ o, o = zcd w c r H n := ⟨_, rfl⟩
 rw [<- ho] at a1 a2 a3 a4 a5 a6 a7 a8
 have hseal : SealTo Tryz.prog (st0 [.ptr c 0, .ptr a 0, .ptr b 0] H n) (st0 [.ptr c 0, .ptr a 0, .ptr b 0] o.2.1 o.2.2) := by
  cases hr : r with
  | none =>
   rw [hr] at ho hbx
   have h1 : (st0 [.ptr c 0, .ptr a 0, .ptr b 0] H n).H c = some (.box 117 [.int .i64 w.own.id.act, .int .i64 w.own.id.item, .int .i64 w.own.id.n, .int .i64 w.own.kind, .str w.own.label, z0w w.own.head, z0w w.own.words, .nil, .nil]) := hbx
   have h2 := z9t (P := Tryz.prog) (off := 8) 75 h1 rfl
   rw [ho]
   exact h2
  | some q =>
   rw [hr] at ho
   rw [ho]
   exact SealTo.refl _
 refine Sem.seal _ hseal ?_
 have hba := ((a5 a (by omega)).trans (h0 a hal)).trans ha
 have hbb := ((a5 b (by omega)).trans (h0 b hbl)).trans hb
 have hgr := z6b t o.2.1 o.2.2
 have hgn : (z58 t o.2.1 o.2.2).1.num = o.2.2 + 1 := by rw [z9s]; rfl
 have hcg := zov t ht o.2.1 o.2.2
 unfold insE rowE
 simp only
 rw [<- ho]
 obtain ⟨q, H1, n1⟩ := o
 simp only at a1 a2 a3 a4 a5 a6 a7 a8 hba hbb hgr hgn hcg ⊢
 generalize z58 t H1 n1 = g at hgr hgn hcg ⊢
 obtain ⟨g1, g2, g3, g4, g5, g6, g7⟩ := hgr
 refine Sem.walk (own := [3000008, 3000009, 3000010, 4000011, 10000011, 4000013]) z0b (by decide +kernel) ?_
 show awp _ _ (Code.region _ _ _) _ _
 unfold rowV at a7
 have k1 : (c == q) = false := za7 (by omega)
 have f1 := (g3 c (by omega)).trans a6
 have f2 := (g3 q (by omega)).trans a7
 repeat' (((refine zqq (by decide +kernel) fun K J => ?_); (simp (disch := omega) only [go_sem, Nat.reduceBEq, Nat.reduceEqDiff, ↓reduceIte, reduceCtorEq, Nat.reduceAdd, Nat.reduceLeDiff, a6, hba, hbb, nodeB, unitB])))
 refine z4k hcg rfl rfl rfl ⟨by show n1 <= _; omega, g3⟩ ?_
 (try (simp (disch := omega) only [go_sem, Nat.reduceBEq, ↓reduceIte, reduceCtorEq, Nat.reduceAdd, Nat.reduceLeDiff])); repeat' skip
 refine zee (zh7 (i := at_) (nn := true) (els := [.ptr (n1 + 1) 0]) f2 hat (by simp) rfl (by simp; omega)) rfl rfl (z8w f2) ?_
 (try (simp (disch := omega) only [go_sem, Nat.reduceBEq, Nat.reduceEqDiff, ↓reduceIte, reduceCtorEq, Nat.reduceAdd, Nat.reduceLeDiff, Nat.reduceLT, f1, k1, nodeB])); repeat' (first | refine zqu (by (simp (disch := omega) only [go_sem]); rfl) rfl ?_ | (refine J _ ?_; clear J K))
 rw [zog hat, zuy hat, hgn]
 exact ⟨rfl, rfl, rfl⟩
end
end
section
open Abs Facts Tr
attribute [local irreducible] awp
set_option maxRecDepth 100000
def Det (f : FuncId) (ds : List D) (H : HM) (nx : Nat) (F : D × HM × Nat -> Prop) : Prop := ∃ o : D × HM × Nat, AC Tryz.prog f ds H nx (fun r H' n' => r = o.1 /\ H' = o.2.1 /\ n' = o.2.2) /\ F o
theorem Det.mono {f : FuncId} {ds : List D} {H : HM} {nx : Nat} {F G : D × HM × Nat -> Prop} (h : Det f ds H nx F) (hFG : ∀ o, F o -> G o) : Det f ds H nx G := by
 obtain ⟨o, h1, h2⟩ := h
 exact ⟨o, h1, hFG o h2⟩
section
variable {own : List Nat} {n : FuncId} {args cap : List D} {g : List Oper -> (St -> Prop) -> St -> Prop} {rest : List Oper} {K : St -> Prop} {st : St} {dst : Option Nat} {F : D × HM × Nat -> Prop}
theorem z91 (h : Det n (args ++ cap) st.H st.nx F) (hk : ∀ o, F o -> g rest K ((st.withH o.2.1 o.2.2).put dst o.1)) : zmk Tryz.prog (.fn n cap) args g rest K st dst := by
 obtain ⟨o, h1, h2⟩ := h
 exact z1k (h1.mono fun r H' n' ⟨e1, e2, e3⟩ => by subst e1; subst e2; subst e3; exact hk o h2)
end
def treeB (c : D) : HObj := .box 78 [c]
structure AtOK (e : Int) (lo : Nat) (id : Idv) (Q : V -> V -> Prop) (v : V) (H : HM) (n : Nat) (o : D × HM × Nat) : Prop where
 le : n <= o.2.2
 agree : Agree n H o.2.1
 shape : (∃ t, o.1 = .tup [.ptr t 0, .int .i64 e]) \/ o.1 = .tup [.nptr, .int .i64 e]
 bad : e ≠ 0 -> o.1 = .tup [.nptr, .int .i64 e]
 good : e = 0 -> id ∈ idsT (treeV v) -> ∃ v' t, o.1 = .tup [.ptr t 0, .int .i64 0] /\ n <= t /\ t < o.2.2 /\ o.2.1 t = some (treeB (.ptr v'.num 0)) /\ Chg n id Q v v' /\ Stand o.2.1 v' /\ Under o.2.2 v'
theorem zf8 {e : Int} {g : FuncId} {cap : List D} {lo tb : Nat} {id : Idv} {E : zq2} {Q : V -> V -> Prop} {H0 H : HM} {v : V} {n : Nat} (htb : tb < n) (hH : H tb = some (treeB (.ptr v.num 0))) (hs : szB (treeV v) = true) (hE : e = 0 -> ∀ w ∈ nodesV v, w.own.id = id -> DoOK g cap lo H0 E w /\ zmp lo H0 E Q w)
  (hlo : lo <= n) (h0 : Agree lo H0 H) (hst : Stand H v) (hu : Under lo v) : Det 90 [.ptr tb 0, .int .i64 e, z16 id, .fn g cap] H n (AtOK e lo id Q v H n) := by
 have k1 : (tb == n) = false := za7 (by omega)
 have hag : Agree n H (z0e H n (some (idB id))) := fun j hj => z01 _ (by omega)
 by_cases he : e = 0
 ·subst he
  have hst1 : Stand (z0e H n (some (idB id))) v := Stand.agree (n := lo) (fun j hj => hag j (by omega)) v hu hst
  have h01 : Agree lo H0 (z0e H n (some (idB id))) := fun j hj => (hag j (by omega)).trans (h0 j hj)
  have hcg := zph (g := g) (cap := cap) (id := id) (E := E) (Q := Q) (H0 := H0) v hs (hE rfl) (z0e H n (some (idB id))) (n + 1) (by omega) h01 hst1 hu
  have hf := zkc (id := id) (E := E) (Q := Q) (H0 := H0) v (fun w hw e => (hE rfl w hw e).2) (z0e H n (some (idB id))) (n + 1) (by omega) h01 hst1 hu
  generalize zmo id E v (z0e H n (some (idB id))) (n + 1) = o at hcg hf
  have hle := hf.le
  refine ⟨(.tup [.ptr o.2.2 0, .int .i64 0], z0e o.2.1 o.2.2 (some (treeB (ptrO o.1))), o.2.2 + 1), ?_, ⟨by simp only; omega, fun j hj => ?_, .inl ⟨_, rfl⟩, fun h => absurd rfl h, fun _ hin => ?_⟩⟩
  ·refine (z17 [3000016, 3000017, 4000019, 10000019] Tryz.func90 rfl (by decide +kernel) z0b (by decide +kernel) (by simp [Tryz.ntmps90]) ?_)
   show awp _ _ (Code.seq _ _) _ _
   unfold idB at hcg hf
   repeat' (first | refine zqj ?_ | ((first | refine zqh fun K J => ?_ | refine zqe (by decide +kernel) fun K J => ?_); (simp (disch := omega) only [go_sem, Nat.reduceBEq, Nat.reduceEqDiff, ↓reduceIte, reduceCtorEq, Nat.reduceAdd, Nat.reduceLeDiff, hH, k1, treeB, z16, z0s])) | ((refine zqd _ rfl (fun hc => ?_) (fun hc => ?_)) <;> (first | (cases hc; done) | ((try simp only [] at hc); (try (exfalso; omega))))) | refine zqb ?_ | (refine J _ ?_; clear J K))
   refine z4k hcg rfl rfl rfl ⟨hle, hf.agree⟩ ?_
   obtain ⟨x, H1, n1⟩ := o
   cases x with
   | none =>
    unfold ptrO
    (try (simp (disch := omega) only [go_sem, Nat.reduceBEq, ↓reduceIte, Nat.reduceLeDiff])); repeat' (first | refine zqn ?_ | refine zqu (by (simp (disch := omega) only [go_sem]); rfl) rfl ?_ | (refine J _ ?_; clear J K))
    (simp (disch := omega) only [go_sem, Nat.reduceBEq])
    rfl
   | some x =>
    unfold ptrO
    (try (simp (disch := omega) only [go_sem, Nat.reduceBEq, ↓reduceIte, Nat.reduceLeDiff])); repeat' (first | refine zqn ?_ | refine zqu (by (simp (disch := omega) only [go_sem]); rfl) rfl ?_ | (refine J _ ?_; clear J K))
    (simp (disch := omega) only [go_sem, Nat.reduceBEq])
    rfl
  ·simp only
   rw [z01 _ (by omega), hf.agree j (by omega), hag j hj]
  ·obtain ⟨v', e1, hch, hs', hu', _⟩ := hf.yes hin
   have hs2 : Stand (z0e o.2.1 o.2.2 (some (treeB (ptrO o.1)))) v' := Stand.on v' (fun j hj => z01 _ (by have := hu' j hj; omega)) hs'
   refine ⟨v', o.2.2, rfl, by omega, by simp, ?_, Chg.mono (by omega) (fun _ _ _ h => h) hch, hs2, hu'.le (by simp)⟩
   simp only
   rw [z1u, e1]; rfl
 ·refine ⟨(.tup [.nptr, .int .i64 e], z0e H n (some (idB id)), n + 1), ?_, ⟨by simp, hag, .inr rfl, fun _ => rfl, fun h => absurd h he⟩⟩
  refine (z17 [3000016, 3000017, 4000019, 10000019] Tryz.func90 rfl (by decide +kernel) z0b (by decide +kernel) (by simp [Tryz.ntmps90]) ?_)
  show awp _ _ (Code.seq _ _) _ _
  repeat' (first | refine zqj ?_ | ((refine zqh fun K J => ?_); (simp (disch := omega) only [go_sem, Nat.reduceBEq, ↓reduceIte, z16, z0s])) | ((refine zqd _ rfl (fun hc => ?_) (fun hc => ?_)) <;> (((try simp only [z0d] at hc); (try (exfalso; omega))))) | refine zqg ?_ | refine zqu (by (simp (disch := omega) only [go_sem]); rfl) rfl ?_ | (refine J _ ?_; clear J K))
  (simp (disch := omega) only [go_sem, Nat.reduceBEq])
  rfl
end
section
open Abs Facts Tr
attribute [local irreducible] awp
set_option maxRecDepth 100000
section
variable {H : HM} {n tb : Nat} {v : V}
theorem zfj (hs : szB (treeV v) = true) (htb : tb < n) (hH : H tb = some (treeB (.ptr v.num 0))) (hu : Under n v) (hst : Stand H v) : RC Tryz.prog 14 [.ptr tb 0] H n (z0p (treeV v)) := by
 have k1 : (tb == n) = false := za7 (by omega)
 have c1 : ∀ o : Option HObj, RC Tryz.prog 41 [.ptr v.num 0] (z0e H n o) (n + 1) (z0p (treeV v)) := fun o =>
  rc_tree v hs _ _ (hu.le (by omega)) (Stand.agree (fun j hj => z01 _ (by omega)) v hu hst)
 have hcu := z0l (treeV v)
 refine zmx (z02 _) (z17 [] Tryz.func14 rfl (by decide +kernel) z0b (by decide +kernel) (by simp [Tryz.ntmps14]) ?_)
 show awp _ _ (Code.seq _ _) _ _
 rw [show Tryz.f14.results.toList = [.cell 2 27] from rfl]
 repeat' (first | ((first | refine zqh fun K J => ?_ | refine z0z (c1 _) ?_); (simp (disch := omega) only [go_sem, Nat.reduceBEq, ↓reduceIte, reduceCtorEq, Nat.reduceAdd, Nat.reduceLeDiff, hH, k1, treeB])) | refine zqn ?_ | refine zqu (by (simp (disch := omega) only [go_sem, Nat.reduceBEq, ↓reduceIte, Nat.reduceLeDiff]); rfl) rfl ?_ | (refine J _ ?_; clear J K))
 (simp (disch := omega) only [go_sem, z0p])
 exact fun j hj => by simp (disch := omega) only [z3l]
theorem sz_node : ∀ v : V, szB (treeV v) = true -> ∀ w ∈ nodesV v, szB (treeV w) = true := by
 refine zch fun v ih hs w hw => ?_
 rw [z2v, List.mem_cons] at hw
 rcases hw with rfl | hw
 ·exact hs
 ·obtain ⟨k, hk, hw⟩ := List.mem_flatMap.1 hw
  exact ih k hk (zkh hs hk) w hw
def cntS (_ : V) : HObj -> HObj
 | .box e [.int .i64 n] => .box e [.int .i64 (IntKind.i64.wrap (n + 1))]
 | o => o
theorem zze (l : List V) (k : Nat) (h : k + l.length <= 1000000000) : zbe cntS l (.box 3 [.int .i64 (k : Nat)]) = .box 3 [.int .i64 ((k + l.length : Nat))] := by
 induction l generalizing k with
 | nil => rfl
 | cons w l ih =>
  simp only [List.length_cons] at h
  show zbe cntS l (.box 3 [.int .i64 (IntKind.i64.wrap ((k : Int) + 1))]) = _
  rw [zq7 (by omega), show ((k : Int) + 1) = ((k + 1 : Nat) : Int) by omega, ih (k + 1) (by omega)]
  simp only [List.length_cons]
  congr 3
  congr 1
  omega
def zl3 (o : HObj) : Prop := ∃ k, o = .box 3 [.int .i64 k]
theorem zl4 (w : V) (o : HObj) (h : zl3 o) : zl3 (cntS w o) := by
 obtain ⟨k, rfl⟩ := h
 exact ⟨_, rfl⟩
theorem ac_Len1 {H : HM} {n k : Nat} {w : V} {o : HObj} (hkn : k < n) (hk : H k = some o) (ho : zl3 o) : AC Tryz.prog 43 [.ptr w.num 0, .ptr k 0] H n fun r H' nx' => r = .tup [] /\ H' = z0e H k (some (cntS w o)) /\ nx' = n := by
 obtain ⟨i, rfl⟩ := ho
 refine (z17 [] Tryz.func43 rfl (by decide +kernel) z0b (by decide +kernel) (by simp [Tryz.ntmps43]) ?_)
 show awp _ _ (Code.region _ _ _) _ _
 repeat' (first | ((refine zqr fun K J => ?_); (simp (disch := omega) only [go_sem, Nat.reduceBEq, ↓reduceIte, Nat.reduceAdd, Nat.reduceLeDiff, Nat.reduceLT, hk])) | refine zqu (by (simp (disch := omega) only [go_sem]); rfl) rfl ?_ | (refine J _ ?_; clear J K))
 (simp (disch := omega) only [go_sem])
 rfl
theorem rc_Len (hs : szB (treeV v) = true) (hc : cntT (treeV v) <= 1000000) (htb : tb < n) (hH : H tb = some (treeB (.ptr v.num 0))) (hu : Under n v) (hst : Stand H v) : RC Tryz.prog 15 [.ptr tb 0] H n (.int .i64 (cntT (treeV v))) := by
 have k1 : (tb == n) = false := za7 (by omega)
 rw [znv] at hc ⊢
 have c1 := fun o0 => zmu (g := 43) (cap := [.ptr n 0]) (k := n) cntS zl3 (fun H' => ∀ j, j < n -> H' j = H j) (fun H' o h j hj => by rw [z01 _ (by omega)]; exact h j hj) (fun _ => True) (fun w o _ h => zl4 w o h) v hs (fun _ _ => trivial)
  (fun H' h w hw => Stand.agree (n := n) h w (z2w hu hw) (z4x v hst w hw)) (fun w hw H' nx o hu' hk hko hI _ => ac_Len1 hk hko hI) (z0e (z0e H n o0) n (some (.box 3 [.int .i64 ((0 : Nat))]))) (n + 1) (.box 3 [.int .i64 ((0 : Nat))]) (hu.le (by omega)) (Nat.lt_succ_self _) z2h ⟨_, rfl⟩ (fun j hj => by rw [z01 _ (by omega), z01 _ (by omega)])
 rw [zze _ _ (by omega)] at c1
 refine zmx rfl (z17 [] Tryz.func15 rfl (by decide +kernel) z0b (by decide +kernel) (by simp [Tryz.ntmps15]) ?_)
 show awp _ _ (Code.seq _ _) _ _
 repeat' (first | ((refine zqh fun K J => ?_); (simp (disch := omega) only [go_sem, Nat.reduceBEq, ↓reduceIte, reduceCtorEq, Nat.reduceAdd, Nat.reduceLeDiff, Nat.reduceLT, hH, k1, treeB])) | (refine J _ ?_; clear J K))
 refine z1k ((c1 _).mono fun r' H' n' ⟨e1, e2, e3⟩ => ?_)
 subst e1; subst e3
 have hn : H' n = some (.box 3 [.int .i64 ((0 + (nodesV v).length : Nat))]) := by rw [e2]; exact z2h
 (try (simp (disch := omega) only [go_sem])); repeat' (first | ((refine zqh fun K J => ?_); (simp (disch := omega) only [go_sem, Nat.reduceBEq, ↓reduceIte, Nat.reduceAdd, hn])) | refine zqn ?_ | refine zqu (by (simp (disch := omega) only [go_sem]); rfl) rfl ?_ | (refine J _ ?_; clear J K))
 (simp (disch := omega) only [go_sem, Nat.reduceBEq])
 refine fun j hj => ?_
 rw [e2, z01 _ (by omega), z01 _ (by omega), z01 _ (by omega)]
theorem find_id {id : Idv} {t : T} (h : (z08 id t).2 = true) : (z08 id t).1.id = id := by
 have h1 := za0.1 h
 unfold z08
 rw [zbf _ h1]
 exact zj5 id t h1
theorem zrf (hn : (idsT (treeV v)).Nodup) (id : Idv) : (z8l id v = .nptr /\ z08 id (treeV v) = (T.zero, false)) \/ ∃ w ∈ nodesV v, w.own.id = id /\ z8l id v = .ptr w.num 0 /\ z08 id (treeV v) = (treeV w, true) := by
 unfold z8l
 cases hf : (nodesV v).find? (fun w => decide (w.own.id = id)) with
 | none =>
  left
  refine ⟨rfl, ?_⟩
  have hno : id ∉ idsT (treeV v) := fun hm => by
   rw [z33] at hm
   obtain ⟨w, hw, e⟩ := List.mem_map.1 hm
   have := List.find?_eq_none.1 hf w hw
   simp [e] at this
  refine zeg ?_
  rw [z4u]
  exact hno
 | some w =>
  right
  have hw := List.mem_of_find?_eq_some hf
  have e : w.own.id = id := by simpa using List.find?_some hf
  refine ⟨w, hw, e, rfl, ?_⟩
  have hm : id ∈ idsT (treeV v) := by rw [z33]; exact List.mem_map.2 ⟨w, hw, e⟩
  have h2 : (z08 id (treeV v)).2 = true := by rw [z2f, decide_eq_true hm]
  have h3 := z9j h2
  have h4 : (z08 id (treeV v)).1 = treeV w := by
   have hwn : treeV w ∈ z0f (treeV v) := by rw [z4w]; exact List.mem_map.2 ⟨w, hw, rfl⟩
   exact z6o (f := T.id) hn _ h3 _ hwn (by rw [z2b, e]; exact find_id h2)
  exact Prod.ext h4 h2
theorem zzf {u : T} : z3r u ⟨-1, 0, 0⟩ 0 (.mk ⟨-2, 0, 0⟩ 2 ⟨#[49]⟩ [] [] []) = 1 ↔ standsT u = false := by
 unfold z3r
 have h1 : standsT (.mk ⟨-2, 0, 0⟩ 2 ⟨#[49]⟩ [] [] []) = true := by decide +kernel
 cases hs : standsT u with
 | false => simp
 | true =>
  rw [h1]
  have h2 : T.kind (.mk ⟨-2, 0, 0⟩ 2 ⟨#[49]⟩ [] [] []) = 2 := rfl
  rw [h2]
  simp only [Bool.true_eq_false, false_or, iff_false]
  rw [if_neg (by decide)]
  split
  ·decide
  split
  ·decide
  split
  ·decide
  split
  ·decide
  split
  ·decide
  split <;> decide
structure NewOK (u : T) (H : HM) (n : Nat) (o : D × HM × Nat) : Prop where
 le : n <= o.2.2
 agree : Agree n H o.2.1
 bad : standsT u = false -> o.1 = .nptr
 good : standsT u = true -> ∃ v t, o.1 = .ptr t 0 /\ n <= t /\ t < o.2.2 /\ o.2.1 t = some (treeB (.ptr v.num 0)) /\ Stand o.2.1 v /\ Under o.2.2 v /\ treeV v = u /\ (objsV v).Nodup /\ ∀ j ∈ objsV v, n <= j
theorem zvj (u : T) (hs : szB u = true) (hc1 : cntT u <= 1000000) (hd : depT u <= 1000000) : Det 11 [z0p u] H n (NewOK u H n) := by
 have c0 := (zjl u (.mk ⟨-2, 0, 0⟩ 2 ⟨#[49]⟩ [] [] []) hs (by decide +kernel) hc1 (by decide +kernel) hd (by decide +kernel) ⟨-1, 0, 0⟩).le (ds := [z0p u, z16 ⟨-1, 0, 0⟩, .agg [.int .i64 (-2), .int .i64 0, .int .i64 0, .int .i64 2, .str ⟨#[49]⟩, .nil, .nil, .nil]])
  (by simp [pureD.pureL, z02, pureD, z16, z0s]) ⟨Le.refl _, Le.refl _, by rw [z0p, z0l]; exact Le.agg ⟨Le.refl _, Le.refl _, Le.refl _, Le.refl _, Le.refl _, Le.nil 4, Le.nil 4, Le.nil 8, trivial⟩, trivial⟩
 have hw := zzf (u := u)
 generalize z3r u ⟨-1, 0, 0⟩ 0 (.mk ⟨-2, 0, 0⟩ 2 ⟨#[49]⟩ [] [] []) = e at c0 hw
 have hag : Agree n H (z0e H n (some (unitB u))) := fun j hj => z01 _ (by omega)
 cases hst : standsT u with
 | false =>
  have he := hw.2 hst
  subst he
  refine ⟨(.nptr, z0e H n (some (unitB u)), n + 1), ?_, ⟨by simp, hag, fun _ => rfl, fun h => by rw [hst] at h; cases h⟩⟩
  refine (z17 [] Tryz.func11 rfl (by decide +kernel) z0b (by decide +kernel) (by simp [Tryz.ntmps11]) ?_)
  show awp _ _ (Code.seq _ _) _ _
  repeat' (first | refine zqj ?_ | ((first | refine zqh fun K J => ?_ | refine zqs (c0) ?_); (simp (disch := omega) only [go_sem, Nat.reduceBEq, ↓reduceIte, Nat.reduceAdd, Nat.reduceLeDiff])) | ((refine zqd _ rfl (fun hc => ?_) (fun hc => ?_)) <;> (first | (cases hc; done) | ((try simp only [] at hc); (try (exfalso; omega))))) | refine zqg ?_ | refine zqu (by (simp (disch := omega) only [go_sem]); rfl) rfl ?_ | (refine J _ ?_; clear J K))
  (simp (disch := omega) only [go_sem, Nat.reduceBEq])
  rfl
 | true =>
  have he : ¬ e = 1 := fun h => by rw [hw.1 h] at hst; cases hst
  have c1 := zov u hs (z0e H n (some (unitB u))) (n + 1)
  have hg := z6b u (z0e H n (some (unitB u))) (n + 1)
  have hnum : (z58 u (z0e H n (some (unitB u))) (n + 1)).1.num = n + 1 + 1 := by rw [z9s]; rfl
  generalize z58 u (z0e H n (some (unitB u))) (n + 1) = g at c1 hg hnum
  obtain ⟨g1, g2, g3, g4, g5, g6, g7⟩ := hg
  refine ⟨(.ptr g.2.2 0, z0e g.2.1 g.2.2 (some (treeB (.ptr (n + 1 + 1) 0))), g.2.2 + 1), ?_, ⟨by simp only; omega, fun j hj => ?_, (fun h => by rw [hst] at h; cases h), fun _ => ⟨g.1, g.2.2, rfl, by omega, by simp, ?_, ?_, g5.le (by simp), g1, g7, fun j hj => by have := g6 j hj; omega⟩⟩⟩
  ·refine (z17 [] Tryz.func11 rfl (by decide +kernel) z0b (by decide +kernel) (by simp [Tryz.ntmps11]) ?_)
   show awp _ _ (Code.seq _ _) _ _
   unfold unitB at c1
   repeat' (first | refine zqj ?_ | ((first | refine zqh fun K J => ?_ | refine zqs (c0) ?_); (simp (disch := omega) only [go_sem, Nat.reduceBEq, ↓reduceIte, Nat.reduceAdd, Nat.reduceLeDiff])) | ((refine zqd _ rfl (fun hc => ?_) (fun hc => ?_)) <;> (((try simp only [z0d] at hc); (try (exfalso; omega))))) | refine zqb ?_ | (refine J _ ?_; clear J K))
   refine z1k (c1.mono fun r' H' n' ⟨e1, e2, e3⟩ => ?_)
   subst e1; subst e2; subst e3
   (try (simp (disch := omega) only [go_sem, Nat.reduceBEq, ↓reduceIte, Nat.reduceLeDiff])); repeat' (first | refine zqn ?_ | refine zqu (by (simp (disch := omega) only [go_sem]); rfl) rfl ?_ | (refine J _ ?_; clear J K))
   (simp (disch := omega) only [go_sem, Nat.reduceBEq])
   rfl
  ·simp only
   rw [z01 _ (by omega), g3 j (by omega), hag j hj]
  ·simp only
   rw [z1u, hnum]
  ·exact Stand.on g.1 (fun j hj => z01 _ (by have := g5 j hj; omega)) g4
end
end
section
open Abs Facts Tr
attribute [local irreducible] awp
set_option maxRecDepth 100000
def zgf (L : List Nat) : HObj := .map (L.map fun j => (.ptr j 0, .bool true))
def numK : D -> Option Nat
 | .ptr j 0 => some j
 | _ => none
def numsO : HObj -> List Nat
 | .map es => es.filterMap fun e => numK e.1
 | _ => []
theorem zep (L : List Nat) : numsO (zgf L) = L := by
 show List.filterMap (fun e : D × D => numK e.1) (L.map fun j => (D.ptr j 0, D.bool true)) = L
 rw [List.filterMap_map]
 exact List.filterMap_some
def zeq (w : V) (o : HObj) : HObj := if w.num ∈ numsO o then o else zgf (numsO o ++ [w.num])
def zd7 (H : HM) (j : Nat) : Prop := ∃ e cs, H j = some (.box e cs)
def zjv (n : Nat) (H : HM) (j : Nat) : Prop := j < n /\ zd7 H j
def zxm (B : Nat -> Prop) (o : HObj) : Prop := ∃ L, o = zgf L /\ ∀ j ∈ L, B j
theorem zpi {B : Nat -> Prop} {w : V} {o : HObj} (hw : B w.num) (h : zxm B o) : zxm B (zeq w o) := by
 obtain ⟨L, rfl, hL⟩ := h
 unfold zeq
 rw [zep]
 split
 ·exact ⟨L, rfl, hL⟩
 ·refine ⟨_, rfl, fun j hj => ?_⟩
  rcases List.mem_append.1 hj with hj | hj
  ·exact hL j hj
  ·rw [List.mem_singleton] at hj; subst hj; exact hw
theorem zt6 {l : List V} : ∀ L : List Nat, ∃ M, zbe zeq l (zgf L) = zgf M /\ ∀ x, x ∈ M ↔ x ∈ L \/ x ∈ l.map V.num := by
 induction l with
 | nil => exact fun L => ⟨L, rfl, fun x => by simp⟩
 | cons w l ih =>
  intro L
  have h1 : zeq w (zgf L) = if w.num ∈ L then zgf L else zgf (L ++ [w.num]) := by unfold zeq; rw [zep]
  show ∃ M, zbe zeq l (zeq w (zgf L)) = zgf M /\ _
  rw [h1]
  by_cases h : w.num ∈ L
  ·rw [if_pos h]
   obtain ⟨M, e, hM⟩ := ih L
   refine ⟨M, e, fun x => ?_⟩
   rw [hM, List.map_cons, List.mem_cons]
   constructor
   ·rintro (h2 | h2)
    ·exact .inl h2
    ·exact .inr (.inr h2)
   ·rintro (h2 | h2 | h2)
    ·exact .inl h2
    ·exact .inl (h2 ▸ h)
    ·exact .inr h2
  ·rw [if_neg h]
   obtain ⟨M, e, hM⟩ := ih (L ++ [w.num])
   refine ⟨M, e, fun x => ?_⟩
   rw [hM, List.map_cons, List.mem_cons, List.mem_append, List.mem_singleton, or_assoc]
theorem zxn (L : List Nat) (p : Nat) : z72 (L.map fun j => (D.ptr j 0, D.bool true)) p (.bool true) = L.map fun j => (D.ptr j 0, D.bool true) := by
 induction L generalizing p with
 | nil => rfl
 | cons a L ih =>
  cases p with
  | zero => rfl
  | succ p => simp only [List.map_cons, z72, ih]
section
variable {H H0 : HM} {n m k b : Nat} {v w : V} {o : HObj}
theorem ac_Know (hw : zd7 H w.num) (hb : H b = some (.box 83 [.mp m])) (hm : H m = some o) (ho : zxm (zd7 H) o) : AC Tryz.prog 45 [.ptr w.num 0, .ptr b 0] H n fun r H' nx' => r = .tup [] /\ H' = z0e H m (some (zeq w o)) /\ nx' = n := by
 obtain ⟨L, rfl, hL⟩ := ho
 have h1 : zeq w (zgf L) = if w.num ∈ L then zgf L else zgf (L ++ [w.num]) := by unfold zeq; rw [zep]
 rw [h1]
 have hm2 : H m = some (.map (L.map fun j => (.ptr j 0, .bool true))) := hm
 refine (z17 [] Tryz.func45 rfl (by decide +kernel) z0b (by decide +kernel) (by simp [Tryz.ntmps45]) ?_)
 show awp _ _ (Code.region _ _ _) _ _
 by_cases h : w.num ∈ L
 ·obtain ⟨p, hp, hf⟩ := zem (x := .bool true) hw L hL h
  rw [if_pos h]
  have hs := zxn L p
  repeat' (first | ((refine zqr fun K J => ?_); (simp (disch := omega) only [go_sem, Nat.reduceBEq, ↓reduceIte, Nat.reduceAdd, hb, hm2, hf, hs])) | refine zqu (by (simp (disch := omega) only [go_sem]); rfl) rfl ?_ | (refine J _ ?_; clear J K))
  exact ⟨rfl, rfl, rfl⟩
 ·have hf := zi7 (f := fun _ => .bool true) hw L hL h
  rw [if_neg h]
  repeat' (first | ((refine zqr fun K J => ?_); (simp (disch := omega) only [go_sem, Nat.reduceBEq, ↓reduceIte, Nat.reduceAdd, hb, hm2, hf])) | refine zqu (by (simp (disch := omega) only [go_sem]); rfl) rfl ?_ | (refine J _ ?_; clear J K))
  unfold zgf
  rw [List.map_append]
  exact ⟨rfl, rfl, rfl⟩
def z7j (M : List Nat) (w : V) (o : HObj) : HObj := if w.num ∈ M then o else cntS w o
theorem zt7 (M : List Nat) (w : V) (o : HObj) (h : zl3 o) : zl3 (z7j M w o) := by
 unfold z7j
 split
 ·exact h
 ·exact zl4 w o h
theorem zpj (M : List Nat) (l : List V) (i : Nat) (h : i + l.length <= 1000000000) : zbe (z7j M) l (.box 3 [.int .i64 (i : Nat)]) = .box 3 [.int .i64 ((i + l.countP fun w => !decide (w.num ∈ M) : Nat))] := by
 induction l generalizing i with
 | nil => rfl
 | cons w l ih =>
  simp only [List.length_cons] at h
  by_cases hw : w.num ∈ M
  ·show zbe (z7j M) l (z7j M w _) = _
   have e : z7j M w (.box 3 [.int .i64 (i : Nat)]) = .box 3 [.int .i64 (i : Nat)] := if_pos hw
   rw [e, ih i (by omega), List.countP_cons_of_neg (by simp [hw])]
  ·show zbe (z7j M) l (z7j M w _) = _
   have e : z7j M w (.box 3 [.int .i64 (i : Nat)]) = .box 3 [.int .i64 ((i + 1 : Nat))] := by
    unfold z7j
    rw [if_neg hw]
    show HObj.box 3 [.int .i64 (IntKind.i64.wrap ((i : Int) + 1))] = _
    rw [zq7 (by omega)]; rfl
   rw [e, ih (i + 1) (by omega), List.countP_cons_of_pos (by simp [hw])]
   congr 3
   congr 1
   omega
theorem zxo {M : List Nat} (hw : zd7 H w.num) (hM : ∀ j ∈ M, zd7 H j) (hb : H b = some (.box 83 [.mp m])) (hm : H m = some (zgf M)) (hk : H k = some o) (ho : zl3 o) : AC Tryz.prog 46 [.ptr w.num 0, .ptr b 0, .ptr k 0] H n fun r H' nx' => r = .tup [] /\ H' = z0e H k (some (z7j M w o)) /\ nx' = n := by
 obtain ⟨i, rfl⟩ := ho
 have hm2 : H m = some (.map (M.map fun j => (.ptr j 0, .bool true))) := hm
 unfold z7j
 refine (z17 [] Tryz.func46 rfl (by decide +kernel) z0b (by decide +kernel) (by simp [Tryz.ntmps46]) ?_)
 show awp _ _ (Code.seq _ _) _ _
 by_cases h : w.num ∈ M
 ·obtain ⟨p, hp, hf⟩ := zem (x := .bool true) hw M hM h
  rw [if_pos h]
  repeat' (first | ((refine zqh fun K J => ?_); (simp (disch := omega) only [go_sem, Nat.reduceBEq, ↓reduceIte, Nat.reduceAdd, hb, hm2, hf])) | ((refine zqm _ rfl (fun hc => ?_) (fun hc => ?_)) <;> (first | (cases hc; done) | ((try simp only [] at hc); (try (exfalso; omega))))) | refine zqk ?_ | refine zqu (by (simp (disch := omega) only [go_sem]); rfl) rfl ?_ | (refine J _ ?_; clear J K))
  exact ⟨rfl, (zjn hk).symm, rfl⟩
 ·have hf := zi7 (f := fun _ => .bool true) hw M hM h
  rw [if_neg h]
  repeat' (first | ((first | refine zqh fun K J => ?_ | refine zqr fun K J => ?_); (simp (disch := omega) only [go_sem, Nat.reduceBEq, ↓reduceIte, Nat.reduceAdd, Nat.reduceLeDiff, Nat.reduceLT, hb, hm2, hf, hk])) | ((refine zqm _ rfl (fun hc => ?_) (fun hc => ?_)) <;> (first | (cases hc; done) | ((try simp only [] at hc); (try (exfalso; omega))))) | refine zqu (by (simp (disch := omega) only [go_sem]); rfl) rfl ?_ | (refine J _ ?_; clear J K))
  exact ⟨rfl, rfl, rfl⟩
theorem ze7 (hst : Stand H v) {w : V} (hw : w ∈ nodesV v) : zd7 H w.num := ⟨_, _, ((z1v H w).1 (z4x v hst w hw)).1⟩
theorem zxp {H4 : HM} {w : V} (hs : szB (treeV w) = true) (hu : Under n w) (hst : Stand H w) (hag : Agree n H H4) (h1 : H4 (n + 1) = some (.box 83 [.mp n])) (h0 : H4 n = some (zgf [])) :
  ∃ M, (∀ x, x ∈ M ↔ x ∈ (nodesV w).map V.num) /\ AC Tryz.prog 42 [.ptr w.num 0, .fn 45 [.ptr (n + 1) 0]] H4 (n + 2) fun r H' nx' => r = .tup [] /\ H' = z0e H4 n (some (zgf M)) /\ nx' = n + 2 := by
 obtain ⟨M, e, hM⟩ := zt6 (l := nodesV w) []
 refine ⟨M, fun x => by rw [hM]; simp, ?_⟩
 rw [<- e]
 have hF : ∀ H' : HM, (Agree n H H' /\ H' (n + 1) = some (.box 83 [.mp n])) -> ∀ x ∈ nodesV w, Stand H' x := fun H' h x hx => Stand.agree h.1 x (z2w hu hx) (z4x w hst x hx)
 refine zmu zeq (zxm (zjv n H)) (fun H' => Agree n H H' /\ H' (n + 1) = some (.box 83 [.mp n])) (fun H' o h => ⟨fun j hj => by rw [z01 _ (by omega)]; exact h.1 j hj, by rw [z01 _ (by omega)]; exact h.2⟩)
  (fun x => zjv n H x.num) (fun x o hx h => zpi hx h) w hs (fun x hx => ⟨z2w hu hx _ (z3u x), ze7 hst hx⟩) hF (fun x hx H' nx o hux hn hno hko hFH => ?_) H4 (n + 2) (zgf []) (hu.le (by omega)) (by omega) h0 ⟨[], rfl, fun j hj => by cases hj⟩ ⟨hag, h1⟩
 obtain ⟨L, hL, hLb⟩ := hko
 have old : ∀ j, zjv n H j -> zd7 H' j := fun j ⟨hj, e, cs, h⟩ => ⟨e, cs, by rw [hFH.1 j hj]; exact h⟩
 exact ac_Know (old _ ⟨z2w hu hx _ (z3u x), ze7 hst hx⟩) hFH.2 hno ⟨L, hL, fun j hj => old j (hLb j hj)⟩
theorem zt8 {H5 : HM} {M : List Nat} (hs : szB (treeV v) = true) (hcn : (nodesV v).length <= 1000000) (hu : Under n v) (hst : Stand H v) (hag : Agree n H H5) (hM : ∀ j ∈ M, zjv n H j) (h1 : H5 (n + 1) = some (.box 83 [.mp n])) (h0 : H5 n = some (zgf M)) (h2 : H5 (n + 2) = some (.box 3 [.int .i64 0])) :
  AC Tryz.prog 42 [.ptr v.num 0, .fn 46 [.ptr (n + 1) 0, .ptr (n + 2) 0]] H5 (n + 3) fun r H' nx' => r = .tup [] /\ H' = z0e H5 (n + 2) (some (.box 3 [.int .i64 (((nodesV v).countP fun w => !decide (w.num ∈ M) : Nat))])) /\ nx' = n + 3 := by
 have hfo := zpj M (nodesV v) 0 (by omega)
 rw [Nat.zero_add] at hfo
 rw [<- hfo]
 have hF : ∀ H' : HM, (Agree n H H' /\ H' (n + 1) = some (.box 83 [.mp n]) /\ H' n = some (zgf M)) -> ∀ x ∈ nodesV v, Stand H' x := fun H' h x hx => Stand.agree h.1 x (z2w hu hx) (z4x v hst x hx)
 refine zmu (z7j M) zl3 (fun H' => Agree n H H' /\ H' (n + 1) = some (.box 83 [.mp n]) /\ H' n = some (zgf M))
  (fun H' o h => ⟨fun j hj => by rw [z01 _ (by omega)]; exact h.1 j hj, by rw [z01 _ (by omega)]; exact h.2.1, by rw [z01 _ (by omega)]; exact h.2.2⟩)
  (fun _ => True) (fun x o _ h => zt7 M x o h) v hs (fun _ _ => trivial) hF (fun x hx H' nx o hux hn hno hko hFH => ?_) H5 (n + 3) _ (hu.le (by omega)) (by omega) h2 ⟨_, rfl⟩ ⟨hag, h1, h0⟩
 have old : ∀ j, zjv n H j -> zd7 H' j := fun j ⟨hj, e, cs, h⟩ => ⟨e, cs, by rw [hFH.1 j hj]; exact h⟩
 exact zxo (old _ ⟨z2w hu hx _ (z3u x), ze7 hst hx⟩) (fun j hj => old j (hM j hj)) hFH.2.1 hFH.2.2 hno hko
theorem z7w {tb tb2 : Nat} (hs : szB (treeV v) = true) (hcn : cntT (treeV v) <= 1000000) (htb : tb < n) (hH : H tb = some (treeB (.ptr v.num 0))) (hu : Under n v) (hst : Stand H v)
  (hs2 : szB (treeV w) = true) (htb2 : tb2 < n) (hH2 : H tb2 = some (treeB (.ptr w.num 0))) (hu2 : Under n w) (hst2 : Stand H w) : RC Tryz.prog 21 [.ptr tb 0, .ptr tb2 0] H n (.int .i64 (zoy v w)) := by
 rw [znv] at hcn
 have hnb := z49 htb
 have hnb2 := z49 htb2
 refine zmx rfl (z17 [] Tryz.func21 rfl (by decide +kernel) z0b (by decide +kernel) (by simp [Tryz.ntmps21]) ?_)
 show awp _ _ (Code.seq _ _) _ _
 repeat' (first | refine zqj ?_ | ((refine zqh fun K J => ?_); (simp (disch := omega) only [go_sem, Nat.reduceBEq, ↓reduceIte, reduceCtorEq, Nat.reduceAdd, Nat.reduceLeDiff, Nat.reduceLT, hH2, hnb, hnb2, treeB])) | ((refine zqd _ rfl (fun hc => ?_) (fun hc => ?_)) <;> (first | (cases hc; done) | ((try simp only [] at hc); (try (exfalso; omega))))) | (refine J _ ?_; clear J K))
 obtain ⟨M, hM, hac⟩ := zxp (H4 := z0e (z0e (z0e H n (some (.map []))) (n + 1) (some (.box 83 [.nmp]))) (n + 1) (some (.box 83 [.mp n]))) hs2 hu2 hst2 (fun j hj => by rw [z01 _ (by omega), z01 _ (by omega), z01 _ (by omega)]) z2h (by rw [z01 _ (by omega), z01 _ (by omega), z2h]; rfl)
 refine z1k (hac.mono fun r' H' n' ⟨e1, e2, e3⟩ => ?_)
 subst e1; subst e3
 have hag1 : Agree n H H' := fun j hj => by rw [e2, z01 _ (by omega), z01 _ (by omega), z01 _ (by omega), z01 _ (by omega)]
 have h1 : H' (n + 1) = some (.box 83 [.mp n]) := by rw [e2, z01 _ (by omega), z2h]
 have h0 : H' n = some (zgf M) := by rw [e2, z2h]
 have hHt : H' tb = some (.box 78 [.ptr v.num 0]) := (hag1 tb htb).trans hH
 (try (simp (disch := omega) only [go_sem])); repeat' (first | ((refine zqh fun K J => ?_); (simp (disch := omega) only [go_sem, Nat.reduceBEq, ↓reduceIte, reduceCtorEq, Nat.reduceAdd, Nat.reduceLeDiff, Nat.reduceLT, hHt, hnb])) | (refine J _ ?_; clear J K))
 refine z1k ((zt8 (H := H) (M := M) hs hcn hu hst (fun j hj => ?_) (fun j hj => ?_) ?_ ?_ ?_).mono fun r' H2 n' ⟨e4, e5, e6⟩ => ?_)
 ·(simp (disch := omega) only [go_sem])
  simp (disch := omega) only [z3l]
  exact hag1 j hj
 ·obtain ⟨x, hx, rfl⟩ := List.mem_map.1 ((hM j).1 hj)
  exact ⟨z2w hu2 hx _ (z3u x), ze7 hst2 hx⟩
 ·(simp (disch := omega) only [go_sem, hnb])
  exact h1
 ·(simp (disch := omega) only [go_sem, hnb])
  exact h0
 ·(simp (disch := omega) only [go_sem])
 ·subst e4; subst e6
  have hn2 : H2 (n + 2) = some (.box 3 [.int .i64 (((nodesV v).countP fun w => !decide (w.num ∈ M) : Nat))]) := by rw [e5]; exact z2h
  have hcp : ((nodesV v).countP fun w => !decide (w.num ∈ M)) = zoy v w := by
   unfold zoy
   refine List.countP_congr fun x _ => ?_
   have := hM x.num
   simp only [Bool.not_eq_true', decide_eq_false_iff_not, this]
  rw [hcp] at hn2
  (try (simp (disch := omega) only [go_sem])); repeat' (first | ((refine zqh fun K J => ?_); (simp (disch := omega) only [go_sem, Nat.reduceBEq, ↓reduceIte, Nat.reduceAdd, hn2])) | refine zqn ?_ | refine zqu (by (simp (disch := omega) only [go_sem]); rfl) rfl ?_ | (refine J _ ?_; clear J K))
  (simp (disch := omega) only [go_sem, Nat.reduceBEq])
  refine fun j hj => ?_
  rw [e5, z01 _ (by omega)]
  (simp (disch := omega) only [go_sem])
  simp (disch := omega) only [z3l]
  exact hag1 j hj
end
end
section
open Abs Facts Tr
attribute [local irreducible] awp
set_option maxRecDepth 100000
theorem zoq {k n : Nat} (h : k < n) : (n == n + 1) = false /\ (n == n + 2) = false /\ (n == n + 3) = false /\ (n == n + 4) = false /\ (n == n + 5) = false /\ (n == n + 6) = false /\ (n == n + 7) = false /\ (n == n + 8) = false /\ (n == n + 9) = false /\ (n + 1 == n) = false /\ (n + 1 == n + 2) = false /\ (n + 1 == n + 3) = false /\ (n + 1 == n + 4) = false /\ (n + 1 == n + 5) = false /\ (n + 1 == n + 6) = false /\ (n + 1 == n + 7) = false /\ (n + 1 == n + 8) = false /\ (n + 1 == n + 9) = false /\ (n + 2 == n) = false /\ (n + 2 == n + 1) = false /\ (n + 2 == n + 3) = false /\ (n + 2 == n + 4) = false /\ (n + 2 == n + 5) = false /\ (n + 2 == n + 6) = false /\ (n + 2 == n + 7) = false /\ (n + 2 == n + 8) = false /\ (n + 2 == n + 9) = false /\ (n + 3 == n) = false /\ (n + 3 == n + 1) = false /\ (n + 3 == n + 2) = false /\ (n + 3 == n + 4) = false /\ (n + 3 == n + 5) = false /\ (n + 3 == n + 6) = false /\ (n + 3 == n + 7) = false /\ (n + 3 == n + 8) = false /\ (n + 3 == n + 9) = false /\ (n + 4 == n) = false /\ (n + 4 == n + 1) = false /\ (n + 4 == n + 2) = false /\ (n + 4 == n + 3) = false /\ (n + 4 == n + 5) = false /\ (n + 4 == n + 6) = false /\ (n + 4 == n + 7) = false /\ (n + 4 == n + 8) = false /\ (n + 4 == n + 9) = false /\ (n + 5 == n) = false /\ (n + 5 == n + 1) = false /\ (n + 5 == n + 2) = false /\ (n + 5 == n + 3) = false /\ (n + 5 == n + 4) = false /\ (n + 5 == n + 6) = false /\ (n + 5 == n + 7) = false /\ (n + 5 == n + 8) = false /\ (n + 5 == n + 9) = false /\ (n + 6 == n) = false /\ (n + 6 == n + 1) = false /\ (n + 6 == n + 2) = false /\ (n + 6 == n + 3) = false /\ (n + 6 == n + 4) = false /\ (n + 6 == n + 5) = false /\ (n + 6 == n + 7) = false /\ (n + 6 == n + 8) = false /\ (n + 6 == n + 9) = false /\ (n + 7 == n) = false /\ (n + 7 == n + 1) = false /\ (n + 7 == n + 2) = false /\ (n + 7 == n + 3) = false /\ (n + 7 == n + 4) = false /\ (n + 7 == n + 5) = false /\ (n + 7 == n + 6) = false /\ (n + 7 == n + 8) = false /\ (n + 7 == n + 9) = false /\ (n + 8 == n) = false /\ (n + 8 == n + 1) = false /\ (n + 8 == n + 2) = false /\ (n + 8 == n + 3) = false /\ (n + 8 == n + 4) = false /\ (n + 8 == n + 5) = false /\ (n + 8 == n + 6) = false /\ (n + 8 == n + 7) = false /\ (n + 8 == n + 9) = false /\ (n + 9 == n) = false /\ (n + 9 == n + 1) = false /\ (n + 9 == n + 2) = false /\ (n + 9 == n + 3) = false /\ (n + 9 == n + 4) = false /\ (n + 9 == n + 5) = false /\ (n + 9 == n + 6) = false /\ (n + 9 == n + 7) = false /\ (n + 9 == n + 8) = false /\ (k == n) = false /\ (n == k) = false /\ (k == n + 1) = false /\ (n + 1 == k) = false /\ (k == n + 2) = false /\ (n + 2 == k) = false /\ (k == n + 3) = false /\ (n + 3 == k) = false /\ (k == n + 4) = false /\ (n + 4 == k) = false /\ (k == n + 5) = false /\ (n + 5 == k) = false /\ (k == n + 6) = false /\ (n + 6 == k) = false /\ (k == n + 7) = false /\ (n + 7 == k) = false /\ (k == n + 8) = false /\ (n + 8 == k) = false /\ (k == n + 9) = false /\ (n + 9 == k) = false := by
 refine ⟨?_, ?_, ?_, ?_, ?_, ?_, ?_, ?_, ?_, ?_, ?_, ?_, ?_, ?_, ?_, ?_, ?_, ?_, ?_, ?_, ?_, ?_, ?_, ?_, ?_, ?_, ?_, ?_, ?_, ?_, ?_, ?_, ?_, ?_, ?_, ?_, ?_, ?_, ?_, ?_, ?_, ?_, ?_, ?_, ?_, ?_, ?_, ?_, ?_, ?_, ?_, ?_, ?_, ?_, ?_, ?_, ?_, ?_, ?_, ?_, ?_, ?_, ?_, ?_, ?_, ?_, ?_, ?_, ?_, ?_, ?_, ?_, ?_, ?_, ?_, ?_, ?_, ?_, ?_, ?_, ?_, ?_, ?_, ?_, ?_, ?_, ?_, ?_, ?_, ?_, ?_, ?_, ?_, ?_, ?_, ?_, ?_, ?_, ?_, ?_, ?_, ?_, ?_, ?_, ?_, ?_, ?_, ?_, ?_, ?_⟩ <;> exact za7 (by omega)
structure UpdOK (e : Int) (u' : T) (made : List Idv) (v : V) (H : HM) (n : Nat) (o : D × HM × Nat) : Prop where
 le : n <= o.2.2
 agree : Agree n H o.2.1
 bad : e ≠ 0 -> o.1 = .tup [.nptr, .int .i64 e]
 good : e = 0 -> ∃ v' t, o.1 = .tup [.ptr t 0, .int .i64 0] /\ n <= t /\ t < o.2.2 /\ o.2.1 t = some (treeB (.ptr v'.num 0)) /\ Stand o.2.1 v' /\ Under o.2.2 v' /\ treeV v' = u' /\ Upd n made v v' /\ n <= v'.num
theorem zeh {v w : V} (hs : szB (treeV v) = true) (hw : w ∈ nodesV v) : w.kids.length <= 1000000 := by
 obtain ⟨_, _, _, _, _, h3, _⟩ := (z39 _).1 (sz_node v hs w hw)
 rw [z1d, List.length_map] at h3; exact h3
def zix : List D := [.int .i64 0, .int .i64 0, .int .i64 0, .int .i64 0, .str ByteArray.empty, .nil, .nil, .nil]
section
variable {H : HM} {n tb : Nat} {v : V}
theorem zbs (hs : szB (treeV v) = true) (htb : tb < n) (hH : H tb = some (treeB (.ptr v.num 0))) (hu : Under n v) (hst : Stand H v) {st : St} {H2 : HM} {n2 : Nat} (h2 : zck st H2 n2) (hle : n <= st.nx) (hag : Agree n H st.H) : RC Tryz.prog 14 [.ptr tb 0] H2 n2 (z0p (treeV v)) := by
 have ha : Agree n H H2 := fun j hj => (h2.2 j (by omega)).trans (hag j hj)
 have := h2.1
 exact zfj hs (by omega) (by rw [ha _ htb]; exact hH) (hu.le (by omega)) (Stand.agree ha v hu hst)
theorem zrk (hs : szB (treeV v) = true) (hcn : cntT (treeV v) <= 1000000) (hd : depT (treeV v) <= 1000000) (hn : (idsT (treeV v)).Nodup) (htb : tb < n) (hH : H tb = some (treeB (.ptr v.num 0))) (hu : Under n v) (hst : Stand H v)
  (x : T) (hsx : szB x = true) (hcx : cntT x <= 1000000) (hdx : depT x <= 1000000) (parent : Idv) (i : Int) :
  Det 48 [.ptr tb 0, z16 parent, .int .i64 i, z0p x] H n (UpdOK (z3r (treeV v) parent i x) (z1b parent (z6r i.toNat x) (treeV v)) (parent :: z41 parent (treeV v)) v H n) := by
 have c1 := zsk (treeV v) x hs hsx hcn hcx hd hdx parent i
 obtain ⟨e, he⟩ : ∃ e, e = z3r (treeV v) parent i x := ⟨_, rfl⟩
 rw [<- he] at c1 ⊢
 generalize (if e ≠ 0 then T.zero else z1b parent (z6r i.toNat x) (treeV v)) = y at c1
 obtain ⟨H3, hH3⟩ : ∃ H3, H3 = z0e (z0e (z0e H n (some (idB parent))) (n + 1) (some (.box 3 [.int .i64 i]))) (n + 2) (some (unitB x)) := ⟨_, rfl⟩
 obtain ⟨H4, hH4⟩ : ∃ H4, H4 = z0e (z0e H3 (n + 3) (some (.box 27 zix))) (n + 3) (some (unitB y)) := ⟨_, rfl⟩
 have hag3 : Agree n H H3 := fun j hj => by rw [hH3, z01 _ (by omega), z01 _ (by omega), z01 _ (by omega)]
 have hag4 : ∀ j, j < n + 3 -> H4 j = H3 j := fun j hj => by rw [hH4, z01 _ (by omega), z01 _ (by omega)]
 have hnb := z49 htb
 have hat := zf8 (e := e) (g := 96) (cap := [.ptr (n + 1) 0, .ptr (n + 2) 0]) (lo := n + 4) (id := parent) (E := insE i.toNat x) (Q := fun w w' => w'.own = w.own /\ ∃ g, treeV g = x /\ (objsV g).Nodup /\ (∀ j ∈ objsV g, n + 4 <= j) /\ w'.kids = zno i.toNat g w) (H0 := H4) (H := H4) (n := n + 4) (tb := tb) (v := v)
  (by omega) (by rw [hag4 _ (by omega), hag3 _ htb]; exact hH) hs (fun h0 w hw hwi => by
   obtain ⟨_, _, m, hi, hle⟩ := z8e (he.symm.trans h0)
   have hk := hle (treeV w) (by rw [z4w]; exact List.mem_map.2 ⟨w, hw, rfl⟩) (by rw [z2b]; exact hwi)
   rw [z1d, List.length_map] at hk
   have hit : i.toNat = m := by rw [hi]; rfl
   refine ⟨do_ins hsx ?_ (by omega) ?_ (by omega) (by omega) (zeh hs hw), eff_ins⟩
   ·rw [hag4 _ (by omega), hH3, z01 _ (by omega), z2h, hit, hi]
   ·rw [hag4 _ (by omega), hH3, z2h]) (Nat.le_refl _) (Agree.refl _ _) (Stand.agree (n := n) (fun j hj => by rw [hag4 j (by omega), hag3 j hj]) v hu hst) (hu.le (by omega))
 obtain ⟨o, hac, hok⟩ := hat
 refine ⟨o, ?_, ⟨by have := hok.le; omega, fun j hj => by rw [hok.agree j (by omega), hag4 j (by omega), hag3 j hj], hok.bad, fun h0 => ?_⟩⟩
 ·refine (z17 [11000014, 3000015, 3000016, 3000017, 5000018] Tryz.func48 rfl (by decide +kernel) z0b (by decide +kernel) (by simp [Tryz.ntmps48]) ?_)
  show awp _ _ (Code.seq _ _) _ _
  repeat' (first | ((first | refine zqh fun K J => ?_ | refine zqe (by decide +kernel) fun K J => ?_); (simp (disch := omega) only [go_sem, Nat.reduceBEq, z16, z0s])) | (refine J _ ?_; clear J K))
  refine zba (fun H2 n2 h2 => zbs hs htb hH hu hst h2 (by (simp (disch := omega) only [go_sem]); omega) fun j hj => by (simp (disch := omega) only [go_sem]); simp (disch := omega) only [z3l]) rfl ?_
  (try (simp (disch := omega) only [go_sem, Nat.reduceBEq, Nat.reduceEqDiff, ↓reduceIte, Nat.reduceAdd, Nat.reduceLeDiff, hnb])); repeat' (first | ((first | refine zqh fun K J => ?_ | refine zqt (c1) ?_); (simp (disch := omega) only [go_sem, Nat.reduceBEq, Nat.reduceEqDiff, ↓reduceIte, Nat.reduceAdd, Nat.reduceLeDiff, hnb])) | (refine J _ ?_; clear J K))
  subst hH4; subst hH3
  refine z1k (hac.mono fun r' H' n' ⟨e1, e2, e3⟩ => ?_)
  rcases hok.shape with ⟨t, hd1⟩ | hd1
  all_goals
   rw [hd1] at e1
   subst e1; subst e2; subst e3
   (try (simp (disch := omega) only [go_sem, Nat.reduceBEq])); repeat' (first | refine zqn ?_ | refine zqu (by (simp (disch := omega) only [go_sem]); rfl) rfl ?_ | (refine J _ ?_; clear J K))
   rw [hd1]
   (simp (disch := omega) only [go_sem, Nat.reduceBEq])
 ·obtain ⟨_, hpm, m, hi, _⟩ := z8e (he.symm.trans h0)
  obtain ⟨v', t, g1, g2, g3, g4, g5, g6, g7⟩ := hok.good h0 hpm
  have hit : i.toNat = m := by rw [hi]; rfl
  have hw0 := he.symm.trans h0
  rw [hi] at hw0
  rw [hit] at g5 ⊢
  obtain ⟨k1, k2, k3⟩ := upd_ins (n := n) (m := n + 4) (lo := n + 4) hw0 hn hu (by omega) (by omega) g5
  exact ⟨v', t, g1, by omega, g3, g4, g6, g7, k1, k2, k3⟩
theorem zvp {u : T} {id : Idv} {name : ByteArray} (h : zln u id name = 0) : standsT u = true /\ id ∈ idsT u /\ True := by
 unfold zln at h
 split at h
 ·cases h
 rename_i h1
 split at h
 ·cases h
 rename_i h2
 refine ⟨?_, ?_, trivial⟩
 ·cases hs : standsT u with
  | true => rfl
  | false => exact absurd (.inl hs) h1
 ·rw [z2f] at h2
  simpa using h2
theorem zn2 (hs : szB (treeV v) = true) (hcn : cntT (treeV v) <= 1000000) (hd : depT (treeV v) <= 1000000) (hn : (idsT (treeV v)).Nodup) (htb : tb < n) (hH : H tb = some (treeB (.ptr v.num 0))) (hu : Under n v) (hst : Stand H v)
  (id : Idv) (name : ByteArray) (hnm : name.size <= 1000000) :
  Det 51 [.ptr tb 0, z16 id, .str name] H n (UpdOK (zln (treeV v) id name) (z1b id (fun q => q.setLabel name) (treeV v)) (id :: z41 id (treeV v)) v H n) := by
 have c1 := zry (treeV v) hs hcn hd id name hnm
 obtain ⟨e, he⟩ : ∃ e, e = zln (treeV v) id name := ⟨_, rfl⟩
 rw [<- he] at c1 ⊢
 generalize (if e = 0 then z1b id (fun q => q.setLabel name) (treeV v) else T.zero) = y at c1
 obtain ⟨H3, hH3⟩ : ∃ H3, H3 = z0e (z0e H n (some (idB id))) (n + 1) (some (.box 9 [.str name])) := ⟨_, rfl⟩
 obtain ⟨H4, hH4⟩ : ∃ H4, H4 = z0e (z0e H3 (n + 2) (some (.box 27 zix))) (n + 2) (some (unitB y)) := ⟨_, rfl⟩
 have hag3 : Agree n H H3 := fun j hj => by rw [hH3, z01 _ (by omega), z01 _ (by omega)]
 have hag4 : ∀ j, j < n + 2 -> H4 j = H3 j := fun j hj => by rw [hH4, z01 _ (by omega), z01 _ (by omega)]
 have hnb := z49 htb
 have hat := zf8 (e := e) (g := 100) (cap := [.ptr (n + 1) 0]) (lo := n + 3) (id := id) (E := fldE fun q => q.setLabel name) (Q := fun w w' => w'.own = w.own.setLabel name /\ w'.kids = w.kids) (H0 := H4) (H := H4) (n := n + 3) (tb := tb) (v := v)
  (by omega) (by rw [hag4 _ (by omega), hag3 _ htb]; exact hH) hs (fun h0 w hw hwi => ⟨do_rel (by rw [hag4 _ (by omega), hH3, z2h]) (by omega), zly (f := fun q => q.setLabel name) (fun q => ⟨rfl, rfl⟩)⟩) (Nat.le_refl _) (Agree.refl _ _) (Stand.agree (n := n) (fun j hj => by rw [hag4 j (by omega), hag3 j hj]) v hu hst) (hu.le (by omega))
 obtain ⟨o, hac, hok⟩ := hat
 refine ⟨o, ?_, ⟨by have := hok.le; omega, fun j hj => by rw [hok.agree j (by omega), hag4 j (by omega), hag3 j hj], hok.bad, fun h0 => ?_⟩⟩
 ·refine (z17 [11000012, 3000013, 3000014, 5000015] Tryz.func51 rfl (by decide +kernel) z0b (by decide +kernel) (by simp [Tryz.ntmps51]) ?_)
  show awp _ _ (Code.seq _ _) _ _
  repeat' (first | ((first | refine zqh fun K J => ?_ | refine zqe (by decide +kernel) fun K J => ?_); (simp (disch := omega) only [go_sem, Nat.reduceBEq, z16, z0s])) | (refine J _ ?_; clear J K))
  refine zba (fun H2 n2 h2 => zbs hs htb hH hu hst h2 (by (simp (disch := omega) only [go_sem]); omega) fun j hj => by (simp (disch := omega) only [go_sem]); simp (disch := omega) only [z3l]) rfl ?_
  (try (simp (disch := omega) only [go_sem, Nat.reduceBEq, Nat.reduceEqDiff, ↓reduceIte, Nat.reduceAdd, Nat.reduceLeDiff, hnb])); repeat' (first | ((first | refine zqh fun K J => ?_ | refine zqt (c1) ?_); (simp (disch := omega) only [go_sem, Nat.reduceBEq, Nat.reduceEqDiff, ↓reduceIte, Nat.reduceAdd, Nat.reduceLeDiff, hnb])) | (refine J _ ?_; clear J K))
  subst hH4; subst hH3
  refine z1k (hac.mono fun r' H' n' ⟨e1, e2, e3⟩ => ?_)
  rcases hok.shape with ⟨t, hd1⟩ | hd1
  all_goals
   rw [hd1] at e1
   subst e1; subst e2; subst e3
   (try (simp (disch := omega) only [go_sem, Nat.reduceBEq])); repeat' (first | refine zqn ?_ | refine zqu (by (simp (disch := omega) only [go_sem]); rfl) rfl ?_ | (refine J _ ?_; clear J K))
   rw [hd1]
   (simp (disch := omega) only [go_sem, Nat.reduceBEq])
 ·obtain ⟨_, hpm, _⟩ := zvp (he.symm.trans h0)
  obtain ⟨v', t, g1, g2, g3, g4, g5, g6, g7⟩ := hok.good h0 hpm
  obtain ⟨k1, k2, k3⟩ := znc (n := n) (m := n + 3) (f := fun q => q.setLabel name) (fun _ _ => rfl) (fun _ => rfl) hn hu (by omega) g5
  exact ⟨v', t, g1, by omega, g3, g4, g6, g7, k1, k2, k3⟩
theorem z97 (hs : szB (treeV v) = true) (hcn : cntT (treeV v) <= 1000000) (hd : depT (treeV v) <= 1000000) (hn : (idsT (treeV v)).Nodup) (htb : tb < n) (hH : H tb = some (treeB (.ptr v.num 0))) (hu : Under n v) (hst : Stand H v)
  (id : Idv) (l : List Wd) (hl : l.length <= 1000000) (hw : ∀ w ∈ l, w.text.size <= maxLen) :
  Det 33 [.ptr tb 0, z16 id, z0w l] H n (UpdOK (z4b (treeV v) id l) (z1b id (fun q => q.setWords l) (treeV v)) (id :: z41 id (treeV v)) v H n) := by
 have c1 := zm4 (treeV v) hs hcn hd id l hl hw
 obtain ⟨e, he⟩ : ∃ e, e = z4b (treeV v) id l := ⟨_, rfl⟩
 rw [<- he] at c1 ⊢
 generalize (if e = 0 then z1b id (fun q => q.setWords l) (treeV v) else T.zero) = y at c1
 obtain ⟨H3, hH3⟩ : ∃ H3, H3 = z0e (z0e H n (some (idB id))) (n + 1) (some (.box 24 [z0w l])) := ⟨_, rfl⟩
 obtain ⟨H4, hH4⟩ : ∃ H4, H4 = z0e (z0e H3 (n + 2) (some (.box 27 zix))) (n + 2) (some (unitB y)) := ⟨_, rfl⟩
 have hag3 : Agree n H H3 := fun j hj => by rw [hH3, z01 _ (by omega), z01 _ (by omega)]
 have hag4 : ∀ j, j < n + 2 -> H4 j = H3 j := fun j hj => by rw [hH4, z01 _ (by omega), z01 _ (by omega)]
 have hnb := z49 htb
 have hat := zf8 (e := e) (g := 91) (cap := [.ptr (n + 1) 0]) (lo := n + 3) (id := id) (E := fldE fun q => q.setWords l) (Q := fun w w' => w'.own = w.own.setWords l /\ w'.kids = w.kids) (H0 := H4) (H := H4) (n := n + 3) (tb := tb) (v := v)
  (by omega) (by rw [hag4 _ (by omega), hag3 _ htb]; exact hH) hs (fun h0 w hw hwi => ⟨zyo hl (by rw [hag4 _ (by omega), hH3, z2h]) (by omega), zly (f := fun q => q.setWords l) (fun q => ⟨rfl, rfl⟩)⟩) (Nat.le_refl _) (Agree.refl _ _) (Stand.agree (n := n) (fun j hj => by rw [hag4 j (by omega), hag3 j hj]) v hu hst) (hu.le (by omega))
 obtain ⟨o, hac, hok⟩ := hat
 refine ⟨o, ?_, ⟨by have := hok.le; omega, fun j hj => by rw [hok.agree j (by omega), hag4 j (by omega), hag3 j hj], hok.bad, fun h0 => ?_⟩⟩
 ·refine (z17 [11000012, 3000013, 3000014, 5000015] Tryz.func33 rfl (by decide +kernel) z0b (by decide +kernel) (by simp [Tryz.ntmps33]) ?_)
  show awp _ _ (Code.seq _ _) _ _
  repeat' (first | ((first | refine zqh fun K J => ?_ | refine zqe (by decide +kernel) fun K J => ?_); (simp (disch := omega) only [go_sem, Nat.reduceBEq, z16, z0s])) | (refine J _ ?_; clear J K))
  refine zba (fun H2 n2 h2 => zbs hs htb hH hu hst h2 (by (simp (disch := omega) only [go_sem]); omega) fun j hj => by (simp (disch := omega) only [go_sem]); simp (disch := omega) only [z3l]) rfl ?_
  (try (simp (disch := omega) only [go_sem, Nat.reduceBEq, Nat.reduceEqDiff, ↓reduceIte, Nat.reduceAdd, Nat.reduceLeDiff, hnb])); repeat' (first | ((first | refine zqh fun K J => ?_ | refine zqt (c1) ?_); (simp (disch := omega) only [go_sem, Nat.reduceBEq, Nat.reduceEqDiff, ↓reduceIte, Nat.reduceAdd, Nat.reduceLeDiff, hnb])) | (refine J _ ?_; clear J K))
  subst hH4; subst hH3
  refine z1k (hac.mono fun r' H' n' ⟨e1, e2, e3⟩ => ?_)
  rcases hok.shape with ⟨t, hd1⟩ | hd1
  all_goals
   rw [hd1] at e1
   subst e1; subst e2; subst e3
   (try (simp (disch := omega) only [go_sem, Nat.reduceBEq])); repeat' (first | refine zqn ?_ | refine zqu (by (simp (disch := omega) only [go_sem]); rfl) rfl ?_ | (refine J _ ?_; clear J K))
   rw [hd1]
   (simp (disch := omega) only [go_sem, Nat.reduceBEq])
 ·obtain ⟨_, hpm, _⟩ := zaz (he.symm.trans h0)
  obtain ⟨v', t, g1, g2, g3, g4, g5, g6, g7⟩ := hok.good h0 hpm
  obtain ⟨k1, k2, k3⟩ := znc (n := n) (m := n + 3) (f := fun q => q.setWords l) (fun _ _ => rfl) (fun _ => rfl) hn hu (by omega) g5
  exact ⟨v', t, g1, by omega, g3, g4, g6, g7, k1, k2, k3⟩
theorem zgn (hs : szB (treeV v) = true) (hcn : cntT (treeV v) <= 1000000) (hd : depT (treeV v) <= 1000000) (hn : (idsT (treeV v)).Nodup) (htb : tb < n) (hH : H tb = some (treeB (.ptr v.num 0))) (hu : Under n v) (hst : Stand H v)
  (id : Idv) (l : List Wd) (hl : l.length <= 1000000) (hw : ∀ w ∈ l, w.text.size <= maxLen) :
  Det 52 [.ptr tb 0, z16 id, z0w l] H n (UpdOK (z4b (treeV v) id l) (z1b id (fun q => q.setHead l) (treeV v)) (id :: z41 id (treeV v)) v H n) := by
 have c1 := zi3 (treeV v) hs hcn hd id l hl hw
 obtain ⟨e, he⟩ : ∃ e, e = z4b (treeV v) id l := ⟨_, rfl⟩
 rw [<- he] at c1 ⊢
 generalize (if e = 0 then z1b id (fun q => q.setHead l) (treeV v) else T.zero) = y at c1
 obtain ⟨H3, hH3⟩ : ∃ H3, H3 = z0e (z0e H n (some (idB id))) (n + 1) (some (.box 24 [z0w l])) := ⟨_, rfl⟩
 obtain ⟨H4, hH4⟩ : ∃ H4, H4 = z0e (z0e H3 (n + 2) (some (.box 27 zix))) (n + 2) (some (unitB y)) := ⟨_, rfl⟩
 have hag3 : Agree n H H3 := fun j hj => by rw [hH3, z01 _ (by omega), z01 _ (by omega)]
 have hag4 : ∀ j, j < n + 2 -> H4 j = H3 j := fun j hj => by rw [hH4, z01 _ (by omega), z01 _ (by omega)]
 have hnb := z49 htb
 have hat := zf8 (e := e) (g := 101) (cap := [.ptr (n + 1) 0]) (lo := n + 3) (id := id) (E := fldE fun q => q.setHead l) (Q := fun w w' => w'.own = w.own.setHead l /\ w'.kids = w.kids) (H0 := H4) (H := H4) (n := n + 3) (tb := tb) (v := v)
  (by omega) (by rw [hag4 _ (by omega), hag3 _ htb]; exact hH) hs (fun h0 w hw hwi => ⟨do_head hl (by rw [hag4 _ (by omega), hH3, z2h]) (by omega), zly (f := fun q => q.setHead l) (fun q => ⟨rfl, rfl⟩)⟩) (Nat.le_refl _) (Agree.refl _ _) (Stand.agree (n := n) (fun j hj => by rw [hag4 j (by omega), hag3 j hj]) v hu hst) (hu.le (by omega))
 obtain ⟨o, hac, hok⟩ := hat
 refine ⟨o, ?_, ⟨by have := hok.le; omega, fun j hj => by rw [hok.agree j (by omega), hag4 j (by omega), hag3 j hj], hok.bad, fun h0 => ?_⟩⟩
 ·refine (z17 [11000012, 3000013, 3000014, 5000015] Tryz.func52 rfl (by decide +kernel) z0b (by decide +kernel) (by simp [Tryz.ntmps52]) ?_)
  show awp _ _ (Code.seq _ _) _ _
  repeat' (first | ((first | refine zqh fun K J => ?_ | refine zqe (by decide +kernel) fun K J => ?_); (simp (disch := omega) only [go_sem, Nat.reduceBEq, z16, z0s])) | (refine J _ ?_; clear J K))
  refine zba (fun H2 n2 h2 => zbs hs htb hH hu hst h2 (by (simp (disch := omega) only [go_sem]); omega) fun j hj => by (simp (disch := omega) only [go_sem]); simp (disch := omega) only [z3l]) rfl ?_
  (try (simp (disch := omega) only [go_sem, Nat.reduceBEq, Nat.reduceEqDiff, ↓reduceIte, Nat.reduceAdd, Nat.reduceLeDiff, hnb])); repeat' (first | ((first | refine zqh fun K J => ?_ | refine zqt (c1) ?_); (simp (disch := omega) only [go_sem, Nat.reduceBEq, Nat.reduceEqDiff, ↓reduceIte, Nat.reduceAdd, Nat.reduceLeDiff, hnb])) | (refine J _ ?_; clear J K))
  subst hH4; subst hH3
  refine z1k (hac.mono fun r' H' n' ⟨e1, e2, e3⟩ => ?_)
  rcases hok.shape with ⟨t, hd1⟩ | hd1
  all_goals
   rw [hd1] at e1
   subst e1; subst e2; subst e3
   (try (simp (disch := omega) only [go_sem, Nat.reduceBEq])); repeat' (first | refine zqn ?_ | refine zqu (by (simp (disch := omega) only [go_sem]); rfl) rfl ?_ | (refine J _ ?_; clear J K))
   rw [hd1]
   (simp (disch := omega) only [go_sem, Nat.reduceBEq])
 ·obtain ⟨_, hpm, _⟩ := zaz (he.symm.trans h0)
  obtain ⟨v', t, g1, g2, g3, g4, g5, g6, g7⟩ := hok.good h0 hpm
  obtain ⟨k1, k2, k3⟩ := znc (n := n) (m := n + 3) (f := fun q => q.setHead l) (fun _ _ => rfl) (fun _ => rfl) hn hu (by omega) g5
  exact ⟨v', t, g1, by omega, g3, g4, g6, g7, k1, k2, k3⟩
theorem ac_out (id : Idv) : AC Tryz.prog 98 [z16 id] H n fun r H' n' => r = .fn 151 [.ptr n 0] /\ H' = z0e H n (some (idB id)) /\ n' = n + 1 := by
 refine (z17 [] Tryz.func98 rfl (by decide +kernel) z0b (by decide +kernel) (by simp [Tryz.ntmps98]) ?_)
 show awp _ _ (Code.seq _ _) _ _
 repeat' (first | ((refine zqh fun K J => ?_); (simp (disch := omega) only [go_sem, Nat.reduceBEq, z16, z0s])) | refine zqn ?_ | refine zqu (by (simp (disch := omega) only [go_sem]); rfl) rfl ?_ | (refine J _ ?_; clear J K))
 (simp (disch := omega) only [go_sem, Nat.reduceBEq])
 rfl
theorem zrl (hs : szB (treeV v) = true) (hcn : cntT (treeV v) <= 1000000) (hd : depT (treeV v) <= 1000000) (hn : (idsT (treeV v)).Nodup) (htb : tb < n) (hH : H tb = some (treeB (.ptr v.num 0))) (hu : Under n v) (hst : Stand H v) (id : Idv) :
  Det 49 [.ptr tb 0, z16 id] H n (UpdOK (zc1 (treeV v) id) (z0m id (treeV v)) (z41 id (treeV v)) v H n) := by
 have c1 := zv4 (treeV v) hs hcn hd id
 have c2 := zbg (treeV v) (z7g _ hs) (by omega) id
 obtain ⟨e, he⟩ : ∃ e, e = zc1 (treeV v) id := ⟨_, rfl⟩
 rw [<- he] at c1 ⊢
 generalize (if e = 0 then z0m id (treeV v) else T.zero) = y at c1
 generalize (if e = 0 then (z08 id (treeV v)).1 else T.zero) = z at c1
 obtain ⟨under, hund⟩ : ∃ under, under = (z6d id (treeV v)).1 := ⟨_, rfl⟩
 rw [<- hund] at c2
 obtain ⟨H1, hH1⟩ : ∃ H1, H1 = z0e (z0e (z0e H n (some (idB id))) (n + 1) (some (.box 27 zix))) (n + 1) (some (unitB (treeV v))) := ⟨_, rfl⟩
 obtain ⟨H2, hH2⟩ : ∃ H2, H2 = z0e (z0e (z0e (z0e H1 (n + 2) (some (.box 27 zix))) (n + 3) (some (.box 27 zix))) (n + 2) (some (unitB y))) (n + 3) (some (unitB z)) := ⟨_, rfl⟩
 obtain ⟨H3, hH3⟩ : ∃ H3, H3 = z0e (z0e H2 (n + 4) (some (.box 23 [.int .i64 0, .int .i64 0, .int .i64 0]))) (n + 4) (some (idB under)) := ⟨_, rfl⟩
 obtain ⟨H4, hH4⟩ : ∃ H4, H4 = z0e H3 (n + 5) (some (idB id)) := ⟨_, rfl⟩
 have hag : ∀ j, j < n -> H4 j = H j := fun j hj => by
  rw [hH4, z01 _ (by omega), hH3, z01 _ (by omega), z01 _ (by omega), hH2, z01 _ (by omega), z01 _ (by omega), z01 _ (by omega), z01 _ (by omega), hH1, z01 _ (by omega), z01 _ (by omega), z01 _ (by omega)]
 have hnb := z49 htb
 have hat := zf8 (e := e) (g := 151) (cap := [.ptr (n + 5) 0]) (lo := n + 6) (id := under) (E := outE id) (Q := fun w w' => w'.own = w.own /\ w'.kids = outK id w) (H0 := H4) (H := H4) (n := n + 6) (tb := tb) (v := v)
  (by omega) (by rw [hag _ htb]; exact hH) hs (fun h0 w hw hwi => by
   obtain ⟨_, t2, t3⟩ := ziq (he.symm.trans h0)
   obtain ⟨u2, q1, q2, q3, q4, ⟨q, q5, q6, k, q7, q8⟩, q9⟩ := zg3 hn t3 t2
   rw [<- hund] at q1
   subst q1
   have hwq : treeV w = q := z6o (f := T.id) hn _ (by rw [z4w]; exact List.mem_map.2 ⟨w, hw, rfl⟩) _ q5 (by rw [z2b, hwi, q6])
   have hk : ∃ k ∈ w.kids, k.own.id = id := by
    rw [<- hwq, z1d] at q7
    obtain ⟨k2, hk2, rfl⟩ := List.mem_map.1 q7
    exact ⟨k2, hk2, by rw [<- z2b]; exact q8⟩
   exact ⟨do_out (by rw [hH4, z2h]) (by omega) hk (zeh hs hw), zsb hk⟩) (Nat.le_refl _) (Agree.refl _ _) (Stand.agree (n := n) hag v hu hst) (hu.le (by omega))
 obtain ⟨o, hac, hok⟩ := hat
 refine ⟨o, ?_, ⟨by have := hok.le; omega, fun j hj => by rw [hok.agree j (by omega), hag j hj], hok.bad, fun h0 => ?_⟩⟩
 ·have cU := zfj hs (n := n + 1) (H := z0e H n (some (idB id))) (tb := tb) (by omega) (by rw [z01 _ (by omega)]; exact hH) (hu.le (by omega)) (Stand.agree (n := n) (fun j hj => z01 _ (by omega)) v hu hst)
  unfold idB at cU
  refine (z17 [3000031, 3000032, 4000033, 10000033, 4000034, 10000034] Tryz.func49 rfl (by decide +kernel) z0b (by decide +kernel) (by simp [Tryz.ntmps49]) ?_)
  show awp _ _ (Code.seq _ _) _ _
  have hnn := zoq htb
  repeat' (first | ((first | refine zqh fun K J => ?_ | refine zqe (by decide +kernel) fun K J => ?_ | refine z0z (cU) ?_ | refine zqs (c1) ?_ | refine zqs (c2) ?_); (simp (disch := omega) only [go_sem, Nat.reduceBEq, Nat.reduceEqDiff, ↓reduceIte, Nat.reduceAdd, Nat.reduceLeDiff, hnn, z16, z0s])) | (refine J _ ?_; clear J K))
  refine z4k (ac_out id) rfl rfl rfl ⟨Nat.le_succ _, fun j hj => z01 _ (Nat.ne_of_lt hj)⟩ ?_
  (try (simp (disch := omega) only [go_sem, Nat.reduceBEq])); repeat' skip
  subst hH4; subst hH3; subst hH2; subst hH1
  have hle := hok.le
  refine z4k hac rfl rfl rfl ⟨by (simp (disch := omega) only [go_sem]); omega, fun j hj => hok.agree j hj⟩ ?_
  rcases hok.shape with ⟨t, hd1⟩ | hd1
  all_goals
   rw [hd1]
   (try (simp (disch := omega) only [go_sem, Nat.reduceBEq])); repeat' (first | refine zqn ?_ | refine zqu (by (simp (disch := omega) only [go_sem]); rfl) rfl ?_ | (refine J _ ?_; clear J K))
   rw [hd1]
   (simp (disch := omega) only [go_sem, Nat.reduceBEq])
 ·obtain ⟨_, t2, t3⟩ := ziq (he.symm.trans h0)
  obtain ⟨u2, q1, q2, q3, q4, _, q9⟩ := zg3 hn t3 t2
  rw [<- hund] at q1
  subst q1
  obtain ⟨v', t, g1, g2, g3, g4, g5, g6, g7⟩ := hok.good h0 q2
  obtain ⟨k1, k2, k3⟩ := zwg (n := n) (m := n + 6) hn hu (by omega) q9 g5
  exact ⟨v', t, g1, by omega, g3, g4, g6, g7, k1, by rw [q3]; exact k2, k3⟩
end
end
section
open Abs Facts Tr
attribute [local irreducible] awp
set_option maxRecDepth 100000
section
variable {H : HM} {n tb : Nat} {v : V}
theorem zyc (hs : szB (treeV v) = true) (hcn : cntT (treeV v) <= 1000000) (hd : depT (treeV v) <= 1000000) (hn : (idsT (treeV v)).Nodup) (htb : tb < n) (hH : H tb = some (treeB (.ptr v.num 0))) (hu : Under n v) (hst : Stand H v) (id parent : Idv) (i : Int) :
  Det 50 [.ptr tb 0, z16 id, z16 parent, .int .i64 i] H n (UpdOK (z8q (treeV v) id parent i) (z1b parent (z6r i.toNat (z08 id (treeV v)).1) (z0m id (treeV v))) (z41 id (treeV v) ++ parent :: z41 parent (treeV v)) v H n) := by
 have c1 := pc_Move (treeV v) hs hcn hd id parent i
 have c2 := zbg (treeV v) (z7g _ hs) (by omega) id
 obtain ⟨e, he⟩ : ∃ e, e = z8q (treeV v) id parent i := ⟨_, rfl⟩
 rw [<- he] at c1 ⊢
 generalize (if e = 0 then z1b parent (z6r i.toNat (z08 id (treeV v)).1) (z0m id (treeV v)) else T.zero) = y at c1
 obtain ⟨under, hund⟩ : ∃ under, under = (z6d id (treeV v)).1 := ⟨_, rfl⟩
 rw [<- hund] at c2
 obtain ⟨Ha, hHa⟩ : ∃ Ha, Ha = z0e (z0e (z0e H n (some (idB id))) (n + 1) (some (idB parent))) (n + 2) (some (.box 3 [.int .i64 i])) := ⟨_, rfl⟩
 have hagA : Agree n H Ha := fun j hj => by rw [hHa, z01 _ (by omega), z01 _ (by omega), z01 _ (by omega)]
 have cU := zfj hs (n := n + 3) (H := Ha) (tb := tb) (by omega) (by rw [hagA _ htb]; exact hH) (hu.le (by omega)) (Stand.agree hagA v hu hst)
 obtain ⟨H1, hH1⟩ : ∃ H1, H1 = z0e (z0e Ha (n + 3) (some (.box 27 zix))) (n + 3) (some (unitB (treeV v))) := ⟨_, rfl⟩
 obtain ⟨H2, hH2⟩ : ∃ H2, H2 = z0e (z0e H1 (n + 4) (some (.box 27 zix))) (n + 4) (some (unitB y)) := ⟨_, rfl⟩
 have hag2 : Agree n H H2 := fun j hj => by
  rw [hH2, z01 _ (by omega), z01 _ (by omega), hH1, z01 _ (by omega), z01 _ (by omega)]; exact hagA j hj
 have hnn := zoq htb
 by_cases h0 : e = 0
 ·obtain ⟨m1, m2, m3, m4, m5, m6⟩ := zff (he.symm.trans h0)
  obtain ⟨u2, q1, q2, q3, q4, ⟨q, q5, q6, k, q7, q8⟩, q9⟩ := zg3 hn m4 m2
  rw [<- hund] at q1
  subst q1
  obtain ⟨x, hxv, hxi, hfx, hrx⟩ : ∃ x ∈ nodesV v, x.own.id = id /\ z8l id v = .ptr x.num 0 /\ z08 id (treeV v) = (treeV x, true) := by
   rcases zrf hn id with ⟨_, hf⟩ | h
   ·have := z2f (id := id) (u := treeV v)
    rw [hf, decide_eq_true m2] at this; cases this
   ·exact h
  obtain ⟨H3, hH3⟩ : ∃ H3, H3 = z0e (z0e H2 (n + 5) (some (.box 23 [.int .i64 0, .int .i64 0, .int .i64 0]))) (n + 5) (some (idB under)) := ⟨_, rfl⟩
  have hag3 : Agree n H H3 := fun j hj => by rw [hH3, z01 _ (by omega), z01 _ (by omega)]; exact hag2 j hj
  have cF : ∀ (H' : HM) (n' : Nat), n <= n' -> Agree n H H' -> RC Tryz.prog 44 [.ptr v.num 0, z16 id] H' n' (.ptr x.num 0) := fun H' n' hle ha => by
   have := rc_find id v hs H' n' (hu.le hle) (Stand.agree ha v hu hst)
   rw [hfx] at this; exact this
  obtain ⟨H4, hH4⟩ : ∃ H4, H4 = z0e (z0e H3 (n + 6) (some (.box 75 [.nptr]))) (n + 6) (some (.box 75 [.ptr x.num 0])) := ⟨_, rfl⟩
  obtain ⟨H5, hH5⟩ : ∃ H5, H5 = z0e H4 (n + 7) (some (idB id)) := ⟨_, rfl⟩
  have hag5 : Agree n H H5 := fun j hj => by rw [hH5, z01 _ (by omega), hH4, z01 _ (by omega), z01 _ (by omega)]; exact hag3 j hj
  have hH5a : H5 (n + 2) = some (.box 3 [.int .i64 i]) := by
   rw [hH5, z01 _ (by omega), hH4, z01 _ (by omega), z01 _ (by omega), hH3, z01 _ (by omega), z01 _ (by omega), hH2, z01 _ (by omega), z01 _ (by omega), hH1, z01 _ (by omega), z01 _ (by omega), hHa, z2h]
  have hH5p : H5 (n + 1) = some (idB parent) := by
   rw [hH5, z01 _ (by omega), hH4, z01 _ (by omega), z01 _ (by omega), hH3, z01 _ (by omega), z01 _ (by omega), hH2, z01 _ (by omega), z01 _ (by omega), hH1, z01 _ (by omega), z01 _ (by omega), hHa, z01 _ (by omega), z2h]
  have hH5b : H5 (n + 6) = some (.box 75 [.ptr x.num 0]) := by rw [hH5, z01 _ (by omega), hH4, z2h]
  -- the unit is taken out
  have hat := zf8 (e := 0) (g := 151) (cap := [.ptr (n + 7) 0]) (lo := n + 8) (id := under) (E := outE id) (Q := fun w w' => w'.own = w.own /\ w'.kids = outK id w) (H0 := H5) (H := H5) (n := n + 8) (tb := tb) (v := v)
   (by omega) (by rw [hag5 _ htb]; exact hH) hs (fun _ w hw hwi => by
    have hwq : treeV w = q := z6o (f := T.id) hn _ (by rw [z4w]; exact List.mem_map.2 ⟨w, hw, rfl⟩) _ q5 (by rw [z2b, hwi, q6])
    have hk : ∃ k ∈ w.kids, k.own.id = id := by
     rw [<- hwq, z1d] at q7
     obtain ⟨k2, hk2, rfl⟩ := List.mem_map.1 q7
     exact ⟨k2, hk2, by rw [<- z2b]; exact q8⟩
    exact ⟨do_out (by rw [hH5, z2h]) (by omega) hk (zeh hs hw), zsb hk⟩) (Nat.le_refl _) (Agree.refl _ _) (Stand.agree hag5 v hu hst) (hu.le (by omega))
  obtain ⟨o1, hac1, hok1⟩ := hat
  obtain ⟨r, t1, g1, g2, g3, g4, g5, g6, g7⟩ := hok1.good rfl q2
  have hout := zwg (n := n) (m := n + 8) hn hu (by omega) q9 g5
  obtain ⟨⟨_, w2, w3, _⟩, w5, m, hi, hle⟩ := z8e m6
  have hsr : szB (treeV r) = true := by rw [hout.1]; exact zsh _ hs
  have hnr : (idsT (treeV r)).Nodup := by rw [hout.1]; exact z13 (by assumption)
  have hit : i.toNat = m := by rw [hi]; rfl
  have hle1 := hok1.le
  -- and put in
  have hat2 := zf8 (e := 0) (g := 99) (cap := [.ptr (n + 2) 0, .ptr (n + 6) 0]) (lo := o1.2.2) (id := parent) (E := movE i.toNat x) (Q := fun w w' => w'.own = w.own /\ w'.kids = zno i.toNat x w) (H0 := o1.2.1) (H := o1.2.1) (n := o1.2.2) (tb := t1) (v := r)
   (by omega) g4 hsr (fun _ w hw hwi => by
    have hk := hle (treeV w) (by rw [<- hout.1, z4w]; exact List.mem_map.2 ⟨w, hw, rfl⟩) (by rw [z2b]; exact hwi)
    rw [z1d, List.length_map] at hk
    have hxs : Stand o1.2.1 x := Stand.agree (n := n) (fun j hj => by rw [hok1.agree j (by omega)]; exact hag5 j hj) x (z2w hu hxv) (z4x v hst x hxv)
    have hxu : Under o1.2.2 x := (z2w hu hxv).le (by omega)
    exact ⟨do_mov (by rw [hok1.agree _ (by omega), hH5a, hit, hi]) (by omega) (by rw [hok1.agree _ (by omega), hH5b]) (by omega) hxs hxu (by omega) (zeh hsr hw), eff_mov hxs hxu⟩) (Nat.le_refl _) (Agree.refl _ _) g6 g7
  obtain ⟨o2, hac2, hok2⟩ := hat2
  refine ⟨o2, ?_, ⟨by have := hok2.le; omega, fun j hj => by rw [hok2.agree j (by omega), hok1.agree j (by omega)]; exact hag5 j hj, fun h => absurd h0 h, fun _ => ?_⟩⟩
  ·subst h0
   refine (z17 [8000000, 3000042, 3000043, 11000044, 3000047, 3000048, 4000049, 10000049, 4000050, 10000050] Tryz.func50 rfl (by decide +kernel) z0b (by decide +kernel) (by simp [Tryz.ntmps50]) ?_)
   show awp _ _ (Code.seq _ _) _ _
   subst hHa
   unfold idB at cU
   repeat' (first | refine zqj ?_ | ((first | refine zqh fun K J => ?_ | refine zqe (by decide +kernel) fun K J => ?_ | refine z0z (cU) ?_ | refine zqs (c1) ?_ | refine zqs (c2) ?_); (simp (disch := omega) only [go_sem, Nat.reduceBEq, Nat.reduceEqDiff, ↓reduceIte, reduceCtorEq, Nat.reduceAdd, Nat.reduceLeDiff, hH, hnn, treeB, z16, z0s])) | ((refine zqd _ rfl (fun hc => ?_) (fun hc => ?_)) <;> (first | (cases hc; done) | ((try simp only [] at hc); (try (exfalso; omega))))) | refine zqb ?_ | (refine J _ ?_; clear J K))
   refine zba (fun H' n' h2 => cF H' n' (Nat.le_trans (by (simp (disch := omega) only [go_sem]) <;> omega) h2.1) fun j hj => (h2.2 j (by (simp (disch := omega) only [go_sem]) <;> omega)).trans (by (simp (disch := omega) only [go_sem]); simp (disch := omega) only [z3l])) rfl ?_
   (try (simp (disch := omega) only [go_sem, Nat.reduceBEq, Nat.reduceEqDiff, ↓reduceIte, Nat.reduceAdd, Nat.reduceLeDiff, Nat.reduceLT, hnn])); repeat' (first | ((refine zqe (by decide +kernel) fun K J => ?_); (simp (disch := omega) only [go_sem, Nat.reduceBEq, Nat.reduceEqDiff, ↓reduceIte, Nat.reduceAdd, Nat.reduceLeDiff, hnn])) | (refine J _ ?_; clear J K))
   refine z4k (ac_out id) rfl rfl rfl ⟨Nat.le_succ _, fun j hj => z01 _ (Nat.ne_of_lt hj)⟩ ?_
   (try (simp (disch := omega) only [go_sem, Nat.reduceBEq])); repeat' skip
   subst hH5; subst hH4; subst hH3; subst hH2; subst hH1
   refine z4k hac1 rfl rfl rfl ⟨by (simp (disch := omega) only [go_sem]) <;> omega, fun j hj => hok1.agree j hj⟩ ?_
   have f6 := (hok1.agree (n + 1) (by omega)).trans hH5p
   rw [g1]
   (try (simp (disch := omega) only [go_sem, Nat.reduceBEq, idB, z0s])); repeat' (first | ((refine zqh fun K J => ?_); (simp (disch := omega) only [go_sem, Nat.reduceBEq, ↓reduceIte, Nat.reduceAdd, Nat.reduceLeDiff, f6, idB, z0s])) | (refine J _ ?_; clear J K))
   refine z1k (hac2.mono fun r' H' n' ⟨e1, e2, e3⟩ => ?_)
   rcases hok2.shape with ⟨t, hd1⟩ | hd1
   all_goals
    rw [hd1] at e1
    subst e1; subst e2; subst e3
    (try (simp (disch := omega) only [go_sem, Nat.reduceBEq])); repeat' (first | refine zqn ?_ | refine zqu (by (simp (disch := omega) only [go_sem]); rfl) rfl ?_ | (refine J _ ?_; clear J K))
    rw [hd1]
    (simp (disch := omega) only [go_sem, Nat.reduceBEq])
  ·rw [hit] at hok2 ⊢
   obtain ⟨v', t, p1, p2, p3, p4, p5, p6, p7⟩ := hok2.good rfl (by rw [hout.1]; exact w5)
   obtain ⟨k1, k2, k3⟩ := upd_mov (n := n) (m := n + 8) (m2 := o1.2.2) (n2 := o1.2.2) (at_ := m) m1 m4 m2 m3 m5 q3 q2 q4 (by rw [hrx]) hxv hu (by omega) hout hnr g7 (by omega) (Nat.le_refl _) p5
   exact ⟨v', t, p1, by omega, p3, p4, p6, p7, k1, k2, k3⟩
 ·refine ⟨(.tup [.nptr, .int .i64 e], H2, n + 5), ?_, ⟨by simp, hag2, fun _ => rfl, fun h => absurd h h0⟩⟩
  refine (z17 [8000000, 3000042, 3000043, 11000044, 3000047, 3000048, 4000049, 10000049, 4000050, 10000050] Tryz.func50 rfl (by decide +kernel) z0b (by decide +kernel) (by simp [Tryz.ntmps50]) ?_)
  show awp _ _ (Code.seq _ _) _ _
  subst hHa
  unfold idB at cU
  repeat' (first | refine zqj ?_ | ((first | refine zqh fun K J => ?_ | refine z0z (cU) ?_ | refine zqs (c1) ?_); (simp (disch := omega) only [go_sem, Nat.reduceBEq, ↓reduceIte, Nat.reduceAdd, Nat.reduceLeDiff, hnn, z16, z0s])) | ((refine zqd _ rfl (fun hc => ?_) (fun hc => ?_)) <;> (((try simp only [z0d] at hc); (try (exfalso; omega))))) | refine zqg ?_ | refine zqu (by (simp (disch := omega) only [go_sem]); rfl) rfl ?_ | (refine J _ ?_; clear J K))
  (simp (disch := omega) only [go_sem, Nat.reduceBEq])
  rw [hH2, hH1]
  rfl
end
end
section
open Abs Facts Tr
namespace Tr
theorem cap_len {s : ByteArray} (h : z46 s = true) : s.size <= 7 := by
 unfold z46 at h
 simp only [Bool.and_eq_true, decide_eq_true_eq] at h
 omega
theorem zsl {l : List Wd} (h : zhg l = true) : l.length <= 256 /\ ∀ w ∈ l, w.text.size <= 24 := by
 unfold zhg at h
 simp only [Bool.and_eq_true, decide_eq_true_eq, List.all_eq_true] at h
 refine ⟨h.1, fun w hw => ?_⟩
 have := h.2 w hw
 unfold z79 at this
 simp only [Bool.and_eq_true, decide_eq_true_eq] at this
 omega
theorem zxd : ∀ t : T, z3a t = true -> szB t = true := by
 refine z5k fun t ih h => ?_
 rw [z43] at h
 simp only [Bool.and_eq_true, List.all_eq_true] at h
 obtain ⟨ha, _, hk, _⟩ := h
 unfold z2u at ha
 simp only [Bool.and_eq_true, decide_eq_true_eq] at ha
 obtain ⟨_, h1, h2, h3, h4⟩ := ha
 obtain ⟨a1, a2⟩ := zsl h2
 obtain ⟨b1, b2⟩ := zsl h3
 refine (z39 t).2 ⟨?_, by omega, fun w hw => by have := a2 w hw; omega, by omega, fun w hw => by have := b2 w hw; omega, by omega, fun k hk' => ih k hk' (hk k hk')⟩
 split at h4
 ·simp only [Bool.and_eq_true, decide_eq_true_eq] at h4
  rw [h4.1]; decide
 ·have := cap_len h4; omega
theorem z8t {t : T} (h : standsT t = true) : szB t = true /\ cntT t <= 1024 /\ depT t <= 8 :=
 ⟨zxd t ((z1o t).1 h).1, ((z1o t).1 h).2.2.1, ((z1o t).1 h).2.1⟩
theorem zm2 {u : T} {id : Idv} {l : List Wd} (h : z4b u id l = 0) : standsT (z1b id (fun q => q.setHead l) u) = true := by
 obtain ⟨h1, hm, h3, h4, h5⟩ := zaz h
 obtain ⟨C, e, hq, hpre, _⟩ := focus id u hm
 generalize (z08 id u).1 = q at e hq h4
 have hpost : id ∉ z3i C := (z2j (x := q) (by rw [<- e]; exact z13 h1) (hq ▸ z1e q)).2
 rw [e, z4l (fun q => q.setHead l) hq C hpre hpost]
 rw [e] at h1
 refine zd0 h1 rfl rfl rfl ?_ (fun h => h)
 have hr := ((z1o _).1 h1).1
 rw [z3c] at hr
 have ha := (zay hr.2).1
 unfold z2u at ha ⊢
 simp only [Bool.and_eq_true, decide_eq_true_eq] at ha ⊢
 obtain ⟨a1, a2, a3, a4, a5⟩ := ha
 refine ⟨a1, a2, ?_, a4, ?_⟩
 ·show zhg l = true
  unfold zhg
  rw [decide_eq_true h5, Bool.true_and, List.all_eq_true]
  intro w hw
  unfold zxf at h3
  have := List.any_eq_false.1 h3 w hw
  simpa using this
 ·rw [if_neg h4] at a5
  rw [if_neg (show ¬ (q.setHead l).kind = 0 from h4)]; exact a5
end Tr
end
section
open Abs Facts Tr
attribute [local irreducible] awp
set_option maxRecDepth 100000
structure Up where
 kind : Int
 id : Idv
 parent : Idv
 at_ : Int
 x : T
 label : ByteArray
 w : List Wd
def z3q (o : Up) : List D := .int .u8 o.kind :: .int .i64 o.id.act :: .int .i64 o.id.item :: .int .i64 o.id.n :: .int .i64 o.parent.act :: .int .i64 o.parent.item :: .int .i64 o.parent.n :: .int .i64 o.at_ :: (z0i o.x ++ [.str o.label, z0w o.w])
def z5g (o : Up) : D := .agg (z3q o)
def z5t (l : List Up) : D := .rsl false 18 (l.map z5g)
theorem z69 (o : Up) : z3q o = [.int .u8 o.kind, .int .i64 o.id.act, .int .i64 o.id.item, .int .i64 o.id.n, .int .i64 o.parent.act, .int .i64 o.parent.item, .int .i64 o.parent.n, .int .i64 o.at_, .int .i64 o.x.id.act, .int .i64 o.x.id.item, .int .i64 o.x.id.n, .int .i64 o.x.kind, .str o.x.label, z0w o.x.head, z0w o.x.words, z1p o.x.kids, .str o.label, z0w o.w] := by
 unfold z3q; rw [z0l]; rfl
theorem zrw (o : Up) : pureD (z5g o) = true := by
 unfold z5g
 rw [z69]
 simp only [pureD, pureD.pureL, z0j, z4c, Bool.and_self]
theorem zg1 (l : List Up) : pureD (z5t l) = true := z10 (f := z5g) zrw l
structure UpIn (o : Up) : Prop where
 ft : fitB o.x = true
 lb : o.label.size <= maxLen
 wl : o.w.length <= maxLen
 wt : ∀ w ∈ o.w, w.text.size <= maxLen
 at_ : -9223372036854775808 <= o.at_ /\ o.at_ <= 9223372036854775807
 k0 : 0 <= o.kind /\ o.kind <= 255
def zll (o : Up) : Bool := zzo o.x 12 && (decide (o.label.size <= 40) && decide (o.w.length <= 20))
structure UpOK (o : Up) : Prop where
 sz : szB o.x = true
 cn : cntT o.x <= 12
 dp : depT o.x <= 20
 lb : o.label.size <= 40
 wl : o.w.length <= 20
 wt : ∀ w ∈ o.w, w.text.size <= maxLen
 at_ : -9223372036854775808 <= o.at_ /\ o.at_ <= 9223372036854775807
 k0 : 0 <= o.kind /\ o.kind <= 255
theorem few_ok {o : Up} (hi : UpIn o) (h : zll o = true) : UpOK o := by
 unfold zll at h
 simp only [Bool.and_eq_true, decide_eq_true_eq] at h
 obtain ⟨s1, s2, s3⟩ := few_sz (by omega) (by omega) h.1
 exact ⟨s1, by omega, s3, h.2.1, h.2.2, hi.wt, hi.at_, hi.k0⟩
theorem zzv (u : T) (hu : fitB u = true) (l : List Up) (hl : l.length <= maxLen) (hin : ∀ o ∈ l, UpIn o) : PC Tryz.prog 19 [z0p u, z5t l] (.bool (l.all zll && (decide (l.length <= 12) && zzo u 40))) := by
 unfold maxLen at hl
 have c1 := pc_Few u hu 40 (by omega) (by omega)
 refine z24 1 (by simp only [pureD.pureL, zg1, z02, Bool.and_self]) rfl (z17 [] Tryz.func19 rfl (by decide +kernel) z0b (by decide +kernel) (by simp [Tryz.ntmps19]) ?_)
 show awp _ _ (Code.seq _ _) _ _
 repeat' (first | refine zqj ?_ | ((refine zqh fun K J => ?_); (simp (disch := omega) only [go_sem, z5t])) | refine zqa ?_ | (refine J _ ?_; clear J K))
 (refine z5x (fun U st => ∃ (i : _), U = l.length - i /\ st.t 1 = .rsl false 18 (l.map z5g) /\ st.t 2 = .ptr 0 0 /\ st.t 5 = .int .i64 i /\ st.H 0 = some (.box 27 (z0i u)) /\ (i <= l.length) /\ ((l.take i).all zll = true)) ?_ ?_); rotate_left; (rintro U st ⟨i, rfl, q1, q2, q5, qH0, qp0, qp1⟩); rotate_left
 ·(refine ⟨_, 0, rfl, ?_⟩); (simp (disch := omega) only [go_sem, Nat.reduceBEq, true_and, Int.natCast_zero])
  rfl
 by_cases hi : i < l.length
 ·have hg := (show (l.map z5g)[i]? = some (z5g l[i]) from by rw [List.getElem?_map, List.getElem?_eq_getElem hi]; rfl)
  have htk := List.take_succ_eq_append_getElem hi
  have hui := hin l[i] (List.getElem_mem hi)
  have hcu := z69 l[i]
  have c2 := pc_Few l[i].x hui.ft 12 (by omega) (by omega)
  rw [z0p, z0l] at c2
  have hb1 := hui.lb
  have hb2 := hui.wl
  unfold maxLen at hb1 hb2
  have hall : (l.take (i + 1)).all zll = zll l[i] := by rw [htk, List.all_append, qp1]; simp
  have hno : zll l[i] = false -> l.all zll = false := fun h => by
   rw [List.all_eq_false]
   exact ⟨l[i], List.getElem_mem hi, by rw [h]; simp⟩
  cases hf : zzo l[i].x 12 with
  | false =>
   rw [hf] at c2
   have h1 : zll l[i] = false := by unfold zll; rw [hf]; rfl
   rw [hno h1]
   repeat' (first | refine zqj ?_ | ((first | refine zqh fun K J => ?_ | refine zqs (c2) ?_); (simp (disch := omega) only [go_sem, Nat.reduceBEq, ↓reduceIte, reduceCtorEq, Nat.reduceAdd, Nat.reduceLeDiff, q1, q5, z5g, hcu, z0w])) | ((first | refine zqd _ rfl (fun hc => ?_) (fun hc => ?_) | refine zqm _ rfl (fun hc => ?_) (fun hc => ?_)) <;> (first | (cases hc; done) | ((try simp only [z0d] at hc); (try (exfalso; omega))))) | refine zqa ?_ | refine zqb ?_ | refine zqn ?_ | refine zqx ?_ | refine z92 ?_ | refine zqo ?_ | refine zqu (by (simp (disch := omega) only [go_sem]); rfl) rfl ?_ | (refine J _ ?_; clear J K))
   exact z03 rfl
  | true =>
   rw [hf] at c2
   by_cases hz : l[i].label.size <= 40
   ·by_cases hw : l[i].w.length <= 20
    ·have h1 : zll l[i] = true := by unfold zll; rw [hf, decide_eq_true hz, decide_eq_true hw]; rfl
     repeat' (first | refine zqj ?_ | ((first | refine zqh fun K J => ?_ | refine zqr fun K J => ?_ | refine zqs (c2) ?_); (simp (disch := omega) only [go_sem, Nat.reduceBEq, ↓reduceIte, reduceCtorEq, Nat.reduceAdd, Nat.reduceLeDiff, q1, q5, z5g, hcu, z0w])) | ((first | refine zqd _ rfl (fun hc => ?_) (fun hc => ?_) | refine zqm _ rfl (fun hc => ?_) (fun hc => ?_)) <;> (((try simp only [z0d] at hc); (try (exfalso; omega))))) | refine zqa ?_ | refine zqb ?_ | refine zqk ?_ | refine zqv ?_ | refine zqy ?_ | (refine J _ ?_; clear J K) | (refine zqf (fun hb => ?_) (fun hb => ?_) <;> (have hb2 := hb; try simp only [z0d] at hb2) <;> ((first | have hb3 := eq_false hb2 | have hb3 := eq_true hb2); (simp (disch := omega) only [go_sem, Nat.reduceBEq, ↓reduceIte, reduceCtorEq, Nat.reduceAdd, hb3, q1, q5, z5g, hcu, z0w]); clear hb hb3; (try (exfalso; omega)))))
     (refine Exists.intro _ (And.intro ?_ ⟨i + 1, rfl, ?_⟩)); rotate_left; (simp (disch := omega) only [go_sem, Nat.reduceBEq, q1, q2, q5, qH0, true_and, Int.natCast_add, Int.natCast_one]); rotate_left
     ·omega
     ·exact ⟨by omega, by rw [hall, h1]⟩
    ·have h1 : zll l[i] = false := by unfold zll; rw [decide_eq_false hw, Bool.and_false, Bool.and_false]
     rw [hno h1]
     repeat' (first | refine zqj ?_ | ((first | refine zqh fun K J => ?_ | refine zqs (c2) ?_); (simp (disch := omega) only [go_sem, Nat.reduceBEq, ↓reduceIte, reduceCtorEq, Nat.reduceAdd, Nat.reduceLeDiff, q1, q5, z5g, hcu, z0w])) | ((first | refine zqd _ rfl (fun hc => ?_) (fun hc => ?_) | refine zqm _ rfl (fun hc => ?_) (fun hc => ?_)) <;> (((try simp only [z0d] at hc); (try (exfalso; omega))))) | refine zqa ?_ | refine zqb ?_ | refine zqn ?_ | refine zqx ?_ | refine z92 ?_ | refine zqo ?_ | refine zqu (by (simp (disch := omega) only [go_sem]); rfl) rfl ?_ | (refine J _ ?_; clear J K) | (refine zqf (fun hb => ?_) (fun hb => ?_) <;> (have hb2 := hb; try simp only [z0d] at hb2) <;> ((first | have hb3 := eq_false hb2 | have hb3 := eq_true hb2); (simp (disch := omega) only [go_sem, Nat.reduceBEq, ↓reduceIte, reduceCtorEq, Nat.reduceAdd, hb3, q1, q5, z5g, hcu, z0w]); clear hb hb3; (try (exfalso; omega)))))
     exact z03 rfl
   ·have h1 : zll l[i] = false := by unfold zll; rw [decide_eq_false hz, Bool.false_and, Bool.and_false]
    rw [hno h1]
    repeat' (first | refine zqj ?_ | ((first | refine zqh fun K J => ?_ | refine zqs (c2) ?_); (simp (disch := omega) only [go_sem, Nat.reduceBEq, ↓reduceIte, reduceCtorEq, Nat.reduceAdd, Nat.reduceLeDiff, q1, q5, z5g, hcu, z0w])) | ((first | refine zqd _ rfl (fun hc => ?_) (fun hc => ?_) | refine zqm _ rfl (fun hc => ?_) (fun hc => ?_)) <;> (first | (cases hc; done) | ((try simp only [z0d] at hc); (try (exfalso; omega))))) | refine zqa ?_ | refine zqb ?_ | refine zqn ?_ | refine zqx ?_ | refine z92 ?_ | refine zqo ?_ | refine zqu (by (simp (disch := omega) only [go_sem]); rfl) rfl ?_ | (refine J _ ?_; clear J K) | (refine zqf (fun hb => ?_) (fun hb => ?_) <;> (have hb2 := hb; try simp only [z0d] at hb2) <;> ((first | have hb3 := eq_false hb2 | have hb3 := eq_true hb2); (simp (disch := omega) only [go_sem, Nat.reduceBEq, ↓reduceIte, reduceCtorEq, Nat.reduceAdd, hb3, q1, q5, z5g, hcu, z0w]); clear hb hb3; (try (exfalso; omega)))))
    exact z03 rfl
 ·rw [List.take_of_length_le (by omega)] at qp1
  rw [qp1, Bool.true_and]
  by_cases hl2 : l.length <= 12
  ·repeat' (first | refine zqj ?_ | ((first | refine zqh fun K J => ?_ | refine zqs (c1) ?_); (simp (disch := omega) only [go_sem, Nat.reduceBEq, ↓reduceIte, q1, q5])) | ((refine zqd _ rfl (fun hc => ?_) (fun hc => ?_)) <;> (((try simp only [z0d] at hc); (try (exfalso; omega))))) | refine zqc ?_ | refine zqn ?_ | refine zqv ?_ | refine zqz ?_ | refine zqp ?_ | refine zqu (by (simp (disch := omega) only [go_sem]); rfl) rfl ?_ | (refine J _ ?_; clear J K) | (refine zqf (fun hb => ?_) (fun hb => ?_) <;> (have hb2 := hb; try simp only [z0d] at hb2) <;> ((first | have hb3 := eq_false hb2 | have hb3 := eq_true hb2); (simp (disch := omega) only [go_sem, Nat.reduceBEq, ↓reduceIte, Nat.reduceAdd, Nat.reduceLeDiff, hb3, q2, qH0]); clear hb hb3; (try (exfalso; omega)))))
   all_goals exact z03 (by rw [decide_eq_true hl2, Bool.true_and])
  ·repeat' (first | refine zqj ?_ | ((refine zqh fun K J => ?_); (simp (disch := omega) only [go_sem, Nat.reduceBEq, ↓reduceIte, q1, q5])) | ((refine zqd _ rfl (fun hc => ?_) (fun hc => ?_)) <;> (((try simp only [z0d] at hc); (try (exfalso; omega))))) | refine zqc ?_ | refine zqn ?_ | refine zqv ?_ | refine zqz ?_ | refine zqp ?_ | refine zqu (by (simp (disch := omega) only [go_sem]); rfl) rfl ?_ | (refine J _ ?_; clear J K) | (refine zqf (fun hb => ?_) (fun hb => ?_) <;> (have hb2 := hb; try simp only [z0d] at hb2) <;> ((first | have hb3 := eq_false hb2 | have hb3 := eq_true hb2); (simp (disch := omega) only [go_sem, Nat.reduceBEq, ↓reduceIte, Nat.reduceAdd, Nat.reduceLeDiff, hb3, q2, qH0]); clear hb hb3; (try (exfalso; omega)))))
   all_goals exact z03 (by rw [decide_eq_false hl2, Bool.false_and])
def opE (u : T) (o : Up) : Int := if o.kind = 0 then z3r u o.parent o.at_ o.x else if o.kind = 1 then zc1 u o.id else if o.kind = 2 then z8q u o.id o.parent o.at_ else if o.kind = 3 then zln u o.id o.label else if o.kind = 4 \/ o.kind = 5 then z4b u o.id o.w else 1
def opT (u : T) (o : Up) : T := if o.kind = 0 then z1b o.parent (z6r o.at_.toNat o.x) u else if o.kind = 1 then z0m o.id u else if o.kind = 2 then z1b o.parent (z6r o.at_.toNat (z08 o.id u).1) (z0m o.id u) else if o.kind = 3 then z1b o.id (fun q => q.setLabel o.label) u else if o.kind = 4 then z1b o.id (fun q => q.setWords o.w) u else if o.kind = 5 then z1b o.id (fun q => q.setHead o.w) u else u
def opM (u : T) (o : Up) : List Idv := if o.kind = 0 then o.parent :: z41 o.parent u else if o.kind = 1 then z41 o.id u else if o.kind = 2 then z41 o.id u ++ o.parent :: z41 o.parent u else o.id :: z41 o.id u
theorem zwb {u : T} {o : Up} (h : opE u o = 0) : standsT (opT u o) = true := by
 unfold opE at h
 unfold opT
 by_cases k0 : o.kind = 0
 ·rw [if_pos k0] at h ⊢
  obtain ⟨_, _, m, hm, _⟩ := z8e h
  rw [hm] at h ⊢
  obtain ⟨_, _, _, _, _, _, _, _, f1, _⟩ := zfb h
  exact f1
 rw [if_neg k0] at h ⊢
 by_cases k1 : o.kind = 1
 ·rw [if_pos k1] at h ⊢; exact (zrh h).1
 rw [if_neg k1] at h ⊢
 by_cases k2 : o.kind = 2
 ·rw [if_pos k2] at h ⊢; exact (zvs h).1
 rw [if_neg k2] at h ⊢
 by_cases k3 : o.kind = 3
 ·rw [if_pos k3] at h ⊢; exact (zvq h).1
 rw [if_neg k3] at h ⊢
 by_cases k4 : o.kind = 4
 ·rw [if_pos (.inl k4)] at h
  rw [if_pos k4]; exact (zvo h).1
 by_cases k5 : o.kind = 5
 ·rw [if_pos (.inr k5)] at h
  rw [if_neg k4, if_pos k5]; exact zm2 h
 rw [if_neg (by omega)] at h
 cases h
end
end Go.Proofs.YtmnabhhdiinfaaaGreatDoor
namespace Go.Proofs.YtmnabhhdiinfaaaGreatDoor.Glue
open Go.ChangeShapes Go.WideShapes Go.ChangeAt Go.RowKit Abs Facts Tr
set_option maxRecDepth 100000
def S15 : List TypeId := [4, 3, 5, 9, 23, 70, 72, 24, 27, 25, 53, 41]
theorem zsc : zfe Tryz.prog S15 = true := by decide +kernel
theorem zjh {n : Nat} {ds : List D} (h : z4a Tryz.prog n 24 ds) : ∃ l : List Wd, ds = [z0w l] /\ l.length <= maxLen /\ ∀ w ∈ l, w.text.size <= maxLen := by
 obtain ⟨m, parts, rfl, hl, hp, rfl⟩ := z87 Tryz.underlying24 h
 obtain ⟨l, rfl, hq⟩ := z4p (f := z40) (q := fun w : Wd => w.text.size <= maxLen) (fun p hp => zlx hp) parts hp
 refine ⟨l, ?_, by simpa using hl, hq⟩
 rw [z9z, zcy, List.map_map]; rfl
theorem zx1 {n : Nat} {ds : List D} (h : z4a Tryz.prog n 53 ds) : ∃ o : Up, ds = z3q o /\ UpIn o := by
 obtain ⟨m, rfl, h⟩ := z3n Tryz.underlying53 h
 obtain ⟨d1, r1, rfl, h1, d2, r2, rfl, h2, d3, r3, rfl, h3, d4, r4, rfl, h4, d5, r5, rfl, h5, d6, r6, rfl, h6, d7, r7, rfl, h7, rfl⟩ := h
 obtain ⟨k, rfl, hk⟩ : ∃ i : Int, d1 = [.int .u8 i] /\ 0 <= i /\ i <= 255 := by
  cases m with
  | zero => cases h1
  | succ m =>
   simp only [z4a, Tryz.underlying5] at h1
   obtain ⟨i, h1, h2⟩ := h1
   refine ⟨i, h1, ?_⟩
   simp only [Lit.wf, Bool.and_eq_true, decide_eq_true_eq] at h2
   exact h2
 obtain ⟨i, rfl⟩ := zj4 h2
 obtain ⟨j, rfl⟩ := zj4 h3
 obtain ⟨a, rfl, ha1, ha2⟩ := z3m Tryz.underlying3 h4
 obtain ⟨t, rfl, ht⟩ := zhp _ h5
 obtain ⟨s, rfl, hs⟩ := zbo Tryz.underlying9 h6
 obtain ⟨l, rfl, hl1, hl2⟩ := zjh h7
 refine ⟨⟨k, i, j, a, t, s, l⟩, ?_, ⟨ht, hs, hl1, hl2, ⟨ha1, ha2⟩, hk⟩⟩
 rw [List.append_nil]; rfl
section
variable {H : Type} {enc : TypeId × Value -> H} {W : World} {base : Nat} {r : Reach} {b0 : Nat} {spare : Nat -> Bool} {held : Bool} {v : Value} {d : DataW H} {p : List MemPlace}
theorem rd_ups (hv : Value.okWide Tryz.prog W r b0 41 v) (h : DataW.Trod enc Tryz.prog W base spare held 41 v d p) : ∃ l : List Up, (l.length <= maxLen /\ ∀ q ∈ l, UpIn q) /\ rel (z77 W) (z5t l) v := by
 obtain ⟨a, n, c, rfl⟩ := okWide_slice Tryz.underlying41 hv
 obtain ⟨m, d', ht, hr⟩ := one_arg zsc (by decide) zz3 rfl h
 obtain ⟨m, parts, rfl, hl, hp, he⟩ := z87 Tryz.underlying41 ht
 obtain ⟨l, rfl, hq⟩ := z4p (f := z3q) (q := fun q : Up => UpIn q) (fun p hp => zx1 hp) parts hp
 refine ⟨l, ⟨by simpa using hl, hq⟩, ?_⟩
 have : d' = z5t l := by
  simp only [List.cons.injEq, and_true] at he
  rw [he, zz4, sizeT53, List.map_map]; rfl
 rw [this] at hr; exact hr
end
end Go.Proofs.YtmnabhhdiinfaaaGreatDoor.Glue
namespace Go.Proofs.YtmnabhhdiinfaaaGreatDoor
section
open Abs Facts Tr
attribute [local irreducible] awp
set_option maxRecDepth 100000
section
variable {x : Vn} {o : Up}
end
section
variable {H : HM} {n tb : Nat} {v : V} {o : Up}
theorem det_do (hs : standsT (treeV v) = true) (htb : tb < n) (hH : H tb = some (treeB (.ptr v.num 0))) (hu : Under n v) (hst : Stand H v) (ho : UpOK o) :
  Det 23 [.ptr tb 0, z5g o] H n (UpdOK (opE (treeV v) o) (opT (treeV v) o) (opM (treeV v) o) v H n) := by
 obtain ⟨hz, hcn, hd⟩ := z8t hs
 have hn := z13 hs
 have hcu := z69 o
 obtain ⟨H1, hH1⟩ : ∃ H1, H1 = z0e H n (some (.box 53 (z3q o))) := ⟨_, rfl⟩
 have hag : Agree n H H1 := fun j hj => by rw [hH1]; exact z01 _ (by omega)
 have hH' : H1 tb = some (treeB (.ptr v.num 0)) := by rw [hag _ htb]; exact hH
 have hu' : Under (n + 1) v := hu.le (by omega)
 have hst' : Stand H1 v := Stand.agree hag v hu hst
 have hb1 := ho.lb
 have hb2 := ho.wl
 have hb3 := ho.dp
 have hb4 := ho.cn
 have zs7 : ∀ {e : Int} {u' : T} {m : List Idv} {r : D × HM × Nat}, UpdOK e u' m v H1 (n + 1) r -> UpdOK e u' m v H n r := fun {e u' m r} h => by
  refine ⟨by have := h.le; omega, fun j hj => by rw [h.agree j (by omega), hag j hj], h.bad, fun h0 => ?_⟩
  obtain ⟨v', t, p1, p2, p3, p4, p5, p6, p7, p8, p9⟩ := h.good h0
  refine ⟨v', t, p1, by omega, p3, p4, p5, p6, p7, fun a ha => ?_, by omega⟩
  rcases p8 a ha with ⟨q1, q2, q3⟩ | ⟨q1, q2⟩
  ·exact .inl ⟨z3s hu a q2, q2, q3⟩
  ·exact .inr ⟨by omega, q2⟩
 unfold opE opT opM
 have shape : ∀ {e : Int} {u' : T} {m : List Idv} {r : D × HM × Nat}, UpdOK e u' m v H1 (n + 1) r -> (∃ t, r.1 = .tup [.ptr t 0, .int .i64 e]) \/ r.1 = .tup [.nptr, .int .i64 e] := fun {e u' m r} h => by
  by_cases h0 : e = 0
  ·obtain ⟨v', t, p1, _⟩ := h.good h0
   exact .inl ⟨t, by rw [p1, h0]⟩
  ·exact .inr (h.bad h0)
 by_cases k0 : o.kind = 0
 ·simp only [if_pos k0]
  obtain ⟨r, hac, hok⟩ := zrk hz (by omega) (by omega) hn (by omega) hH' hu' hst' o.x ho.sz (by omega) (by omega) o.parent o.at_
  refine ⟨r, ?_, zs7 hok⟩
  rw [z0p, z0l] at hac
  refine (z17 [] Tryz.func23 rfl (by decide +kernel) z0b (by decide +kernel) (by simp [Tryz.ntmps23]) ?_)
  show awp _ _ (Code.seq _ _) _ _
  subst hH1
  rw [hcu, k0] at hac
  repeat' (first | refine zqj ?_ | ((refine zqh fun K J => ?_); (simp (disch := omega) only [go_sem, Nat.reduceBEq, ↓reduceIte, reduceCtorEq, Nat.reduceAdd, Nat.reduceLeDiff, z5g, hcu, k0, z0w])) | ((refine zqm _ rfl (fun hc => ?_) (fun hc => ?_)) <;> (first | (cases hc; done) | ((try simp only [] at hc); (try (exfalso; omega))))) | refine zqa ?_ | (refine J _ ?_; clear J K))
  refine z1k (hac.mono fun r' H' n' ⟨e1, e2, e3⟩ => ?_)
  rcases shape hok with ⟨t, hd1⟩ | hd1
  all_goals
   rw [hd1] at e1
   subst e1; subst e2; subst e3
   (try (simp (disch := omega) only [go_sem, Nat.reduceBEq])); repeat' (first | refine zqn ?_ | refine zqx ?_ | refine z92 ?_ | refine zqu (by (simp (disch := omega) only [go_sem]); rfl) rfl ?_ | (refine J _ ?_; clear J K))
   rw [hd1]
   (simp (disch := omega) only [go_sem, Nat.reduceBEq])
 by_cases k1 : o.kind = 1
 ·simp only [if_neg k0, if_pos k1]
  obtain ⟨r, hac, hok⟩ := zrl hz (by omega) (by omega) hn (by omega) hH' hu' hst' o.id
  refine ⟨r, ?_, zs7 hok⟩
  refine (z17 [] Tryz.func23 rfl (by decide +kernel) z0b (by decide +kernel) (by simp [Tryz.ntmps23]) ?_)
  show awp _ _ (Code.seq _ _) _ _
  subst hH1
  rw [hcu, k1] at hac
  repeat' (first | refine zqj ?_ | ((refine zqh fun K J => ?_); (simp (disch := omega) only [go_sem, Nat.reduceBEq, ↓reduceIte, reduceCtorEq, Nat.reduceAdd, Nat.reduceLeDiff, Int.reduceEq, z5g, hcu, k1, z0w])) | ((refine zqm _ rfl (fun hc => ?_) (fun hc => ?_)) <;> (first | (cases hc; done) | ((try simp only [] at hc); (try (exfalso; omega))))) | refine zqa ?_ | (refine J _ ?_; clear J K))
  refine z1k (hac.mono fun r' H' n' ⟨e1, e2, e3⟩ => ?_)
  rcases shape hok with ⟨t, hd1⟩ | hd1
  all_goals
   rw [hd1] at e1
   subst e1; subst e2; subst e3
   (try (simp (disch := omega) only [go_sem, Nat.reduceBEq])); repeat' (first | refine zqn ?_ | refine zqx ?_ | refine z92 ?_ | refine zqu (by (simp (disch := omega) only [go_sem]); rfl) rfl ?_ | (refine J _ ?_; clear J K))
   rw [hd1]
   (simp (disch := omega) only [go_sem, Nat.reduceBEq])
 by_cases k2 : o.kind = 2
 ·simp only [if_neg k0, if_neg k1, if_pos k2]
  obtain ⟨r, hac, hok⟩ := zyc hz (by omega) (by omega) hn (by omega) hH' hu' hst' o.id o.parent o.at_
  refine ⟨r, ?_, zs7 hok⟩
  refine (z17 [] Tryz.func23 rfl (by decide +kernel) z0b (by decide +kernel) (by simp [Tryz.ntmps23]) ?_)
  show awp _ _ (Code.seq _ _) _ _
  subst hH1
  rw [hcu, k2] at hac
  repeat' (first | refine zqj ?_ | ((refine zqh fun K J => ?_); (simp (disch := omega) only [go_sem, Nat.reduceBEq, ↓reduceIte, reduceCtorEq, Nat.reduceAdd, Nat.reduceLeDiff, Int.reduceEq, z5g, hcu, k2, z0w])) | ((refine zqm _ rfl (fun hc => ?_) (fun hc => ?_)) <;> (first | (cases hc; done) | ((try simp only [] at hc); (try (exfalso; omega))))) | refine zqa ?_ | (refine J _ ?_; clear J K))
  refine z1k (hac.mono fun r' H' n' ⟨e1, e2, e3⟩ => ?_)
  rcases shape hok with ⟨t, hd1⟩ | hd1
  all_goals
   rw [hd1] at e1
   subst e1; subst e2; subst e3
   (try (simp (disch := omega) only [go_sem, Nat.reduceBEq])); repeat' (first | refine zqn ?_ | refine zqx ?_ | refine z92 ?_ | refine zqu (by (simp (disch := omega) only [go_sem]); rfl) rfl ?_ | (refine J _ ?_; clear J K))
   rw [hd1]
   (simp (disch := omega) only [go_sem, Nat.reduceBEq])
 by_cases k3 : o.kind = 3
 ·simp only [if_neg k0, if_neg k1, if_neg k2, if_pos k3]
  obtain ⟨r, hac, hok⟩ := zn2 hz (by omega) (by omega) hn (by omega) hH' hu' hst' o.id o.label (by omega)
  refine ⟨r, ?_, zs7 hok⟩
  refine (z17 [] Tryz.func23 rfl (by decide +kernel) z0b (by decide +kernel) (by simp [Tryz.ntmps23]) ?_)
  show awp _ _ (Code.seq _ _) _ _
  subst hH1
  rw [hcu, k3] at hac
  repeat' (first | refine zqj ?_ | ((refine zqh fun K J => ?_); (simp (disch := omega) only [go_sem, Nat.reduceBEq, ↓reduceIte, reduceCtorEq, Nat.reduceAdd, Nat.reduceLeDiff, Int.reduceEq, z5g, hcu, k3, z0w])) | ((refine zqm _ rfl (fun hc => ?_) (fun hc => ?_)) <;> (first | (cases hc; done) | ((try simp only [] at hc); (try (exfalso; omega))))) | refine zqa ?_ | (refine J _ ?_; clear J K))
  refine z1k (hac.mono fun r' H' n' ⟨e1, e2, e3⟩ => ?_)
  rcases shape hok with ⟨t, hd1⟩ | hd1
  all_goals
   rw [hd1] at e1
   subst e1; subst e2; subst e3
   (try (simp (disch := omega) only [go_sem, Nat.reduceBEq])); repeat' (first | refine zqn ?_ | refine zqx ?_ | refine z92 ?_ | refine zqu (by (simp (disch := omega) only [go_sem]); rfl) rfl ?_ | (refine J _ ?_; clear J K))
   rw [hd1]
   (simp (disch := omega) only [go_sem, Nat.reduceBEq])
 by_cases k4 : o.kind = 4
 ·simp only [if_neg k0, if_neg k1, if_neg k2, if_neg k3, if_pos k4, if_pos (Or.inl (b := o.kind = 5) k4)]
  obtain ⟨r, hac, hok⟩ := z97 hz (by omega) (by omega) hn (by omega) hH' hu' hst' o.id o.w (by omega) ho.wt
  refine ⟨r, ?_, zs7 hok⟩
  refine (z17 [] Tryz.func23 rfl (by decide +kernel) z0b (by decide +kernel) (by simp [Tryz.ntmps23]) ?_)
  show awp _ _ (Code.seq _ _) _ _
  subst hH1
  rw [hcu, k4] at hac
  repeat' (first | refine zqj ?_ | ((refine zqh fun K J => ?_); (simp (disch := omega) only [go_sem, Nat.reduceBEq, ↓reduceIte, reduceCtorEq, Nat.reduceAdd, Nat.reduceLeDiff, Int.reduceEq, z5g, hcu, k4, z0w])) | ((refine zqm _ rfl (fun hc => ?_) (fun hc => ?_)) <;> (first | (cases hc; done) | ((try simp only [] at hc); (try (exfalso; omega))))) | refine zqa ?_ | (refine J _ ?_; clear J K))
  refine z1k (hac.mono fun r' H' n' ⟨e1, e2, e3⟩ => ?_)
  rcases shape hok with ⟨t, hd1⟩ | hd1
  all_goals
   rw [hd1] at e1
   subst e1; subst e2; subst e3
   (try (simp (disch := omega) only [go_sem, Nat.reduceBEq])); repeat' (first | refine zqn ?_ | refine zqx ?_ | refine z92 ?_ | refine zqu (by (simp (disch := omega) only [go_sem]); rfl) rfl ?_ | (refine J _ ?_; clear J K))
   rw [hd1]
   (simp (disch := omega) only [go_sem, Nat.reduceBEq])
 by_cases k5 : o.kind = 5
 ·simp only [if_neg k0, if_neg k1, if_neg k2, if_neg k3, if_neg k4, if_pos k5, if_pos (Or.inr (a := o.kind = 4) k5)]
  obtain ⟨r, hac, hok⟩ := zgn hz (by omega) (by omega) hn (by omega) hH' hu' hst' o.id o.w (by omega) ho.wt
  refine ⟨r, ?_, zs7 hok⟩
  refine (z17 [] Tryz.func23 rfl (by decide +kernel) z0b (by decide +kernel) (by simp [Tryz.ntmps23]) ?_)
  show awp _ _ (Code.seq _ _) _ _
  subst hH1
  rw [hcu, k5] at hac
  repeat' (first | refine zqj ?_ | ((refine zqh fun K J => ?_); (simp (disch := omega) only [go_sem, Nat.reduceBEq, ↓reduceIte, reduceCtorEq, Nat.reduceAdd, Nat.reduceLeDiff, Int.reduceEq, z5g, hcu, k5, z0w])) | ((refine zqm _ rfl (fun hc => ?_) (fun hc => ?_)) <;> (first | (cases hc; done) | ((try simp only [] at hc); (try (exfalso; omega))))) | refine zqa ?_ | (refine J _ ?_; clear J K))
  refine z1k (hac.mono fun r' H' n' ⟨e1, e2, e3⟩ => ?_)
  rcases shape hok with ⟨t, hd1⟩ | hd1
  all_goals
   rw [hd1] at e1
   subst e1; subst e2; subst e3
   (try (simp (disch := omega) only [go_sem, Nat.reduceBEq])); repeat' (first | refine zqn ?_ | refine zqx ?_ | refine z92 ?_ | refine zqu (by (simp (disch := omega) only [go_sem]); rfl) rfl ?_ | (refine J _ ?_; clear J K))
   rw [hd1]
   (simp (disch := omega) only [go_sem, Nat.reduceBEq])
 ·simp only [if_neg k0, if_neg k1, if_neg k2, if_neg k3, if_neg k4, if_neg k5, if_neg (show ¬ (o.kind = 4 \/ o.kind = 5) from fun h => h.elim k4 k5)]
  refine ⟨(.tup [.nptr, .int .i64 1], H1, n + 1), ?_, ⟨by simp, hag, fun _ => rfl, fun h => by cases h⟩⟩
  refine (z17 [] Tryz.func23 rfl (by decide +kernel) z0b (by decide +kernel) (by simp [Tryz.ntmps23]) ?_)
  show awp _ _ (Code.seq _ _) _ _
  rw [hH1, hcu]
  repeat' (first | refine zqj ?_ | ((refine zqh fun K J => ?_); (simp (disch := omega) only [go_sem, Nat.reduceBEq, ↓reduceIte, reduceCtorEq, Nat.reduceAdd, z5g, hcu, k0, k1, k2, k3, k4, k5, z0w])) | ((refine zqm _ rfl (fun hc => ?_) (fun hc => ?_)) <;> (first | (cases hc; done) | ((try simp only [] at hc); (try (exfalso; omega))))) | refine zqa ?_ | refine zqk ?_ | refine zqn ?_ | refine zqv ?_ | refine zqy ?_ | refine zqu (by (simp (disch := omega) only [go_sem]); rfl) rfl ?_ | (refine J _ ?_; clear J K))
  (simp (disch := omega) only [go_sem, Nat.reduceBEq])
  rfl
end
end
section
open Abs Facts Tr
structure Inv (b : Nat -> Int) (m : Int) (H : HM) (nx : Nat) (a : List (Nat × V)) (x : List Vn) : Prop where
 len : x.length = a.length
 tr : ∀ p ∈ a, p.1 < nx /\ H p.1 = some (treeB (.ptr p.2.num 0)) /\ Stand H p.2 /\ Under nx p.2 /\ standsT (treeV p.2) = true
 fit : ∀ i (h : i < a.length), Fits b a[i].2 (x[i]'(by omega))
 ap : Apart b (a.map (·.2))
 lt : ∀ p ∈ a, ∀ n ∈ nodesV p.2, b n.num < m
theorem zw3 {b : Nat -> Int} {S S' : List V} (h : Apart b S) (hs : ∀ v ∈ S', v ∈ S) : Apart b S' :=
 ⟨fun v hv w hw => h.key v (hs v hv) w (hs w hw), fun v hv w hw => h.same v (hs v hv) w (hs w hw)⟩
theorem inv_new {u : T} {H : HM} {nx : Nat} {v : V} {t : Nat} (h1 : t < nx) (h2 : H t = some (treeB (.ptr v.num 0))) (h3 : Stand H v) (h4 : Under nx v) (h5 : treeV v = u) (hs : standsT u = true) : Inv (fun _ => 0) 1 H nx [(t, v)] [ofV u 0] := by
 have hn := z13 hs
 refine ⟨rfl, fun p hp => ?_, fun i hi => ?_, ⟨fun p hp q hq x hx y hy hid _ => ?_, fun p hp q hq x hx y hy he => ?_⟩, fun p hp n _ => by decide⟩
 ·rw [List.mem_singleton] at hp
  subst hp
  exact ⟨h1, h2, h3, h4, by rw [h5]; exact hs⟩
 ·have hi0 : i = 0 := by simp at hi; omega
  subst hi0
  refine ⟨h5, ?_, ?_, fun w _ => Int.le_refl _⟩
  ·show (ofV u 0).l = _
   unfold ofV
   rw [<- h5, z33, List.map_map]
   rfl
  ·show ((nodesV v).map fun w => w.own.id).Nodup
   rw [<- z33, h5]; exact hn
 ·simp only [List.map_cons, List.map_nil, List.mem_singleton] at hp hq
  rw [hp] at hx; rw [hq] at hy
  have hd : ((nodesV v).map fun w => w.own.id).Nodup := by rw [<- z33, h5]; exact hn
  rw [z6o hd x hx y hy hid]
 ·simp only [List.map_cons, List.map_nil, List.mem_singleton] at hp hq
  rw [hp] at hx; rw [hq] at hy
  exact zhr h3 h3 hx hy he
theorem zzm {b : Nat -> Int} {m : Int} {H H' : HM} {nx nx' : Nat} {a : List (Nat × V)} {x : List Vn} (h : Inv b m H nx a x) (ha : Agree nx H H') (hn : nx <= nx') : Inv b m H' nx' a x :=
 ⟨h.len, fun p hp => by
  obtain ⟨h1, h2, h3, h4, h5⟩ := h.tr p hp
  exact ⟨by omega, by rw [ha _ h1]; exact h2, Stand.agree ha _ h4 h3, h4.le hn, h5⟩, h.fit, h.ap, h.lt⟩
theorem zw4 {H : HM} : ∀ v : V, Stand H v -> ∀ j ∈ objsV v, (∃ cs, H j = some (.box 117 cs)) \/ ∃ n cs, H j = some (.row 75 n cs) := by
 refine zch fun v ih hs j hj => ?_
 obtain ⟨s1, s2, s3⟩ := (z1v H v).1 hs
 rw [z6x, List.mem_cons, List.mem_append] at hj
 rcases hj with rfl | hj | hj
 ·exact .inl ⟨_, s1⟩
 ·unfold zi5 at s2
  cases hr : v.row with
  | none => rw [hr] at hj; cases hj
  | some r =>
   rw [hr] at hj s2
   simp only [Option.toList_some, List.mem_singleton] at hj
   subst hj
   exact .inr ⟨_, _, s2⟩
 ·obtain ⟨k, hk, hj⟩ := List.mem_flatMap.1 hj
  exact ih k hk (s3 k hk) j hj
theorem zot {b : Nat -> Int} {m : Int} {H : HM} {nx : Nat} {a : List (Nat × V)} {x : List Vn} (h : Inv b m H nx a x) (hm : 0 <= m) {i : Nat} (hi : i < a.length) {u' : T} {made : List Idv} {o : D × HM × Nat} {v' : V} {t : Nat} (hu' : standsT u' = true)
  (hle : nx <= o.2.2) (hag : Agree nx H o.2.1) (ht : t < o.2.2) (hH : o.2.1 t = some (treeB (.ptr v'.num 0))) (hst : Stand o.2.1 v') (hun : Under o.2.2 v') (htr : treeV v' = u') (hupd : Upd nx made a[i].2 v') :
  Inv (byU b nx m) (m + 1) o.2.1 o.2.2 (a ++ [(t, v')]) (x ++ [zdp (x[i]'(by have := h.len; omega)) u' made m]) := by
 have hk := zzm h hag hle
 have hlen := h.len
 have hnum : ∀ p ∈ a, ∀ w ∈ nodesV p.2, w.num < nx := fun p hp w hw => z3s (h.tr p hp).2.2.2.1 w hw
 have hd : ((nodesV v').map fun w => w.own.id).Nodup := by rw [<- z33, htr]; exact z13 hu'
 refine ⟨by simp [hlen], fun p hp => ?_, fun k hk2 => ?_, ?_, fun p hp w hw => ?_⟩
 ·rcases List.mem_append.1 hp with hp | hp
  ·exact hk.tr p hp
  ·rw [List.mem_singleton] at hp; subst hp
   exact ⟨ht, hH, hst, hun, by rw [htr]; exact hu'⟩
 ·rw [List.length_append, List.length_singleton] at hk2
  by_cases hkl : k < a.length
  ·have e1 : (a ++ [(t, v')])[k] = a[k] := List.getElem_append_left hkl
   have e2 : (x ++ [zdp (x[i]'(by omega)) u' made m])[k]'(by simp; omega) = x[k]'(by omega) := List.getElem_append_left (by omega)
   rw [e2]
   simp only [e1]
   exact zwd (fun w hw => hnum _ (List.getElem_mem hkl) w hw) (h.fit k hkl)
  ·have hkl2 : k = a.length := by omega
   subst hkl2
   have e1 : (a ++ [(t, v')])[a.length] = (t, v') := by simp
   have e2 : (x ++ [zdp (x[i]'(by omega)) u' made m])[a.length]'(by simp; omega) = zdp (x[i]'(by omega)) u' made m := by
    rw [List.getElem_append_right (by omega)]; simp [hlen]
   rw [e2]
   simp only [e1]
   rw [<- htr]
   exact zzw hm hupd (h.fit i hi) hd
 ·refine zw3 (zwe (made := made) (v := a[i].2) (v' := v') h.ap (List.mem_map.2 ⟨_, List.getElem_mem hi, rfl⟩) (fun w hw n hn => ?_) hupd hd (fun y hy z hz e => zhr hst hst hy hz e)) fun w hw => ?_
  ·obtain ⟨p, hp, rfl⟩ := List.mem_map.1 hw
   exact ⟨hnum p hp n hn, h.lt p hp n hn⟩
  ·rw [List.map_append, List.mem_append] at hw
   rcases hw with hw | hw
   ·exact List.mem_cons_of_mem _ hw
   ·simp only [List.map_cons, List.map_nil, List.mem_singleton] at hw
    rw [hw]; exact List.mem_cons_self
 ·unfold byU
  rcases List.mem_append.1 hp with hp | hp
  ·rw [if_pos (hnum p hp w hw)]
   have := h.lt p hp w hw; omega
  ·rw [List.mem_singleton] at hp; subst hp
   split
   ·rename_i hlt
    rcases hupd w hw with ⟨_, g2, _⟩ | ⟨g1, _⟩
    ·have := h.lt _ (List.getElem_mem hi) w g2; omega
    ·omega
   ·omega
theorem zfp {b : Nat -> Int} {m : Int} {H : HM} {nx : Nat} {a : List (Nat × V)} {x : List Vn} (h : Inv b m H nx a x) {i k : Nat} (hi : i < a.length) (hk : k < a.length) : zoy a[i].2 a[k].2 = zhq (x[i]'(by have := h.len; omega)) (x[k]'(by have := h.len; omega)) :=
 zwc h.ap (List.mem_map.2 ⟨_, List.getElem_mem hi, rfl⟩) (List.mem_map.2 ⟨_, List.getElem_mem hk, rfl⟩) (h.fit i hi) (h.fit k hk)
end
section
open Abs Facts Tr
attribute [local irreducible] awp
set_option maxRecDepth 100000
namespace Tr
def zbp : T := .mk Idv.zero 0 ByteArray.empty [] [] [.mk ⟨1, 0, 1⟩ 2 ⟨#[49]⟩ [] [] [.mk ⟨1, 0, 2⟩ 3 ⟨#[49]⟩ [] [] []]]
def zl1 : List Wd := [⟨⟨#[97]⟩, Idv.zero⟩]
def zvb : T := .mk Idv.zero 0 ByteArray.empty [] [] [.mk ⟨1, 0, 1⟩ 2 ⟨#[49]⟩ [] [] [.mk ⟨1, 0, 2⟩ 3 ⟨#[49]⟩ [] zl1 []]]
def zvc : T := .mk Idv.zero 0 ByteArray.empty [] [] [.mk ⟨1, 0, 1⟩ 2 ⟨#[49]⟩ [] zl1 [.mk ⟨1, 0, 2⟩ 3 ⟨#[49]⟩ [] [] []]]
end Tr
theorem zvd : PC Tryz.prog 32 [] (z0p zbp) := by
 refine z24 3 rfl (z02 _) (z17 [] Tryz.func32 rfl (by decide +kernel) z0b (by decide +kernel) (by simp [Tryz.ntmps32]) ?_)
 show awp _ _ (Code.seq _ _) _ _
 rw [show Tryz.f32.results.toList = [.cell 0 27] from rfl]
 repeat' (first | ((refine zqh fun K J => ?_); (simp (disch := omega) only [go_sem, Nat.reduceBEq, ↓reduceIte, reduceCtorEq, Nat.reduceAdd, Nat.reduceMul, Nat.reduceLeDiff])) | refine zqn ?_ | refine zqu (by (simp (disch := omega) only [go_sem, Nat.reduceBEq, ↓reduceIte, Nat.reduceAdd, Nat.reduceLeDiff]); rfl) rfl ?_ | (refine J _ ?_; clear J K))
 refine z0v ?_ ?_
 ·rfl
 rw [z0p, z0l]
 refine Le.agg ⟨Le.refl _, Le.refl _, Le.refl _, Le.refl _, Le.refl _, Le.nil 4, Le.nil 4, Le.rslL ⟨?_, trivial⟩, trivial⟩
 rw [z0p, z0l]
 refine Le.agg ⟨Le.refl _, Le.refl _, Le.refl _, Le.refl _, Le.refl _, Le.nil 4, Le.nil 4, Le.rslL ⟨?_, trivial⟩, trivial⟩
 rw [z0p, z0l]
 exact Le.agg ⟨Le.refl _, Le.refl _, Le.refl _, Le.refl _, Le.refl _, Le.nil 4, Le.nil 4, Le.nil 8, trivial⟩
theorem AC_le {P : Program} {f : FuncId} {ds es : List D} {H : HM} {nx : Nat} {K : D -> HM -> Nat -> Prop} (h : AC P f es H nx K) (hl : LeL ds es) : AC P f ds H nx K :=
 ⟨h.1, fun s w vs h1 h2 h3 h4 => h.2 s w vs h1 h2 h3 (z7k hl h4)⟩
theorem Det.le {f : FuncId} {ds es : List D} {H : HM} {nx : Nat} {F : D × HM × Nat -> Prop} (h : Det f es H nx F) (hl : LeL ds es) : Det f ds H nx F := by
 obtain ⟨o, h1, h2⟩ := h
 exact ⟨o, AC_le h1 hl, h2⟩
theorem ex15 : z4b zbp ⟨1, 0, 2⟩ zl1 = 0 /\ z1b ⟨1, 0, 2⟩ (fun q => q.setWords zl1) zbp = zvb /\ z4b zbp ⟨1, 0, 1⟩ zl1 = 0 /\ z1b ⟨1, 0, 1⟩ (fun q => q.setWords zl1) zbp = zvc /\ standsT zbp = true /\ standsT zvb = true /\ standsT zvc = true := by decide +kernel
theorem zre : PC Tryz.prog 9 [] (.bool true) := by
 obtain ⟨x1, x2, x3, x4, s1, s2, s3⟩ := ex15
 have hz := (z8t s1).1
 have c0 := zvd
 refine z24 1 rfl rfl (z17 [] Tryz.func9 rfl (by decide +kernel) z0b (by decide +kernel) (by simp [Tryz.ntmps9]) ?_)
 show awp _ _ (Code.seq _ _) _ _
 repeat' (first | ((first | refine zqh fun K J => ?_ | refine zqs (c0) ?_); (simp (disch := omega) only [go_sem, Nat.reduceBEq])) | (refine J _ ?_; clear J K))
 refine z91 (zvj zbp hz (by decide +kernel) (by decide +kernel)) fun o hF => ?_
 obtain ⟨r, H1, n1⟩ := o
 obtain ⟨v, t, hr, -, ht, hH, hst, hun, htr, -, -⟩ := hF.good s1
 simp only at hr ht hH hst hun
 subst hr
 clear hF
 have i0 := inv_new ht hH hst hun htr s1
 have d1 : Det 33 [.ptr t 0, .agg [.int .i64 1, .int .i64 0, .int .i64 2], .rsl true 4 [.agg [.str ⟨#[97]⟩, .int .i64 0, .int .i64 0, .int .i64 0]]] H1 n1 _ := (z97 (v := v) (by rw [htr]; exact hz) (by rw [htr]; decide +kernel) (by rw [htr]; decide +kernel) (z13 (by rw [htr]; exact s1)) ht hH hun hst ⟨1, 0, 2⟩ zl1 (by decide) (by decide)).le ⟨Le.refl _, Le.refl _, Le.rsl, trivial⟩
 rw [htr, x1, x2] at d1
 (try (simp (disch := omega) only [go_sem, Nat.reduceBEq])); repeat' (first | refine zqj ?_ | ((refine zqh fun K J => ?_); (simp (disch := omega) only [go_sem, Nat.reduceBEq, ↓reduceIte, reduceCtorEq, Nat.reduceAdd, Nat.reduceMul, Nat.reduceLeDiff])) | ((refine zqd _ rfl (fun hc => ?_) (fun hc => ?_)) <;> (first | (cases hc; done) | ((try simp only [] at hc); (try (exfalso; omega))))) | refine zqb ?_ | (refine J _ ?_; clear J K))
 refine z91 (by exact d1) fun o hF => ?_
 obtain ⟨r, H2, n2⟩ := o
 obtain ⟨v1, t1, hr, -, ht1, hH1, hst1, hun1, htr1, hup1, -⟩ := hF.good rfl
 have hle1 := hF.le
 have hag1 := hF.agree
 simp only at hr ht1 hH1 hst1 hun1 hle1 hag1
 subst hr
 clear hF d1
 have i1 := zot (o := (.nptr, H2, n2)) i0 (by decide) (i := 0) (by simp) s2 hle1 hag1 ht1 hH1 hst1 hun1 htr1 hup1
 (try (simp (disch := omega) only [go_sem, Nat.reduceBEq])); repeat' (first | ((refine zqh fun K J => ?_); (simp (disch := omega) only [go_sem, Nat.reduceBEq, ↓reduceIte, reduceCtorEq, Nat.reduceAdd, Nat.reduceMul, Nat.reduceLeDiff])) | (refine J _ ?_; clear J K))
 have ht2 : t < n2 := by omega
 have hH2 := (hag1 t ht).trans hH
 have hst2 := Stand.agree hag1 v hun hst
 have hun2 := hun.le hle1
 have d2 : Det 33 [.ptr t 0, .agg [.int .i64 1, .int .i64 0, .int .i64 1], .rsl true 4 [.agg [.str ⟨#[97]⟩, .int .i64 0, .int .i64 0, .int .i64 0]]] H2 n2 _ := (z97 (v := v) (by rw [htr]; exact hz) (by rw [htr]; decide +kernel) (by rw [htr]; decide +kernel) (z13 (by rw [htr]; exact s1)) ht2 hH2 hun2 hst2 ⟨1, 0, 1⟩ zl1 (by decide) (by decide)).le ⟨Le.refl _, Le.refl _, Le.rsl, trivial⟩
 rw [htr, x3, x4] at d2
 refine z91 (by exact d2) fun o hF => ?_
 obtain ⟨r, H3, n3⟩ := o
 obtain ⟨v2, t2, hr, -, ht3, hH3, hst3, hun3, htr3, hup3, -⟩ := hF.good rfl
 have hle3 := hF.le
 have hag3 := hF.agree
 simp only at hr ht3 hH3 hst3 hun3 hle3 hag3
 subst hr
 clear hF d2
 have i2 := zot (o := (.nptr, H3, n3)) i1 (by decide) (i := 0) (by simp) s3 hle3 hag3 ht3 hH3 hst3 hun3 htr3 hup3
 obtain ⟨p1, p2, p3, p4, -⟩ := i2.tr (t, v) (by simp)
 obtain ⟨q1, q2, q3, q4, -⟩ := i2.tr (t1, v1) (by simp)
 have e1 : zoy v1 v = 3 := (zfp i2 (i := 1) (k := 0) (by simp) (by simp)).trans (show zhq (zdp (ofV zbp 0) zvb _ 1) (ofV zbp 0) = _ by decide +kernel)
 have e2 : zoy v2 v = 2 := (zfp i2 (i := 2) (k := 0) (by simp) (by simp)).trans (show zhq (zdp (ofV zbp 0) zvc _ (1 + 1)) (ofV zbp 0) = _ by decide +kernel)
 have e3 : zoy v v = 0 := (zfp i2 (i := 0) (k := 0) (by simp) (by simp)).trans (show zhq (ofV zbp 0) (ofV zbp 0) = _ by decide +kernel)
 have k1 := z7w (v := v1) (w := v) (by rw [htr1]; exact (z8t s2).1) (by rw [htr1]; decide +kernel) q1 q2 q4 q3 (by rw [htr]; exact hz) p1 p2 p4 p3
 have k2 := z7w (v := v2) (w := v) (by rw [htr3]; exact (z8t s3).1) (by rw [htr3]; decide +kernel) ht3 hH3 hun3 hst3 (by rw [htr]; exact hz) p1 p2 p4 p3
 have k3 := z7w (v := v) (w := v) (by rw [htr]; exact hz) (by rw [htr]; decide +kernel) p1 p2 p4 p3 (by rw [htr]; exact hz) p1 p2 p4 p3
 have k4 := rc_Len (v := v) (by rw [htr]; exact hz) (by rw [htr]; decide +kernel) p1 p2 p4 p3
 have k5 := zfj (v := v) (by rw [htr]; exact hz) p1 p2 p4 p3
 rw [e1] at k1
 rw [e2] at k2
 rw [e3] at k3
 rw [htr, show cntT zbp = 3 from by decide +kernel] at k4
 rw [htr] at k5
 (try (simp (disch := omega) only [go_sem, Nat.reduceBEq])); repeat' (first | ((refine zqh fun K J => ?_); (simp (disch := omega) only [go_sem, Nat.reduceBEq, ↓reduceIte])) | (refine J _ ?_; clear J K))
 repeat' (first | ((first | refine z0z (k1) ?_ | refine z0z (k2) ?_ | refine z0z (k3) ?_ | refine z0z (k4) ?_ | refine z0z (k5) ?_); (simp (disch := omega) only [go_sem, Nat.reduceBEq, ↓reduceIte])) | refine zqn ?_ | refine zqu (by (simp (disch := omega) only [go_sem, Nat.reduceBEq]); rfl) rfl ?_ | (refine J _ ?_; clear J K))
 all_goals exact z03 rfl
end
section
open Abs Facts Tr
theorem zsf {α : Type} [BEq α] [LawfulBEq α] : ∀ (l m : List α), l.Nodup -> (∀ x ∈ l, x ∈ m) -> l.length <= m.length
 | [], _, _, _ => Nat.zero_le _
 | a :: l, m, hn, hs => by
  rw [List.nodup_cons] at hn
  have ha := hs a (by simp)
  have h1 := zsf l (m.erase a) hn.2 fun x hx => (List.mem_erase_of_ne (fun (e : x = a) => hn.1 (e ▸ hx))).2 (hs x (List.mem_cons_of_mem _ hx))
  have h2 := List.length_erase_of_mem ha
  have h3 : 0 < m.length := List.length_pos_of_mem ha
  simp only [List.length_cons]; omega
theorem zx2 {n : Nat} {made L : List Idv} {v v' : V} (h : Upd n made v v') (hn : (idsT (treeV v')).Nodup) (hL : ∀ i ∈ idsT (treeV v'), i ∈ idsT (treeV v) \/ i ∈ L) : zoy v' v <= made.length + L.length := by
 have hn2 : ((nodesV v').map fun w => w.own.id).Nodup := by rw [<- z33]; exact hn
 unfold zoy
 rw [List.countP_eq_length_filter, <- List.length_append, <- List.length_map (f := fun w : V => w.own.id)]
 refine zsf _ _ (hn2.sublist (List.Sublist.map _ List.filter_sublist)) fun x hx => ?_
 obtain ⟨w, hw, rfl⟩ := List.mem_map.1 hx
 rw [List.mem_filter] at hw
 obtain ⟨hw1, hw2⟩ := hw
 simp only [Bool.not_eq_true', decide_eq_false_iff_not] at hw2
 rcases h w hw1 with ⟨_, g2, _⟩ | ⟨_, g | g⟩
 ·exact absurd (List.mem_map.2 ⟨w, g2, rfl⟩) hw2
 ·exact List.mem_append_left _ g
 ·refine List.mem_append_right _ ?_
  have : w.own.id ∈ idsT (treeV v') := by rw [z33]; exact List.mem_map.2 ⟨w, hw1, rfl⟩
  exact (hL _ this).resolve_left g
theorem zx3 {n : Nat} {v v' : V} (hu : Under n v) (hn : n <= v'.num) : 1 <= zoy v' v := by
 unfold zoy
 refine List.countP_pos_iff.2 ⟨v', by rw [z2v]; exact List.mem_cons_self, ?_⟩
 simp only [Bool.not_eq_true', decide_eq_false_iff_not]
 intro h
 obtain ⟨w, hw, e⟩ := List.mem_map.1 h
 have := z3s hu w hw
 omega
namespace Tr
theorem zsg (p : Idv) (n : Nat) (x : T) : ∀ u : T, ∀ i ∈ idsT (z1b p (z6r n x) u), i ∈ idsT u \/ i ∈ idsT x := by
 refine z5k fun u ih i hi => ?_
 rw [z5u] at hi
 split at hi
 ·unfold z6r at hi
  rw [z23, List.mem_cons] at hi
  rw [z19 u, List.mem_cons]
  rcases hi with rfl | hi
  ·exact .inl (.inl rfl)
  ·obtain ⟨k, hk, hi2⟩ := List.mem_flatMap.1 hi
   rcases List.mem_append.1 hk with hk | hk
   ·exact .inl (.inr (List.mem_flatMap.2 ⟨k, List.mem_of_mem_take hk, hi2⟩))
   ·rcases List.mem_cons.1 hk with rfl | hk
    ·exact .inr hi2
    ·exact .inl (.inr (List.mem_flatMap.2 ⟨k, List.mem_of_mem_drop hk, hi2⟩))
 ·rw [z23, List.mem_cons] at hi
  rw [z19 u, List.mem_cons]
  rcases hi with rfl | hi
  ·exact .inl (.inl rfl)
  ·obtain ⟨k, hk, hi2⟩ := List.mem_flatMap.1 hi
   obtain ⟨k0, hk0, rfl⟩ := List.mem_map.1 hk
   rcases ih k0 hk0 i hi2 with h | h
   ·exact .inl (.inr (List.mem_flatMap.2 ⟨k0, hk0, h⟩))
   ·exact .inr h
theorem zx4 {id : Idv} {u : T} (h : id ∈ idsT u) : ∀ i ∈ idsT (z08 id u).1, i ∈ idsT u := fun i hi => by
 obtain ⟨C, e, _⟩ := focus id u h
 generalize (z08 id u).1 = q at hi e
 rw [e]; exact z6u C hi
end Tr
theorem op_ids {u : T} {o : Up} (h : opE u o = 0) : ∀ i ∈ idsT (opT u o), i ∈ idsT u \/ i ∈ (if o.kind = 0 then idsT o.x else []) := by
 intro i hi
 unfold opE at h
 unfold opT at hi
 by_cases k0 : o.kind = 0
 ·rw [if_pos k0] at h hi ⊢
  exact zsg _ _ _ _ i hi
 rw [if_neg k0] at h hi ⊢
 refine .inl ?_
 by_cases k1 : o.kind = 1
 ·rw [if_pos k1] at h hi; exact zed _ _ i hi
 rw [if_neg k1] at h hi
 by_cases k2 : o.kind = 2
 ·rw [if_pos k2] at h hi
  obtain ⟨m, hm⟩ := Int.eq_ofNat_of_zero_le (zvr h)
  rw [hm] at h
  obtain ⟨g1, g2, g3, g4, g5, gw⟩ := zff h
  rcases zsg _ _ _ _ i hi with hi | hi
  ·exact zed _ _ i hi
  ·exact zx4 g2 i hi
 rw [if_neg k2] at h hi
 by_cases k3 : o.kind = 3
 ·rw [if_pos k3] at hi; rw [zi0 (f := fun q => q.setLabel o.label) (fun q => ⟨rfl, rfl⟩)] at hi; exact hi
 rw [if_neg k3] at h hi
 by_cases k4 : o.kind = 4
 ·rw [if_pos k4] at hi; rw [zi0 (f := fun q => q.setWords o.w) (fun q => ⟨rfl, rfl⟩)] at hi; exact hi
 rw [if_neg k4] at hi
 by_cases k5 : o.kind = 5
 ·rw [if_pos k5] at hi; rw [zi0 (f := fun q => q.setHead o.w) (fun q => ⟨rfl, rfl⟩)] at hi; exact hi
 rw [if_neg k5] at hi; exact hi
theorem op_made {u : T} {o : Up} (hd : depT u <= 8) : (opM u o).length <= (if o.kind = 2 then 17 else 9) := by
 unfold opM
 have a1 := ze9 o.id u
 have a2 := ze9 o.parent u
 repeat' split
 all_goals (first | omega | (simp only [List.length_cons, List.length_append]; omega))
end
section
open Abs Facts Tr
structure VerOK (H : HM) (n t : Nat) (v : V) : Prop where
 lt : t < n
 at_ : H t = some (treeB (.ptr v.num 0))
 st : Stand H v
 un : Under n v
 ok : standsT (treeV v) = true
section
variable {H H' : HM} {n n' t : Nat} {v : V}
theorem VerOK.keep (h : VerOK H n t v) (ha : Agree n H H') (hn : n <= n') : VerOK H' n' t v :=
 ⟨by have := h.lt; omega, (ha _ h.lt).trans h.at_, Stand.agree ha v h.un h.st, h.un.le hn, h.ok⟩
theorem VerOK.but (h : VerOK H n t v) {k e m : Nat} {cs : List D} (hk : H k = some (.box e cs) /\ e ≠ 117 /\ e ≠ 78 \/ H k = some (.row e m cs) /\ e ≠ 75) (ha : ∀ j, j ≠ k -> j < n -> H' j = H j) (hn : n <= n') : VerOK H' n' t v := by
 have hne : ∀ j ∈ objsV v, j ≠ k := fun j hj ej => by
  subst ej
  rcases zw4 _ h.st j hj with ⟨cs2, h2⟩ | ⟨n2, cs2, h2⟩
  ·rcases hk with ⟨hk, h3, _⟩ | ⟨hk, _⟩
   ·rw [hk] at h2; simp only [Option.some.injEq, HObj.box.injEq] at h2; exact h3 h2.1
   ·rw [hk] at h2; cases h2
  ·rcases hk with ⟨hk, _⟩ | ⟨hk, h3⟩
   ·rw [hk] at h2; cases h2
   ·rw [hk] at h2; simp only [Option.some.injEq, HObj.row.injEq] at h2; exact h3 h2.1
 have hte : t ≠ k := fun ej => by
  have h2 := h.at_
  subst ej
  rcases hk with ⟨hk, _, h3⟩ | ⟨hk, _⟩
  ·rw [hk] at h2; unfold treeB at h2; simp only [Option.some.injEq, HObj.box.injEq] at h2; exact h3 h2.1
  ·rw [hk] at h2; cases h2
 exact ⟨by have := h.lt; omega, (ha _ hte h.lt).trans h.at_, Stand.on v (fun j hj => ha j (hne j hj) (h.un j hj)) h.st, h.un.le hn, h.ok⟩
theorem ver_new {u : T} {o : D × HM × Nat} (hF : NewOK u H n o) (hst : standsT u = true) : ∃ v t, o.1 = .ptr t 0 /\ VerOK o.2.1 o.2.2 t v /\ treeV v = u := by
 obtain ⟨v, t, hr, -, ht, hH, hsv, hun, htr, -, -⟩ := hF.good hst
 exact ⟨v, t, hr, ⟨ht, hH, hsv, hun, by rw [htr]; exact hst⟩, htr⟩
theorem ver_up {o : Up} {r : D × HM × Nat} (hf : UpdOK (opE (treeV v) o) (opT (treeV v) o) (opM (treeV v) o) v H n r) (he : opE (treeV v) o = 0) :
  ∃ v2 t2, r.1 = .tup [.ptr t2 0, .int .i64 0] /\ VerOK r.2.1 r.2.2 t2 v2 /\ treeV v2 = opT (treeV v) o /\ Upd n (opM (treeV v) o) v v2 /\ n <= v2.num := by
 obtain ⟨v2, t2, hr, -, ht, hH, hst, hun, htr, hup, hnm⟩ := hf.good he
 exact ⟨v2, t2, hr, ⟨ht, hH, hst, hun, by rw [htr]; exact zwb he⟩, htr, hup, hnm⟩
theorem VerOK.sz (h : VerOK H n t v) : szB (treeV v) = true /\ cntT (treeV v) <= 1024 /\ depT (treeV v) <= 8 := z8t h.ok
theorem VerOK.unit (h : VerOK H n t v) : RC Tryz.prog 14 [.ptr t 0] H n (z0p (treeV v)) := zfj h.sz.1 h.lt h.at_ h.un h.st
theorem VerOK.len (h : VerOK H n t v) : RC Tryz.prog 15 [.ptr t 0] H n (.int .i64 (cntT (treeV v))) := rc_Len h.sz.1 (by have := h.sz; omega) h.lt h.at_ h.un h.st
theorem VerOK.new (h : VerOK H n t v) {t2 : Nat} {w : V} (h2 : VerOK H n t2 w) : RC Tryz.prog 21 [.ptr t 0, .ptr t2 0] H n (.int .i64 (zoy v w)) :=
 z7w h.sz.1 (by have := h.sz; omega) h.lt h.at_ h.un h.st h2.sz.1 h2.lt h2.at_ h2.un h2.st
theorem VerOK.up (h : VerOK H n t v) {o : Up} (ho : UpOK o) : Det 23 [.ptr t 0, z5g o] H n (UpdOK (opE (treeV v) o) (opT (treeV v) o) (opM (treeV v) o) v H n) := det_do h.ok h.lt h.at_ h.un h.st ho
end
theorem zeroUp : ∃ Z, z1m Tryz.prog 53 = some Z /\ Z.length = 18 /\ ∀ o : Up, z1l Z 0 (z3q o) = z3q o := by
 refine ⟨_, zeroT53, rfl, fun o => ?_⟩
 have h : (z3q o).length = 18 := by rw [z69]; rfl
 rw [z7q _ _ _ (by rw [h]; decide), h]
 show [] ++ z3q o ++ [] = _
 rw [List.append_nil, List.nil_append]
end
section
open Abs Facts Tr
attribute [local irreducible] awp
set_option maxRecDepth 100000
theorem zi1 (u : T) (hfit : fitB u = true) (l : List Up) (hl : l.length <= maxLen) (hin : ∀ o ∈ l, UpIn o) : PC Tryz.prog 7 [z0p u, z5t l] (.bool true) := by
 have ha := zre
 have hf := zzv u hfit l hl hin
 refine z24 1 (by simp only [pureD.pureL, z02, zg1, Bool.and_self]) rfl (z17 [] Tryz.func7 rfl (by decide +kernel) z0b (by decide +kernel) (by simp [Tryz.ntmps7]) ?_)
 show awp _ _ (Code.seq _ _) _ _
 have hcu := z0l u
 obtain ⟨Z, hZ, hZ1, hZ2⟩ := zeroUp
 by_cases hb0 : (l.all zll && (decide (l.length <= 12) && zzo u 40)) = true
 ·have hb1 := hb0
  rw [hb0] at hf
  simp only [Bool.and_eq_true, decide_eq_true_eq, List.all_eq_true] at hb1
  obtain ⟨hb1, hb2, hb3⟩ := hb1
  obtain ⟨hs, hcn, hd⟩ := few_sz (by omega) (by omega) hb3
  have c1 := zrc u hs (by omega) (by omega)
  have ho : ∀ o ∈ l, UpOK o := fun o h => few_ok (hin o h) (hb1 o h)
  by_cases hst : standsT u = true
  ·rw [hst] at c1
   repeat' (first | refine zqj ?_ | ((first | refine zqh fun K J => ?_ | refine zqs (ha) ?_ | refine zqs (hf) ?_ | refine zqs (c1) ?_); (simp (disch := omega) only [go_sem, Nat.reduceBEq, ↓reduceIte, Nat.reduceAdd, Nat.reduceLeDiff, z0p, z5t])) | ((refine zqd _ rfl (fun hc => ?_) (fun hc => ?_)) <;> (first | (cases hc; done) | ((try simp only [] at hc); (try (exfalso; omega))))) | refine zqb ?_ | (refine J _ ?_; clear J K))
   refine z91 (zvj u hs (by omega) (by omega)) fun o hF => ?_
   obtain ⟨v0, t0, hr, hv0, -⟩ := ver_new hF hst
   obtain ⟨r, H1, n1⟩ := o
   simp only at hr hv0
   subst hr
   clear hF
   repeat' (first | refine zqj ?_ | ((refine zqh fun K J => ?_); (simp (disch := omega) only [go_sem, Nat.reduceBEq])) | refine zqa ?_ | (refine J _ ?_; clear J K))
   (refine z5x (fun U st => ∃ (i : _) (v : V) (t : Nat), U = l.length - i /\ st.t 5 = .ptr t 0 /\ st.t 28 = z5t l /\ st.t 29 = .int .i64 l.length /\ st.t 30 = .int .i64 i /\ (i <= l.length) /\ (VerOK st.H st.nx t v)) ?_ ?_); rotate_left; (rintro U st ⟨i, v, t, rfl, q5, q28, q29, q30, qp0, qp1⟩); rotate_left
   ·(refine ⟨_, 0, v0, t0, rfl, ?_⟩); (simp (disch := omega) only [go_sem, Nat.reduceBEq, true_and, Int.natCast_zero, z5t])
    exact hv0
   by_cases hi : i < l.length
   ·have hg := (show (l.map z5g)[i]? = some (z5g l[i]) from by rw [List.getElem?_map, List.getElem?_eq_getElem hi]; rfl)
    have hul : (z3q l[i]).length = 18 := by rw [z69]; rfl
    have hcl := z69 l[i]
    have htk : (z3q l[i]).take 18 = z3q l[i] := List.take_of_length_le (by omega)
    have hup := ho l[i] (List.getElem_mem hi)
    repeat' (first | ((refine zqh fun K J => ?_); (simp (disch := omega) only [go_sem, Nat.reduceBEq, ↓reduceIte, reduceCtorEq, Nat.reduceAdd, Nat.reduceLeDiff, q5, q28, q29, q30, z5t, z5g, hul, htk, hZ, hZ1, hZ2])) | ((refine zqd _ rfl (fun hc => ?_) (fun hc => ?_)) <;> (((try simp only [z0d] at hc); (try (exfalso; omega))))) | refine zqa ?_ | refine zqb ?_ | (refine J _ ?_; clear J K))
    refine z91 ((VerOK.keep qp1 (fun j hj => ?_) ?_).up hup) fun o hF => ?_
    ·show z0e (z0e st.H st.nx _) st.nx _ j = st.H j
     rw [z01 _ (by omega), z01 _ (by omega)]
    ·show st.nx <= st.nx + 1
     omega
    have hag := hF.agree
    have hle : st.nx + 1 <= o.2.2 := hF.le
    have hag2 : Agree st.nx st.H o.2.1 := fun j hj => (hag j (show j < st.nx + 1 by omega)).trans (show z0e (z0e st.H st.nx _) st.nx _ j = st.H j by rw [z01 _ (by omega), z01 _ (by omega)])
    have b7 : o.2.1 st.nx = some (.box 53 (z3q l[i])) := (hag st.nx (show st.nx < st.nx + 1 by omega)).trans (show _ = some (HObj.box 53 (z3q l[i])) by (simp (disch := omega) only [go_sem]))
    have hv1 := qp1.keep hag2 (show st.nx <= o.2.2 by omega)
    by_cases he : opE (treeV v) l[i] = 0
    ·obtain ⟨v2, t2, hr, hv2, htr2, hup2, hnm⟩ := ver_up hF he
     have hup2 : Upd (st.nx + 1) (opM (treeV v) l[i]) v v2 := hup2
     have hnm : st.nx + 1 <= v2.num := hnm
     have k1 := hv2.new hv1
     have h1 := zx3 (qp1.un.le (Nat.le_succ _)) hnm
     have h2 := zx2 hup2 (z13 hv2.ok) (by rw [htr2]; exact op_ids he)
     have h3 := op_made (o := l[i]) qp1.sz.2.2
     obtain ⟨r, H2, n2⟩ := o
     simp only at hr hv2 k1 b7 hag2 hle hv1
     subst hr
     clear hF hag
     have htk5 : ((z3q l[i]).drop 8).take 8 = z0i l[i].x := by rw [hcl, z0l]; rfl
     have hk0 : (z3q l[i])[0]? = some (.int .u8 l[i].kind) := by rw [hcl]; rfl
     have c5 := zjp l[i].x hup.sz (by have := hup.cn; omega)
     have hcn5 := hup.cn
     rw [z0p] at c5
     have e0 : (if l[i].kind = 0 then idsT l[i].x else []).length = if l[i].kind = 0 then cntT l[i].x else 0 := by split <;> simp [z2m]
     rw [e0] at h2
     by_cases k0 : l[i].kind = 0
     ·simp only [if_pos k0, show ¬ l[i].kind = 2 by omega, if_false] at h2 h3
      (try (simp (disch := omega) only [go_sem, Nat.reduceBEq])); repeat' (first | refine zqj ?_ | ((refine zqh fun K J => ?_); (simp (disch := omega) only [go_sem, Nat.reduceBEq, ↓reduceIte, q5])) | ((refine zqd _ rfl (fun hc => ?_) (fun hc => ?_)) <;> (first | (cases hc; done) | ((try simp only [] at hc); (try (exfalso; omega))))) | refine zqb ?_ | (refine J _ ?_; clear J K))
      repeat' (first | refine zqj ?_ | ((first | refine zqh fun K J => ?_ | refine zqr fun K J => ?_ | refine z0z (k1) ?_ | refine zqs (c5) ?_); (simp (disch := omega) only [go_sem, Nat.reduceBEq, ↓reduceIte, reduceCtorEq, Nat.reduceAdd, Nat.reduceLeDiff, Int.reduceEq, q30, b7, hul, htk5, hk0, k0])) | ((refine zqd _ rfl (fun hc => ?_) (fun hc => ?_)) <;> (first | (cases hc; done) | ((try simp only [z0d] at hc); (try (exfalso; omega))))) | refine zqb ?_ | refine zqv ?_ | refine zqy ?_ | (refine J _ ?_; clear J K) | (refine zqf (fun hb => ?_) (fun hb => ?_) <;> (have hb2 := hb; try simp only [z0d] at hb2) <;> ((first | have hb3 := eq_false hb2 | have hb3 := eq_true hb2); (simp (disch := omega) only [go_sem, Nat.reduceBEq, ↓reduceIte, hb3]); clear hb hb3; (try (exfalso; omega)))))
      (refine Exists.intro _ (And.intro ?_ ⟨i + 1, v2, t2, rfl, ?_⟩)); rotate_left; (simp (disch := omega) only [go_sem, Nat.reduceBEq, q5, q28, q29, q30, true_and, Int.natCast_add, Int.natCast_one, z5t]); rotate_left
      ·omega
      ·exact ⟨by omega, hv2⟩
     ·by_cases k2 : l[i].kind = 2
      ·simp only [if_neg k0, if_pos k2] at h2 h3
       (try (simp (disch := omega) only [go_sem, Nat.reduceBEq])); repeat' (first | refine zqj ?_ | ((refine zqh fun K J => ?_); (simp (disch := omega) only [go_sem, Nat.reduceBEq, ↓reduceIte, q5])) | ((refine zqd _ rfl (fun hc => ?_) (fun hc => ?_)) <;> (first | (cases hc; done) | ((try simp only [] at hc); (try (exfalso; omega))))) | refine zqb ?_ | (refine J _ ?_; clear J K))
       repeat' (first | refine zqj ?_ | ((first | refine zqh fun K J => ?_ | refine zqr fun K J => ?_ | refine z0z (k1) ?_); (simp (disch := omega) only [go_sem, Nat.reduceBEq, ↓reduceIte, reduceCtorEq, Nat.reduceAdd, Int.reduceEq, q30, b7, hk0, k2])) | ((refine zqd _ rfl (fun hc => ?_) (fun hc => ?_)) <;> (first | (cases hc; done) | ((try simp only [z0d] at hc); (try (exfalso; omega))))) | refine zqb ?_ | refine zqv ?_ | refine zqy ?_ | (refine J _ ?_; clear J K) | (refine zqf (fun hb => ?_) (fun hb => ?_) <;> (have hb2 := hb; try simp only [z0d] at hb2) <;> ((first | have hb3 := eq_false hb2 | have hb3 := eq_true hb2); (simp (disch := omega) only [go_sem, Nat.reduceBEq, ↓reduceIte, hb3]); clear hb hb3; (try (exfalso; omega)))))
       (refine Exists.intro _ (And.intro ?_ ⟨i + 1, v2, t2, rfl, ?_⟩)); rotate_left; (simp (disch := omega) only [go_sem, Nat.reduceBEq, q5, q28, q29, q30, true_and, Int.natCast_add, Int.natCast_one, z5t]); rotate_left
       ·omega
       ·exact ⟨by omega, hv2⟩
      ·simp only [if_neg k0, if_neg k2] at h2 h3
       (try (simp (disch := omega) only [go_sem, Nat.reduceBEq])); repeat' (first | refine zqj ?_ | ((refine zqh fun K J => ?_); (simp (disch := omega) only [go_sem, Nat.reduceBEq, ↓reduceIte, q5])) | ((refine zqd _ rfl (fun hc => ?_) (fun hc => ?_)) <;> (first | (cases hc; done) | ((try simp only [] at hc); (try (exfalso; omega))))) | refine zqb ?_ | (refine J _ ?_; clear J K))
       repeat' (first | refine zqj ?_ | ((first | refine zqh fun K J => ?_ | refine zqr fun K J => ?_ | refine z0z (k1) ?_); (simp (disch := omega) only [go_sem, Nat.reduceBEq, ↓reduceIte, reduceCtorEq, Nat.reduceAdd, q30, b7, hk0, k0, k2])) | ((refine zqd _ rfl (fun hc => ?_) (fun hc => ?_)) <;> (first | (cases hc; done) | ((try simp only [z0d] at hc); (try (exfalso; omega))))) | refine zqb ?_ | refine zqv ?_ | refine zqy ?_ | (refine J _ ?_; clear J K) | (refine zqf (fun hb => ?_) (fun hb => ?_) <;> (have hb2 := hb; try simp only [z0d] at hb2) <;> ((first | have hb3 := eq_false hb2 | have hb3 := eq_true hb2); (simp (disch := omega) only [go_sem, Nat.reduceBEq, ↓reduceIte, hb3]); clear hb hb3; (try (exfalso; omega)))))
       (refine Exists.intro _ (And.intro ?_ ⟨i + 1, v2, t2, rfl, ?_⟩)); rotate_left; (simp (disch := omega) only [go_sem, Nat.reduceBEq, q5, q28, q29, q30, true_and, Int.natCast_add, Int.natCast_one, z5t]); rotate_left
       ·omega
       ·exact ⟨by omega, hv2⟩
    ·have hr := hF.bad he
     obtain ⟨r, H2, n2⟩ := o
     simp only at hr b7 hag2 hle hv1
     subst hr
     clear hF hag
     (try (simp (disch := omega) only [go_sem, Nat.reduceBEq])); repeat' (first | refine zqj ?_ | ((first | refine zqh fun K J => ?_ | refine zqr fun K J => ?_); (simp (disch := omega) only [go_sem, Nat.reduceBEq, ↓reduceIte, q30, he])) | ((refine zqd _ rfl (fun hc => ?_) (fun hc => ?_)) <;> (first | (cases hc; done) | ((try simp only [] at hc); (try (exfalso; omega))))) | refine zqc ?_ | refine zqv ?_ | refine zqz ?_ | (refine J _ ?_; clear J K))
     repeat' skip
     (refine Exists.intro _ (And.intro ?_ ⟨i + 1, v, t, rfl, ?_⟩)); rotate_left; (simp (disch := omega) only [go_sem, Nat.reduceBEq, q5, q28, q29, q30, true_and, Int.natCast_add, Int.natCast_one, z5t]); rotate_left
     ·omega
     ·exact ⟨by omega, hv1⟩
   ·skip
    repeat' (first | ((refine zqh fun K J => ?_); (simp (disch := omega) only [go_sem, ↓reduceIte, q29, q30])) | ((refine zqd _ rfl (fun hc => ?_) (fun hc => ?_)) <;> (((try simp only [z0d] at hc); (try (exfalso; omega))))) | refine zqc ?_ | refine zqn ?_ | refine zqv ?_ | refine zqz ?_ | refine zqp ?_ | refine zqu (by (simp (disch := omega) only [go_sem]); rfl) rfl ?_ | (refine J _ ?_; clear J K))
    exact z03 rfl
  ·rw [Bool.not_eq_true] at hst
   rw [hst] at c1
   repeat' (first | refine zqj ?_ | ((first | refine zqh fun K J => ?_ | refine zqs (ha) ?_ | refine zqs (hf) ?_ | refine zqs (c1) ?_); (simp (disch := omega) only [go_sem, Nat.reduceBEq, ↓reduceIte, Nat.reduceAdd, Nat.reduceLeDiff, z0p, z5t])) | ((refine zqd _ rfl (fun hc => ?_) (fun hc => ?_)) <;> (first | (cases hc; done) | ((try simp only [] at hc); (try (exfalso; omega))))) | refine zqg ?_ | refine zqu (by (simp (disch := omega) only [go_sem]); rfl) rfl ?_ | (refine J _ ?_; clear J K))
   exact z03 rfl
 ·rw [Bool.not_eq_true] at hb0
  rw [hb0] at hf
  repeat' (first | refine zqj ?_ | ((first | refine zqh fun K J => ?_ | refine zqs (ha) ?_ | refine zqs (hf) ?_); (simp (disch := omega) only [go_sem, Nat.reduceBEq, ↓reduceIte, Nat.reduceAdd, Nat.reduceLeDiff, z0p, z5t])) | ((refine zqd _ rfl (fun hc => ?_) (fun hc => ?_)) <;> (first | (cases hc; done) | ((try simp only [] at hc); (try (exfalso; omega))))) | refine zqg ?_ | refine zqu (by (simp (disch := omega) only [go_sem]); rfl) rfl ?_ | (refine J _ ?_; clear J K))
  exact z03 rfl
end
end Go.Proofs.YtmnabhhdiinfaaaGreatDoor
