import Derived.Test.YtmnabhhdiinfaaaGreatDoorWE
/-
 Lemmas of the claim. No condition but those that each names.
-/
set_option linter.unusedSimpArgs false
set_option linter.unusedVariables false
set_option maxRecDepth 100000
set_option maxHeartbeats 8000000
set_option linter.unusedSectionVars false
namespace Go.Proofs.YtmnabhhdiinfaaaGreatDoor
section
open Abs Facts Tr
attribute [local irreducible] awp
namespace Tr
def T.setLabel (t : T) (s : ByteArray) : T := .mk t.id t.kind s t.head t.words t.kids
def T.setWords (t : T) (l : List Wd) : T := .mk t.id t.kind t.label t.head l t.kids
def T.setHead (t : T) (l : List Wd) : T := .mk t.id t.kind t.label l t.words t.kids
def zia (u : T) (id : Idv) (name : ByteArray) : Bool := decide ((z08 id u).1.label = name) || ((z7p id u).2.2 && z3t (z08 (z7p id u).1 u).1.kids (z08 id u).1.kind name)
def zl0 (u : T) (id : Idv) (name : ByteArray) : Int :=
 if standsT u = false \/ z3v name = false then 1 else
 if (z08 id u).2 = false then 4 else
 if (z08 id u).1.kind = 0 then 9 else
 if zia u id name = true then 10 else 0
end Tr
theorem zmk (u : T) (hu : szB u = true) (cu : cntT u <= 1000000) (du : depT u <= 1000000) (x : T) (id : Idv) (name : ByteArray) : PC Tryz.prog 81 [.rptr (z0o u), .rptr (z0y id), .rptr (z0o x), .rptr (.str name)] (.bool (decide (x.label = name) || ((z7p id u).2.2 && z3t (z08 (z7p id u).1 u).1.kids x.kind name))) := by
 have hp := zc9 (z7p id u).1 u hu
 have c1 := zb1 u (z6z u hu) (by omega) id
 have c2 := z7q u (z6z u hu) (by omega) (z7p id u).1
 have c3 := zhe (z08 (z7p id u).1 u).1.kids (ze0 hp).1 x.kind name
 refine z1w 1 (by simp only [pureD.pureL, z02, pureD, Bool.and_self]; rfl) rfl (z16 [] Tryz.func81 rfl (by decide +kernel) z0b (by decide +kernel) (by simp [Tryz.ntmps81]) ?_)
 show awp _ _ (Code.seq _ _) _ _
 repeat' (first | ((first | refine zqh fun K J => ?_ | refine zqs (c1) ?_ | refine zqs (c2) ?_ | refine zqs (c3) ?_); (simp (disch := omega) only [go_sem, Nat.reduceBEq, ↓reduceIte, reduceCtorEq, Nat.reduceAdd, Nat.reduceLeDiff])) | refine zqn ?_ | refine zqu (by (simp (disch := omega) only [go_sem]); rfl) rfl ?_ | (refine J _ ?_; clear J K) | (refine zqf (fun hb => ?_) (fun hb => ?_) <;> (have hb2 := hb; try simp only [z0e] at hb2) <;> ((first | have hb3 : (_ : Bool) = _ := hb2 | have hb3 := eq_false hb2 | have hb3 := eq_true hb2); (simp (disch := omega) only [go_sem, Nat.reduceBEq, ↓reduceIte, reduceCtorEq, Nat.reduceAdd, hb, hb3, z1b]); clear hb hb3; (try (exfalso; omega)))))
 all_goals exact z03 (by simp [*])
theorem zml (ok : Bool) : PC Tryz.prog 83 [.rptr (.bool ok)] (.bool (!ok)) := by
 refine z1w 1 (by simp only [pureD.pureL, pureD, Bool.and_self]) rfl (z16 [] Tryz.func83 rfl (by decide +kernel) z0b (by decide +kernel) (by simp [Tryz.ntmps83]) ?_)
 show awp _ _ (Code.seq _ _) _ _
 repeat' (first | ((refine zqh fun K J => ?_); (simp (disch := omega) only [go_sem, Nat.reduceBEq, ↓reduceIte, Nat.reduceAdd])) | refine zqn ?_ | refine zqu (by (simp (disch := omega) only [go_sem]); rfl) rfl ?_ | (refine J _ ?_; clear J K))
 exact z03 rfl
theorem zmm (x : T) : PC Tryz.prog 84 [.rptr (z0o x)] (.bool (decide (x.kind = 0))) := by
 refine z1w 1 (by simp only [pureD.pureL, z02, pureD, Bool.and_self]) rfl (z16 [] Tryz.func84 rfl (by decide +kernel) z0b (by decide +kernel) (by simp [Tryz.ntmps84]) ?_)
 show awp _ _ (Code.seq _ _) _ _
 repeat' (first | ((refine zqh fun K J => ?_); (simp (disch := omega) only [go_sem, Nat.reduceBEq, ↓reduceIte, reduceCtorEq, Nat.reduceAdd])) | refine zqn ?_ | refine zqu (by (simp (disch := omega) only [go_sem]); rfl) rfl ?_ | (refine J _ ?_; clear J K))
 exact z03 rfl
theorem zmn (q : T) (name : ByteArray) : PC Tryz.prog 85 [z0o q, .rptr (.str name)] (z0o (q.setLabel name)) := by
 refine z1w 1 (by simp only [pureD.pureL, z02, pureD, Bool.and_self]) (z02 _) (z16 [] Tryz.func85 rfl (by decide +kernel) z0b (by decide +kernel) (by simp [Tryz.ntmps85]) ?_)
 show awp _ _ (Code.seq _ _) _ _
 rw [show Tryz.f85.results.toList = [.cell 3 27] from rfl]
 rw [show z0o q = .agg _ from by rw [z0o, z0l]]
 repeat' (first | ((refine zqh fun K J => ?_); (simp (disch := omega) only [go_sem, Nat.reduceBEq, ↓reduceIte, reduceCtorEq, Nat.reduceAdd, Nat.reduceLeDiff, Nat.reduceLT, List.set_cons_succ, List.set_cons_zero])) | refine zqn ?_ | refine zqu (by (simp (disch := omega) only [go_sem, Nat.reduceBEq, ↓reduceIte, Nat.reduceAdd, Nat.reduceLeDiff]); rfl) rfl ?_ | (refine J _ ?_; clear J K))
 rw [z0o, z0l]
 exact z0m (by simp only [pureD, pureD.pureL, z0i, z4l, Bool.and_self]) (Le.refl _)
theorem zvo (ok : Bool) (x : T) (b : Bool) (f1 f2 f3 : FuncId) (c1 c2 c3 : List D) : z6x [(f1, c1, 4, !ok), (f2, c2, 9, decide (x.kind = 0)), (f3, c3, 10, b)] = (if ok = false then 4 else if x.kind = 0 then 9 else if b = true then 10 else 0) := by
 cases ok
 ·rw [if_pos rfl]; rfl
 rw [if_neg (by simp), Bool.not_true, z3x]
 by_cases h : x.kind = 0
 ·rw [if_pos h, decide_eq_true h]; rfl
 rw [if_neg h, decide_eq_false h, z3x]
 cases b
 ·rw [if_neg (by simp)]; rfl
 ·rw [if_pos rfl]; rfl
theorem zr4 (u : T) (hu : szB u = true) (cu : cntT u <= 1000000) (du : depT u <= 1000000) (id : Idv) (name : ByteArray) (hn : name.size <= 1000000) :
  PC Tryz.prog 29 [z0o u, z0y id, .str name] (.tup [z0o (if zl0 u id name = 0 then z1y id (fun q => q.setLabel name) u else T.zero), .int .i64 (zl0 u id name)]) := by
 have c1 := z70 u hu (by omega) (by omega)
 have c2 := zb8 name (by unfold maxLen; omega)
 have c3 := z7q u (z6z u hu) (by omega) id
 have c4 := z9c [(83, [.rptr (.bool (z08 id u).2)], 4, !(z08 id u).2), (84, [.rptr (z0o (z08 id u).1)], 9, decide ((z08 id u).1.kind = 0)), (81, [.rptr (z0o u), .rptr (z0y id), .rptr (z0o (z08 id u).1), .rptr (.str name)], 10, zia u id name)]
  (by simp) (by
   intro c hc
   simp only [List.mem_cons, List.not_mem_nil, or_false] at hc
   rcases hc with rfl | rfl | rfl
   ·exact ⟨rfl, zml _⟩
   ·exact ⟨by simp only [pureD.pureL, z02, pureD, Bool.and_self], zmm _⟩
   ·exact ⟨by simp only [pureD.pureL, z02, pureD, Bool.and_self]; rfl, zmk u hu cu du _ id name⟩)
 rw [zvo] at c4
 refine z1w 3 (by simp only [pureD.pureL, z02, pureD, Bool.and_self]; rfl) (by simp only [pureD.pureL, z02, pureD, Bool.and_self]) (z16 [] Tryz.func29 rfl (by decide +kernel) z0b (by decide +kernel) (by simp [Tryz.ntmps29]) ?_)
 show awp _ _ (Code.seq _ _) _ _
 rw [show Tryz.f29.results.toList = [.cell 6 27, .tmp 7] from rfl]
 by_cases h1 : standsT u = false
 ·rw [show zl0 u id name = 1 from by unfold zl0; rw [if_pos (.inl h1)], if_neg (by decide)]
  rw [h1] at c1
  repeat' (first | refine zqj ?_ | ((first | refine zqh fun K J => ?_ | refine zqs (c1) ?_); (simp (disch := omega) only [go_sem, Nat.reduceBEq, ↓reduceIte, Nat.reduceAdd, Nat.reduceLeDiff])) | ((refine zqd _ rfl (fun hc => ?_) (fun hc => ?_)) <;> (first | (cases hc; done) | ((try simp only [] at hc); (try (exfalso; omega))))) | refine zqg ?_ | refine zqu (by (simp (disch := omega) only [go_sem, Nat.reduceBEq, ↓reduceIte, Nat.reduceAdd, Nat.reduceLeDiff]); rfl) rfl ?_ | (refine J _ ?_; clear J K))
  exact z0m rfl (Le.tup ⟨z2y, Le.refl _, trivial⟩)
 by_cases h2 : z3v name = false
 ·rw [show zl0 u id name = 1 from by unfold zl0; rw [if_pos (.inr h2)], if_neg (by decide)]
  rw [Bool.not_eq_false] at h1
  rw [h1] at c1
  rw [h2] at c2
  repeat' (first | refine zqj ?_ | ((first | refine zqh fun K J => ?_ | refine zqs (c1) ?_ | refine zqs (c2) ?_); (simp (disch := omega) only [go_sem, Nat.reduceBEq, ↓reduceIte, Nat.reduceAdd, Nat.reduceLeDiff])) | ((refine zqd _ rfl (fun hc => ?_) (fun hc => ?_)) <;> (first | (cases hc; done) | ((try simp only [] at hc); (try (exfalso; omega))))) | refine zqg ?_ | refine zqu (by (simp (disch := omega) only [go_sem, Nat.reduceBEq, ↓reduceIte, Nat.reduceAdd, Nat.reduceLeDiff]); rfl) rfl ?_ | (refine J _ ?_; clear J K))
  exact z0m rfl (Le.tup ⟨z2y, Le.refl _, trivial⟩)
 have e0 : zl0 u id name = (if (z08 id u).2 = false then 4 else if (z08 id u).1.kind = 0 then 9 else if zia u id name = true then 10 else 0) := by unfold zl0; rw [if_neg (by rw [not_or]; exact ⟨h1, h2⟩)]
 rw [<- e0] at c4
 rw [Bool.not_eq_false] at h1 h2
 rw [h1] at c1
 rw [h2] at c2
 by_cases hw : zl0 u id name = 0
 ·have hmf : (z08 id u).2 = true := by
   rw [e0] at hw
   by_cases h : (z08 id u).2 = false
   ·rw [if_pos h] at hw; cases hw
   ·simpa using h
  have hm : id ∈ idsT u := by rw [z2f, decide_eq_true_eq] at hmf; exact hmf
  have c5 := zet u hu id (fun q => q.setLabel name) (g := 85) (cap := [.rptr (.str name)]) rfl (fun q _ _ => zmn q name)
  rw [(show (atR id (fun q => q.setLabel name) u).1 = z1y id (fun q => q.setLabel name) u from by rw [ze5 _ (z2l h1) hm])] at c5
  rw [hw] at c4 ⊢
  rw [if_pos rfl]
  repeat' (first | refine zqj ?_ | ((first | refine z4u (N := 5) rfl fun K J => ?_ | refine zqs (c1) ?_ | refine zqs (c2) ?_ | refine zqs (c3) ?_); (simp (disch := omega) only [go_sem, Nat.reduceBEq, ↓reduceIte, Nat.reduceAdd, Nat.reduceLeDiff, Nat.reduceLT])) | ((refine zqd _ rfl (fun hc => ?_) (fun hc => ?_)) <;> (first | (cases hc; done) | ((try simp only [] at hc); (try (exfalso; omega))))) | refine zqb ?_ | (refine J _ ?_; clear J K))
  refine z42 fun K J => ?_
  (simp (disch := omega) only [go_sem, Nat.reduceBEq, ↓reduceIte, reduceCtorEq, Nat.reduceAdd, Nat.reduceMul, Nat.reduceLeDiff])
  refine z10 (PC.borrow c4 rfl 6 (z00 (z2g 5 rfl (z00 (z0t _ 2 rfl (z00 (z1s (e := 4) 2 ?_ zev (z07 1 rfl)) z09)) (z00 (z0t _ 2 rfl (z00 (z04 (e := 27) 1 ?_ z0f (z05 _)) z09)) (z00 (z0t _ 2 rfl (z00 (z04 (e := 27) 1 ?_ z0f (z05 _)) (z00 (z04 (e := 23) 1 ?_ z19 rfl) (z00 (z04 (e := 27) 1 ?_ z0f (z05 _)) (z00 (z1s (e := 9) 2 ?_ z7u (z07 1 rfl)) z09))))) z09)))) z09)) ?_
  all_goals try (focus ((simp (disch := omega) only [go_sem, Nat.reduceBEq, z0j]); done))
  (simp (disch := omega) only [go_sem, Nat.reduceBEq])
  refine J _ _ (znr (b := 2) (j := 5) (e := 9) (cs := [.str name]) (d := .str name) (by (simp (disch := omega) only [go_sem, Nat.reduceBEq])) (.inl rfl) rfl (by (simp (disch := omega) only [go_sem, Nat.reduceBEq]))) ?_
  clear J K
  repeat' (first | refine zqj ?_ | ((first | refine zqh fun K J => ?_ | refine zqs (c5) ?_); (simp (disch := omega) only [go_sem, Nat.reduceBEq, ↓reduceIte, Nat.reduceAdd, Nat.reduceLeDiff])) | ((refine zqd _ rfl (fun hc => ?_) (fun hc => ?_)) <;> (first | (cases hc; done) | ((try simp only [] at hc); (try (exfalso; omega))))) | refine zqb ?_ | refine zqn ?_ | refine zqu (by (simp (disch := omega) only [go_sem, Nat.reduceBEq, ↓reduceIte, Nat.reduceLeDiff]); rfl) rfl ?_ | (refine J _ ?_; clear J K))
  refine z0m ?_ (Le.refl _)
  simp only [pureD, pureD.pureL, z05, Bool.and_self]
 ·rw [if_neg hw]
  repeat' (first | refine zqj ?_ | ((first | refine zqh fun K J => ?_ | refine zqs (c1) ?_ | refine zqs (c2) ?_ | refine zqs (c3) ?_); (simp (disch := omega) only [go_sem, Nat.reduceBEq, ↓reduceIte, reduceCtorEq, Nat.reduceAdd, Nat.reduceMul, Nat.reduceLeDiff, Nat.reduceLT])) | ((refine zqd _ rfl (fun hc => ?_) (fun hc => ?_)) <;> (first | (cases hc; done) | ((try simp only [] at hc); (try (exfalso; omega))))) | refine zqb ?_ | (refine J _ ?_; clear J K))
  refine z10 (PC.borrow c4 rfl 6 (z00 (z2g 5 rfl (z00 (z0t _ 2 rfl (z00 (z1s (e := 4) 2 ?_ zev (z07 1 rfl)) z09)) (z00 (z0t _ 2 rfl (z00 (z04 (e := 27) 1 ?_ z0f (z05 _)) z09)) (z00 (z0t _ 2 rfl (z00 (z04 (e := 27) 1 ?_ z0f (z05 _)) (z00 (z04 (e := 23) 1 ?_ z19 rfl) (z00 (z04 (e := 27) 1 ?_ z0f (z05 _)) (z00 (z1s (e := 9) 2 ?_ z7u (z07 1 rfl)) z09))))) z09)))) z09)) ?_
  all_goals try (focus ((simp (disch := omega) only [go_sem, Nat.reduceBEq, z0j]); done))
  (try (simp (disch := omega) only [go_sem, Nat.reduceBEq])); repeat' (first | refine zqj ?_ | ((refine zqh fun K J => ?_); (simp (disch := omega) only [go_sem, Nat.reduceBEq, ↓reduceIte, Nat.reduceAdd, Nat.reduceLeDiff])) | ((refine zqd _ rfl (fun hc => ?_) (fun hc => ?_)) <;> (((try simp only [z0e] at hc); (try (exfalso; omega))))) | refine zqg ?_ | refine zqu (by (simp (disch := omega) only [go_sem, Nat.reduceBEq, ↓reduceIte, Nat.reduceAdd, Nat.reduceLeDiff]); rfl) rfl ?_ | (refine J _ ?_; clear J K))
  exact z0m rfl (Le.tup ⟨z2y, Le.refl _, trivial⟩)
namespace Tr
def zzu (l : List Wd) : Bool := l.any fun w => !z6r w.text
def z4g (u : T) (id : Idv) (l : List Wd) : Int :=
 if standsT u = false \/ zzu l = true then 1 else
 if (z08 id u).2 = false then 4 else
 if (z08 id u).1.kind = 0 then 9 else
 if 256 < l.length then 6 else 0
theorem zh8 {u : T} {id : Idv} {l : List Wd} (h : z4g u id l = 0) : standsT u = true /\ id ∈ idsT u /\ zzu l = false /\ ¬ (z08 id u).1.kind = 0 /\ l.length <= 256 := by
 unfold z4g at h
 split at h
 ·cases h
 rename_i h1
 split at h
 ·cases h
 rename_i h2
 split at h
 ·cases h
 rename_i h3
 split at h
 ·cases h
 rename_i h4
 rw [not_or, Bool.not_eq_false, Bool.not_eq_true] at h1
 rw [Bool.not_eq_false, z2f, decide_eq_true_eq] at h2
 exact ⟨h1.1, h2, h1.2, h3, by omega⟩
end Tr
theorem zrt (w : Wd) (hw : w.text.size <= maxLen) : PC Tryz.prog 139 [z8l w] (.bool (!z6r w.text)) := by
 have c1 := zgh true [w.text] (by unfold maxLen; simp) (by intro s hs; simp at hs; subst hs; exact hw)
 rw [show zul [w.text] = z6r w.text from by unfold zul; simp] at c1
 refine z1w 1 rfl rfl (z16 [] Tryz.func139 rfl (by decide +kernel) z0b (by decide +kernel) (by simp [Tryz.ntmps139]) ?_)
 show awp _ _ (Code.seq _ _) _ _
 repeat' (first | ((first | refine zqh fun K J => ?_ | refine zqs (c1) ?_); (simp (disch := omega) only [go_sem, Nat.reduceBEq, ↓reduceIte, reduceCtorEq, Nat.reduceAdd, Nat.reduceLeDiff])) | refine zqn ?_ | refine zqu (by (simp (disch := omega) only [go_sem]); rfl) rfl ?_ | (refine J _ ?_; clear J K))
 exact z03 rfl
theorem zru (u : T) (hu : szB u = true) (cu : cntT u <= 1000000) (du : depT u <= 1000000) (l : List Wd) (hl : l.length <= 1000000) (hw : ∀ w ∈ l, w.text.size <= maxLen) : PC Tryz.prog 141 [.rptr (z0o u), .rptr (z0u l), .rptr (.fn 139 [])] (.bool (!standsT u || zzu l)) := by
 have c1 := z70 u hu (by omega) (by omega)
 have c2 := zdg false l (by unfold maxLen; omega) (g := 139) (cap := []) (fun w => !z6r w.text) rfl (fun w h => zrt w (hw w h))
 refine z1w 1 (by simp only [pureD.pureL, z02, z0i, pureD, Bool.and_self]) rfl (z16 [] Tryz.func141 rfl (by decide +kernel) z0b (by decide +kernel) (by simp [Tryz.ntmps141]) ?_)
 show awp _ _ (Code.seq _ _) _ _
 repeat' (first | ((first | refine zqh fun K J => ?_ | refine zqs (c1) ?_ | refine zqs (c2) ?_); (simp (disch := omega) only [go_sem, Nat.reduceBEq, ↓reduceIte, Nat.reduceAdd, z0u])) | refine zqn ?_ | refine zqu (by (simp (disch := omega) only [go_sem]); rfl) rfl ?_ | (refine J _ ?_; clear J K) | (refine zqf (fun hb => ?_) (fun hb => ?_) <;> (have hb2 := hb; try simp only [z0e] at hb2) <;> ((have hb3 : (_ : Bool) = _ := hb2); (simp (disch := omega) only [go_sem, Nat.reduceBEq, ↓reduceIte, Nat.reduceAdd, hb3]); clear hb hb3; (try (exfalso; omega)))))
 all_goals exact z03 (by simp [hb2, zzu])
theorem zrv (ok : Bool) : PC Tryz.prog 143 [.rptr (.bool ok)] (.bool (!ok)) := by
 refine z1w 1 (by simp only [pureD.pureL, pureD, Bool.and_self]) rfl (z16 [] Tryz.func143 rfl (by decide +kernel) z0b (by decide +kernel) (by simp [Tryz.ntmps143]) ?_)
 show awp _ _ (Code.seq _ _) _ _
 repeat' (first | ((refine zqh fun K J => ?_); (simp (disch := omega) only [go_sem, Nat.reduceBEq, ↓reduceIte, Nat.reduceAdd])) | refine zqn ?_ | refine zqu (by (simp (disch := omega) only [go_sem]); rfl) rfl ?_ | (refine J _ ?_; clear J K))
 exact z03 rfl
theorem zrw (x : T) : PC Tryz.prog 144 [.rptr (z0o x)] (.bool (decide (x.kind = 0))) := by
 refine z1w 1 (by simp only [pureD.pureL, z02, pureD, Bool.and_self]) rfl (z16 [] Tryz.func144 rfl (by decide +kernel) z0b (by decide +kernel) (by simp [Tryz.ntmps144]) ?_)
 show awp _ _ (Code.seq _ _) _ _
 repeat' (first | ((refine zqh fun K J => ?_); (simp (disch := omega) only [go_sem, Nat.reduceBEq, ↓reduceIte, reduceCtorEq, Nat.reduceAdd])) | refine zqn ?_ | refine zqu (by (simp (disch := omega) only [go_sem]); rfl) rfl ?_ | (refine J _ ?_; clear J K))
 exact z03 rfl
theorem zrx (l : List Wd) : PC Tryz.prog 145 [.rptr (z0u l)] (.bool (decide (256 < l.length))) := by
 refine z1w 1 (by simp only [pureD.pureL, z0i, pureD, Bool.and_self]) rfl (z16 [] Tryz.func145 rfl (by decide +kernel) z0b (by decide +kernel) (by simp [Tryz.ntmps145]) ?_)
 show awp _ _ (Code.seq _ _) _ _
 repeat' (first | ((refine zqh fun K J => ?_); (simp (disch := omega) only [go_sem, Nat.reduceBEq, ↓reduceIte, Nat.reduceAdd, z0u])) | refine zqn ?_ | refine zqu (by (simp (disch := omega) only [go_sem]); rfl) rfl ?_ | (refine J _ ?_; clear J K))
 exact z03 (decide_eq_decide.2 (by omega))
theorem zl5 (u : T) (id : Idv) (l : List Wd) (f1 f2 f3 f4 : FuncId) (c1 c2 c3 c4 : List D) : z6x [(f1, c1, 1, !standsT u || zzu l), (f2, c2, 4, !(z08 id u).2), (f3, c3, 9, decide ((z08 id u).1.kind = 0)), (f4, c4, 6, decide (256 < l.length))] = z4g u id l := by
 unfold z4g
 cases h1 : standsT u
 ·rw [if_pos (.inl rfl)]; rfl
 by_cases h2 : zzu l = true
 ·rw [if_pos (.inr h2), h2]; rfl
 rw [Bool.not_eq_true] at h2
 rw [h2]
 rw [if_neg (by simp)]
 cases h3 : (z08 id u).2
 ·rw [if_pos rfl]; rfl
 rw [if_neg (by simp)]
 by_cases h4 : (z08 id u).1.kind = 0
 ·rw [if_pos h4, decide_eq_true h4]; rfl
 rw [if_neg h4, decide_eq_false h4]
 by_cases h5 : 256 < l.length
 ·rw [if_pos h5, decide_eq_true h5]; rfl
 ·rw [if_neg h5, decide_eq_false h5]; rfl
theorem zmy (u : T) (hu : szB u = true) (cu : cntT u <= 1000000) (du : depT u <= 1000000) (id : Idv) (l : List Wd) (hl : l.length <= 1000000) (hw : ∀ w ∈ l, w.text.size <= maxLen) (f : T -> T) {g : FuncId} {cp : List D} (hc : pureD.pureL cp = true)
  (hg : ∀ q : T, PC Tryz.prog g (z0o q :: cp) (z0o (f q))) :
  PC Tryz.prog 86 [z0o u, z0y id, z0u l, .fn g cp] (.tup [z0o (if z4g u id l = 0 then z1y id f u else T.zero), .int .i64 (z4g u id l)]) := by
 have c3 := z7q u (z6z u hu) (by omega) id
 have c4 := z9c [(141, [.rptr (z0o u), .rptr (z0u l), .rptr (.fn 139 [])], 1, !standsT u || zzu l), (143, [.rptr (.bool (z08 id u).2)], 4, !(z08 id u).2), (144, [.rptr (z0o (z08 id u).1)], 9, decide ((z08 id u).1.kind = 0)), (145, [.rptr (z0u l)], 6, decide (256 < l.length))]
  (by simp) (by
   intro c hc
   simp only [List.mem_cons, List.not_mem_nil, or_false] at hc
   rcases hc with rfl | rfl | rfl | rfl
   ·exact ⟨by simp only [pureD.pureL, z02, z0i, pureD, Bool.and_self], zru u hu cu du l hl hw⟩
   ·exact ⟨rfl, zrv _⟩
   ·exact ⟨by simp only [pureD.pureL, z02, pureD, Bool.and_self], zrw _⟩
   ·exact ⟨by simp only [pureD.pureL, z0i, pureD, Bool.and_self], zrx l⟩)
 rw [zl5] at c4
 refine z1w 3 (by simp only [pureD.pureL, z02, z0i, pureD, hc, Bool.and_self]; rfl) (by simp only [pureD.pureL, z02, pureD, Bool.and_self]) (z16 [] Tryz.func86 rfl (by decide +kernel) z0b (by decide +kernel) (by simp [Tryz.ntmps86]) ?_)
 show awp _ _ (Code.seq _ _) _ _
 rw [show Tryz.f86.results.toList = [.cell 8 27, .tmp 9] from rfl]
 by_cases ht : z4g u id l = 0
 ·obtain ⟨h1, hm, _, _, _⟩ := zh8 ht
  have c5 := zet u hu id f hc (fun q _ _ => hg q)
  rw [(show (atR id f u).1 = z1y id f u from by rw [ze5 _ (z2l h1) hm])] at c5
  rw [ht] at c4 ⊢
  rw [if_pos rfl]
  repeat' (first | ((first | refine zqh fun K J => ?_ | refine zqs (c3) ?_); (simp (disch := omega) only [go_sem, Nat.reduceBEq, ↓reduceIte, reduceCtorEq, Nat.reduceAdd, Nat.reduceMul, Nat.reduceLeDiff, Nat.reduceLT])) | (refine J _ ?_; clear J K))
  refine z10 (PC.borrow c4 rfl 6 (z00 (z2g 5 rfl (z00 (z0t _ 2 rfl (z00 (z04 (e := 27) 1 ?_ z0f (z05 _)) (z00 (z1s (e := 24) 2 ?_ zdu (z07 1 (z0i _))) (z00 (z1s (e := 148) 2 ?_ zk8 (z07 1 rfl)) z09)))) (z00 (z0t _ 2 rfl (z00 (z1s (e := 4) 2 ?_ zev (z07 1 rfl)) z09)) (z00 (z0t _ 2 rfl (z00 (z04 (e := 27) 1 ?_ z0f (z05 _)) z09)) (z00 (z0t _ 2 rfl (z00 (z1s (e := 24) 2 ?_ zdu (z07 1 (z0i _))) z09)) z09))))) z09)) ?_
  all_goals try (focus ((simp (disch := omega) only [go_sem, Nat.reduceBEq]); done))
  (try (simp (disch := omega) only [go_sem, Nat.reduceBEq])); repeat' (first | refine zqj ?_ | ((first | refine zqh fun K J => ?_ | refine zqs (c5) ?_); (simp (disch := omega) only [go_sem, Nat.reduceBEq, ↓reduceIte, Nat.reduceAdd, Nat.reduceLeDiff])) | ((refine zqd _ rfl (fun hc => ?_) (fun hc => ?_)) <;> (first | (cases hc; done) | ((try simp only [] at hc); (try (exfalso; omega))))) | refine zqb ?_ | refine zqn ?_ | refine zqu (by (simp (disch := omega) only [go_sem, Nat.reduceBEq, ↓reduceIte, Nat.reduceLeDiff]); rfl) rfl ?_ | (refine J _ ?_; clear J K))
  refine z0m ?_ (Le.refl _)
  simp only [pureD, pureD.pureL, z05, Bool.and_self]
 ·rw [if_neg ht]
  repeat' (first | ((first | refine zqh fun K J => ?_ | refine zqs (c3) ?_); (simp (disch := omega) only [go_sem, Nat.reduceBEq, ↓reduceIte, reduceCtorEq, Nat.reduceAdd, Nat.reduceMul, Nat.reduceLeDiff, Nat.reduceLT])) | (refine J _ ?_; clear J K))
  refine z10 (PC.borrow c4 rfl 6 (z00 (z2g 5 rfl (z00 (z0t _ 2 rfl (z00 (z04 (e := 27) 1 ?_ z0f (z05 _)) (z00 (z1s (e := 24) 2 ?_ zdu (z07 1 (z0i _))) (z00 (z1s (e := 148) 2 ?_ zk8 (z07 1 rfl)) z09)))) (z00 (z0t _ 2 rfl (z00 (z1s (e := 4) 2 ?_ zev (z07 1 rfl)) z09)) (z00 (z0t _ 2 rfl (z00 (z04 (e := 27) 1 ?_ z0f (z05 _)) z09)) (z00 (z0t _ 2 rfl (z00 (z1s (e := 24) 2 ?_ zdu (z07 1 (z0i _))) z09)) z09))))) z09)) ?_
  all_goals try (focus ((simp (disch := omega) only [go_sem, Nat.reduceBEq]); done))
  (try (simp (disch := omega) only [go_sem, Nat.reduceBEq])); repeat' (first | refine zqj ?_ | ((refine zqh fun K J => ?_); (simp (disch := omega) only [go_sem, Nat.reduceBEq, ↓reduceIte, Nat.reduceAdd, Nat.reduceLeDiff])) | ((refine zqd _ rfl (fun hc => ?_) (fun hc => ?_)) <;> (((try simp only [z0e] at hc); (try (exfalso; omega))))) | refine zqg ?_ | refine zqu (by (simp (disch := omega) only [go_sem, Nat.reduceBEq, ↓reduceIte, Nat.reduceAdd, Nat.reduceLeDiff]); rfl) rfl ?_ | (refine J _ ?_; clear J K))
  exact z0m rfl (Le.tup ⟨z2y, Le.refl _, trivial⟩)
theorem zit (q : T) (l : List Wd) (hl : l.length <= 1000000) : PC Tryz.prog 87 [z0o q, .rptr (z0u l)] (z0o (q.setWords l)) := by
 have c1 := zbm l hl
 refine z1w 5 (by simp only [pureD.pureL, z02, z0i, pureD, Bool.and_self]) (z02 _) (z16 [] Tryz.func87 rfl (by decide +kernel) z0b (by decide +kernel) (by simp [Tryz.ntmps87]) ?_)
 show awp _ _ (Code.seq _ _) _ _
 rw [show Tryz.f87.results.toList = [.cell 3 27] from rfl]
 rw [show z0o q = .agg _ from by rw [z0o, z0l]]
 repeat' (first | ((first | refine zqh fun K J => ?_ | refine zhm (c1) ?_); (simp (disch := omega) only [go_sem, Nat.reduceBEq, ↓reduceIte, reduceCtorEq, Nat.reduceAdd, Nat.reduceLeDiff, Nat.reduceLT, z0u, zmh, List.set_cons_succ, List.set_cons_zero])) | refine zqn ?_ | refine zqu (by (simp (disch := omega) only [go_sem, Nat.reduceBEq, ↓reduceIte, Nat.reduceAdd, Nat.reduceLeDiff]); rfl) rfl ?_ | (refine J _ ?_; clear J K))
 rw [z0o, z0l]
 refine z76 (z5z 4 (by simp only [pureD.pureL, pureD, Bool.and_false, Bool.false_and]) (z00 (z07 3 rfl) (z00 (z07 3 rfl) (z00 (z07 3 rfl) (z00 (z07 3 rfl) (z00 (z07 3 rfl) (z00 (z07 3 (z0i _)) (z00 (z2h (f := z4b) (l := l) 2 rfl ?_ zbb zew (fun _ => rfl) (fun _ => rfl)) (z00 (z07 3 (z4l _)) z09)))))))))
 (simp (disch := omega) only [go_sem, Nat.reduceBEq])
theorem zl6 (u : T) (hu : szB u = true) (cu : cntT u <= 1000000) (du : depT u <= 1000000) (id : Idv) (l : List Wd) (hl : l.length <= 1000000) (hw : ∀ w ∈ l, w.text.size <= maxLen) :
  PC Tryz.prog 30 [z0o u, z0y id, z0u l] (.tup [z0o (if z4g u id l = 0 then z1y id (fun q => q.setWords l) u else T.zero), .int .i64 (z4g u id l)]) := by
 have c1 := zmy u hu cu du id l hl hw (fun q => q.setWords l) (g := 87) (cp := [.rptr (z0u l)]) (by simp only [pureD.pureL, z0i, pureD, Bool.and_self]) (fun q => zit q l hl)
 refine z1w 3 (by simp only [pureD.pureL, z02, z0i, Bool.and_self]; rfl) (by simp only [pureD.pureL, z02, pureD, Bool.and_self]) (z16 [] Tryz.func30 rfl (by decide +kernel) z0b (by decide +kernel) (by simp [Tryz.ntmps30]) ?_)
 show awp _ _ (Code.seq _ _) _ _
 rw [show Tryz.f30.results.toList = [.cell 6 27, .tmp 7] from rfl]
 refine z42 fun K J => ?_
 (simp (disch := omega) only [go_sem, Nat.reduceBEq, Nat.reduceAdd])
 refine J _ _ (znr (b := 2) (j := 5) (e := 24) (cs := [z0u l]) (d := z0u l) (by (simp (disch := omega) only [go_sem, Nat.reduceBEq, Nat.reduceAdd])) (.inl rfl) (z0i _) (by (simp (disch := omega) only [go_sem, Nat.reduceBEq, Nat.reduceAdd]))) ?_
 clear J K
 repeat' (first | ((first | refine zqh fun K J => ?_ | refine zqs (c1) ?_); (simp (disch := omega) only [go_sem, Nat.reduceBEq, ↓reduceIte, Nat.reduceAdd, Nat.reduceLeDiff, z0u])) | refine zqn ?_ | refine zqu (by (simp (disch := omega) only [go_sem, Nat.reduceBEq, ↓reduceIte, Nat.reduceLeDiff]); rfl) rfl ?_ | (refine J _ ?_; clear J K))
 refine z0m ?_ (Le.refl _)
 simp only [pureD, pureD.pureL, z05, Bool.and_self]
theorem zfs (q : T) (l : List Wd) (hl : l.length <= 1000000) : PC Tryz.prog 89 [z0o q, .rptr (z0u l)] (z0o (q.setHead l)) := by
 have c1 := zbm l hl
 refine z1w 5 (by simp only [pureD.pureL, z02, z0i, pureD, Bool.and_self]) (z02 _) (z16 [] Tryz.func89 rfl (by decide +kernel) z0b (by decide +kernel) (by simp [Tryz.ntmps89]) ?_)
 show awp _ _ (Code.seq _ _) _ _
 rw [show Tryz.f89.results.toList = [.cell 3 27] from rfl]
 rw [show z0o q = .agg _ from by rw [z0o, z0l]]
 repeat' (first | ((first | refine zqh fun K J => ?_ | refine zhm (c1) ?_); (simp (disch := omega) only [go_sem, Nat.reduceBEq, ↓reduceIte, reduceCtorEq, Nat.reduceAdd, Nat.reduceLeDiff, Nat.reduceLT, z0u, zmh, List.set_cons_succ, List.set_cons_zero])) | refine zqn ?_ | refine zqu (by (simp (disch := omega) only [go_sem, Nat.reduceBEq, ↓reduceIte, Nat.reduceAdd, Nat.reduceLeDiff]); rfl) rfl ?_ | (refine J _ ?_; clear J K))
 rw [z0o, z0l]
 refine z76 (z5z 4 (by simp only [pureD.pureL, pureD, Bool.and_false, Bool.false_and]) (z00 (z07 3 rfl) (z00 (z07 3 rfl) (z00 (z07 3 rfl) (z00 (z07 3 rfl) (z00 (z07 3 rfl) (z00 (z2h (f := z4b) (l := l) 2 rfl ?_ zbb zew (fun _ => rfl) (fun _ => rfl)) (z00 (z07 3 (z0i _)) (z00 (z07 3 (z4l _)) z09)))))))))
 (simp (disch := omega) only [go_sem, Nat.reduceBEq])
theorem zh9 (u : T) (hu : szB u = true) (cu : cntT u <= 1000000) (du : depT u <= 1000000) (id : Idv) (l : List Wd) (hl : l.length <= 1000000) (hw : ∀ w ∈ l, w.text.size <= maxLen) :
  PC Tryz.prog 31 [z0o u, z0y id, z0u l] (.tup [z0o (if z4g u id l = 0 then z1y id (fun q => q.setHead l) u else T.zero), .int .i64 (z4g u id l)]) := by
 have c1 := zmy u hu cu du id l hl hw (fun q => q.setHead l) (g := 89) (cp := [.rptr (z0u l)]) (by simp only [pureD.pureL, z0i, pureD, Bool.and_self]) (fun q => zfs q l hl)
 refine z1w 3 (by simp only [pureD.pureL, z02, z0i, Bool.and_self]; rfl) (by simp only [pureD.pureL, z02, pureD, Bool.and_self]) (z16 [] Tryz.func31 rfl (by decide +kernel) z0b (by decide +kernel) (by simp [Tryz.ntmps31]) ?_)
 show awp _ _ (Code.seq _ _) _ _
 rw [show Tryz.f31.results.toList = [.cell 6 27, .tmp 7] from rfl]
 refine z42 fun K J => ?_
 (simp (disch := omega) only [go_sem, Nat.reduceBEq, Nat.reduceAdd])
 refine J _ _ (znr (b := 2) (j := 5) (e := 24) (cs := [z0u l]) (d := z0u l) (by (simp (disch := omega) only [go_sem, Nat.reduceBEq, Nat.reduceAdd])) (.inl rfl) (z0i _) (by (simp (disch := omega) only [go_sem, Nat.reduceBEq, Nat.reduceAdd]))) ?_
 clear J K
 repeat' (first | ((first | refine zqh fun K J => ?_ | refine zqs (c1) ?_); (simp (disch := omega) only [go_sem, Nat.reduceBEq, ↓reduceIte, Nat.reduceAdd, Nat.reduceLeDiff, z0u])) | refine zqn ?_ | refine zqu (by (simp (disch := omega) only [go_sem, Nat.reduceBEq, ↓reduceIte, Nat.reduceLeDiff]); rfl) rfl ?_ | (refine J _ ?_; clear J K))
 refine z0m ?_ (Le.refl _)
 simp only [pureD, pureD.pureL, z05, Bool.and_self]
namespace Tr
end Tr
end
section
open Abs Facts Tr
attribute [local irreducible] awp
set_option maxRecDepth 100000
def zzn (f : T -> T) : zpa := fun w c r H n => (z0d H c (some (nodeB (f w.own) (kdR r w.kids.length))), n)
def zzo (w : V) (c q : Nat) (ks : List V) (H : HM) : HM := z0d (z0d H q (some (rowV ks))) c (some (nodeB w.own (.osl q ks.length)))
def outK (i : Idv) (w : V) : List V := w.kids.filter fun k => !decide (k.own.id = i)
def outE (i : Idv) : zpa := fun w c r H n => (zzo w c n (outK i w) (z0d H (r.getD 0) none), n + 1)
def zbv (w : V) (c : Nat) (r : Option Nat) (H : HM) (n : Nat) : Nat × HM × Nat := match r with
 | some q => (q, H, n)
 | none => (n, z0d (z0d H n (some row0)) c (some (nodeB w.own (.osl n 0))), n + 1)
def zmu (at_ : Nat) (x : V) (w : V) : List V := w.kids.take at_ ++ x :: w.kids.drop at_
def movE (at_ : Nat) (x : V) : zpa := fun w c r H n => (zzo w c (zbv w c r H n).1 (zmu at_ x w) (zbv w c r H n).2.1, (zbv w c r H n).2.2)
def insE (at_ : Nat) (t : T) : zpa := fun w c r H n =>
 let g := z4t t (zbv w c r H n).2.1 (zbv w c r H n).2.2
 (zzo w c (zbv w c r H n).1 (zmu at_ g.1 w) g.2.1, g.2.2)
theorem zh6 {lo m n c : Nat} {H : HM} {r : Option Nat} {w : V} {Q : V -> V -> Prop} (hp : PreE lo m H n c r w) {q n2 : Nat} {ks : List V} {H2 : HM} (hq : m <= q) (hqc : q ≠ c) (hqn : q < n2) (hn : n <= n2) (hag : Agree m H H2)
  (hks : ∀ k ∈ ks, Stand H2 k /\ ∀ j ∈ objsV k, (j < lo \/ m <= j) /\ j < n2 /\ j ≠ q /\ j ≠ c) (hQ : Q w (.mk c (some q) w.own ks)) : PostE lo m H n c w Q (zzo w c q ks H2, n2) (.mk c (some q) w.own ks) := by
 have hmc := hp.mc
 have hcn := hp.cn
 unfold zzo
 have hobj : ∀ j ∈ objsV (.mk c (some q) w.own ks), j = c \/ j = q \/ ∃ k ∈ ks, j ∈ objsV k := fun j hj => by
  rw [z6g, List.mem_cons, List.mem_append] at hj
  rcases hj with e | hj | hj
  ·exact .inl e
  ·have hj : j ∈ (some q).toList := hj
   simp only [Option.toList_some, List.mem_singleton] at hj
   exact .inr (.inl hj)
  ·obtain ⟨k, hk, hj⟩ := List.mem_flatMap.1 hj
   exact .inr (.inr ⟨k, hk, hj⟩)
 refine ⟨rfl, rfl, (z1p _ _).2 ⟨?_, ?_, fun k hk => ?_⟩, fun j hj => ?_, fun j hj => ?_, hn, fun j hj => ?_, hQ⟩
 ·exact z1o _ _ _
 ·show z0d (z0d H2 q _) c _ q = _
  rw [z01 _ hqc, z1o]; rfl
 ·refine Stand.on k (fun j hj => ?_) (hks k hk).1
  have := (hks k hk).2 j hj
  show z0d (z0d H2 q _) c _ j = _
  rw [z01 _ (by omega), z01 _ (by omega)]
 ·rcases hobj j hj with e | e | ⟨k, hk, hj⟩
  ·simp only; omega
  ·simp only; omega
  ·exact ((hks k hk).2 j hj).2.1
 ·rcases hobj j hj with e | e | ⟨k, hk, hj⟩
  ·omega
  ·omega
  ·exact ((hks k hk).2 j hj).1
 ·show z0d (z0d H2 q _) c _ j = _
  rw [z01 _ (by omega), z01 _ (by omega), hag j hj]
theorem zl2 {f : T -> T} (hf : ∀ q : T, (f q).id = q.id /\ (f q).setKids q.kids = f q) {lo : Nat} {H0 : HM} {w : V} : zlr lo H0 (zzn f) (fun w w' => w'.own = f w.own /\ w'.kids = w.kids) w := fun m H n c r hp _ => by
 have hmc := hp.mc
 have hcn := hp.cn
 have hlom := hp.lom
 have hobj : ∀ j ∈ objsV (.mk c r (f w.own) w.kids), j = c \/ (m <= j /\ j < c) \/ j < lo := fun j hj => by
  rw [z6g, List.mem_cons, List.mem_append] at hj
  rcases hj with e | hj | hj
  ·exact .inl e
  ·have hj : j ∈ r.toList := hj
   cases hr : r with
   | none => rw [hr] at hj; cases hj
   | some q =>
    rw [hr] at hj
    simp only [Option.toList_some, List.mem_singleton] at hj
    have := hp.row q hr
    exact .inr (.inl ⟨by omega, by omega⟩)
  ·obtain ⟨k, hk, hj⟩ := List.mem_flatMap.1 hj
   exact .inr (.inr ((hp.kids k hk).2 j hj))
 refine ⟨.mk c r (f w.own) w.kids, rfl, (hf w.own).1, (z1p _ _).2 ⟨z1o _ _ _, ?_, fun k hk => ?_⟩, fun j hj => ?_, fun j hj => ?_, Nat.le_refl _, fun j hj => z01 _ (by omega), rfl, rfl⟩
 ·unfold zhb
  cases r with
  | none => exact hp.nor rfl
  | some q =>
   obtain ⟨h1, h2, h3⟩ := hp.row q rfl
   show z0d H c _ q = _
   rw [z01 _ (by omega), h3]; rfl
 ·refine Stand.on k (fun j hj => ?_) (hp.kids k hk).1
  have := (hp.kids k hk).2 j hj
  exact z01 _ (by omega)
 ·have := hobj j hj
  show j < n
  omega
 ·have := hobj j hj; omega
theorem zrh {i : Idv} {lo : Nat} {H0 : HM} {w : V} (hk : ∃ k ∈ w.kids, k.own.id = i) : zlr lo H0 (outE i) (fun w w' => w'.own = w.own /\ w'.kids = outK i w) w := fun m H n c r hp _ => by
 have hmc := hp.mc
 have hcn := hp.cn
 have hlom := hp.lom
 obtain ⟨q, rfl⟩ : ∃ q, r = some q := by
  cases hr : r with
  | none =>
   obtain ⟨k, hk, _⟩ := hk
   rw [hp.nor hr] at hk; cases hk
  | some q => exact ⟨q, rfl⟩
 obtain ⟨h1, h2, h3⟩ := hp.row q rfl
 refine ⟨_, zh6 hp (q := n) (ks := outK i w) (n2 := n + 1) (H2 := z0d H q none) (by omega) (by omega) (by omega) (by omega) (fun j hj => z01 _ (by omega)) (fun k hk => ?_) ⟨rfl, rfl⟩⟩
 obtain ⟨g1, g2⟩ := hp.kids k (List.mem_filter.1 hk).1
 exact ⟨Stand.on k (fun j hj => z01 _ (by have := g2 j hj; omega)) g1, fun j hj => by have := g2 j hj; omega⟩
theorem z9b {lo m n c : Nat} {H : HM} {r : Option Nat} {w : V} (hp : PreE lo m H n c r w) : let o := zbv w c r H n
  m <= o.1 /\ o.1 ≠ c /\ o.1 < o.2.2 /\ n <= o.2.2 /\ Agree m H o.2.1 /\ o.2.1 c = some (nodeB w.own (.osl o.1 w.kids.length)) /\ o.2.1 o.1 = some (rowV w.kids) /\ (∀ k ∈ w.kids, Stand o.2.1 k /\ Under lo k) := by
 have hmc := hp.mc
 have hcn := hp.cn
 have hlom := hp.lom
 cases hr : r with
 | none =>
  have hn0 := hp.nor hr
  unfold zbv
  simp only
  refine ⟨by omega, by omega, by omega, by omega, fun j hj => ?_, ?_, ?_, fun k hk => ?_⟩
  ·rw [z01 _ (by omega), z01 _ (by omega)]
  ·rw [z1o, hn0]; rfl
  ·rw [z01 _ (by omega), z1o, hn0]; rfl
  ·rw [hn0] at hk; cases hk
 | some q =>
  obtain ⟨h1, h2, h3⟩ := hp.row q hr
  have hb := hp.box
  rw [hr] at hb
  unfold zbv
  simp only
  exact ⟨by omega, by omega, by omega, Nat.le_refl _, Agree.refl _ _, hb, h3, hp.kids⟩
theorem zzp {at_ : Nat} {x : V} {lo : Nat} {H0 : HM} {w : V} (hx : Stand H0 x) (hux : Under lo x) : zlr lo H0 (movE at_ x) (fun w w' => w'.own = w.own /\ w'.kids = zmu at_ x w) w := fun m H n c r hp h0 => by
 have hmc := hp.mc
 have hcn := hp.cn
 have hlom := hp.lom
 obtain ⟨a1, a2, a3, a4, a5, a6, a7, a8⟩ := z9b hp
 unfold movE
 generalize zbv w c r H n = o at a1 a2 a3 a4 a5 a6 a7 a8 ⊢
 refine ⟨_, zh6 hp (q := o.1) (ks := zmu at_ x w) (n2 := o.2.2) (H2 := o.2.1) a1 a2 a3 a4 a5 (fun k hk => ?_) ⟨rfl, rfl⟩⟩
 have old : ∀ k, Stand o.2.1 k -> Under lo k -> Stand o.2.1 k /\ ∀ j ∈ objsV k, (j < lo \/ m <= j) /\ j < o.2.2 /\ j ≠ o.1 /\ j ≠ c := fun k h1 h2 => ⟨h1, fun j hj => by have := h2 j hj; omega⟩
 unfold zmu at hk
 rcases List.mem_append.1 hk with hk | hk
 ·exact old k (a8 k (List.mem_of_mem_take hk)).1 (a8 k (List.mem_of_mem_take hk)).2
 ·rcases List.mem_cons.1 hk with rfl | hk
  ·exact old k (Stand.on k (fun j hj => by have := hux j hj; rw [a5 j (by omega), h0 j this]) hx) hux
  ·exact old k (a8 k (List.mem_of_mem_drop hk)).1 (a8 k (List.mem_of_mem_drop hk)).2
theorem zzq {at_ : Nat} {t : T} {lo : Nat} {H0 : HM} {w : V} : zlr lo H0 (insE at_ t) (fun w w' => w'.own = w.own /\ ∃ g, treeV g = t /\ (objsV g).Nodup /\ (∀ j ∈ objsV g, lo <= j) /\ w'.kids = zmu at_ g w) w := fun m H n c r hp h0 => by
 have hmc := hp.mc
 have hcn := hp.cn
 have hlom := hp.lom
 obtain ⟨a1, a2, a3, a4, a5, a6, a7, a8⟩ := z9b hp
 unfold insE
 simp only
 generalize zbv w c r H n = o at a1 a2 a3 a4 a5 a6 a7 a8 ⊢
 have hg := z5w t o.2.1 o.2.2
 generalize z4t t o.2.1 o.2.2 = g at hg ⊢
 obtain ⟨b1, b2, b3, b4, b5, b6, b7⟩ := hg
 refine ⟨_, zh6 hp (q := o.1) (ks := zmu at_ g.1 w) (n2 := g.2.2) (H2 := g.2.1) a1 a2 (by omega) (by omega) (fun j hj => (b3 j (by omega)).trans (a5 j hj)) (fun k hk => ?_) ⟨rfl, g.1, b1, b7, fun j hj => by have := b6 j hj; omega, rfl⟩⟩
 have old : ∀ k, Stand o.2.1 k -> Under lo k -> Stand g.2.1 k /\ ∀ j ∈ objsV k, (j < lo \/ m <= j) /\ j < g.2.2 /\ j ≠ o.1 /\ j ≠ c := fun k h1 h2 => ⟨Stand.on k (fun j hj => b3 j (by have := h2 j hj; omega)) h1, fun j hj => by have := h2 j hj; omega⟩
 unfold zmu at hk
 rcases List.mem_append.1 hk with hk | hk
 ·exact old k (a8 k (List.mem_of_mem_take hk)).1 (a8 k (List.mem_of_mem_take hk)).2
 ·rcases List.mem_cons.1 hk with rfl | hk
  ·exact ⟨b4, fun j hj => by have := b5 j hj; have := b6 j hj; omega⟩
  ·exact old k (a8 k (List.mem_of_mem_drop hk)).1 (a8 k (List.mem_of_mem_drop hk)).2
end
section
open Abs Facts Tr
namespace Tr
theorem zxe {id k : Idv} : ∀ u : T, (idsT u).Nodup -> ¬ u.id = id -> k ∈ idsT u -> (∀ y, z08 id u = (y, true) -> k ∉ idsT y) -> z3q k (z0z id u) = z3q k u := by
 refine z5s fun u ih hn h0 hk hy => ?_
 by_cases hid : id ∉ idsT u
 ·rw [zht hid]
 rw [Classical.not_not] at hid
 by_cases hku : u.id = k
 ·rw [z8r hku]
  exact z8r (by rw [(zm0 id u).1]; exact hku)
 ·obtain ⟨i, hi, h1, h2, h3⟩ := z95 hku (z52.2 hk)
  have hkm := z52.1 h2
  obtain ⟨g1, g2, g3⟩ := z5v hn
  have hki := List.getElem_mem hi
  have hkeep : ¬ u.kids[i].id = id := fun e => by
   refine hy u.kids[i] ?_ hkm
   have hw : z1l id u.kids[i] = [u.kids[i]] := z4c e
   have hne : z1l id u.kids[i] ≠ [] := by rw [hw]; simp
   rw [z3l (z3y h0 hi (fun j hj h => (z5a id _).2 (g3 i j hi h (by omega) id (e ▸ z25 _))) hne) hne]
   exact z38 e
  have hyk : ∀ y, z08 id u.kids[i] = (y, true) -> k ∉ idsT y := fun y hf => hy y (by
   have hne : z1l id u.kids[i] ≠ [] := z78.1 (by rw [hf])
   rw [z3l (z3y h0 hi (fun j hj h => (z5a id _).2 (g3 i j hi h (by omega) id (z52.1 hne))) hne) hne]
   exact hf)
  have hin := ih _ hki (g2 _ hki) hkeep hkm hyk
  have hfw := zjy u.kids[i] (g2 _ hki) hkeep hkm hyk
  have hsp : u.kids = u.kids.take i ++ u.kids[i] :: u.kids.drop (i + 1) := by rw [<- List.drop_eq_getElem_cons hi, List.take_append_drop]
  have hwk : k ∈ idsT (z0z id u.kids[i]) := by
   have : (z08 k (z0z id u.kids[i])).2 = true := by rw [hfw]
   rw [z2f, decide_eq_true_eq] at this; exact this
  rw [znx hku hi h1 h2, z5e]
  have e : (u.kids.filter (z7g id)).map (z0z id) = ((u.kids.take i).filter (z7g id)).map (z0z id) ++ z0z id u.kids[i] :: ((u.kids.drop (i + 1)).filter (z7g id)).map (z0z id) := by
   conv => lhs; rw [hsp]
   rw [List.filter_append, List.filter_cons, if_pos (ze3 hkeep), List.map_append, List.map_cons]
  rw [e, zl1 hku ?_ hwk, hin]
  intro hm
  obtain ⟨y, hym, hyk⟩ := List.mem_flatMap.1 hm
  obtain ⟨y', hy', rfl⟩ := List.mem_map.1 hym
  have hmem := (List.mem_filter.1 hy').1
  obtain ⟨j, hj, rfl⟩ := List.getElem_of_mem hmem
  rw [List.length_take] at hj
  rw [List.getElem_take] at hyk
  have := h1 j (by omega) (by omega)
  rw [z5a] at this
  exact this (znn id _ k hyk)
end Tr
namespace Tr
theorem zux (C : Ctx) {x y : T} (h : y ∈ z0p x) : y ∈ z0p (z2o C x) := by
 induction C with
 | hole => exact h
 | node t l c r ih => exact z5r (t := z2o (.node t l c r) x) (k := z2o c x) (by show _ ∈ l ++ _ :: r; simp) ih
theorem zzf {u : T} {id : Idv} {name : ByteArray} (h : zl0 u id name = 0) : standsT u = true /\ z3v name = true /\ id ∈ idsT u /\ ¬ (z08 id u).1.kind = 0 /\ zia u id name = false := by
 unfold zl0 at h
 split at h
 ·cases h
 rename_i h1
 split at h
 ·cases h
 rename_i h2
 split at h
 ·cases h
 rename_i h3
 split at h
 ·cases h
 rename_i h4
 rw [not_or, Bool.not_eq_false, Bool.not_eq_false] at h1
 rw [Bool.not_eq_false, z2f, decide_eq_true_eq] at h2
 exact ⟨h1.1, h1.2, h2, h3, by simpa using h4⟩
end Tr
namespace Tr
theorem Upd.congr {lo : Nat} {m1 m2 : List Idv} {v v' : V} (h : Upd lo m1 v v') (hm : ∀ i, i ∈ m1 ↔ i ∈ m2) : Upd lo m2 v v' := fun a ha => by
 rcases h a ha with ⟨h1, h2, h3⟩ | ⟨h1, h2⟩
 ·exact .inl ⟨h1, h2, fun h => h3 ((hm _).2 h)⟩
 ·exact .inr ⟨h1, h2.imp (hm _).1 _root_.id⟩
theorem zbn {v : V} {id : Idv} (hm : id ∈ idsT (treeV v)) (i : Idv) : i ∈ za8 id v ↔ i ∈ id :: z3q id (treeV v) := by
 have hne := z52.2 hm
 have hl := zi9 id (treeV v) hne
 unfold za8 z3q
 have e : z1l id (treeV v) = (z1l id (treeV v)).dropLast ++ [(z1l id (treeV v))[(z1l id (treeV v)).length - 1]'(by have := List.length_pos_iff.2 hne; omega)] := by
  conv => lhs; rw [<- List.dropLast_concat_getLast hne]
  rw [List.getLast_eq_getElem]
 conv => lhs; rw [e]
 rw [List.map_append, List.mem_append, List.mem_cons, List.mem_reverse]
 simp only [List.map_cons, List.map_nil, List.mem_singleton, hl]
 exact or_comm
theorem z3w {n : Nat} {v : V} (hu : Under n v) : ∀ a ∈ nodesV v, a.num < n := fun a ha => z2a hu ha _ (z3j a)
theorem zmi {m n : Nat} {id : Idv} {f : T -> T} (hf : ∀ q ks, f (T.setKids q ks) = (f q).setKids ks) (hfi : ∀ q : T, (f q).id = q.id) {v v' : V} (hn : (idsT (treeV v)).Nodup) (hu : Under n v) (hnm : n <= m) (h : Chg m id (fun w w' => w'.own = f w.own /\ w'.kids = w.kids) v v') :
  treeV v' = z1y id f (treeV v) /\ Upd n (id :: z3q id (treeV v)) v v' /\ n <= v'.num := by
 have hm := h.hit
 refine ⟨zds h hn fun w _ w' _ ⟨h1, h2⟩ => ?_, Upd.congr (m1 := za8 id v) (fun a ha => ?_) fun i => zbn hm i, Nat.le_trans hnm h.root.1⟩
 ·rw [z28 w', z28 w, h1, h2, hf]
 ·rcases zb5 (New := fun _ => False) h hn (fun a ha => Nat.lt_of_lt_of_le (z3w hu a ha) hnm) (fun w _ w' _ ⟨_, h2⟩ c hc a ha => .inl ⟨c, h2 ▸ hc, ha⟩) a ha with ⟨h1, h2⟩ | ⟨h1, h2, h3⟩ | h
  ·exact .inr ⟨by omega, .inl h2⟩
  ·exact .inl ⟨z3w hu a h2, h2, h3⟩
  ·exact h.elim
theorem upd_ins {m n lo at_ : Nat} {x : T} {id : Idv} {v v' : V} (hw : z3o (treeV v) id at_ x = 0) (hn : (idsT (treeV v)).Nodup) (hu : Under n v) (hnm : n <= m) (hnl : n <= lo)
  (h : Chg m id (fun w w' => w'.own = w.own /\ ∃ g, treeV g = x /\ (objsV g).Nodup /\ (∀ j ∈ objsV g, lo <= j) /\ w'.kids = w.kids.take at_ ++ g :: w.kids.drop at_) v v') :
  treeV v' = z1y id (z8b at_ x) (treeV v) /\ Upd n (id :: z3q id (treeV v)) v v' /\ n <= v'.num := by
 have hm := h.hit
 obtain ⟨_, _, _, _, _, _, _, _, _, _, _, _, _, _, hdis, _⟩ := zu9 hw
 refine ⟨zds h hn fun w _ w' _ ⟨h1, g, hg, _, _, h2⟩ => ?_, Upd.congr (m1 := za8 id v) (fun a ha => ?_) fun i => zbn hm i, Nat.le_trans hnm h.root.1⟩
 ·rw [z28 w', z28 w, h1, h2]
  unfold z8b
  show w.own.setKids _ = w.own.setKids (List.take at_ (w.kids.map treeV) ++ x :: List.drop at_ (w.kids.map treeV))
  rw [List.map_append, List.map_cons, hg, List.map_take, List.map_drop]
 ·have hE : ∀ w ∈ nodesV v, ∀ w' : V, w.own.id = id -> (w'.own = w.own /\ ∃ g, treeV g = x /\ (objsV g).Nodup /\ (∀ j ∈ objsV g, lo <= j) /\ w'.kids = w.kids.take at_ ++ g :: w.kids.drop at_) -> ∀ c ∈ w'.kids, ∀ a ∈ nodesV c, (∃ d ∈ w.kids, a ∈ nodesV d) \/ (n <= a.num /\ a.own.id ∈ idsT x) := by
   intro w _ w' _ ⟨_, g, hg, _, hgo, h2⟩ c hc a ha
   rw [h2, List.mem_append, List.mem_cons] at hc
   rcases hc with hc | rfl | hc
   ·exact .inl ⟨c, List.mem_of_mem_take hc, ha⟩
   ·refine .inr ⟨Nat.le_trans hnl (hgo _ (zix c a ha _ (z3j a))), ?_⟩
    rw [<- hg, z3i]
    exact List.mem_map.2 ⟨a, ha, rfl⟩
   ·exact .inl ⟨c, List.mem_of_mem_drop hc, ha⟩
  rcases zb5 (New := fun a => n <= a.num /\ a.own.id ∈ idsT x) h hn (fun a ha => Nat.lt_of_lt_of_le (z3w hu a ha) hnm) hE a ha with ⟨h1, h2⟩ | ⟨h1, h2, h3⟩ | ⟨h1, h2⟩
  ·exact .inr ⟨by omega, .inl h2⟩
  ·exact .inl ⟨z3w hu a h2, h2, h3⟩
  ·exact .inr ⟨h1, .inr (hdis _ h2)⟩
theorem zff {u : T} {id : Idv} (hn : (idsT u).Nodup) (h0 : ¬ u.id = id) (hm : id ∈ idsT u) : ∃ under : Idv, (z7p id u).1 = under /\ under ∈ idsT u /\ z3q id u = under :: z3q under u /\ under ∉ idsT (z08 id u).1 /\ (∃ q ∈ z0p u, q.id = under /\ ∃ k ∈ q.kids, k.id = id) /\
  z1y under (fun q => q.setKids (q.kids.filter fun k => !decide (k.id = id))) u = z0z id u := by
 obtain ⟨C, q, l, x, r, e, hx, hq, n1, n2, hf, hp⟩ := zrg h0 hm
 subst e
 have hxm : id ∈ idsT (q.setKids (l ++ x :: r)) := by rw [z2m]; exact List.mem_cons_of_mem _ (zdy.2 (.inr (.inl (hx ▸ z25 x))))
 obtain ⟨k1, k2⟩ := z41 hn hxm
 have ns := (ze4 (z9f hn)).1 id (hx ▸ z25 x)
 have hqs : q.id ∈ idsT (q.setKids (l ++ x :: r)) := by rw [z2m]; exact List.mem_cons_self
 obtain ⟨m1, m2⟩ := z41 hn hqs
 refine ⟨q.id, by rw [hp], z7d C hqs, ?_, ?_, ⟨q.setKids (l ++ x :: r), ?_, rfl, x, by show x ∈ l ++ x :: r; simp, hx⟩, ?_⟩
 ·have e0 : z3q q.id (q.setKids (l ++ x :: r)) = [] := z8r rfl
  rw [zdl hxm C k1, zdl hqs C m1, e0, zl1 hq n2 (hx ▸ z25 x), z8r hx]
  rfl
 ·rw [hf]
  have hnd := z9f hn
  rw [z2m, List.nodup_cons, List.flatMap_append, List.flatMap_cons, List.mem_append, List.mem_append] at hnd
  exact fun h => hnd.1 (.inr (.inl h))
 ·exact zux C (z4k _)
 ·have e1 := z8e (id := q.id) (fun q => q.setKids (q.kids.filter fun k => !decide (k.id = id))) (q := q.setKids (l ++ x :: r)) rfl C m1 m2
  rw [e1, z8f hq hx n2 ns.2.2 C k1 k2]
  congr 1
  show q.setKids ((l ++ x :: r).filter _) = _
  have hkl : ∀ k ∈ l, (!decide (k.id = id)) = true := fun k hk => by
   simp only [Bool.not_eq_true', decide_eq_false_iff_not]
   exact fun e => n2 (List.mem_flatMap.2 ⟨k, hk, e ▸ z25 k⟩)
  have hkr : ∀ k ∈ r, (!decide (k.id = id)) = true := fun k hk => by
   simp only [Bool.not_eq_true', decide_eq_false_iff_not]
   exact fun e => ns.2.2 (List.mem_flatMap.2 ⟨k, hk, e ▸ z25 k⟩)
  rw [List.filter_append, List.filter_cons, if_neg (by simp [hx]), List.filter_eq_self.2 hkl, List.filter_eq_self.2 hkr]
theorem zyv {w : V} {i : Idv} : treeV (V.mk w.num w.row w.own (w.kids.filter fun k => !decide (k.own.id = i))) = (treeV w).setKids ((treeV w).kids.filter fun k => !decide (k.id = i)) := by
 rw [z28, z28 w]
 show w.own.setKids ((w.kids.filter fun k => !decide (k.own.id = i)).map treeV) = w.own.setKids ((w.kids.map treeV).filter fun k => !decide (k.id = i))
 rw [List.filter_map]
 congr 2
 refine List.filter_congr fun k _ => ?_
 simp only [Function.comp, z23]
theorem zvl {m n : Nat} {id under : Idv} {v v' : V} (hn : (idsT (treeV v)).Nodup) (hu : Under n v) (hnm : n <= m) (he : z1y under (fun q => q.setKids (q.kids.filter fun k => !decide (k.id = id))) (treeV v) = z0z id (treeV v))
  (h : Chg m under (fun w w' => w'.own = w.own /\ w'.kids = w.kids.filter fun k => !decide (k.own.id = id)) v v') :
  treeV v' = z0z id (treeV v) /\ Upd n (under :: z3q under (treeV v)) v v' /\ n <= v'.num := by
 have hm := h.hit
 refine ⟨?_, Upd.congr (m1 := za8 under v) (fun a ha => ?_) fun i => zbn hm i, Nat.le_trans hnm h.root.1⟩
 ·rw [<- he]
  refine zds h hn fun w _ w' _ ⟨h1, h2⟩ => ?_
  rw [<- zyv, z28 w', z28 (V.mk _ _ _ _), h1, h2]
  rfl
 ·rcases zb5 (New := fun _ => False) h hn (fun a ha => Nat.lt_of_lt_of_le (z3w hu a ha) hnm) (fun w _ w' _ ⟨_, h2⟩ c hc a ha => .inl ⟨c, (List.mem_filter.1 (h2 ▸ hc)).1, ha⟩) a ha with ⟨h1, h2⟩ | ⟨h1, h2, h3⟩ | h
  ·exact .inr ⟨by omega, .inl h2⟩
  ·exact .inl ⟨z3w hu a h2, h2, h3⟩
  ·exact h.elim
theorem zgz : ∀ t : T, ∀ y ∈ z0p t, ∀ z ∈ z0p y, z ∈ z0p t := by
 refine z5s fun t ih y hy z hz => ?_
 rw [z2q, List.mem_cons] at hy
 rcases hy with rfl | hy
 ·exact hz
 ·obtain ⟨k, hk, hy⟩ := List.mem_flatMap.1 hy
  exact z5r hk (ih k hk y hy z hz)
theorem zyw (t y : T) (hy : y ∈ z0p t) (i : Idv) (hi : i ∈ idsT y) : i ∈ idsT t := by
 obtain ⟨z, hz, rfl⟩ := List.mem_map.1 hi
 exact List.mem_map.2 ⟨z, zgz t y hy z hz, rfl⟩
theorem zvm {k : Idv} : ∀ u : T, ∀ y ∈ z1l k u, k ∈ idsT y := by
 refine z5s fun u ih y hy => ?_
 have hne : z1l k u ≠ [] := List.ne_nil_of_mem hy
 by_cases h0 : u.id = k
 ·rw [z4c h0, List.mem_singleton] at hy
  subst hy
  rw [<- h0]; exact z25 _
 ·obtain ⟨i, hi, h1, h2, h3⟩ := z95 h0 hne
  rw [h3, List.mem_cons] at hy
  rcases hy with rfl | hy
  ·exact z52.1 hne
  ·exact ih _ (List.getElem_mem hi) y hy
theorem zvn {u : T} {id k : Idv} (hn : (idsT u).Nodup) (hk : k ∈ idsT u) (hid : id ∈ idsT u) (hx : k ∉ idsT (z08 id u).1) : ∀ i ∈ k :: z3q k u, i ∉ idsT (z08 id u).1 := by
 intro i hi hm
 have hf2 : (z08 id u).2 = true := by rw [z2f, decide_eq_true hid]
 have hiu : i ∈ idsT u := zno i hm hf2
 -- k is below i
 obtain ⟨y, hy, e⟩ : ∃ y ∈ z1l k u, y.id = i := by
  have hne := z52.2 hk
  rcases List.mem_cons.1 hi with rfl | hi
  ·exact ⟨_, List.getElem_mem _, zi9 i u hne⟩
  ·unfold z3q at hi
   rw [List.mem_reverse] at hi
   obtain ⟨y, hy, e⟩ := List.mem_map.1 hi
   exact ⟨y, (List.dropLast_sublist _).subset hy, e⟩
 have hyk := zvm u y hy
 -- y is the node of i, that lies below x
 obtain ⟨z, hz, ez⟩ := List.mem_map.1 hm
 have hyu := zca k u y hy
 have hzu : z ∈ z0p u := zgz u _ (zfd hf2) z hz
 have hyz : y = z := z6a (f := T.id) hn y hyu z hzu (e.trans ez.symm)
 subst hyz
 exact hx (zyw _ y hz k hyk)
theorem zmj : ∀ v : V, ∀ x ∈ nodesV v, ∀ a ∈ nodesV x, a ∈ nodesV v := by
 refine zbz fun v ih x hx a ha => ?_
 rw [z34, List.mem_cons] at hx
 rcases hx with rfl | hx
 ·exact ha
 ·obtain ⟨k, hk, hx⟩ := List.mem_flatMap.1 hx
  exact z22 hk (ih k hk x hx a ha)
theorem upd_mov {m n m2 n2 at_ : Nat} {id under parent : Idv} {v r v' x : V} (h1 : standsT (treeV v) = true) (h0 : ¬ (treeV v).id = id) (hid : id ∈ idsT (treeV v)) (hp : parent ∈ idsT (treeV v)) (hpx : parent ∉ idsT (z08 id (treeV v)).1)
  (hun : z3q id (treeV v) = under :: z3q under (treeV v)) (hum : under ∈ idsT (treeV v)) (hux : under ∉ idsT (z08 id (treeV v)).1)
  (hx : treeV x = (z08 id (treeV v)).1) (hxv : x ∈ nodesV v) (hu : Under n v) (hnm : n <= m) (ho : treeV r = z0z id (treeV v) /\ Upd n (under :: z3q under (treeV v)) v r /\ n <= r.num) (hnr : (idsT (treeV r)).Nodup)
  (hur : Under n2 r) (hn2 : n <= n2) (hnm2 : n2 <= m2) (h : Chg m2 parent (fun w w' => w'.own = w.own /\ w'.kids = w.kids.take at_ ++ x :: w.kids.drop at_) r v') :
  treeV v' = z1y parent (z8b at_ (z08 id (treeV v)).1) (z0z id (treeV v)) /\ Upd n (z3q id (treeV v) ++ parent :: z3q parent (treeV v)) v v' /\ n <= v'.num := by
 have hn := z2l h1
 obtain ⟨o1, o2, o3⟩ := ho
 have hm := h.hit
 have hanc : z3q parent (treeV r) = z3q parent (treeV v) := by
  rw [o1]
  exact zxe (treeV v) hn h0 hp fun y hy => by rw [hy] at hpx; exact hpx
 refine ⟨?_, fun a ha => ?_, Nat.le_trans (Nat.le_trans hn2 hnm2) h.root.1⟩
 ·rw [<- o1]
  refine zds h hnr fun w _ w' _ ⟨g1, g2⟩ => ?_
  rw [z28 w', z28 w, g1, g2]
  unfold z8b
  show w.own.setKids _ = w.own.setKids (List.take at_ (w.kids.map treeV) ++ (z08 id (treeV v)).1 :: List.drop at_ (w.kids.map treeV))
  rw [List.map_append, List.map_cons, hx, List.map_take, List.map_drop]
 ·have hxi : ∀ a ∈ nodesV x, a.own.id ∈ idsT (z08 id (treeV v)).1 := fun a ha => by
   rw [<- hx, z3i]; exact List.mem_map.2 ⟨a, ha, rfl⟩
  have hE : ∀ w ∈ nodesV r, ∀ w' : V, w.own.id = parent -> (w'.own = w.own /\ w'.kids = w.kids.take at_ ++ x :: w.kids.drop at_) -> ∀ c ∈ w'.kids, ∀ a ∈ nodesV c, (∃ d ∈ w.kids, a ∈ nodesV d) \/ a ∈ nodesV x := by
   intro w _ w' _ ⟨_, g2⟩ c hc a ha
   rw [g2, List.mem_append, List.mem_cons] at hc
   rcases hc with hc | rfl | hc
   ·exact .inl ⟨c, List.mem_of_mem_take hc, ha⟩
   ·exact .inr ha
   ·exact .inl ⟨c, List.mem_of_mem_drop hc, ha⟩
  have hmem : ∀ i, i ∈ z3q id (treeV v) ++ parent :: z3q parent (treeV v) ↔ i ∈ under :: z3q under (treeV v) \/ i ∈ parent :: z3q parent (treeV v) := fun i => by rw [List.mem_append, hun]
  rw [hmem]
  rcases zb5 (New := fun a => a ∈ nodesV x) h hnr (fun a ha => Nat.lt_of_lt_of_le (z3w hur a ha) hnm2) hE a ha with ⟨g1, g2⟩ | ⟨g1, g2, g3⟩ | g
  ·rw [zbn hm, hanc] at g2
   exact .inr ⟨by omega, .inl (.inr g2)⟩
  ·rw [zbn hm, hanc] at g3
   rcases o2 a g2 with ⟨e1, e2, e3⟩ | ⟨e1, e2⟩
   ·exact .inl ⟨e1, e2, fun h => h.elim e3 g3⟩
   ·exact .inr ⟨e1, e2.imp .inl _root_.id⟩
  ·have hav : a ∈ nodesV v := by
    have := zmj v x hxv a g
    exact this
   refine .inl ⟨z3w hu a hav, hav, fun h => ?_⟩
   rcases h with h | h
   ·exact zvn hn hum hid hux _ h (hxi a g)
   ·exact zvn hn hp hid hpx _ h (hxi a g)
end Tr
end
section
open Abs Facts Tr
attribute [local irreducible] awp
set_option maxRecDepth 100000
end
section
open Abs Facts Tr
attribute [local irreducible] awp
set_option maxRecDepth 100000
structure VnSz (x : Vn) : Prop where
 sz : szB x.u = true
 cn : cntT x.u <= 1000000
 dp : depT x.u <= 100000
 ln : x.l.length <= 1000000
namespace Tr
end Tr
section
variable {x : Vn}
end
end
section
open Abs Facts Tr
attribute [local irreducible] awp
set_option maxRecDepth 100000
theorem z8h {st : St} {q e e2 k k2 : Nat} {cs cs2 : List D} (h : st.H q = some (.row e k cs)) : z8c st (z0d st.H q (some (.row e2 k2 cs2))) st.nx := by
 refine ⟨Nat.le_refl _, fun id => ⟨fun _ e0 c0 h0 => ?_, fun hlt e0 c0 h0 => ?_⟩⟩
 ·unfold z0d
  split
  ·rename_i e1; rw [e1, h] at h0; cases h0
  ·exact h0
 ·unfold z0d at h0
  split at h0
  ·cases h0
  ·exact ⟨hlt, h0⟩
theorem znm {at_ : Nat} {x w : V} (h : at_ <= w.kids.length) : rowV (zmu at_ x w) = .row 75 (w.kids.length + 1) (((w.kids.take at_).map fun v => .ptr v.num 0) ++ [.ptr x.num 0] ++ ((w.kids.drop at_).map fun v => .ptr v.num 0)) := by
 unfold rowV zmu
 have hl : (w.kids.take at_ ++ x :: w.kids.drop at_).length = w.kids.length + 1 := by
  rw [List.length_append, List.length_cons, List.length_take, List.length_drop]; omega
 rw [hl]
 simp
theorem zu7 {at_ : Nat} {x w : V} (h : at_ <= w.kids.length) : (zmu at_ x w).length = w.kids.length + 1 := by
 unfold zmu
 rw [List.length_append, List.length_cons, List.length_take, List.length_drop]; omega
section
variable {lo : Nat} {H0 : HM} {w : V}
theorem do_rel {b : Nat} {name : ByteArray} (hb : H0 b = some (.box 9 [.str name])) (hbl : b < lo) : zyz 100 [.ptr b 0] lo H0 (zzn fun q => q.setLabel name) w := by
 intro m H n c r hp h0
 have hbx := hp.box
 have hbb := (h0 b hbl).trans hb
 have hmc := hp.mc
 have hcn := hp.cn
 have hlom := hp.lom
 have k1 : (b == c) = false := z75 (by omega)
 refine (z16 [] Tryz.func100 rfl (by decide +kernel) z0b (by decide +kernel) (by simp [Tryz.ntmps100]) ?_)
 show awp _ _ (Code.region _ _ _) _ _
 repeat' (first | ((refine zqr fun K J => ?_); (simp (disch := omega) only [go_sem, Nat.reduceBEq, ↓reduceIte, reduceCtorEq, Nat.reduceAdd, Nat.reduceLeDiff, Nat.reduceLT, hbx, hbb, nodeB])) | refine zqu (by (simp (disch := omega) only [go_sem]); rfl) rfl ?_ | (refine J _ ?_; clear J K))
 (simp (disch := omega) only [go_sem])
 exact ⟨rfl, rfl⟩
theorem zxp {b : Nat} {l : List Wd} (hl : l.length <= 1000000) (hb : H0 b = some (.box 24 [z0u l])) (hbl : b < lo) : zyz 91 [.ptr b 0] lo H0 (zzn fun q => q.setWords l) w := by
 intro m H n c r hp h0
 have hbx := hp.box
 have hbb := (h0 b hbl).trans hb
 have hmc := hp.mc
 have hcn := hp.cn
 have hlom := hp.lom
 have c1 := z4x l (by omega)
 refine (z16 [] Tryz.func91 rfl (by decide +kernel) z0b (by decide +kernel) (by simp [Tryz.ntmps91]) ?_)
 show awp _ _ (Code.region _ _ _) _ _
 repeat' (first | ((first | refine zqr fun K J => ?_ | refine zqs (c1) ?_); (simp (disch := omega) only [go_sem, Nat.reduceBEq, ↓reduceIte, reduceCtorEq, Nat.reduceAdd, hbx, hbb, nodeB])) | refine zqu (by (simp (disch := omega) only [go_sem]); rfl) rfl ?_ | (refine J _ ?_; clear J K))
 (simp (disch := omega) only [go_sem])
 exact ⟨rfl, rfl⟩
theorem do_head {b : Nat} {l : List Wd} (hl : l.length <= 1000000) (hb : H0 b = some (.box 24 [z0u l])) (hbl : b < lo) : zyz 101 [.ptr b 0] lo H0 (zzn fun q => q.setHead l) w := by
 intro m H n c r hp h0
 have hbx := hp.box
 have hbb := (h0 b hbl).trans hb
 have hmc := hp.mc
 have hcn := hp.cn
 have hlom := hp.lom
 have c1 := z4x l (by omega)
 refine (z16 [] Tryz.func101 rfl (by decide +kernel) z0b (by decide +kernel) (by simp [Tryz.ntmps101]) ?_)
 show awp _ _ (Code.region _ _ _) _ _
 repeat' (first | ((first | refine zqr fun K J => ?_ | refine zqs (c1) ?_); (simp (disch := omega) only [go_sem, Nat.reduceBEq, ↓reduceIte, reduceCtorEq, Nat.reduceAdd, hbx, hbb, nodeB])) | refine zqu (by (simp (disch := omega) only [go_sem]); rfl) rfl ?_ | (refine J _ ?_; clear J K))
 (simp (disch := omega) only [go_sem])
 exact ⟨rfl, rfl⟩
theorem zzc {b : Nat} {i : Idv} (hb : H0 b = some (idB i)) (hbl : b < lo) (hk : ∃ k ∈ w.kids, k.own.id = i) (hl : w.kids.length <= 1000000) : zyz 151 [.ptr b 0] lo H0 (outE i) w := by
 intro m H n c r hp h0
 have hbx := hp.box
 have hbb := (h0 b hbl).trans hb
 have hmc := hp.mc
 have hcn := hp.cn
 have hlom := hp.lom
 obtain ⟨q, rfl⟩ : ∃ q, r = some q := by
  cases hr : r with
  | none =>
   obtain ⟨k, hk, _⟩ := hk
   rw [hp.nor hr] at hk; cases hk
  | some q => exact ⟨q, rfl⟩
 obtain ⟨h1, h2, h3⟩ := hp.row q rfl
 have hdel := zok (nx := n) h3 (by omega) hl hbb (by omega) (by omega) (fun k hk => by
  obtain ⟨g1, g2⟩ := hp.kids k hk
  have := g2 _ (z3j k)
  exact ⟨((z1p _ _).1 g1).1, by omega, by omega⟩) hk
 have k1 : (c == n) = false := z75 (by omega)
 have k2 : (c == q) = false := z75 (by omega)
 refine (z16 [] Tryz.func151 rfl (by decide +kernel) z0b (by decide +kernel) (by simp [Tryz.ntmps151]) ?_)
 show awp _ _ (Code.region _ _ _) _ _
 repeat' (((refine zqr fun K J => ?_); (simp (disch := omega) only [go_sem, Nat.reduceBEq, ↓reduceIte, reduceCtorEq, Nat.reduceAdd, hbx, nodeB, kdR])))
 refine z1g (hdel.mono fun r' H' n' ⟨e1, e2, e3⟩ => ?_)
 subst e1; subst e2; subst e3
 (try (simp (disch := omega) only [go_sem, Nat.reduceBEq, ↓reduceIte, reduceCtorEq, Nat.reduceAdd, Nat.reduceLeDiff, Nat.reduceLT, hbx, nodeB, kdR, k1, k2])); repeat' (first | refine zqu (by (simp (disch := omega) only [go_sem]); rfl) rfl ?_ | (refine J _ ?_; clear J K))
 (simp (disch := omega) only [go_sem])
 exact ⟨rfl, rfl⟩
theorem do_mov {a b at_ : Nat} {x : V} (ha : H0 a = some (.box 3 [.int .i64 at_])) (hal : a < lo) (hb : H0 b = some (.box 75 [.ptr x.num 0])) (hbl : b < lo) (hx : Stand H0 x) (hux : Under lo x) (hat : at_ <= w.kids.length) (hl : w.kids.length <= 1000000) :
  zyz 99 [.ptr a 0, .ptr b 0] lo H0 (movE at_ x) w := by
 intro m H n c r hp h0
 obtain ⟨a1, a2, a3, a4, a5, a6, a7, a8⟩ := z9b hp
 have hmc := hp.mc
 have hcn := hp.cn
 have hlom := hp.lom
 have hbx := hp.box
 refine zbl Tryz.func99 rfl (by decide +kernel) (by simp [Tryz.ntmps99]) ?_
 obtain ⟨o, ho⟩ : ∃ o, o = zbv w c r H n := ⟨_, rfl⟩
 rw [<- ho] at a1 a2 a3 a4 a5 a6 a7 a8
 have hseal : SealTo Tryz.prog (st0 [.ptr c 0, .ptr a 0, .ptr b 0] H n) (st0 [.ptr c 0, .ptr a 0, .ptr b 0] o.2.1 o.2.2) := by
  cases hr : r with
  | none =>
   rw [hr] at ho hbx
   have h1 : (st0 [.ptr c 0, .ptr a 0, .ptr b 0] H n).H c = some (.box 117 [.int .i64 w.own.id.act, .int .i64 w.own.id.item, .int .i64 w.own.id.n, .int .i64 w.own.kind, .str w.own.label, z0u w.own.head, z0u w.own.words, .nil, .nil]) := hbx
   have h2 := z9g (P := Tryz.prog) (off := 8) 75 h1 rfl
   rw [ho]
   exact h2
  | some q =>
   rw [hr] at ho
   rw [ho]
   exact SealTo.refl _
 refine Sem.seal _ hseal ?_
 have hba := ((a5 a (by omega)).trans (h0 a hal)).trans ha
 have hbb := ((a5 b (by omega)).trans (h0 b hbl)).trans hb
 obtain ⟨q, H1, n1⟩ := o
 simp only at a1 a2 a3 a4 a5 a6 a7 a8 hba hbb ⊢
 refine Sem.walk (own := [3000008, 3000009, 3000010, 4000012]) z0b (by decide +kernel) ?_
 show awp _ _ (Code.region _ _ _) _ _
 unfold rowV at a7
 have k1 : (c == q) = false := z75 (by omega)
 repeat' (((refine zqq (by decide +kernel) fun K J => ?_); (simp (disch := omega) only [go_sem, Nat.reduceBEq, Nat.reduceEqDiff, ↓reduceIte, reduceCtorEq, Nat.reduceAdd, Nat.reduceLeDiff, a6, hba, hbb, nodeB])))
 refine zdt (zgi (i := at_) (nn := true) (els := [.ptr x.num 0]) a7 hat (by simp) rfl (by simp; omega)) rfl rfl (z8h a7) ?_
 (try (simp (disch := omega) only [go_sem, Nat.reduceBEq, Nat.reduceEqDiff, ↓reduceIte, reduceCtorEq, Nat.reduceAdd, Nat.reduceLeDiff, Nat.reduceLT, a6, k1, nodeB])); repeat' (first | refine zqu (by (simp (disch := omega) only [go_sem]); rfl) rfl ?_ | (refine J _ ?_; clear J K))
 unfold movE zzo
 rw [<- ho, znm hat, zu7 hat]
 exact ⟨rfl, rfl, rfl⟩
theorem do_ins {a b at_ : Nat} {t : T} (ht : szB t = true) (ha : H0 a = some (.box 3 [.int .i64 at_])) (hal : a < lo) (hb : H0 b = some (unitB t)) (hbl : b < lo) (hat : at_ <= w.kids.length) (hl : w.kids.length <= 1000000) :
  zyz 96 [.ptr a 0, .ptr b 0] lo H0 (insE at_ t) w := by
 intro m H n c r hp h0
 obtain ⟨a1, a2, a3, a4, a5, a6, a7, a8⟩ := z9b hp
 have hmc := hp.mc
 have hcn := hp.cn
 have hlom := hp.lom
 have hbx := hp.box
 refine zbl Tryz.func96 rfl (by decide +kernel) (by simp [Tryz.ntmps96]) ?_
 obtain ⟨o, ho⟩ : ∃ o, o = zbv w c r H n := ⟨_, rfl⟩
 rw [<- ho] at a1 a2 a3 a4 a5 a6 a7 a8
 have hseal : SealTo Tryz.prog (st0 [.ptr c 0, .ptr a 0, .ptr b 0] H n) (st0 [.ptr c 0, .ptr a 0, .ptr b 0] o.2.1 o.2.2) := by
  cases hr : r with
  | none =>
   rw [hr] at ho hbx
   have h1 : (st0 [.ptr c 0, .ptr a 0, .ptr b 0] H n).H c = some (.box 117 [.int .i64 w.own.id.act, .int .i64 w.own.id.item, .int .i64 w.own.id.n, .int .i64 w.own.kind, .str w.own.label, z0u w.own.head, z0u w.own.words, .nil, .nil]) := hbx
   have h2 := z9g (P := Tryz.prog) (off := 8) 75 h1 rfl
   rw [ho]
   exact h2
  | some q =>
   rw [hr] at ho
   rw [ho]
   exact SealTo.refl _
 refine Sem.seal _ hseal ?_
 have hba := ((a5 a (by omega)).trans (h0 a hal)).trans ha
 have hbb := ((a5 b (by omega)).trans (h0 b hbl)).trans hb
 have hgr := z5w t o.2.1 o.2.2
 have hgn : (z4t t o.2.1 o.2.2).1.num = o.2.2 + 1 := by rw [z9d]; rfl
 have hcg := zo3 t ht o.2.1 o.2.2
 unfold insE zzo
 simp only
 rw [<- ho]
 obtain ⟨q, H1, n1⟩ := o
 simp only at a1 a2 a3 a4 a5 a6 a7 a8 hba hbb hgr hgn hcg ⊢
 generalize z4t t H1 n1 = g at hgr hgn hcg ⊢
 obtain ⟨g1, g2, g3, g4, g5, g6, g7⟩ := hgr
 refine Sem.walk (own := [3000008, 3000009, 3000010, 4000011, 10000011, 4000013]) z0b (by decide +kernel) ?_
 show awp _ _ (Code.region _ _ _) _ _
 unfold rowV at a7
 have k1 : (c == q) = false := z75 (by omega)
 have f1 := (g3 c (by omega)).trans a6
 have f2 := (g3 q (by omega)).trans a7
 repeat' (((refine zqq (by decide +kernel) fun K J => ?_); (simp (disch := omega) only [go_sem, Nat.reduceBEq, Nat.reduceEqDiff, ↓reduceIte, reduceCtorEq, Nat.reduceAdd, Nat.reduceLeDiff, a6, hba, hbb, nodeB, unitB])))
 refine z48 hcg rfl rfl rfl ⟨by show n1 <= _; omega, g3⟩ ?_
 (try (simp (disch := omega) only [go_sem, Nat.reduceBEq, ↓reduceIte, reduceCtorEq, Nat.reduceAdd, Nat.reduceLeDiff])); repeat' skip
 refine zdt (zgi (i := at_) (nn := true) (els := [.ptr (n1 + 1) 0]) f2 hat (by simp) rfl (by simp; omega)) rfl rfl (z8h f2) ?_
 (try (simp (disch := omega) only [go_sem, Nat.reduceBEq, Nat.reduceEqDiff, ↓reduceIte, reduceCtorEq, Nat.reduceAdd, Nat.reduceLeDiff, Nat.reduceLT, f1, k1, nodeB])); repeat' (first | refine zqu (by (simp (disch := omega) only [go_sem]); rfl) rfl ?_ | (refine J _ ?_; clear J K))
 rw [znm hat, zu7 hat, hgn]
 exact ⟨rfl, rfl, rfl⟩
end
end
section
open Abs Facts Tr
attribute [local irreducible] awp
set_option maxRecDepth 100000
def Det (f : FuncId) (ds : List D) (H : HM) (nx : Nat) (F : D × HM × Nat -> Prop) : Prop := ∃ o : D × HM × Nat, AC Tryz.prog f ds H nx (fun r H' n' => r = o.1 /\ H' = o.2.1 /\ n' = o.2.2) /\ F o
theorem Det.mono {f : FuncId} {ds : List D} {H : HM} {nx : Nat} {F G : D × HM × Nat -> Prop} (h : Det f ds H nx F) (hFG : ∀ o, F o -> G o) : Det f ds H nx G := by
 obtain ⟨o, h1, h2⟩ := h
 exact ⟨o, h1, hFG o h2⟩
section
variable {own : List Nat} {n : FuncId} {args cap : List D} {g : List Oper -> (St -> Prop) -> St -> Prop} {rest : List Oper} {K : St -> Prop} {st : St} {dst : Option Nat} {F : D × HM × Nat -> Prop}
theorem z8m (h : Det n (args ++ cap) st.H st.nx F) (hk : ∀ o, F o -> g rest K ((st.withH o.2.1 o.2.2).put dst o.1)) : zlm Tryz.prog (.fn n cap) args g rest K st dst := by
 obtain ⟨o, h1, h2⟩ := h
 exact z1g (h1.mono fun r H' n' ⟨e1, e2, e3⟩ => by subst e1; subst e2; subst e3; exact hk o h2)
end
def treeB (c : D) : HObj := .box 78 [c]
structure AtOK (e : Int) (lo : Nat) (id : Idv) (Q : V -> V -> Prop) (v : V) (H : HM) (n : Nat) (o : D × HM × Nat) : Prop where
 le : n <= o.2.2
 agree : Agree n H o.2.1
 shape : (∃ t, o.1 = .tup [.ptr t 0, .int .i64 e]) \/ o.1 = .tup [.nptr, .int .i64 e]
 bad : e ≠ 0 -> o.1 = .tup [.nptr, .int .i64 e]
 good : e = 0 -> id ∈ idsT (treeV v) -> ∃ v' t, o.1 = .tup [.ptr t 0, .int .i64 0] /\ n <= t /\ t < o.2.2 /\ o.2.1 t = some (treeB (.ptr v'.num 0)) /\ Chg n id Q v v' /\ Stand o.2.1 v' /\ Under o.2.2 v'
theorem zeo {e : Int} {g : FuncId} {cap : List D} {lo tb : Nat} {id : Idv} {E : zpa} {Q : V -> V -> Prop} {H0 H : HM} {v : V} {n : Nat} (htb : tb < n) (hH : H tb = some (treeB (.ptr v.num 0))) (hs : szB (treeV v) = true) (hE : e = 0 -> ∀ w ∈ nodesV v, w.own.id = id -> zyz g cap lo H0 E w /\ zlr lo H0 E Q w)
  (hlo : lo <= n) (h0 : Agree lo H0 H) (hst : Stand H v) (hu : Under lo v) : Det 90 [.ptr tb 0, .int .i64 e, z0y id, .fn g cap] H n (AtOK e lo id Q v H n) := by
 have k1 : (tb == n) = false := z75 (by omega)
 have hag : Agree n H (z0d H n (some (idB id))) := fun j hj => z01 _ (by omega)
 by_cases he : e = 0
 ·subst he
  have hst1 : Stand (z0d H n (some (idB id))) v := Stand.agree (n := lo) (fun j hj => hag j (by omega)) v hu hst
  have h01 : Agree lo H0 (z0d H n (some (idB id))) := fun j hj => (hag j (by omega)).trans (h0 j hj)
  have hcg := zop (g := g) (cap := cap) (id := id) (E := E) (Q := Q) (H0 := H0) v hs (hE rfl) (z0d H n (some (idB id))) (n + 1) (by omega) h01 hst1 hu
  have hf := zjh (id := id) (E := E) (Q := Q) (H0 := H0) v (fun w hw e => (hE rfl w hw e).2) (z0d H n (some (idB id))) (n + 1) (by omega) h01 hst1 hu
  generalize zlq id E v (z0d H n (some (idB id))) (n + 1) = o at hcg hf
  have hle := hf.le
  refine ⟨(.tup [.ptr o.2.2 0, .int .i64 0], z0d o.2.1 o.2.2 (some (treeB (ptrO o.1))), o.2.2 + 1), ?_, ⟨by simp only; omega, fun j hj => ?_, .inl ⟨_, rfl⟩, fun h => absurd rfl h, fun _ hin => ?_⟩⟩
  ·refine (z16 [3000016, 3000017, 4000019, 10000019] Tryz.func90 rfl (by decide +kernel) z0b (by decide +kernel) (by simp [Tryz.ntmps90]) ?_)
   show awp _ _ (Code.seq _ _) _ _
   unfold idB at hcg hf
   repeat' (first | refine zqj ?_ | ((first | refine zqh fun K J => ?_ | refine zqe (by decide +kernel) fun K J => ?_); (simp (disch := omega) only [go_sem, Nat.reduceBEq, Nat.reduceEqDiff, ↓reduceIte, reduceCtorEq, Nat.reduceAdd, Nat.reduceLeDiff, hH, k1, treeB, z0y, z0j])) | ((refine zqd _ rfl (fun hc => ?_) (fun hc => ?_)) <;> (first | (cases hc; done) | ((try simp only [] at hc); (try (exfalso; omega))))) | refine zqb ?_ | (refine J _ ?_; clear J K))
   refine z48 hcg rfl rfl rfl ⟨hle, hf.agree⟩ ?_
   obtain ⟨x, H1, n1⟩ := o
   cases x with
   | none =>
    unfold ptrO
    (try (simp (disch := omega) only [go_sem, Nat.reduceBEq, ↓reduceIte, Nat.reduceLeDiff])); repeat' (first | refine zqn ?_ | refine zqu (by (simp (disch := omega) only [go_sem]); rfl) rfl ?_ | (refine J _ ?_; clear J K))
    (simp (disch := omega) only [go_sem, Nat.reduceBEq])
    rfl
   | some x =>
    unfold ptrO
    (try (simp (disch := omega) only [go_sem, Nat.reduceBEq, ↓reduceIte, Nat.reduceLeDiff])); repeat' (first | refine zqn ?_ | refine zqu (by (simp (disch := omega) only [go_sem]); rfl) rfl ?_ | (refine J _ ?_; clear J K))
    (simp (disch := omega) only [go_sem, Nat.reduceBEq])
    rfl
  ·simp only
   rw [z01 _ (by omega), hf.agree j (by omega), hag j hj]
  ·obtain ⟨v', e1, hch, hs', hu', _⟩ := hf.yes hin
   have hs2 : Stand (z0d o.2.1 o.2.2 (some (treeB (ptrO o.1)))) v' := Stand.on v' (fun j hj => z01 _ (by have := hu' j hj; omega)) hs'
   refine ⟨v', o.2.2, rfl, by omega, by simp, ?_, Chg.mono (by omega) (fun _ _ _ h => h) hch, hs2, hu'.le (by simp)⟩
   simp only
   rw [z1o, e1]; rfl
 ·refine ⟨(.tup [.nptr, .int .i64 e], z0d H n (some (idB id)), n + 1), ?_, ⟨by simp, hag, .inr rfl, fun _ => rfl, fun h => absurd h he⟩⟩
  refine (z16 [3000016, 3000017, 4000019, 10000019] Tryz.func90 rfl (by decide +kernel) z0b (by decide +kernel) (by simp [Tryz.ntmps90]) ?_)
  show awp _ _ (Code.seq _ _) _ _
  repeat' (first | refine zqj ?_ | ((refine zqh fun K J => ?_); (simp (disch := omega) only [go_sem, Nat.reduceBEq, ↓reduceIte, z0y, z0j])) | ((refine zqd _ rfl (fun hc => ?_) (fun hc => ?_)) <;> (((try simp only [z0e] at hc); (try (exfalso; omega))))) | refine zqg ?_ | refine zqu (by (simp (disch := omega) only [go_sem]); rfl) rfl ?_ | (refine J _ ?_; clear J K))
  (simp (disch := omega) only [go_sem, Nat.reduceBEq])
  rfl
end
section
open Abs Facts Tr
attribute [local irreducible] awp
set_option maxRecDepth 100000
section
variable {H : HM} {n tb : Nat} {v : V}
theorem zex (hs : szB (treeV v) = true) (htb : tb < n) (hH : H tb = some (treeB (.ptr v.num 0))) (hu : Under n v) (hst : Stand H v) : RC Tryz.prog 14 [.ptr tb 0] H n (z0o (treeV v)) := by
 have k1 : (tb == n) = false := z75 (by omega)
 have c1 : ∀ o : Option HObj, RC Tryz.prog 41 [.ptr v.num 0] (z0d H n o) (n + 1) (z0o (treeV v)) := fun o =>
  ztn v hs _ _ (hu.le (by omega)) (Stand.agree (fun j hj => z01 _ (by omega)) v hu hst)
 have hcu := z0l (treeV v)
 refine zlz (z02 _) (z16 [] Tryz.func14 rfl (by decide +kernel) z0b (by decide +kernel) (by simp [Tryz.ntmps14]) ?_)
 show awp _ _ (Code.seq _ _) _ _
 rw [show Tryz.f14.results.toList = [.cell 2 27] from rfl]
 repeat' (first | ((first | refine zqh fun K J => ?_ | refine z10 (c1 _) ?_); (simp (disch := omega) only [go_sem, Nat.reduceBEq, ↓reduceIte, reduceCtorEq, Nat.reduceAdd, Nat.reduceLeDiff, hH, k1, treeB])) | refine zqn ?_ | refine zqu (by (simp (disch := omega) only [go_sem, Nat.reduceBEq, ↓reduceIte, Nat.reduceLeDiff]); rfl) rfl ?_ | (refine J _ ?_; clear J K))
 (simp (disch := omega) only [go_sem, z0o])
 exact fun j hj => by simp (disch := omega) only [z2z]
theorem zuw : ∀ v : V, szB (treeV v) = true -> ∀ w ∈ nodesV v, szB (treeV w) = true := by
 refine zbz fun v ih hs w hw => ?_
 rw [z34, List.mem_cons] at hw
 rcases hw with rfl | hw
 ·exact hs
 ·obtain ⟨k, hk, hw⟩ := List.mem_flatMap.1 hw
  exact ih k hk (zjm hs hk) w hw
def cntS (_ : V) : HObj -> HObj
 | .box e [.int .i64 n] => .box e [.int .i64 (IntKind.i64.wrap (n + 1))]
 | o => o
theorem zyd (l : List V) (k : Nat) (h : k + l.length <= 1000000000) : zaz cntS l (.box 3 [.int .i64 (k : Nat)]) = .box 3 [.int .i64 ((k + l.length : Nat))] := by
 induction l generalizing k with
 | nil => rfl
 | cons w l ih =>
  simp only [List.length_cons] at h
  show zaz cntS l (.box 3 [.int .i64 (IntKind.i64.wrap ((k : Int) + 1))]) = _
  rw [zpf (by omega), show ((k : Int) + 1) = ((k + 1 : Nat) : Int) by omega, ih (k + 1) (by omega)]
  simp only [List.length_cons]
  congr 3
  congr 1
  omega
def zk9 (o : HObj) : Prop := ∃ k, o = .box 3 [.int .i64 k]
theorem zka (w : V) (o : HObj) (h : zk9 o) : zk9 (cntS w o) := by
 obtain ⟨k, rfl⟩ := h
 exact ⟨_, rfl⟩
theorem ac_Len1 {H : HM} {n k : Nat} {w : V} {o : HObj} (hkn : k < n) (hk : H k = some o) (ho : zk9 o) : AC Tryz.prog 43 [.ptr w.num 0, .ptr k 0] H n fun r H' nx' => r = .tup [] /\ H' = z0d H k (some (cntS w o)) /\ nx' = n := by
 obtain ⟨i, rfl⟩ := ho
 refine (z16 [] Tryz.func43 rfl (by decide +kernel) z0b (by decide +kernel) (by simp [Tryz.ntmps43]) ?_)
 show awp _ _ (Code.region _ _ _) _ _
 repeat' (first | ((refine zqr fun K J => ?_); (simp (disch := omega) only [go_sem, Nat.reduceBEq, ↓reduceIte, Nat.reduceAdd, Nat.reduceLeDiff, Nat.reduceLT, hk])) | refine zqu (by (simp (disch := omega) only [go_sem]); rfl) rfl ?_ | (refine J _ ?_; clear J K))
 (simp (disch := omega) only [go_sem])
 rfl
theorem zze (hs : szB (treeV v) = true) (hc : cntT (treeV v) <= 1000000) (htb : tb < n) (hH : H tb = some (treeB (.ptr v.num 0))) (hu : Under n v) (hst : Stand H v) : RC Tryz.prog 15 [.ptr tb 0] H n (.int .i64 (cntT (treeV v))) := by
 have k1 : (tb == n) = false := z75 (by omega)
 rw [zn1] at hc ⊢
 have c1 := fun o0 => zlw (g := 43) (cap := [.ptr n 0]) (k := n) cntS zk9 (fun H' => ∀ j, j < n -> H' j = H j) (fun H' o h j hj => by rw [z01 _ (by omega)]; exact h j hj) (fun _ => True) (fun w o _ h => zka w o h) v hs (fun _ _ => trivial)
  (fun H' h w hw => Stand.agree (n := n) h w (z2a hu hw) (z40 v hst w hw)) (fun w hw H' nx o hu' hk hko hI _ => ac_Len1 hk hko hI) (z0d (z0d H n o0) n (some (.box 3 [.int .i64 ((0 : Nat))]))) (n + 1) (.box 3 [.int .i64 ((0 : Nat))]) (hu.le (by omega)) (Nat.lt_succ_self _) z29 ⟨_, rfl⟩ (fun j hj => by rw [z01 _ (by omega), z01 _ (by omega)])
 rw [zyd _ _ (by omega)] at c1
 refine zlz rfl (z16 [] Tryz.func15 rfl (by decide +kernel) z0b (by decide +kernel) (by simp [Tryz.ntmps15]) ?_)
 show awp _ _ (Code.seq _ _) _ _
 repeat' (first | ((refine zqh fun K J => ?_); (simp (disch := omega) only [go_sem, Nat.reduceBEq, ↓reduceIte, reduceCtorEq, Nat.reduceAdd, Nat.reduceLeDiff, Nat.reduceLT, hH, k1, treeB])) | (refine J _ ?_; clear J K))
 refine z1g ((c1 _).mono fun r' H' n' ⟨e1, e2, e3⟩ => ?_)
 subst e1; subst e3
 have hn : H' n = some (.box 3 [.int .i64 ((0 + (nodesV v).length : Nat))]) := by rw [e2]; exact z29
 (try (simp (disch := omega) only [go_sem])); repeat' (first | ((refine zqh fun K J => ?_); (simp (disch := omega) only [go_sem, Nat.reduceBEq, ↓reduceIte, Nat.reduceAdd, hn])) | refine zqn ?_ | refine zqu (by (simp (disch := omega) only [go_sem]); rfl) rfl ?_ | (refine J _ ?_; clear J K))
 (simp (disch := omega) only [go_sem, Nat.reduceBEq])
 refine fun j hj => ?_
 rw [e2, z01 _ (by omega), z01 _ (by omega), z01 _ (by omega)]
theorem find_id {id : Idv} {t : T} (h : (z08 id t).2 = true) : (z08 id t).1.id = id := by
 have h1 := z78.1 h
 unfold z08
 rw [zb0 _ h1]
 exact zi9 id t h1
theorem zgr (hn : (idsT (treeV v)).Nodup) (id : Idv) : (z87 id v = .nptr /\ z08 id (treeV v) = (T.zero, false)) \/ ∃ w ∈ nodesV v, w.own.id = id /\ z87 id v = .ptr w.num 0 /\ z08 id (treeV v) = (treeV w, true) := by
 unfold z87
 cases hf : (nodesV v).find? (fun w => decide (w.own.id = id)) with
 | none =>
  left
  refine ⟨rfl, ?_⟩
  have hno : id ∉ idsT (treeV v) := fun hm => by
   rw [z3i] at hm
   obtain ⟨w, hw, e⟩ := List.mem_map.1 hm
   have := List.find?_eq_none.1 hf w hw
   simp [e] at this
  refine zbc ?_
  rw [z5a]
  exact hno
 | some w =>
  right
  have hw := List.mem_of_find?_eq_some hf
  have e : w.own.id = id := by simpa using List.find?_some hf
  refine ⟨w, hw, e, rfl, ?_⟩
  have hm : id ∈ idsT (treeV v) := by rw [z3i]; exact List.mem_map.2 ⟨w, hw, e⟩
  have h2 : (z08 id (treeV v)).2 = true := by rw [z2f, decide_eq_true hm]
  have h3 := zfd h2
  have h4 : (z08 id (treeV v)).1 = treeV w := by
   have hwn : treeV w ∈ z0p (treeV v) := by rw [z4h]; exact List.mem_map.2 ⟨w, hw, rfl⟩
   exact z6a (f := T.id) hn _ h3 _ hwn (by rw [z23, e]; exact find_id h2)
  exact Prod.ext h4 h2
theorem rc_Get (hs : szB (treeV v) = true) (hn : (idsT (treeV v)).Nodup) (htb : tb < n) (hH : H tb = some (treeB (.ptr v.num 0))) (hu : Under n v) (hst : Stand H v) (id : Idv) : RC Tryz.prog 17 [.ptr tb 0, z0y id] H n (.tup [z0o (z08 id (treeV v)).1, .bool (z08 id (treeV v)).2]) := by
 have k1 : (tb == n) = false := z75 (by omega)
 have k2 : (tb == n + 1) = false := z75 (by omega)
 have k3 : (n == n + 1) = false := z75 (by omega)
 have k4 : (n + 1 == n) = false := z75 (by omega)
 have hag : ∀ o1 o2 : Option HObj, Agree n H (z0d (z0d H n o1) (n + 1) o2) := fun o1 o2 j hj => by rw [z01 _ (by omega), z01 _ (by omega)]
 have c1 : ∀ o1 o2 : Option HObj, _ := fun o1 o2 => ztp id v hs (z0d (z0d H n o1) (n + 1) o2) (n + 2) (hu.le (by omega)) (Stand.agree (hag o1 o2) v hu hst)
 refine zza (k := 2) (by simp [pureD, pureD.pureL, z02]) (z16 [3000010, 3000011] Tryz.func17 rfl (by decide +kernel) z0b (by decide +kernel) (by simp [Tryz.ntmps17]) ?_)
 show awp _ _ (Code.seq _ _) _ _
 rw [show Tryz.f17.results.toList = [.cell 4 27, .tmp 5] from rfl]
 rcases zgr hn id with ⟨hf, hr⟩ | ⟨w, hw, hwi, hf, hr⟩
 ·rw [hf] at c1
  rw [hr]
  repeat' (first | refine zqj ?_ | ((first | refine zqh fun K J => ?_ | refine zqe (by decide +kernel) fun K J => ?_ | refine z9k (c1 _ _) rfl ?_); (simp (disch := omega) only [go_sem, Nat.reduceBEq, Nat.reduceEqDiff, ↓reduceIte, reduceCtorEq, Nat.reduceAdd, Nat.reduceLeDiff, hH, k1, k2, k3, k4, treeB, z0y, z0j])) | ((refine zqd _ rfl (fun hc => ?_) (fun hc => ?_)) <;> (first | (cases hc; done) | ((try simp only [] at hc); (try (exfalso; omega))))) | refine zqg ?_ | refine zqu (by (simp (disch := omega) only [go_sem, Nat.reduceBEq, ↓reduceIte, Nat.reduceAdd, Nat.reduceLeDiff, k4]); rfl) rfl ?_ | (refine J _ ?_; clear J K))
  refine ⟨⟨_, z07 1 rfl, Le.tup ⟨z2y, Le.refl _, trivial⟩⟩, ?_⟩
  (simp (disch := omega) only [go_sem])
  exact fun j hj => by simp (disch := omega) only [z2z]
 ·rw [hf] at c1
  rw [hr]
  have hcu := z0l (treeV w)
  have c2 : ∀ o1 o2 : Option HObj, _ := fun o1 o2 => ztn w (zuw v hs w hw) (z0d (z0d H n o1) (n + 1) o2) (n + 2) ((z2a hu hw).le (by omega)) (Stand.agree (hag o1 o2) w (z2a hu hw) (z40 v hst w hw))
  repeat' (first | refine zqj ?_ | ((first | refine zqh fun K J => ?_ | refine zqe (by decide +kernel) fun K J => ?_ | refine z9k (c1 _ _) rfl ?_ | refine z10 (c2 _ _) ?_); (simp (disch := omega) only [go_sem, Nat.reduceBEq, Nat.reduceEqDiff, ↓reduceIte, reduceCtorEq, Nat.reduceAdd, Nat.reduceLeDiff, hH, k1, k2, k3, k4, treeB, z0y, z0j])) | ((refine zqd _ rfl (fun hc => ?_) (fun hc => ?_)) <;> (first | (cases hc; done) | ((try simp only [] at hc); (try (exfalso; omega))))) | refine zqb ?_ | refine zqn ?_ | refine zqu (by (simp (disch := omega) only [go_sem, Nat.reduceBEq, ↓reduceIte, Nat.reduceLeDiff, k4]); rfl) rfl ?_ | (refine J _ ?_; clear J K))
  refine ⟨⟨_, z07 1 (by simp [pureD, pureD.pureL, z05]), Le.refl _⟩, ?_⟩
  (simp (disch := omega) only [go_sem])
  exact fun j hj => by simp (disch := omega) only [z2z]
theorem zye {u : T} : z3o u ⟨-1, 0, 0⟩ 0 (.mk ⟨-2, 0, 0⟩ 2 ⟨#[49]⟩ [] [] []) = 1 ↔ standsT u = false := by
 unfold z3o
 have h1 : standsT (.mk ⟨-2, 0, 0⟩ 2 ⟨#[49]⟩ [] [] []) = true := by decide +kernel
 cases hs : standsT u with
 | false => simp
 | true =>
  rw [h1]
  have h2 : T.kind (.mk ⟨-2, 0, 0⟩ 2 ⟨#[49]⟩ [] [] []) = 2 := rfl
  rw [h2]
  simp only [Bool.true_eq_false, false_or, iff_false]
  rw [if_neg (by decide)]
  split
  ·decide
  split
  ·decide
  split
  ·decide
  split
  ·decide
  split
  ·decide
  split <;> decide
structure NewOK (u : T) (H : HM) (n : Nat) (o : D × HM × Nat) : Prop where
 le : n <= o.2.2
 agree : Agree n H o.2.1
 bad : standsT u = false -> o.1 = .nptr
 good : standsT u = true -> ∃ v t, o.1 = .ptr t 0 /\ n <= t /\ t < o.2.2 /\ o.2.1 t = some (treeB (.ptr v.num 0)) /\ Stand o.2.1 v /\ Under o.2.2 v /\ treeV v = u /\ (objsV v).Nodup /\ ∀ j ∈ objsV v, n <= j
theorem zm7 (u : T) (hs : szB u = true) (hc1 : cntT u <= 1000000) (hd : depT u <= 1000000) : Det 11 [z0o u] H n (NewOK u H n) := by
 have c0 := (ziq u (.mk ⟨-2, 0, 0⟩ 2 ⟨#[49]⟩ [] [] []) hs (by decide +kernel) hc1 (by decide +kernel) hd (by decide +kernel) ⟨-1, 0, 0⟩).le (ds := [z0o u, z0y ⟨-1, 0, 0⟩, .agg [.int .i64 (-2), .int .i64 0, .int .i64 0, .int .i64 2, .str ⟨#[49]⟩, .nil, .nil, .nil]])
  (by simp [pureD.pureL, z02, pureD, z0y, z0j]) ⟨Le.refl _, Le.refl _, by rw [z0o, z0l]; exact Le.agg ⟨Le.refl _, Le.refl _, Le.refl _, Le.refl _, Le.refl _, Le.nil 4, Le.nil 4, Le.nil 8, trivial⟩, trivial⟩
 have hw := zye (u := u)
 generalize z3o u ⟨-1, 0, 0⟩ 0 (.mk ⟨-2, 0, 0⟩ 2 ⟨#[49]⟩ [] [] []) = e at c0 hw
 have hag : Agree n H (z0d H n (some (unitB u))) := fun j hj => z01 _ (by omega)
 cases hst : standsT u with
 | false =>
  have he := hw.2 hst
  subst he
  refine ⟨(.nptr, z0d H n (some (unitB u)), n + 1), ?_, ⟨by simp, hag, fun _ => rfl, fun h => by rw [hst] at h; cases h⟩⟩
  refine (z16 [] Tryz.func11 rfl (by decide +kernel) z0b (by decide +kernel) (by simp [Tryz.ntmps11]) ?_)
  show awp _ _ (Code.seq _ _) _ _
  repeat' (first | refine zqj ?_ | ((first | refine zqh fun K J => ?_ | refine zqs (c0) ?_); (simp (disch := omega) only [go_sem, Nat.reduceBEq, ↓reduceIte, Nat.reduceAdd, Nat.reduceLeDiff])) | ((refine zqd _ rfl (fun hc => ?_) (fun hc => ?_)) <;> (first | (cases hc; done) | ((try simp only [] at hc); (try (exfalso; omega))))) | refine zqg ?_ | refine zqu (by (simp (disch := omega) only [go_sem]); rfl) rfl ?_ | (refine J _ ?_; clear J K))
  (simp (disch := omega) only [go_sem, Nat.reduceBEq])
  rfl
 | true =>
  have he : ¬ e = 1 := fun h => by rw [hw.1 h] at hst; cases hst
  have c1 := zo3 u hs (z0d H n (some (unitB u))) (n + 1)
  have hg := z5w u (z0d H n (some (unitB u))) (n + 1)
  have hnum : (z4t u (z0d H n (some (unitB u))) (n + 1)).1.num = n + 1 + 1 := by rw [z9d]; rfl
  generalize z4t u (z0d H n (some (unitB u))) (n + 1) = g at c1 hg hnum
  obtain ⟨g1, g2, g3, g4, g5, g6, g7⟩ := hg
  refine ⟨(.ptr g.2.2 0, z0d g.2.1 g.2.2 (some (treeB (.ptr (n + 1 + 1) 0))), g.2.2 + 1), ?_, ⟨by simp only; omega, fun j hj => ?_, (fun h => by rw [hst] at h; cases h), fun _ => ⟨g.1, g.2.2, rfl, by omega, by simp, ?_, ?_, g5.le (by simp), g1, g7, fun j hj => by have := g6 j hj; omega⟩⟩⟩
  ·refine (z16 [] Tryz.func11 rfl (by decide +kernel) z0b (by decide +kernel) (by simp [Tryz.ntmps11]) ?_)
   show awp _ _ (Code.seq _ _) _ _
   unfold unitB at c1
   repeat' (first | refine zqj ?_ | ((first | refine zqh fun K J => ?_ | refine zqs (c0) ?_); (simp (disch := omega) only [go_sem, Nat.reduceBEq, ↓reduceIte, Nat.reduceAdd, Nat.reduceLeDiff])) | ((refine zqd _ rfl (fun hc => ?_) (fun hc => ?_)) <;> (((try simp only [z0e] at hc); (try (exfalso; omega))))) | refine zqb ?_ | (refine J _ ?_; clear J K))
   refine z1g (c1.mono fun r' H' n' ⟨e1, e2, e3⟩ => ?_)
   subst e1; subst e2; subst e3
   (try (simp (disch := omega) only [go_sem, Nat.reduceBEq, ↓reduceIte, Nat.reduceLeDiff])); repeat' (first | refine zqn ?_ | refine zqu (by (simp (disch := omega) only [go_sem]); rfl) rfl ?_ | (refine J _ ?_; clear J K))
   (simp (disch := omega) only [go_sem, Nat.reduceBEq])
   rfl
  ·simp only
   rw [z01 _ (by omega), g3 j (by omega), hag j hj]
  ·simp only
   rw [z1o, hnum]
  ·exact Stand.on g.1 (fun j hj => z01 _ (by have := g5 j hj; omega)) g4
end
end
section
open Abs Facts Tr
attribute [local irreducible] awp
set_option maxRecDepth 100000
def zfr (L : List Nat) : HObj := .map (L.map fun j => (.ptr j 0, .bool true))
def numK : D -> Option Nat
 | .ptr j 0 => some j
 | _ => none
def numsO : HObj -> List Nat
 | .map es => es.filterMap fun e => numK e.1
 | _ => []
theorem ze6 (L : List Nat) : numsO (zfr L) = L := by
 show List.filterMap (fun e : D × D => numK e.1) (L.map fun j => (D.ptr j 0, D.bool true)) = L
 rw [List.filterMap_map]
 exact List.filterMap_some
def ze7 (w : V) (o : HObj) : HObj := if w.num ∈ numsO o then o else zfr (numsO o ++ [w.num])
def zcn (H : HM) (j : Nat) : Prop := ∃ e cs, H j = some (.box e cs)
def zj0 (n : Nat) (H : HM) (j : Nat) : Prop := j < n /\ zcn H j
def zwn (B : Nat -> Prop) (o : HObj) : Prop := ∃ L, o = zfr L /\ ∀ j ∈ L, B j
theorem zoq {B : Nat -> Prop} {w : V} {o : HObj} (hw : B w.num) (h : zwn B o) : zwn B (ze7 w o) := by
 obtain ⟨L, rfl, hL⟩ := h
 unfold ze7
 rw [ze6]
 split
 ·exact ⟨L, rfl, hL⟩
 ·refine ⟨_, rfl, fun j hj => ?_⟩
  rcases List.mem_append.1 hj with hj | hj
  ·exact hL j hj
  ·rw [List.mem_singleton] at hj; subst hj; exact hw
theorem zsc {l : List V} : ∀ L : List Nat, ∃ M, zaz ze7 l (zfr L) = zfr M /\ ∀ x, x ∈ M ↔ x ∈ L \/ x ∈ l.map V.num := by
 induction l with
 | nil => exact fun L => ⟨L, rfl, fun x => by simp⟩
 | cons w l ih =>
  intro L
  have h1 : ze7 w (zfr L) = if w.num ∈ L then zfr L else zfr (L ++ [w.num]) := by unfold ze7; rw [ze6]
  show ∃ M, zaz ze7 l (ze7 w (zfr L)) = zfr M /\ _
  rw [h1]
  by_cases h : w.num ∈ L
  ·rw [if_pos h]
   obtain ⟨M, e, hM⟩ := ih L
   refine ⟨M, e, fun x => ?_⟩
   rw [hM, List.map_cons, List.mem_cons]
   constructor
   ·rintro (h2 | h2)
    ·exact .inl h2
    ·exact .inr (.inr h2)
   ·rintro (h2 | h2 | h2)
    ·exact .inl h2
    ·exact .inl (h2 ▸ h)
    ·exact .inr h2
  ·rw [if_neg h]
   obtain ⟨M, e, hM⟩ := ih (L ++ [w.num])
   refine ⟨M, e, fun x => ?_⟩
   rw [hM, List.map_cons, List.mem_cons, List.mem_append, List.mem_singleton, or_assoc]
theorem zwo (L : List Nat) (p : Nat) : z6m (L.map fun j => (D.ptr j 0, D.bool true)) p (.bool true) = L.map fun j => (D.ptr j 0, D.bool true) := by
 induction L generalizing p with
 | nil => rfl
 | cons a L ih =>
  cases p with
  | zero => rfl
  | succ p => simp only [List.map_cons, z6m, ih]
section
variable {H H0 : HM} {n m k b : Nat} {v w : V} {o : HObj}
theorem ac_Know (hw : zcn H w.num) (hb : H b = some (.box 83 [.mp m])) (hm : H m = some o) (ho : zwn (zcn H) o) : AC Tryz.prog 45 [.ptr w.num 0, .ptr b 0] H n fun r H' nx' => r = .tup [] /\ H' = z0d H m (some (ze7 w o)) /\ nx' = n := by
 obtain ⟨L, rfl, hL⟩ := ho
 have h1 : ze7 w (zfr L) = if w.num ∈ L then zfr L else zfr (L ++ [w.num]) := by unfold ze7; rw [ze6]
 rw [h1]
 have hm2 : H m = some (.map (L.map fun j => (.ptr j 0, .bool true))) := hm
 refine (z16 [] Tryz.func45 rfl (by decide +kernel) z0b (by decide +kernel) (by simp [Tryz.ntmps45]) ?_)
 show awp _ _ (Code.region _ _ _) _ _
 by_cases h : w.num ∈ L
 ·obtain ⟨p, hp, hf⟩ := ze2 (x := .bool true) hw L hL h
  rw [if_pos h]
  have hs := zwo L p
  repeat' (first | ((refine zqr fun K J => ?_); (simp (disch := omega) only [go_sem, Nat.reduceBEq, ↓reduceIte, Nat.reduceAdd, hb, hm2, hf, hs])) | refine zqu (by (simp (disch := omega) only [go_sem]); rfl) rfl ?_ | (refine J _ ?_; clear J K))
  exact ⟨rfl, rfl, rfl⟩
 ·have hf := zhd (f := fun _ => .bool true) hw L hL h
  rw [if_neg h]
  repeat' (first | ((refine zqr fun K J => ?_); (simp (disch := omega) only [go_sem, Nat.reduceBEq, ↓reduceIte, Nat.reduceAdd, hb, hm2, hf])) | refine zqu (by (simp (disch := omega) only [go_sem]); rfl) rfl ?_ | (refine J _ ?_; clear J K))
  unfold zfr
  rw [List.map_append]
  exact ⟨rfl, rfl, rfl⟩
def z71 (M : List Nat) (w : V) (o : HObj) : HObj := if w.num ∈ M then o else cntS w o
theorem zsd (M : List Nat) (w : V) (o : HObj) (h : zk9 o) : zk9 (z71 M w o) := by
 unfold z71
 split
 ·exact h
 ·exact zka w o h
theorem zor (M : List Nat) (l : List V) (i : Nat) (h : i + l.length <= 1000000000) : zaz (z71 M) l (.box 3 [.int .i64 (i : Nat)]) = .box 3 [.int .i64 ((i + l.countP fun w => !decide (w.num ∈ M) : Nat))] := by
 induction l generalizing i with
 | nil => rfl
 | cons w l ih =>
  simp only [List.length_cons] at h
  by_cases hw : w.num ∈ M
  ·show zaz (z71 M) l (z71 M w _) = _
   have e : z71 M w (.box 3 [.int .i64 (i : Nat)]) = .box 3 [.int .i64 (i : Nat)] := if_pos hw
   rw [e, ih i (by omega), List.countP_cons_of_neg (by simp [hw])]
  ·show zaz (z71 M) l (z71 M w _) = _
   have e : z71 M w (.box 3 [.int .i64 (i : Nat)]) = .box 3 [.int .i64 ((i + 1 : Nat))] := by
    unfold z71
    rw [if_neg hw]
    show HObj.box 3 [.int .i64 (IntKind.i64.wrap ((i : Int) + 1))] = _
    rw [zpf (by omega)]; rfl
   rw [e, ih (i + 1) (by omega), List.countP_cons_of_pos (by simp [hw])]
   congr 3
   congr 1
   omega
theorem zwp {M : List Nat} (hw : zcn H w.num) (hM : ∀ j ∈ M, zcn H j) (hb : H b = some (.box 83 [.mp m])) (hm : H m = some (zfr M)) (hk : H k = some o) (ho : zk9 o) : AC Tryz.prog 46 [.ptr w.num 0, .ptr b 0, .ptr k 0] H n fun r H' nx' => r = .tup [] /\ H' = z0d H k (some (z71 M w o)) /\ nx' = n := by
 obtain ⟨i, rfl⟩ := ho
 have hm2 : H m = some (.map (M.map fun j => (.ptr j 0, .bool true))) := hm
 unfold z71
 refine (z16 [] Tryz.func46 rfl (by decide +kernel) z0b (by decide +kernel) (by simp [Tryz.ntmps46]) ?_)
 show awp _ _ (Code.seq _ _) _ _
 by_cases h : w.num ∈ M
 ·obtain ⟨p, hp, hf⟩ := ze2 (x := .bool true) hw M hM h
  rw [if_pos h]
  repeat' (first | ((refine zqh fun K J => ?_); (simp (disch := omega) only [go_sem, Nat.reduceBEq, ↓reduceIte, Nat.reduceAdd, hb, hm2, hf])) | ((refine zqm _ rfl (fun hc => ?_) (fun hc => ?_)) <;> (first | (cases hc; done) | ((try simp only [] at hc); (try (exfalso; omega))))) | refine zqk ?_ | refine zqu (by (simp (disch := omega) only [go_sem]); rfl) rfl ?_ | (refine J _ ?_; clear J K))
  exact ⟨rfl, (zis hk).symm, rfl⟩
 ·have hf := zhd (f := fun _ => .bool true) hw M hM h
  rw [if_neg h]
  repeat' (first | ((first | refine zqh fun K J => ?_ | refine zqr fun K J => ?_); (simp (disch := omega) only [go_sem, Nat.reduceBEq, ↓reduceIte, Nat.reduceAdd, Nat.reduceLeDiff, Nat.reduceLT, hb, hm2, hf, hk])) | ((refine zqm _ rfl (fun hc => ?_) (fun hc => ?_)) <;> (first | (cases hc; done) | ((try simp only [] at hc); (try (exfalso; omega))))) | refine zqu (by (simp (disch := omega) only [go_sem]); rfl) rfl ?_ | (refine J _ ?_; clear J K))
  exact ⟨rfl, rfl, rfl⟩
theorem zdo (hst : Stand H v) {w : V} (hw : w ∈ nodesV v) : zcn H w.num := ⟨_, _, ((z1p H w).1 (z40 v hst w hw)).1⟩
theorem zwq {H4 : HM} {w : V} (hs : szB (treeV w) = true) (hu : Under n w) (hst : Stand H w) (hag : Agree n H H4) (h1 : H4 (n + 1) = some (.box 83 [.mp n])) (h0 : H4 n = some (zfr [])) :
  ∃ M, (∀ x, x ∈ M ↔ x ∈ (nodesV w).map V.num) /\ AC Tryz.prog 42 [.ptr w.num 0, .fn 45 [.ptr (n + 1) 0]] H4 (n + 2) fun r H' nx' => r = .tup [] /\ H' = z0d H4 n (some (zfr M)) /\ nx' = n + 2 := by
 obtain ⟨M, e, hM⟩ := zsc (l := nodesV w) []
 refine ⟨M, fun x => by rw [hM]; simp, ?_⟩
 rw [<- e]
 have hF : ∀ H' : HM, (Agree n H H' /\ H' (n + 1) = some (.box 83 [.mp n])) -> ∀ x ∈ nodesV w, Stand H' x := fun H' h x hx => Stand.agree h.1 x (z2a hu hx) (z40 w hst x hx)
 refine zlw ze7 (zwn (zj0 n H)) (fun H' => Agree n H H' /\ H' (n + 1) = some (.box 83 [.mp n])) (fun H' o h => ⟨fun j hj => by rw [z01 _ (by omega)]; exact h.1 j hj, by rw [z01 _ (by omega)]; exact h.2⟩)
  (fun x => zj0 n H x.num) (fun x o hx h => zoq hx h) w hs (fun x hx => ⟨z2a hu hx _ (z3j x), zdo hst hx⟩) hF (fun x hx H' nx o hux hn hno hko hFH => ?_) H4 (n + 2) (zfr []) (hu.le (by omega)) (by omega) h0 ⟨[], rfl, fun j hj => by cases hj⟩ ⟨hag, h1⟩
 obtain ⟨L, hL, hLb⟩ := hko
 have old : ∀ j, zj0 n H j -> zcn H' j := fun j ⟨hj, e, cs, h⟩ => ⟨e, cs, by rw [hFH.1 j hj]; exact h⟩
 exact ac_Know (old _ ⟨z2a hu hx _ (z3j x), zdo hst hx⟩) hFH.2 hno ⟨L, hL, fun j hj => old j (hLb j hj)⟩
theorem zse {H5 : HM} {M : List Nat} (hs : szB (treeV v) = true) (hcn : (nodesV v).length <= 1000000) (hu : Under n v) (hst : Stand H v) (hag : Agree n H H5) (hM : ∀ j ∈ M, zj0 n H j) (h1 : H5 (n + 1) = some (.box 83 [.mp n])) (h0 : H5 n = some (zfr M)) (h2 : H5 (n + 2) = some (.box 3 [.int .i64 0])) :
  AC Tryz.prog 42 [.ptr v.num 0, .fn 46 [.ptr (n + 1) 0, .ptr (n + 2) 0]] H5 (n + 3) fun r H' nx' => r = .tup [] /\ H' = z0d H5 (n + 2) (some (.box 3 [.int .i64 (((nodesV v).countP fun w => !decide (w.num ∈ M) : Nat))])) /\ nx' = n + 3 := by
 have hfo := zor M (nodesV v) 0 (by omega)
 rw [Nat.zero_add] at hfo
 rw [<- hfo]
 have hF : ∀ H' : HM, (Agree n H H' /\ H' (n + 1) = some (.box 83 [.mp n]) /\ H' n = some (zfr M)) -> ∀ x ∈ nodesV v, Stand H' x := fun H' h x hx => Stand.agree h.1 x (z2a hu hx) (z40 v hst x hx)
 refine zlw (z71 M) zk9 (fun H' => Agree n H H' /\ H' (n + 1) = some (.box 83 [.mp n]) /\ H' n = some (zfr M))
  (fun H' o h => ⟨fun j hj => by rw [z01 _ (by omega)]; exact h.1 j hj, by rw [z01 _ (by omega)]; exact h.2.1, by rw [z01 _ (by omega)]; exact h.2.2⟩)
  (fun _ => True) (fun x o _ h => zsd M x o h) v hs (fun _ _ => trivial) hF (fun x hx H' nx o hux hn hno hko hFH => ?_) H5 (n + 3) _ (hu.le (by omega)) (by omega) h2 ⟨_, rfl⟩ ⟨hag, h1, h0⟩
 have old : ∀ j, zj0 n H j -> zcn H' j := fun j ⟨hj, e, cs, h⟩ => ⟨e, cs, by rw [hFH.1 j hj]; exact h⟩
 exact zwp (old _ ⟨z2a hu hx _ (z3j x), zdo hst hx⟩) (fun j hj => old j (hM j hj)) hFH.2.1 hFH.2.2 hno hko
theorem z7h {tb tb2 : Nat} (hs : szB (treeV v) = true) (hcn : cntT (treeV v) <= 1000000) (htb : tb < n) (hH : H tb = some (treeB (.ptr v.num 0))) (hu : Under n v) (hst : Stand H v)
  (hs2 : szB (treeV w) = true) (htb2 : tb2 < n) (hH2 : H tb2 = some (treeB (.ptr w.num 0))) (hu2 : Under n w) (hst2 : Stand H w) : RC Tryz.prog 21 [.ptr tb 0, .ptr tb2 0] H n (.int .i64 (zw4 v w)) := by
 rw [zn1] at hcn
 have hnb := z3z htb
 have hnb2 := z3z htb2
 refine zlz rfl (z16 [] Tryz.func21 rfl (by decide +kernel) z0b (by decide +kernel) (by simp [Tryz.ntmps21]) ?_)
 show awp _ _ (Code.seq _ _) _ _
 repeat' (first | refine zqj ?_ | ((refine zqh fun K J => ?_); (simp (disch := omega) only [go_sem, Nat.reduceBEq, ↓reduceIte, reduceCtorEq, Nat.reduceAdd, Nat.reduceLeDiff, Nat.reduceLT, hH2, hnb, hnb2, treeB])) | ((refine zqd _ rfl (fun hc => ?_) (fun hc => ?_)) <;> (first | (cases hc; done) | ((try simp only [] at hc); (try (exfalso; omega))))) | (refine J _ ?_; clear J K))
 obtain ⟨M, hM, hac⟩ := zwq (H4 := z0d (z0d (z0d H n (some (.map []))) (n + 1) (some (.box 83 [.nmp]))) (n + 1) (some (.box 83 [.mp n]))) hs2 hu2 hst2 (fun j hj => by rw [z01 _ (by omega), z01 _ (by omega), z01 _ (by omega)]) z29 (by rw [z01 _ (by omega), z01 _ (by omega), z29]; rfl)
 refine z1g (hac.mono fun r' H' n' ⟨e1, e2, e3⟩ => ?_)
 subst e1; subst e3
 have hag1 : Agree n H H' := fun j hj => by rw [e2, z01 _ (by omega), z01 _ (by omega), z01 _ (by omega), z01 _ (by omega)]
 have h1 : H' (n + 1) = some (.box 83 [.mp n]) := by rw [e2, z01 _ (by omega), z29]
 have h0 : H' n = some (zfr M) := by rw [e2, z29]
 have hHt : H' tb = some (.box 78 [.ptr v.num 0]) := (hag1 tb htb).trans hH
 (try (simp (disch := omega) only [go_sem])); repeat' (first | ((refine zqh fun K J => ?_); (simp (disch := omega) only [go_sem, Nat.reduceBEq, ↓reduceIte, reduceCtorEq, Nat.reduceAdd, Nat.reduceLeDiff, Nat.reduceLT, hHt, hnb])) | (refine J _ ?_; clear J K))
 refine z1g ((zse (H := H) (M := M) hs hcn hu hst (fun j hj => ?_) (fun j hj => ?_) ?_ ?_ ?_).mono fun r' H2 n' ⟨e4, e5, e6⟩ => ?_)
 ·(simp (disch := omega) only [go_sem])
  simp (disch := omega) only [z2z]
  exact hag1 j hj
 ·obtain ⟨x, hx, rfl⟩ := List.mem_map.1 ((hM j).1 hj)
  exact ⟨z2a hu2 hx _ (z3j x), zdo hst2 hx⟩
 ·(simp (disch := omega) only [go_sem, hnb])
  exact h1
 ·(simp (disch := omega) only [go_sem, hnb])
  exact h0
 ·(simp (disch := omega) only [go_sem])
 ·subst e4; subst e6
  have hn2 : H2 (n + 2) = some (.box 3 [.int .i64 (((nodesV v).countP fun w => !decide (w.num ∈ M) : Nat))]) := by rw [e5]; exact z29
  have hcp : ((nodesV v).countP fun w => !decide (w.num ∈ M)) = zw4 v w := by
   unfold zw4
   refine List.countP_congr fun x _ => ?_
   have := hM x.num
   simp only [Bool.not_eq_true', decide_eq_false_iff_not, this]
  rw [hcp] at hn2
  (try (simp (disch := omega) only [go_sem])); repeat' (first | ((refine zqh fun K J => ?_); (simp (disch := omega) only [go_sem, Nat.reduceBEq, ↓reduceIte, Nat.reduceAdd, hn2])) | refine zqn ?_ | refine zqu (by (simp (disch := omega) only [go_sem]); rfl) rfl ?_ | (refine J _ ?_; clear J K))
  (simp (disch := omega) only [go_sem, Nat.reduceBEq])
  refine fun j hj => ?_
  rw [e5, z01 _ (by omega)]
  (simp (disch := omega) only [go_sem])
  simp (disch := omega) only [z2z]
  exact hag1 j hj
end
end
section
open Abs Facts Tr
attribute [local irreducible] awp
set_option maxRecDepth 100000
theorem zny {k n : Nat} (h : k < n) : (n == n + 1) = false /\ (n == n + 2) = false /\ (n == n + 3) = false /\ (n == n + 4) = false /\ (n == n + 5) = false /\ (n == n + 6) = false /\ (n == n + 7) = false /\ (n == n + 8) = false /\ (n == n + 9) = false /\ (n + 1 == n) = false /\ (n + 1 == n + 2) = false /\ (n + 1 == n + 3) = false /\ (n + 1 == n + 4) = false /\ (n + 1 == n + 5) = false /\ (n + 1 == n + 6) = false /\ (n + 1 == n + 7) = false /\ (n + 1 == n + 8) = false /\ (n + 1 == n + 9) = false /\ (n + 2 == n) = false /\ (n + 2 == n + 1) = false /\ (n + 2 == n + 3) = false /\ (n + 2 == n + 4) = false /\ (n + 2 == n + 5) = false /\ (n + 2 == n + 6) = false /\ (n + 2 == n + 7) = false /\ (n + 2 == n + 8) = false /\ (n + 2 == n + 9) = false /\ (n + 3 == n) = false /\ (n + 3 == n + 1) = false /\ (n + 3 == n + 2) = false /\ (n + 3 == n + 4) = false /\ (n + 3 == n + 5) = false /\ (n + 3 == n + 6) = false /\ (n + 3 == n + 7) = false /\ (n + 3 == n + 8) = false /\ (n + 3 == n + 9) = false /\ (n + 4 == n) = false /\ (n + 4 == n + 1) = false /\ (n + 4 == n + 2) = false /\ (n + 4 == n + 3) = false /\ (n + 4 == n + 5) = false /\ (n + 4 == n + 6) = false /\ (n + 4 == n + 7) = false /\ (n + 4 == n + 8) = false /\ (n + 4 == n + 9) = false /\ (n + 5 == n) = false /\ (n + 5 == n + 1) = false /\ (n + 5 == n + 2) = false /\ (n + 5 == n + 3) = false /\ (n + 5 == n + 4) = false /\ (n + 5 == n + 6) = false /\ (n + 5 == n + 7) = false /\ (n + 5 == n + 8) = false /\ (n + 5 == n + 9) = false /\ (n + 6 == n) = false /\ (n + 6 == n + 1) = false /\ (n + 6 == n + 2) = false /\ (n + 6 == n + 3) = false /\ (n + 6 == n + 4) = false /\ (n + 6 == n + 5) = false /\ (n + 6 == n + 7) = false /\ (n + 6 == n + 8) = false /\ (n + 6 == n + 9) = false /\ (n + 7 == n) = false /\ (n + 7 == n + 1) = false /\ (n + 7 == n + 2) = false /\ (n + 7 == n + 3) = false /\ (n + 7 == n + 4) = false /\ (n + 7 == n + 5) = false /\ (n + 7 == n + 6) = false /\ (n + 7 == n + 8) = false /\ (n + 7 == n + 9) = false /\ (n + 8 == n) = false /\ (n + 8 == n + 1) = false /\ (n + 8 == n + 2) = false /\ (n + 8 == n + 3) = false /\ (n + 8 == n + 4) = false /\ (n + 8 == n + 5) = false /\ (n + 8 == n + 6) = false /\ (n + 8 == n + 7) = false /\ (n + 8 == n + 9) = false /\ (n + 9 == n) = false /\ (n + 9 == n + 1) = false /\ (n + 9 == n + 2) = false /\ (n + 9 == n + 3) = false /\ (n + 9 == n + 4) = false /\ (n + 9 == n + 5) = false /\ (n + 9 == n + 6) = false /\ (n + 9 == n + 7) = false /\ (n + 9 == n + 8) = false /\ (k == n) = false /\ (n == k) = false /\ (k == n + 1) = false /\ (n + 1 == k) = false /\ (k == n + 2) = false /\ (n + 2 == k) = false /\ (k == n + 3) = false /\ (n + 3 == k) = false /\ (k == n + 4) = false /\ (n + 4 == k) = false /\ (k == n + 5) = false /\ (n + 5 == k) = false /\ (k == n + 6) = false /\ (n + 6 == k) = false /\ (k == n + 7) = false /\ (n + 7 == k) = false /\ (k == n + 8) = false /\ (n + 8 == k) = false /\ (k == n + 9) = false /\ (n + 9 == k) = false := by
 refine ⟨?_, ?_, ?_, ?_, ?_, ?_, ?_, ?_, ?_, ?_, ?_, ?_, ?_, ?_, ?_, ?_, ?_, ?_, ?_, ?_, ?_, ?_, ?_, ?_, ?_, ?_, ?_, ?_, ?_, ?_, ?_, ?_, ?_, ?_, ?_, ?_, ?_, ?_, ?_, ?_, ?_, ?_, ?_, ?_, ?_, ?_, ?_, ?_, ?_, ?_, ?_, ?_, ?_, ?_, ?_, ?_, ?_, ?_, ?_, ?_, ?_, ?_, ?_, ?_, ?_, ?_, ?_, ?_, ?_, ?_, ?_, ?_, ?_, ?_, ?_, ?_, ?_, ?_, ?_, ?_, ?_, ?_, ?_, ?_, ?_, ?_, ?_, ?_, ?_, ?_, ?_, ?_, ?_, ?_, ?_, ?_, ?_, ?_, ?_, ?_, ?_, ?_, ?_, ?_, ?_, ?_, ?_, ?_, ?_, ?_⟩ <;> exact z75 (by omega)
structure UpdOK (e : Int) (u' : T) (made : List Idv) (v : V) (H : HM) (n : Nat) (o : D × HM × Nat) : Prop where
 le : n <= o.2.2
 agree : Agree n H o.2.1
 bad : e ≠ 0 -> o.1 = .tup [.nptr, .int .i64 e]
 good : e = 0 -> ∃ v' t, o.1 = .tup [.ptr t 0, .int .i64 0] /\ n <= t /\ t < o.2.2 /\ o.2.1 t = some (treeB (.ptr v'.num 0)) /\ Stand o.2.1 v' /\ Under o.2.2 v' /\ treeV v' = u' /\ Upd n made v v' /\ n <= v'.num
theorem zdv {v w : V} (hs : szB (treeV v) = true) (hw : w ∈ nodesV v) : w.kids.length <= 1000000 := by
 obtain ⟨_, _, _, _, _, h3, _⟩ := (z2n _).1 (zuw v hs w hw)
 rw [z1a, List.length_map] at h3; exact h3
def zi0 : List D := [.int .i64 0, .int .i64 0, .int .i64 0, .int .i64 0, .str ByteArray.empty, .nil, .nil, .nil]
section
variable {H : HM} {n tb : Nat} {v : V}
theorem zbd (hs : szB (treeV v) = true) (htb : tb < n) (hH : H tb = some (treeB (.ptr v.num 0))) (hu : Under n v) (hst : Stand H v) {st : St} {H2 : HM} {n2 : Nat} (h2 : zc2 st H2 n2) (hle : n <= st.nx) (hag : Agree n H st.H) : RC Tryz.prog 14 [.ptr tb 0] H2 n2 (z0o (treeV v)) := by
 have ha : Agree n H H2 := fun j hj => (h2.2 j (by omega)).trans (hag j hj)
 have := h2.1
 exact zex hs (by omega) (by rw [ha _ htb]; exact hH) (hu.le (by omega)) (Stand.agree ha v hu hst)
theorem zq1 (hs : szB (treeV v) = true) (hcn : cntT (treeV v) <= 1000000) (hd : depT (treeV v) <= 1000000) (hn : (idsT (treeV v)).Nodup) (htb : tb < n) (hH : H tb = some (treeB (.ptr v.num 0))) (hu : Under n v) (hst : Stand H v)
  (x : T) (hsx : szB x = true) (hcx : cntT x <= 1000000) (hdx : depT x <= 1000000) (parent : Idv) (i : Int) :
  Det 48 [.ptr tb 0, z0y parent, .int .i64 i, z0o x] H n (UpdOK (z3o (treeV v) parent i x) (z1y parent (z8b i.toNat x) (treeV v)) (parent :: z3q parent (treeV v)) v H n) := by
 have c1 := zrp (treeV v) x hs hsx hcn hcx hd hdx parent i
 obtain ⟨e, he⟩ : ∃ e, e = z3o (treeV v) parent i x := ⟨_, rfl⟩
 rw [<- he] at c1 ⊢
 generalize (if e ≠ 0 then T.zero else z1y parent (z8b i.toNat x) (treeV v)) = y at c1
 obtain ⟨H3, hH3⟩ : ∃ H3, H3 = z0d (z0d (z0d H n (some (idB parent))) (n + 1) (some (.box 3 [.int .i64 i]))) (n + 2) (some (unitB x)) := ⟨_, rfl⟩
 obtain ⟨H4, hH4⟩ : ∃ H4, H4 = z0d (z0d H3 (n + 3) (some (.box 27 zi0))) (n + 3) (some (unitB y)) := ⟨_, rfl⟩
 have hag3 : Agree n H H3 := fun j hj => by rw [hH3, z01 _ (by omega), z01 _ (by omega), z01 _ (by omega)]
 have hag4 : ∀ j, j < n + 3 -> H4 j = H3 j := fun j hj => by rw [hH4, z01 _ (by omega), z01 _ (by omega)]
 have hnb := z3z htb
 have hat := zeo (e := e) (g := 96) (cap := [.ptr (n + 1) 0, .ptr (n + 2) 0]) (lo := n + 4) (id := parent) (E := insE i.toNat x) (Q := fun w w' => w'.own = w.own /\ ∃ g, treeV g = x /\ (objsV g).Nodup /\ (∀ j ∈ objsV g, n + 4 <= j) /\ w'.kids = zmu i.toNat g w) (H0 := H4) (H := H4) (n := n + 4) (tb := tb) (v := v)
  (by omega) (by rw [hag4 _ (by omega), hag3 _ htb]; exact hH) hs (fun h0 w hw hwi => by
   obtain ⟨_, _, m, hi, hle⟩ := z9n (he.symm.trans h0)
   have hk := hle (treeV w) (by rw [z4h]; exact List.mem_map.2 ⟨w, hw, rfl⟩) (by rw [z23]; exact hwi)
   rw [z1a, List.length_map] at hk
   have hit : i.toNat = m := by rw [hi]; rfl
   refine ⟨do_ins hsx ?_ (by omega) ?_ (by omega) (by omega) (zdv hs hw), zzq⟩
   ·rw [hag4 _ (by omega), hH3, z01 _ (by omega), z29, hit, hi]
   ·rw [hag4 _ (by omega), hH3, z29]) (Nat.le_refl _) (Agree.refl _ _) (Stand.agree (n := n) (fun j hj => by rw [hag4 j (by omega), hag3 j hj]) v hu hst) (hu.le (by omega))
 obtain ⟨o, hac, hok⟩ := hat
 refine ⟨o, ?_, ⟨by have := hok.le; omega, fun j hj => by rw [hok.agree j (by omega), hag4 j (by omega), hag3 j hj], hok.bad, fun h0 => ?_⟩⟩
 ·refine (z16 [11000014, 3000015, 3000016, 3000017, 5000018] Tryz.func48 rfl (by decide +kernel) z0b (by decide +kernel) (by simp [Tryz.ntmps48]) ?_)
  show awp _ _ (Code.seq _ _) _ _
  repeat' (first | ((first | refine zqh fun K J => ?_ | refine zqe (by decide +kernel) fun K J => ?_); (simp (disch := omega) only [go_sem, Nat.reduceBEq, z0y, z0j])) | (refine J _ ?_; clear J K))
  refine zav (fun H2 n2 h2 => zbd hs htb hH hu hst h2 (by (simp (disch := omega) only [go_sem]); omega) fun j hj => by (simp (disch := omega) only [go_sem]); simp (disch := omega) only [z2z]) rfl ?_
  (try (simp (disch := omega) only [go_sem, Nat.reduceBEq, Nat.reduceEqDiff, ↓reduceIte, Nat.reduceAdd, Nat.reduceLeDiff, hnb])); repeat' (first | ((first | refine zqh fun K J => ?_ | refine zqt (c1) ?_); (simp (disch := omega) only [go_sem, Nat.reduceBEq, Nat.reduceEqDiff, ↓reduceIte, Nat.reduceAdd, Nat.reduceLeDiff, hnb])) | (refine J _ ?_; clear J K))
  subst hH4; subst hH3
  refine z1g (hac.mono fun r' H' n' ⟨e1, e2, e3⟩ => ?_)
  rcases hok.shape with ⟨t, hd1⟩ | hd1
  all_goals
   rw [hd1] at e1
   subst e1; subst e2; subst e3
   (try (simp (disch := omega) only [go_sem, Nat.reduceBEq])); repeat' (first | refine zqn ?_ | refine zqu (by (simp (disch := omega) only [go_sem]); rfl) rfl ?_ | (refine J _ ?_; clear J K))
   rw [hd1]
   (simp (disch := omega) only [go_sem, Nat.reduceBEq])
 ·obtain ⟨_, hpm, m, hi, _⟩ := z9n (he.symm.trans h0)
  obtain ⟨v', t, g1, g2, g3, g4, g5, g6, g7⟩ := hok.good h0 hpm
  have hit : i.toNat = m := by rw [hi]; rfl
  have hw0 := he.symm.trans h0
  rw [hi] at hw0
  rw [hit] at g5 ⊢
  obtain ⟨k1, k2, k3⟩ := upd_ins (n := n) (m := n + 4) (lo := n + 4) hw0 hn hu (by omega) (by omega) g5
  exact ⟨v', t, g1, by omega, g3, g4, g6, g7, k1, k2, k3⟩
theorem zzf {u : T} {id : Idv} {name : ByteArray} (h : zl0 u id name = 0) : standsT u = true /\ id ∈ idsT u /\ True := by
 unfold zl0 at h
 split at h
 ·cases h
 rename_i h1
 split at h
 ·cases h
 rename_i h2
 refine ⟨?_, ?_, trivial⟩
 ·cases hs : standsT u with
  | true => rfl
  | false => exact absurd (.inl hs) h1
 ·rw [z2f] at h2
  simpa using h2
theorem zm8 (hs : szB (treeV v) = true) (hcn : cntT (treeV v) <= 1000000) (hd : depT (treeV v) <= 1000000) (hn : (idsT (treeV v)).Nodup) (htb : tb < n) (hH : H tb = some (treeB (.ptr v.num 0))) (hu : Under n v) (hst : Stand H v)
  (id : Idv) (name : ByteArray) (hnm : name.size <= 1000000) :
  Det 51 [.ptr tb 0, z0y id, .str name] H n (UpdOK (zl0 (treeV v) id name) (z1y id (fun q => q.setLabel name) (treeV v)) (id :: z3q id (treeV v)) v H n) := by
 have c1 := zr4 (treeV v) hs hcn hd id name hnm
 obtain ⟨e, he⟩ : ∃ e, e = zl0 (treeV v) id name := ⟨_, rfl⟩
 rw [<- he] at c1 ⊢
 generalize (if e = 0 then z1y id (fun q => q.setLabel name) (treeV v) else T.zero) = y at c1
 obtain ⟨H3, hH3⟩ : ∃ H3, H3 = z0d (z0d H n (some (idB id))) (n + 1) (some (.box 9 [.str name])) := ⟨_, rfl⟩
 obtain ⟨H4, hH4⟩ : ∃ H4, H4 = z0d (z0d H3 (n + 2) (some (.box 27 zi0))) (n + 2) (some (unitB y)) := ⟨_, rfl⟩
 have hag3 : Agree n H H3 := fun j hj => by rw [hH3, z01 _ (by omega), z01 _ (by omega)]
 have hag4 : ∀ j, j < n + 2 -> H4 j = H3 j := fun j hj => by rw [hH4, z01 _ (by omega), z01 _ (by omega)]
 have hnb := z3z htb
 have hat := zeo (e := e) (g := 100) (cap := [.ptr (n + 1) 0]) (lo := n + 3) (id := id) (E := zzn fun q => q.setLabel name) (Q := fun w w' => w'.own = w.own.setLabel name /\ w'.kids = w.kids) (H0 := H4) (H := H4) (n := n + 3) (tb := tb) (v := v)
  (by omega) (by rw [hag4 _ (by omega), hag3 _ htb]; exact hH) hs (fun h0 w hw hwi => ⟨do_rel (by rw [hag4 _ (by omega), hH3, z29]) (by omega), zl2 (f := fun q => q.setLabel name) (fun q => ⟨rfl, rfl⟩)⟩) (Nat.le_refl _) (Agree.refl _ _) (Stand.agree (n := n) (fun j hj => by rw [hag4 j (by omega), hag3 j hj]) v hu hst) (hu.le (by omega))
 obtain ⟨o, hac, hok⟩ := hat
 refine ⟨o, ?_, ⟨by have := hok.le; omega, fun j hj => by rw [hok.agree j (by omega), hag4 j (by omega), hag3 j hj], hok.bad, fun h0 => ?_⟩⟩
 ·refine (z16 [11000012, 3000013, 3000014, 5000015] Tryz.func51 rfl (by decide +kernel) z0b (by decide +kernel) (by simp [Tryz.ntmps51]) ?_)
  show awp _ _ (Code.seq _ _) _ _
  repeat' (first | ((first | refine zqh fun K J => ?_ | refine zqe (by decide +kernel) fun K J => ?_); (simp (disch := omega) only [go_sem, Nat.reduceBEq, z0y, z0j])) | (refine J _ ?_; clear J K))
  refine zav (fun H2 n2 h2 => zbd hs htb hH hu hst h2 (by (simp (disch := omega) only [go_sem]); omega) fun j hj => by (simp (disch := omega) only [go_sem]); simp (disch := omega) only [z2z]) rfl ?_
  (try (simp (disch := omega) only [go_sem, Nat.reduceBEq, Nat.reduceEqDiff, ↓reduceIte, Nat.reduceAdd, Nat.reduceLeDiff, hnb])); repeat' (first | ((first | refine zqh fun K J => ?_ | refine zqt (c1) ?_); (simp (disch := omega) only [go_sem, Nat.reduceBEq, Nat.reduceEqDiff, ↓reduceIte, Nat.reduceAdd, Nat.reduceLeDiff, hnb])) | (refine J _ ?_; clear J K))
  subst hH4; subst hH3
  refine z1g (hac.mono fun r' H' n' ⟨e1, e2, e3⟩ => ?_)
  rcases hok.shape with ⟨t, hd1⟩ | hd1
  all_goals
   rw [hd1] at e1
   subst e1; subst e2; subst e3
   (try (simp (disch := omega) only [go_sem, Nat.reduceBEq])); repeat' (first | refine zqn ?_ | refine zqu (by (simp (disch := omega) only [go_sem]); rfl) rfl ?_ | (refine J _ ?_; clear J K))
   rw [hd1]
   (simp (disch := omega) only [go_sem, Nat.reduceBEq])
 ·obtain ⟨_, hpm, _⟩ := zzf (he.symm.trans h0)
  obtain ⟨v', t, g1, g2, g3, g4, g5, g6, g7⟩ := hok.good h0 hpm
  obtain ⟨k1, k2, k3⟩ := zmi (n := n) (m := n + 3) (f := fun q => q.setLabel name) (fun _ _ => rfl) (fun _ => rfl) hn hu (by omega) g5
  exact ⟨v', t, g1, by omega, g3, g4, g6, g7, k1, k2, k3⟩
theorem z8s (hs : szB (treeV v) = true) (hcn : cntT (treeV v) <= 1000000) (hd : depT (treeV v) <= 1000000) (hn : (idsT (treeV v)).Nodup) (htb : tb < n) (hH : H tb = some (treeB (.ptr v.num 0))) (hu : Under n v) (hst : Stand H v)
  (id : Idv) (l : List Wd) (hl : l.length <= 1000000) (hw : ∀ w ∈ l, w.text.size <= maxLen) :
  Det 33 [.ptr tb 0, z0y id, z0u l] H n (UpdOK (z4g (treeV v) id l) (z1y id (fun q => q.setWords l) (treeV v)) (id :: z3q id (treeV v)) v H n) := by
 have c1 := zl6 (treeV v) hs hcn hd id l hl hw
 obtain ⟨e, he⟩ : ∃ e, e = z4g (treeV v) id l := ⟨_, rfl⟩
 rw [<- he] at c1 ⊢
 generalize (if e = 0 then z1y id (fun q => q.setWords l) (treeV v) else T.zero) = y at c1
 obtain ⟨H3, hH3⟩ : ∃ H3, H3 = z0d (z0d H n (some (idB id))) (n + 1) (some (.box 24 [z0u l])) := ⟨_, rfl⟩
 obtain ⟨H4, hH4⟩ : ∃ H4, H4 = z0d (z0d H3 (n + 2) (some (.box 27 zi0))) (n + 2) (some (unitB y)) := ⟨_, rfl⟩
 have hag3 : Agree n H H3 := fun j hj => by rw [hH3, z01 _ (by omega), z01 _ (by omega)]
 have hag4 : ∀ j, j < n + 2 -> H4 j = H3 j := fun j hj => by rw [hH4, z01 _ (by omega), z01 _ (by omega)]
 have hnb := z3z htb
 have hat := zeo (e := e) (g := 91) (cap := [.ptr (n + 1) 0]) (lo := n + 3) (id := id) (E := zzn fun q => q.setWords l) (Q := fun w w' => w'.own = w.own.setWords l /\ w'.kids = w.kids) (H0 := H4) (H := H4) (n := n + 3) (tb := tb) (v := v)
  (by omega) (by rw [hag4 _ (by omega), hag3 _ htb]; exact hH) hs (fun h0 w hw hwi => ⟨zxp hl (by rw [hag4 _ (by omega), hH3, z29]) (by omega), zl2 (f := fun q => q.setWords l) (fun q => ⟨rfl, rfl⟩)⟩) (Nat.le_refl _) (Agree.refl _ _) (Stand.agree (n := n) (fun j hj => by rw [hag4 j (by omega), hag3 j hj]) v hu hst) (hu.le (by omega))
 obtain ⟨o, hac, hok⟩ := hat
 refine ⟨o, ?_, ⟨by have := hok.le; omega, fun j hj => by rw [hok.agree j (by omega), hag4 j (by omega), hag3 j hj], hok.bad, fun h0 => ?_⟩⟩
 ·refine (z16 [11000012, 3000013, 3000014, 5000015] Tryz.func33 rfl (by decide +kernel) z0b (by decide +kernel) (by simp [Tryz.ntmps33]) ?_)
  show awp _ _ (Code.seq _ _) _ _
  repeat' (first | ((first | refine zqh fun K J => ?_ | refine zqe (by decide +kernel) fun K J => ?_); (simp (disch := omega) only [go_sem, Nat.reduceBEq, z0y, z0j])) | (refine J _ ?_; clear J K))
  refine zav (fun H2 n2 h2 => zbd hs htb hH hu hst h2 (by (simp (disch := omega) only [go_sem]); omega) fun j hj => by (simp (disch := omega) only [go_sem]); simp (disch := omega) only [z2z]) rfl ?_
  (try (simp (disch := omega) only [go_sem, Nat.reduceBEq, Nat.reduceEqDiff, ↓reduceIte, Nat.reduceAdd, Nat.reduceLeDiff, hnb])); repeat' (first | ((first | refine zqh fun K J => ?_ | refine zqt (c1) ?_); (simp (disch := omega) only [go_sem, Nat.reduceBEq, Nat.reduceEqDiff, ↓reduceIte, Nat.reduceAdd, Nat.reduceLeDiff, hnb])) | (refine J _ ?_; clear J K))
  subst hH4; subst hH3
  refine z1g (hac.mono fun r' H' n' ⟨e1, e2, e3⟩ => ?_)
  rcases hok.shape with ⟨t, hd1⟩ | hd1
  all_goals
   rw [hd1] at e1
   subst e1; subst e2; subst e3
   (try (simp (disch := omega) only [go_sem, Nat.reduceBEq])); repeat' (first | refine zqn ?_ | refine zqu (by (simp (disch := omega) only [go_sem]); rfl) rfl ?_ | (refine J _ ?_; clear J K))
   rw [hd1]
   (simp (disch := omega) only [go_sem, Nat.reduceBEq])
 ·obtain ⟨_, hpm, _⟩ := zh8 (he.symm.trans h0)
  obtain ⟨v', t, g1, g2, g3, g4, g5, g6, g7⟩ := hok.good h0 hpm
  obtain ⟨k1, k2, k3⟩ := zmi (n := n) (m := n + 3) (f := fun q => q.setWords l) (fun _ _ => rfl) (fun _ => rfl) hn hu (by omega) g5
  exact ⟨v', t, g1, by omega, g3, g4, g6, g7, k1, k2, k3⟩
theorem zfy (hs : szB (treeV v) = true) (hcn : cntT (treeV v) <= 1000000) (hd : depT (treeV v) <= 1000000) (hn : (idsT (treeV v)).Nodup) (htb : tb < n) (hH : H tb = some (treeB (.ptr v.num 0))) (hu : Under n v) (hst : Stand H v)
  (id : Idv) (l : List Wd) (hl : l.length <= 1000000) (hw : ∀ w ∈ l, w.text.size <= maxLen) :
  Det 52 [.ptr tb 0, z0y id, z0u l] H n (UpdOK (z4g (treeV v) id l) (z1y id (fun q => q.setHead l) (treeV v)) (id :: z3q id (treeV v)) v H n) := by
 have c1 := zh9 (treeV v) hs hcn hd id l hl hw
 obtain ⟨e, he⟩ : ∃ e, e = z4g (treeV v) id l := ⟨_, rfl⟩
 rw [<- he] at c1 ⊢
 generalize (if e = 0 then z1y id (fun q => q.setHead l) (treeV v) else T.zero) = y at c1
 obtain ⟨H3, hH3⟩ : ∃ H3, H3 = z0d (z0d H n (some (idB id))) (n + 1) (some (.box 24 [z0u l])) := ⟨_, rfl⟩
 obtain ⟨H4, hH4⟩ : ∃ H4, H4 = z0d (z0d H3 (n + 2) (some (.box 27 zi0))) (n + 2) (some (unitB y)) := ⟨_, rfl⟩
 have hag3 : Agree n H H3 := fun j hj => by rw [hH3, z01 _ (by omega), z01 _ (by omega)]
 have hag4 : ∀ j, j < n + 2 -> H4 j = H3 j := fun j hj => by rw [hH4, z01 _ (by omega), z01 _ (by omega)]
 have hnb := z3z htb
 have hat := zeo (e := e) (g := 101) (cap := [.ptr (n + 1) 0]) (lo := n + 3) (id := id) (E := zzn fun q => q.setHead l) (Q := fun w w' => w'.own = w.own.setHead l /\ w'.kids = w.kids) (H0 := H4) (H := H4) (n := n + 3) (tb := tb) (v := v)
  (by omega) (by rw [hag4 _ (by omega), hag3 _ htb]; exact hH) hs (fun h0 w hw hwi => ⟨do_head hl (by rw [hag4 _ (by omega), hH3, z29]) (by omega), zl2 (f := fun q => q.setHead l) (fun q => ⟨rfl, rfl⟩)⟩) (Nat.le_refl _) (Agree.refl _ _) (Stand.agree (n := n) (fun j hj => by rw [hag4 j (by omega), hag3 j hj]) v hu hst) (hu.le (by omega))
 obtain ⟨o, hac, hok⟩ := hat
 refine ⟨o, ?_, ⟨by have := hok.le; omega, fun j hj => by rw [hok.agree j (by omega), hag4 j (by omega), hag3 j hj], hok.bad, fun h0 => ?_⟩⟩
 ·refine (z16 [11000012, 3000013, 3000014, 5000015] Tryz.func52 rfl (by decide +kernel) z0b (by decide +kernel) (by simp [Tryz.ntmps52]) ?_)
  show awp _ _ (Code.seq _ _) _ _
  repeat' (first | ((first | refine zqh fun K J => ?_ | refine zqe (by decide +kernel) fun K J => ?_); (simp (disch := omega) only [go_sem, Nat.reduceBEq, z0y, z0j])) | (refine J _ ?_; clear J K))
  refine zav (fun H2 n2 h2 => zbd hs htb hH hu hst h2 (by (simp (disch := omega) only [go_sem]); omega) fun j hj => by (simp (disch := omega) only [go_sem]); simp (disch := omega) only [z2z]) rfl ?_
  (try (simp (disch := omega) only [go_sem, Nat.reduceBEq, Nat.reduceEqDiff, ↓reduceIte, Nat.reduceAdd, Nat.reduceLeDiff, hnb])); repeat' (first | ((first | refine zqh fun K J => ?_ | refine zqt (c1) ?_); (simp (disch := omega) only [go_sem, Nat.reduceBEq, Nat.reduceEqDiff, ↓reduceIte, Nat.reduceAdd, Nat.reduceLeDiff, hnb])) | (refine J _ ?_; clear J K))
  subst hH4; subst hH3
  refine z1g (hac.mono fun r' H' n' ⟨e1, e2, e3⟩ => ?_)
  rcases hok.shape with ⟨t, hd1⟩ | hd1
  all_goals
   rw [hd1] at e1
   subst e1; subst e2; subst e3
   (try (simp (disch := omega) only [go_sem, Nat.reduceBEq])); repeat' (first | refine zqn ?_ | refine zqu (by (simp (disch := omega) only [go_sem]); rfl) rfl ?_ | (refine J _ ?_; clear J K))
   rw [hd1]
   (simp (disch := omega) only [go_sem, Nat.reduceBEq])
 ·obtain ⟨_, hpm, _⟩ := zh8 (he.symm.trans h0)
  obtain ⟨v', t, g1, g2, g3, g4, g5, g6, g7⟩ := hok.good h0 hpm
  obtain ⟨k1, k2, k3⟩ := zmi (n := n) (m := n + 3) (f := fun q => q.setHead l) (fun _ _ => rfl) (fun _ => rfl) hn hu (by omega) g5
  exact ⟨v', t, g1, by omega, g3, g4, g6, g7, k1, k2, k3⟩
theorem zzg (id : Idv) : AC Tryz.prog 98 [z0y id] H n fun r H' n' => r = .fn 151 [.ptr n 0] /\ H' = z0d H n (some (idB id)) /\ n' = n + 1 := by
 refine (z16 [] Tryz.func98 rfl (by decide +kernel) z0b (by decide +kernel) (by simp [Tryz.ntmps98]) ?_)
 show awp _ _ (Code.seq _ _) _ _
 repeat' (first | ((refine zqh fun K J => ?_); (simp (disch := omega) only [go_sem, Nat.reduceBEq, z0y, z0j])) | refine zqn ?_ | refine zqu (by (simp (disch := omega) only [go_sem]); rfl) rfl ?_ | (refine J _ ?_; clear J K))
 (simp (disch := omega) only [go_sem, Nat.reduceBEq])
 rfl
theorem zq2 (hs : szB (treeV v) = true) (hcn : cntT (treeV v) <= 1000000) (hd : depT (treeV v) <= 1000000) (hn : (idsT (treeV v)).Nodup) (htb : tb < n) (hH : H tb = some (treeB (.ptr v.num 0))) (hu : Under n v) (hst : Stand H v) (id : Idv) :
  Det 49 [.ptr tb 0, z0y id] H n (UpdOK (zci (treeV v) id) (z0z id (treeV v)) (z3q id (treeV v)) v H n) := by
 have c1 := zuf (treeV v) hs hcn hd id
 have c2 := zb1 (treeV v) (z6z _ hs) (by omega) id
 obtain ⟨e, he⟩ : ∃ e, e = zci (treeV v) id := ⟨_, rfl⟩
 rw [<- he] at c1 ⊢
 generalize (if e = 0 then z0z id (treeV v) else T.zero) = y at c1
 generalize (if e = 0 then (z08 id (treeV v)).1 else T.zero) = z at c1
 obtain ⟨under, hund⟩ : ∃ under, under = (z7p id (treeV v)).1 := ⟨_, rfl⟩
 rw [<- hund] at c2
 obtain ⟨H1, hH1⟩ : ∃ H1, H1 = z0d (z0d (z0d H n (some (idB id))) (n + 1) (some (.box 27 zi0))) (n + 1) (some (unitB (treeV v))) := ⟨_, rfl⟩
 obtain ⟨H2, hH2⟩ : ∃ H2, H2 = z0d (z0d (z0d (z0d H1 (n + 2) (some (.box 27 zi0))) (n + 3) (some (.box 27 zi0))) (n + 2) (some (unitB y))) (n + 3) (some (unitB z)) := ⟨_, rfl⟩
 obtain ⟨H3, hH3⟩ : ∃ H3, H3 = z0d (z0d H2 (n + 4) (some (.box 23 [.int .i64 0, .int .i64 0, .int .i64 0]))) (n + 4) (some (idB under)) := ⟨_, rfl⟩
 obtain ⟨H4, hH4⟩ : ∃ H4, H4 = z0d H3 (n + 5) (some (idB id)) := ⟨_, rfl⟩
 have hag : ∀ j, j < n -> H4 j = H j := fun j hj => by
  rw [hH4, z01 _ (by omega), hH3, z01 _ (by omega), z01 _ (by omega), hH2, z01 _ (by omega), z01 _ (by omega), z01 _ (by omega), z01 _ (by omega), hH1, z01 _ (by omega), z01 _ (by omega), z01 _ (by omega)]
 have hnb := z3z htb
 have hat := zeo (e := e) (g := 151) (cap := [.ptr (n + 5) 0]) (lo := n + 6) (id := under) (E := outE id) (Q := fun w w' => w'.own = w.own /\ w'.kids = outK id w) (H0 := H4) (H := H4) (n := n + 6) (tb := tb) (v := v)
  (by omega) (by rw [hag _ htb]; exact hH) hs (fun h0 w hw hwi => by
   obtain ⟨_, t2, t3⟩ := zm1 (he.symm.trans h0)
   obtain ⟨u2, q1, q2, q3, q4, ⟨q, q5, q6, k, q7, q8⟩, q9⟩ := zff hn t3 t2
   rw [<- hund] at q1
   subst q1
   have hwq : treeV w = q := z6a (f := T.id) hn _ (by rw [z4h]; exact List.mem_map.2 ⟨w, hw, rfl⟩) _ q5 (by rw [z23, hwi, q6])
   have hk : ∃ k ∈ w.kids, k.own.id = id := by
    rw [<- hwq, z1a] at q7
    obtain ⟨k2, hk2, rfl⟩ := List.mem_map.1 q7
    exact ⟨k2, hk2, by rw [<- z23]; exact q8⟩
   exact ⟨zzc (by rw [hH4, z29]) (by omega) hk (zdv hs hw), zrh hk⟩) (Nat.le_refl _) (Agree.refl _ _) (Stand.agree (n := n) hag v hu hst) (hu.le (by omega))
 obtain ⟨o, hac, hok⟩ := hat
 refine ⟨o, ?_, ⟨by have := hok.le; omega, fun j hj => by rw [hok.agree j (by omega), hag j hj], hok.bad, fun h0 => ?_⟩⟩
 ·have cU := zex hs (n := n + 1) (H := z0d H n (some (idB id))) (tb := tb) (by omega) (by rw [z01 _ (by omega)]; exact hH) (hu.le (by omega)) (Stand.agree (n := n) (fun j hj => z01 _ (by omega)) v hu hst)
  unfold idB at cU
  refine (z16 [3000031, 3000032, 4000033, 10000033, 4000034, 10000034] Tryz.func49 rfl (by decide +kernel) z0b (by decide +kernel) (by simp [Tryz.ntmps49]) ?_)
  show awp _ _ (Code.seq _ _) _ _
  have hnn := zny htb
  repeat' (first | ((first | refine zqh fun K J => ?_ | refine zqe (by decide +kernel) fun K J => ?_ | refine z10 (cU) ?_ | refine zqs (c1) ?_ | refine zqs (c2) ?_); (simp (disch := omega) only [go_sem, Nat.reduceBEq, Nat.reduceEqDiff, ↓reduceIte, Nat.reduceAdd, Nat.reduceLeDiff, hnn, z0y, z0j])) | (refine J _ ?_; clear J K))
  refine z48 (zzg id) rfl rfl rfl ⟨Nat.le_succ _, fun j hj => z01 _ (Nat.ne_of_lt hj)⟩ ?_
  (try (simp (disch := omega) only [go_sem, Nat.reduceBEq])); repeat' skip
  subst hH4; subst hH3; subst hH2; subst hH1
  have hle := hok.le
  refine z48 hac rfl rfl rfl ⟨by (simp (disch := omega) only [go_sem]); omega, fun j hj => hok.agree j hj⟩ ?_
  rcases hok.shape with ⟨t, hd1⟩ | hd1
  all_goals
   rw [hd1]
   (try (simp (disch := omega) only [go_sem, Nat.reduceBEq])); repeat' (first | refine zqn ?_ | refine zqu (by (simp (disch := omega) only [go_sem]); rfl) rfl ?_ | (refine J _ ?_; clear J K))
   rw [hd1]
   (simp (disch := omega) only [go_sem, Nat.reduceBEq])
 ·obtain ⟨_, t2, t3⟩ := zm1 (he.symm.trans h0)
  obtain ⟨u2, q1, q2, q3, q4, _, q9⟩ := zff hn t3 t2
  rw [<- hund] at q1
  subst q1
  obtain ⟨v', t, g1, g2, g3, g4, g5, g6, g7⟩ := hok.good h0 q2
  obtain ⟨k1, k2, k3⟩ := zvl (n := n) (m := n + 6) hn hu (by omega) q9 g5
  exact ⟨v', t, g1, by omega, g3, g4, g6, g7, k1, by rw [q3]; exact k2, k3⟩
end
end
section
open Abs Facts Tr
attribute [local irreducible] awp
set_option maxRecDepth 100000
section
variable {H : HM} {n tb : Nat} {v : V}
theorem zxd (hs : szB (treeV v) = true) (hcn : cntT (treeV v) <= 1000000) (hd : depT (treeV v) <= 1000000) (hn : (idsT (treeV v)).Nodup) (htb : tb < n) (hH : H tb = some (treeB (.ptr v.num 0))) (hu : Under n v) (hst : Stand H v) (id parent : Idv) (i : Int) :
  Det 50 [.ptr tb 0, z0y id, z0y parent, .int .i64 i] H n (UpdOK (za9 (treeV v) id parent i) (z1y parent (z8b i.toNat (z08 id (treeV v)).1) (z0z id (treeV v))) (z3q id (treeV v) ++ parent :: z3q parent (treeV v)) v H n) := by
 have c1 := pc_Move (treeV v) hs hcn hd id parent i
 have c2 := zb1 (treeV v) (z6z _ hs) (by omega) id
 obtain ⟨e, he⟩ : ∃ e, e = za9 (treeV v) id parent i := ⟨_, rfl⟩
 rw [<- he] at c1 ⊢
 generalize (if e = 0 then z1y parent (z8b i.toNat (z08 id (treeV v)).1) (z0z id (treeV v)) else T.zero) = y at c1
 obtain ⟨under, hund⟩ : ∃ under, under = (z7p id (treeV v)).1 := ⟨_, rfl⟩
 rw [<- hund] at c2
 obtain ⟨Ha, hHa⟩ : ∃ Ha, Ha = z0d (z0d (z0d H n (some (idB id))) (n + 1) (some (idB parent))) (n + 2) (some (.box 3 [.int .i64 i])) := ⟨_, rfl⟩
 have hagA : Agree n H Ha := fun j hj => by rw [hHa, z01 _ (by omega), z01 _ (by omega), z01 _ (by omega)]
 have cU := zex hs (n := n + 3) (H := Ha) (tb := tb) (by omega) (by rw [hagA _ htb]; exact hH) (hu.le (by omega)) (Stand.agree hagA v hu hst)
 obtain ⟨H1, hH1⟩ : ∃ H1, H1 = z0d (z0d Ha (n + 3) (some (.box 27 zi0))) (n + 3) (some (unitB (treeV v))) := ⟨_, rfl⟩
 obtain ⟨H2, hH2⟩ : ∃ H2, H2 = z0d (z0d H1 (n + 4) (some (.box 27 zi0))) (n + 4) (some (unitB y)) := ⟨_, rfl⟩
 have hag2 : Agree n H H2 := fun j hj => by
  rw [hH2, z01 _ (by omega), z01 _ (by omega), hH1, z01 _ (by omega), z01 _ (by omega)]; exact hagA j hj
 have hnn := zny htb
 by_cases h0 : e = 0
 ·obtain ⟨m1, m2, m3, m4, m5, m6⟩ := zui (he.symm.trans h0)
  obtain ⟨u2, q1, q2, q3, q4, ⟨q, q5, q6, k, q7, q8⟩, q9⟩ := zff hn m4 m2
  rw [<- hund] at q1
  subst q1
  obtain ⟨x, hxv, hxi, hfx, hrx⟩ : ∃ x ∈ nodesV v, x.own.id = id /\ z87 id v = .ptr x.num 0 /\ z08 id (treeV v) = (treeV x, true) := by
   rcases zgr hn id with ⟨_, hf⟩ | h
   ·have := z2f (id := id) (u := treeV v)
    rw [hf, decide_eq_true m2] at this; cases this
   ·exact h
  obtain ⟨H3, hH3⟩ : ∃ H3, H3 = z0d (z0d H2 (n + 5) (some (.box 23 [.int .i64 0, .int .i64 0, .int .i64 0]))) (n + 5) (some (idB under)) := ⟨_, rfl⟩
  have hag3 : Agree n H H3 := fun j hj => by rw [hH3, z01 _ (by omega), z01 _ (by omega)]; exact hag2 j hj
  have cF : ∀ (H' : HM) (n' : Nat), n <= n' -> Agree n H H' -> RC Tryz.prog 44 [.ptr v.num 0, z0y id] H' n' (.ptr x.num 0) := fun H' n' hle ha => by
   have := ztp id v hs H' n' (hu.le hle) (Stand.agree ha v hu hst)
   rw [hfx] at this; exact this
  obtain ⟨H4, hH4⟩ : ∃ H4, H4 = z0d (z0d H3 (n + 6) (some (.box 75 [.nptr]))) (n + 6) (some (.box 75 [.ptr x.num 0])) := ⟨_, rfl⟩
  obtain ⟨H5, hH5⟩ : ∃ H5, H5 = z0d H4 (n + 7) (some (idB id)) := ⟨_, rfl⟩
  have hag5 : Agree n H H5 := fun j hj => by rw [hH5, z01 _ (by omega), hH4, z01 _ (by omega), z01 _ (by omega)]; exact hag3 j hj
  have hH5a : H5 (n + 2) = some (.box 3 [.int .i64 i]) := by
   rw [hH5, z01 _ (by omega), hH4, z01 _ (by omega), z01 _ (by omega), hH3, z01 _ (by omega), z01 _ (by omega), hH2, z01 _ (by omega), z01 _ (by omega), hH1, z01 _ (by omega), z01 _ (by omega), hHa, z29]
  have hH5p : H5 (n + 1) = some (idB parent) := by
   rw [hH5, z01 _ (by omega), hH4, z01 _ (by omega), z01 _ (by omega), hH3, z01 _ (by omega), z01 _ (by omega), hH2, z01 _ (by omega), z01 _ (by omega), hH1, z01 _ (by omega), z01 _ (by omega), hHa, z01 _ (by omega), z29]
  have hH5b : H5 (n + 6) = some (.box 75 [.ptr x.num 0]) := by rw [hH5, z01 _ (by omega), hH4, z29]
  -- the unit is taken out
  have hat := zeo (e := 0) (g := 151) (cap := [.ptr (n + 7) 0]) (lo := n + 8) (id := under) (E := outE id) (Q := fun w w' => w'.own = w.own /\ w'.kids = outK id w) (H0 := H5) (H := H5) (n := n + 8) (tb := tb) (v := v)
   (by omega) (by rw [hag5 _ htb]; exact hH) hs (fun _ w hw hwi => by
    have hwq : treeV w = q := z6a (f := T.id) hn _ (by rw [z4h]; exact List.mem_map.2 ⟨w, hw, rfl⟩) _ q5 (by rw [z23, hwi, q6])
    have hk : ∃ k ∈ w.kids, k.own.id = id := by
     rw [<- hwq, z1a] at q7
     obtain ⟨k2, hk2, rfl⟩ := List.mem_map.1 q7
     exact ⟨k2, hk2, by rw [<- z23]; exact q8⟩
    exact ⟨zzc (by rw [hH5, z29]) (by omega) hk (zdv hs hw), zrh hk⟩) (Nat.le_refl _) (Agree.refl _ _) (Stand.agree hag5 v hu hst) (hu.le (by omega))
  obtain ⟨o1, hac1, hok1⟩ := hat
  obtain ⟨r, t1, g1, g2, g3, g4, g5, g6, g7⟩ := hok1.good rfl q2
  have hout := zvl (n := n) (m := n + 8) hn hu (by omega) q9 g5
  obtain ⟨⟨_, w2, w3, _⟩, w5, m, hi, hle⟩ := z9n m6
  have hsr : szB (treeV r) = true := by rw [hout.1]; exact zrm _ hs
  have hnr : (idsT (treeV r)).Nodup := by rw [hout.1]; exact z2l (by assumption)
  have hit : i.toNat = m := by rw [hi]; rfl
  have hle1 := hok1.le
  -- and put in
  have hat2 := zeo (e := 0) (g := 99) (cap := [.ptr (n + 2) 0, .ptr (n + 6) 0]) (lo := o1.2.2) (id := parent) (E := movE i.toNat x) (Q := fun w w' => w'.own = w.own /\ w'.kids = zmu i.toNat x w) (H0 := o1.2.1) (H := o1.2.1) (n := o1.2.2) (tb := t1) (v := r)
   (by omega) g4 hsr (fun _ w hw hwi => by
    have hk := hle (treeV w) (by rw [<- hout.1, z4h]; exact List.mem_map.2 ⟨w, hw, rfl⟩) (by rw [z23]; exact hwi)
    rw [z1a, List.length_map] at hk
    have hxs : Stand o1.2.1 x := Stand.agree (n := n) (fun j hj => by rw [hok1.agree j (by omega)]; exact hag5 j hj) x (z2a hu hxv) (z40 v hst x hxv)
    have hxu : Under o1.2.2 x := (z2a hu hxv).le (by omega)
    exact ⟨do_mov (by rw [hok1.agree _ (by omega), hH5a, hit, hi]) (by omega) (by rw [hok1.agree _ (by omega), hH5b]) (by omega) hxs hxu (by omega) (zdv hsr hw), zzp hxs hxu⟩) (Nat.le_refl _) (Agree.refl _ _) g6 g7
  obtain ⟨o2, hac2, hok2⟩ := hat2
  refine ⟨o2, ?_, ⟨by have := hok2.le; omega, fun j hj => by rw [hok2.agree j (by omega), hok1.agree j (by omega)]; exact hag5 j hj, fun h => absurd h0 h, fun _ => ?_⟩⟩
  ·subst h0
   refine (z16 [8000000, 3000042, 3000043, 11000044, 3000047, 3000048, 4000049, 10000049, 4000050, 10000050] Tryz.func50 rfl (by decide +kernel) z0b (by decide +kernel) (by simp [Tryz.ntmps50]) ?_)
   show awp _ _ (Code.seq _ _) _ _
   subst hHa
   unfold idB at cU
   repeat' (first | refine zqj ?_ | ((first | refine zqh fun K J => ?_ | refine zqe (by decide +kernel) fun K J => ?_ | refine z10 (cU) ?_ | refine zqs (c1) ?_ | refine zqs (c2) ?_); (simp (disch := omega) only [go_sem, Nat.reduceBEq, Nat.reduceEqDiff, ↓reduceIte, reduceCtorEq, Nat.reduceAdd, Nat.reduceLeDiff, hH, hnn, treeB, z0y, z0j])) | ((refine zqd _ rfl (fun hc => ?_) (fun hc => ?_)) <;> (first | (cases hc; done) | ((try simp only [] at hc); (try (exfalso; omega))))) | refine zqb ?_ | (refine J _ ?_; clear J K))
   refine zav (fun H' n' h2 => cF H' n' (Nat.le_trans (by (simp (disch := omega) only [go_sem]) <;> omega) h2.1) fun j hj => (h2.2 j (by (simp (disch := omega) only [go_sem]) <;> omega)).trans (by (simp (disch := omega) only [go_sem]); simp (disch := omega) only [z2z])) rfl ?_
   (try (simp (disch := omega) only [go_sem, Nat.reduceBEq, Nat.reduceEqDiff, ↓reduceIte, Nat.reduceAdd, Nat.reduceLeDiff, Nat.reduceLT, hnn])); repeat' (first | ((refine zqe (by decide +kernel) fun K J => ?_); (simp (disch := omega) only [go_sem, Nat.reduceBEq, Nat.reduceEqDiff, ↓reduceIte, Nat.reduceAdd, Nat.reduceLeDiff, hnn])) | (refine J _ ?_; clear J K))
   refine z48 (zzg id) rfl rfl rfl ⟨Nat.le_succ _, fun j hj => z01 _ (Nat.ne_of_lt hj)⟩ ?_
   (try (simp (disch := omega) only [go_sem, Nat.reduceBEq])); repeat' skip
   subst hH5; subst hH4; subst hH3; subst hH2; subst hH1
   refine z48 hac1 rfl rfl rfl ⟨by (simp (disch := omega) only [go_sem]) <;> omega, fun j hj => hok1.agree j hj⟩ ?_
   have f6 := (hok1.agree (n + 1) (by omega)).trans hH5p
   rw [g1]
   (try (simp (disch := omega) only [go_sem, Nat.reduceBEq, idB, z0j])); repeat' (first | ((refine zqh fun K J => ?_); (simp (disch := omega) only [go_sem, Nat.reduceBEq, ↓reduceIte, Nat.reduceAdd, Nat.reduceLeDiff, f6, idB, z0j])) | (refine J _ ?_; clear J K))
   refine z1g (hac2.mono fun r' H' n' ⟨e1, e2, e3⟩ => ?_)
   rcases hok2.shape with ⟨t, hd1⟩ | hd1
   all_goals
    rw [hd1] at e1
    subst e1; subst e2; subst e3
    (try (simp (disch := omega) only [go_sem, Nat.reduceBEq])); repeat' (first | refine zqn ?_ | refine zqu (by (simp (disch := omega) only [go_sem]); rfl) rfl ?_ | (refine J _ ?_; clear J K))
    rw [hd1]
    (simp (disch := omega) only [go_sem, Nat.reduceBEq])
  ·rw [hit] at hok2 ⊢
   obtain ⟨v', t, p1, p2, p3, p4, p5, p6, p7⟩ := hok2.good rfl (by rw [hout.1]; exact w5)
   obtain ⟨k1, k2, k3⟩ := upd_mov (n := n) (m := n + 8) (m2 := o1.2.2) (n2 := o1.2.2) (at_ := m) m1 m4 m2 m3 m5 q3 q2 q4 (by rw [hrx]) hxv hu (by omega) hout hnr g7 (by omega) (Nat.le_refl _) p5
   exact ⟨v', t, p1, by omega, p3, p4, p6, p7, k1, k2, k3⟩
 ·refine ⟨(.tup [.nptr, .int .i64 e], H2, n + 5), ?_, ⟨by simp, hag2, fun _ => rfl, fun h => absurd h h0⟩⟩
  refine (z16 [8000000, 3000042, 3000043, 11000044, 3000047, 3000048, 4000049, 10000049, 4000050, 10000050] Tryz.func50 rfl (by decide +kernel) z0b (by decide +kernel) (by simp [Tryz.ntmps50]) ?_)
  show awp _ _ (Code.seq _ _) _ _
  subst hHa
  unfold idB at cU
  repeat' (first | refine zqj ?_ | ((first | refine zqh fun K J => ?_ | refine z10 (cU) ?_ | refine zqs (c1) ?_); (simp (disch := omega) only [go_sem, Nat.reduceBEq, ↓reduceIte, Nat.reduceAdd, Nat.reduceLeDiff, hnn, z0y, z0j])) | ((refine zqd _ rfl (fun hc => ?_) (fun hc => ?_)) <;> (((try simp only [z0e] at hc); (try (exfalso; omega))))) | refine zqg ?_ | refine zqu (by (simp (disch := omega) only [go_sem]); rfl) rfl ?_ | (refine J _ ?_; clear J K))
  (simp (disch := omega) only [go_sem, Nat.reduceBEq])
  rw [hH2, hH1]
  rfl
end
end
section
open Abs Facts Tr
namespace Tr
theorem zzs {s : ByteArray} (h : z3v s = true) : s.size <= 7 := by
 unfold z3v at h
 simp only [Bool.and_eq_true, decide_eq_true_eq] at h
 omega
theorem zrq {l : List Wd} (h : zkz l = true) : l.length <= 256 /\ ∀ w ∈ l, w.text.size <= 24 := by
 unfold zkz at h
 simp only [Bool.and_eq_true, decide_eq_true_eq, List.all_eq_true] at h
 refine ⟨h.1, fun w hw => ?_⟩
 have := h.2 w hw
 unfold z6r at this
 simp only [Bool.and_eq_true, decide_eq_true_eq] at this
 omega
theorem zwf : ∀ t : T, z33 t = true -> szB t = true := by
 refine z5s fun t ih h => ?_
 rw [z4s] at h
 simp only [Bool.and_eq_true, List.all_eq_true] at h
 obtain ⟨ha, _, hk, _⟩ := h
 unfold z3s at ha
 simp only [Bool.and_eq_true, decide_eq_true_eq] at ha
 obtain ⟨_, h1, h2, h3, h4⟩ := ha
 obtain ⟨a1, a2⟩ := zrq h2
 obtain ⟨b1, b2⟩ := zrq h3
 refine (z2n t).2 ⟨?_, by omega, fun w hw => by have := a2 w hw; omega, by omega, fun w hw => by have := b2 w hw; omega, by omega, fun k hk' => ih k hk' (hk k hk')⟩
 split at h4
 ·simp only [Bool.and_eq_true, decide_eq_true_eq] at h4
  rw [h4.1]; decide
 ·have := zzs h4; omega
theorem z8d {t : T} (h : standsT t = true) : szB t = true /\ cntT t <= 1024 /\ depT t <= 8 :=
 ⟨zwf t ((z2p t).1 h).1, ((z2p t).1 h).2.2.1, ((z2p t).1 h).2.1⟩
end Tr
end
section
open Abs Facts Tr
attribute [local irreducible] awp
set_option maxRecDepth 100000
structure Up where
 kind : Int
 id : Idv
 parent : Idv
 at_ : Int
 x : T
 label : ByteArray
 w : List Wd
def zi7 (o : Up) : List D := .int .u8 o.kind :: .int .i64 o.id.act :: .int .i64 o.id.item :: .int .i64 o.id.n :: .int .i64 o.parent.act :: .int .i64 o.parent.item :: .int .i64 o.parent.n :: .int .i64 o.at_ :: (z0g o.x ++ [.str o.label, z0u o.w])
def zi8 (o : Up) : D := .agg (zi7 o)
theorem zr1 (o : Up) : zi7 o = [.int .u8 o.kind, .int .i64 o.id.act, .int .i64 o.id.item, .int .i64 o.id.n, .int .i64 o.parent.act, .int .i64 o.parent.item, .int .i64 o.parent.n, .int .i64 o.at_, .int .i64 o.x.id.act, .int .i64 o.x.id.item, .int .i64 o.x.id.n, .int .i64 o.x.kind, .str o.x.label, z0u o.x.head, z0u o.x.words, z1b o.x.kids, .str o.label, z0u o.w] := by
 unfold zi7; rw [z0l]; rfl
structure UpIn (o : Up) : Prop where
 ft : fitB o.x = true
 lb : o.label.size <= maxLen
 wl : o.w.length <= maxLen
 wt : ∀ w ∈ o.w, w.text.size <= maxLen
 at_ : -9223372036854775808 <= o.at_ /\ o.at_ <= 9223372036854775807
 k0 : 0 <= o.kind /\ o.kind <= 255
structure UpOK (o : Up) : Prop where
 sz : szB o.x = true
 cn : cntT o.x <= 12
 dp : depT o.x <= 20
 lb : o.label.size <= 40
 wl : o.w.length <= 20
 wt : ∀ w ∈ o.w, w.text.size <= maxLen
 at_ : -9223372036854775808 <= o.at_ /\ o.at_ <= 9223372036854775807
 k0 : 0 <= o.kind /\ o.kind <= 255
def opE (u : T) (o : Up) : Int := if o.kind = 0 then z3o u o.parent o.at_ o.x else if o.kind = 1 then zci u o.id else if o.kind = 2 then za9 u o.id o.parent o.at_ else if o.kind = 3 then zl0 u o.id o.label else if o.kind = 4 \/ o.kind = 5 then z4g u o.id o.w else 1
def opT (u : T) (o : Up) : T := if o.kind = 0 then z1y o.parent (z8b o.at_.toNat o.x) u else if o.kind = 1 then z0z o.id u else if o.kind = 2 then z1y o.parent (z8b o.at_.toNat (z08 o.id u).1) (z0z o.id u) else if o.kind = 3 then z1y o.id (fun q => q.setLabel o.label) u else if o.kind = 4 then z1y o.id (fun q => q.setWords o.w) u else if o.kind = 5 then z1y o.id (fun q => q.setHead o.w) u else u
def opM (u : T) (o : Up) : List Idv := if o.kind = 0 then o.parent :: z3q o.parent u else if o.kind = 1 then z3q o.id u else if o.kind = 2 then z3q o.id u ++ o.parent :: z3q o.parent u else o.id :: z3q o.id u
end
end Go.Proofs.YtmnabhhdiinfaaaGreatDoor
namespace Go.Proofs.YtmnabhhdiinfaaaGreatDoor.Glue
open Go.ChangeShapes Go.WideShapes Go.ChangeAt Go.RowKit Abs Facts Tr
set_option maxRecDepth 100000
section
variable {H : Type} {enc : TypeId × Value -> H} {W : World} {base : Nat} {r : Reach} {b0 : Nat} {spare : Nat -> Bool} {held : Bool} {v : Value} {d : DataW H} {p : List MemPlace}
end
end Go.Proofs.YtmnabhhdiinfaaaGreatDoor.Glue
namespace Go.Proofs.YtmnabhhdiinfaaaGreatDoor
section
open Abs Facts Tr
attribute [local irreducible] awp
set_option maxRecDepth 100000
section
variable {x : Vn} {o : Up}
end
section
variable {H : HM} {n tb : Nat} {v : V} {o : Up}
theorem det_do (hs : standsT (treeV v) = true) (htb : tb < n) (hH : H tb = some (treeB (.ptr v.num 0))) (hu : Under n v) (hst : Stand H v) (ho : UpOK o) :
  Det 23 [.ptr tb 0, zi8 o] H n (UpdOK (opE (treeV v) o) (opT (treeV v) o) (opM (treeV v) o) v H n) := by
 obtain ⟨hz, hcn, hd⟩ := z8d hs
 have hn := z2l hs
 have hcu := zr1 o
 obtain ⟨H1, hH1⟩ : ∃ H1, H1 = z0d H n (some (.box 53 (zi7 o))) := ⟨_, rfl⟩
 have hag : Agree n H H1 := fun j hj => by rw [hH1]; exact z01 _ (by omega)
 have hH' : H1 tb = some (treeB (.ptr v.num 0)) := by rw [hag _ htb]; exact hH
 have hu' : Under (n + 1) v := hu.le (by omega)
 have hst' : Stand H1 v := Stand.agree hag v hu hst
 have hb1 := ho.lb
 have hb2 := ho.wl
 have hb3 := ho.dp
 have hb4 := ho.cn
 have zrc : ∀ {e : Int} {u' : T} {m : List Idv} {r : D × HM × Nat}, UpdOK e u' m v H1 (n + 1) r -> UpdOK e u' m v H n r := fun {e u' m r} h => by
  refine ⟨by have := h.le; omega, fun j hj => by rw [h.agree j (by omega), hag j hj], h.bad, fun h0 => ?_⟩
  obtain ⟨v', t, p1, p2, p3, p4, p5, p6, p7, p8, p9⟩ := h.good h0
  refine ⟨v', t, p1, by omega, p3, p4, p5, p6, p7, fun a ha => ?_, by omega⟩
  rcases p8 a ha with ⟨q1, q2, q3⟩ | ⟨q1, q2⟩
  ·exact .inl ⟨z3w hu a q2, q2, q3⟩
  ·exact .inr ⟨by omega, q2⟩
 unfold opE opT opM
 have shape : ∀ {e : Int} {u' : T} {m : List Idv} {r : D × HM × Nat}, UpdOK e u' m v H1 (n + 1) r -> (∃ t, r.1 = .tup [.ptr t 0, .int .i64 e]) \/ r.1 = .tup [.nptr, .int .i64 e] := fun {e u' m r} h => by
  by_cases h0 : e = 0
  ·obtain ⟨v', t, p1, _⟩ := h.good h0
   exact .inl ⟨t, by rw [p1, h0]⟩
  ·exact .inr (h.bad h0)
 by_cases k0 : o.kind = 0
 ·simp only [if_pos k0]
  obtain ⟨r, hac, hok⟩ := zq1 hz (by omega) (by omega) hn (by omega) hH' hu' hst' o.x ho.sz (by omega) (by omega) o.parent o.at_
  refine ⟨r, ?_, zrc hok⟩
  rw [z0o, z0l] at hac
  refine (z16 [] Tryz.func23 rfl (by decide +kernel) z0b (by decide +kernel) (by simp [Tryz.ntmps23]) ?_)
  show awp _ _ (Code.seq _ _) _ _
  subst hH1
  rw [hcu, k0] at hac
  repeat' (first | refine zqj ?_ | ((refine zqh fun K J => ?_); (simp (disch := omega) only [go_sem, Nat.reduceBEq, ↓reduceIte, reduceCtorEq, Nat.reduceAdd, Nat.reduceLeDiff, zi8, hcu, k0, z0u])) | ((refine zqm _ rfl (fun hc => ?_) (fun hc => ?_)) <;> (first | (cases hc; done) | ((try simp only [] at hc); (try (exfalso; omega))))) | refine zqa ?_ | (refine J _ ?_; clear J K))
  refine z1g (hac.mono fun r' H' n' ⟨e1, e2, e3⟩ => ?_)
  rcases shape hok with ⟨t, hd1⟩ | hd1
  all_goals
   rw [hd1] at e1
   subst e1; subst e2; subst e3
   (try (simp (disch := omega) only [go_sem, Nat.reduceBEq])); repeat' (first | refine zqn ?_ | refine zqx ?_ | refine z8n ?_ | refine zqu (by (simp (disch := omega) only [go_sem]); rfl) rfl ?_ | (refine J _ ?_; clear J K))
   rw [hd1]
   (simp (disch := omega) only [go_sem, Nat.reduceBEq])
 by_cases k1 : o.kind = 1
 ·simp only [if_neg k0, if_pos k1]
  obtain ⟨r, hac, hok⟩ := zq2 hz (by omega) (by omega) hn (by omega) hH' hu' hst' o.id
  refine ⟨r, ?_, zrc hok⟩
  refine (z16 [] Tryz.func23 rfl (by decide +kernel) z0b (by decide +kernel) (by simp [Tryz.ntmps23]) ?_)
  show awp _ _ (Code.seq _ _) _ _
  subst hH1
  rw [hcu, k1] at hac
  repeat' (first | refine zqj ?_ | ((refine zqh fun K J => ?_); (simp (disch := omega) only [go_sem, Nat.reduceBEq, ↓reduceIte, reduceCtorEq, Nat.reduceAdd, Nat.reduceLeDiff, Int.reduceEq, zi8, hcu, k1, z0u])) | ((refine zqm _ rfl (fun hc => ?_) (fun hc => ?_)) <;> (first | (cases hc; done) | ((try simp only [] at hc); (try (exfalso; omega))))) | refine zqa ?_ | (refine J _ ?_; clear J K))
  refine z1g (hac.mono fun r' H' n' ⟨e1, e2, e3⟩ => ?_)
  rcases shape hok with ⟨t, hd1⟩ | hd1
  all_goals
   rw [hd1] at e1
   subst e1; subst e2; subst e3
   (try (simp (disch := omega) only [go_sem, Nat.reduceBEq])); repeat' (first | refine zqn ?_ | refine zqx ?_ | refine z8n ?_ | refine zqu (by (simp (disch := omega) only [go_sem]); rfl) rfl ?_ | (refine J _ ?_; clear J K))
   rw [hd1]
   (simp (disch := omega) only [go_sem, Nat.reduceBEq])
 by_cases k2 : o.kind = 2
 ·simp only [if_neg k0, if_neg k1, if_pos k2]
  obtain ⟨r, hac, hok⟩ := zxd hz (by omega) (by omega) hn (by omega) hH' hu' hst' o.id o.parent o.at_
  refine ⟨r, ?_, zrc hok⟩
  refine (z16 [] Tryz.func23 rfl (by decide +kernel) z0b (by decide +kernel) (by simp [Tryz.ntmps23]) ?_)
  show awp _ _ (Code.seq _ _) _ _
  subst hH1
  rw [hcu, k2] at hac
  repeat' (first | refine zqj ?_ | ((refine zqh fun K J => ?_); (simp (disch := omega) only [go_sem, Nat.reduceBEq, ↓reduceIte, reduceCtorEq, Nat.reduceAdd, Nat.reduceLeDiff, Int.reduceEq, zi8, hcu, k2, z0u])) | ((refine zqm _ rfl (fun hc => ?_) (fun hc => ?_)) <;> (first | (cases hc; done) | ((try simp only [] at hc); (try (exfalso; omega))))) | refine zqa ?_ | (refine J _ ?_; clear J K))
  refine z1g (hac.mono fun r' H' n' ⟨e1, e2, e3⟩ => ?_)
  rcases shape hok with ⟨t, hd1⟩ | hd1
  all_goals
   rw [hd1] at e1
   subst e1; subst e2; subst e3
   (try (simp (disch := omega) only [go_sem, Nat.reduceBEq])); repeat' (first | refine zqn ?_ | refine zqx ?_ | refine z8n ?_ | refine zqu (by (simp (disch := omega) only [go_sem]); rfl) rfl ?_ | (refine J _ ?_; clear J K))
   rw [hd1]
   (simp (disch := omega) only [go_sem, Nat.reduceBEq])
 by_cases k3 : o.kind = 3
 ·simp only [if_neg k0, if_neg k1, if_neg k2, if_pos k3]
  obtain ⟨r, hac, hok⟩ := zm8 hz (by omega) (by omega) hn (by omega) hH' hu' hst' o.id o.label (by omega)
  refine ⟨r, ?_, zrc hok⟩
  refine (z16 [] Tryz.func23 rfl (by decide +kernel) z0b (by decide +kernel) (by simp [Tryz.ntmps23]) ?_)
  show awp _ _ (Code.seq _ _) _ _
  subst hH1
  rw [hcu, k3] at hac
  repeat' (first | refine zqj ?_ | ((refine zqh fun K J => ?_); (simp (disch := omega) only [go_sem, Nat.reduceBEq, ↓reduceIte, reduceCtorEq, Nat.reduceAdd, Nat.reduceLeDiff, Int.reduceEq, zi8, hcu, k3, z0u])) | ((refine zqm _ rfl (fun hc => ?_) (fun hc => ?_)) <;> (first | (cases hc; done) | ((try simp only [] at hc); (try (exfalso; omega))))) | refine zqa ?_ | (refine J _ ?_; clear J K))
  refine z1g (hac.mono fun r' H' n' ⟨e1, e2, e3⟩ => ?_)
  rcases shape hok with ⟨t, hd1⟩ | hd1
  all_goals
   rw [hd1] at e1
   subst e1; subst e2; subst e3
   (try (simp (disch := omega) only [go_sem, Nat.reduceBEq])); repeat' (first | refine zqn ?_ | refine zqx ?_ | refine z8n ?_ | refine zqu (by (simp (disch := omega) only [go_sem]); rfl) rfl ?_ | (refine J _ ?_; clear J K))
   rw [hd1]
   (simp (disch := omega) only [go_sem, Nat.reduceBEq])
 by_cases k4 : o.kind = 4
 ·simp only [if_neg k0, if_neg k1, if_neg k2, if_neg k3, if_pos k4, if_pos (Or.inl (b := o.kind = 5) k4)]
  obtain ⟨r, hac, hok⟩ := z8s hz (by omega) (by omega) hn (by omega) hH' hu' hst' o.id o.w (by omega) ho.wt
  refine ⟨r, ?_, zrc hok⟩
  refine (z16 [] Tryz.func23 rfl (by decide +kernel) z0b (by decide +kernel) (by simp [Tryz.ntmps23]) ?_)
  show awp _ _ (Code.seq _ _) _ _
  subst hH1
  rw [hcu, k4] at hac
  repeat' (first | refine zqj ?_ | ((refine zqh fun K J => ?_); (simp (disch := omega) only [go_sem, Nat.reduceBEq, ↓reduceIte, reduceCtorEq, Nat.reduceAdd, Nat.reduceLeDiff, Int.reduceEq, zi8, hcu, k4, z0u])) | ((refine zqm _ rfl (fun hc => ?_) (fun hc => ?_)) <;> (first | (cases hc; done) | ((try simp only [] at hc); (try (exfalso; omega))))) | refine zqa ?_ | (refine J _ ?_; clear J K))
  refine z1g (hac.mono fun r' H' n' ⟨e1, e2, e3⟩ => ?_)
  rcases shape hok with ⟨t, hd1⟩ | hd1
  all_goals
   rw [hd1] at e1
   subst e1; subst e2; subst e3
   (try (simp (disch := omega) only [go_sem, Nat.reduceBEq])); repeat' (first | refine zqn ?_ | refine zqx ?_ | refine z8n ?_ | refine zqu (by (simp (disch := omega) only [go_sem]); rfl) rfl ?_ | (refine J _ ?_; clear J K))
   rw [hd1]
   (simp (disch := omega) only [go_sem, Nat.reduceBEq])
 by_cases k5 : o.kind = 5
 ·simp only [if_neg k0, if_neg k1, if_neg k2, if_neg k3, if_neg k4, if_pos k5, if_pos (Or.inr (a := o.kind = 4) k5)]
  obtain ⟨r, hac, hok⟩ := zfy hz (by omega) (by omega) hn (by omega) hH' hu' hst' o.id o.w (by omega) ho.wt
  refine ⟨r, ?_, zrc hok⟩
  refine (z16 [] Tryz.func23 rfl (by decide +kernel) z0b (by decide +kernel) (by simp [Tryz.ntmps23]) ?_)
  show awp _ _ (Code.seq _ _) _ _
  subst hH1
  rw [hcu, k5] at hac
  repeat' (first | refine zqj ?_ | ((refine zqh fun K J => ?_); (simp (disch := omega) only [go_sem, Nat.reduceBEq, ↓reduceIte, reduceCtorEq, Nat.reduceAdd, Nat.reduceLeDiff, Int.reduceEq, zi8, hcu, k5, z0u])) | ((refine zqm _ rfl (fun hc => ?_) (fun hc => ?_)) <;> (first | (cases hc; done) | ((try simp only [] at hc); (try (exfalso; omega))))) | refine zqa ?_ | (refine J _ ?_; clear J K))
  refine z1g (hac.mono fun r' H' n' ⟨e1, e2, e3⟩ => ?_)
  rcases shape hok with ⟨t, hd1⟩ | hd1
  all_goals
   rw [hd1] at e1
   subst e1; subst e2; subst e3
   (try (simp (disch := omega) only [go_sem, Nat.reduceBEq])); repeat' (first | refine zqn ?_ | refine zqx ?_ | refine z8n ?_ | refine zqu (by (simp (disch := omega) only [go_sem]); rfl) rfl ?_ | (refine J _ ?_; clear J K))
   rw [hd1]
   (simp (disch := omega) only [go_sem, Nat.reduceBEq])
 ·simp only [if_neg k0, if_neg k1, if_neg k2, if_neg k3, if_neg k4, if_neg k5, if_neg (show ¬ (o.kind = 4 \/ o.kind = 5) from fun h => h.elim k4 k5)]
  refine ⟨(.tup [.nptr, .int .i64 1], H1, n + 1), ?_, ⟨by simp, hag, fun _ => rfl, fun h => by cases h⟩⟩
  refine (z16 [] Tryz.func23 rfl (by decide +kernel) z0b (by decide +kernel) (by simp [Tryz.ntmps23]) ?_)
  show awp _ _ (Code.seq _ _) _ _
  rw [hH1, hcu]
  repeat' (first | refine zqj ?_ | ((refine zqh fun K J => ?_); (simp (disch := omega) only [go_sem, Nat.reduceBEq, ↓reduceIte, reduceCtorEq, Nat.reduceAdd, zi8, hcu, k0, k1, k2, k3, k4, k5, z0u])) | ((refine zqm _ rfl (fun hc => ?_) (fun hc => ?_)) <;> (first | (cases hc; done) | ((try simp only [] at hc); (try (exfalso; omega))))) | refine zqa ?_ | refine zqk ?_ | refine zqn ?_ | refine zqv ?_ | refine zqy ?_ | refine zqu (by (simp (disch := omega) only [go_sem]); rfl) rfl ?_ | (refine J _ ?_; clear J K))
  (simp (disch := omega) only [go_sem, Nat.reduceBEq])
  rfl
end
end
section
open Abs Facts Tr
structure Inv (b : Nat -> Int) (m : Int) (H : HM) (nx : Nat) (a : List (Nat × V)) (x : List Vn) : Prop where
 len : x.length = a.length
 tr : ∀ p ∈ a, p.1 < nx /\ H p.1 = some (treeB (.ptr p.2.num 0)) /\ Stand H p.2 /\ Under nx p.2 /\ standsT (treeV p.2) = true
 fit : ∀ i (h : i < a.length), Fits b a[i].2 (x[i]'(by omega))
 ap : Apart b (a.map (·.2))
 lt : ∀ p ∈ a, ∀ n ∈ nodesV p.2, b n.num < m
theorem zv8 {b : Nat -> Int} {S S' : List V} (h : Apart b S) (hs : ∀ v ∈ S', v ∈ S) : Apart b S' :=
 ⟨fun v hv w hw => h.key v (hs v hv) w (hs w hw), fun v hv w hw => h.same v (hs v hv) w (hs w hw)⟩
theorem inv_new {u : T} {H : HM} {nx : Nat} {v : V} {t : Nat} (h1 : t < nx) (h2 : H t = some (treeB (.ptr v.num 0))) (h3 : Stand H v) (h4 : Under nx v) (h5 : treeV v = u) (hs : standsT u = true) : Inv (fun _ => 0) 1 H nx [(t, v)] [ofV u 0] := by
 have hn := z2l hs
 refine ⟨rfl, fun p hp => ?_, fun i hi => ?_, ⟨fun p hp q hq x hx y hy hid _ => ?_, fun p hp q hq x hx y hy he => ?_⟩, fun p hp n _ => by decide⟩
 ·rw [List.mem_singleton] at hp
  subst hp
  exact ⟨h1, h2, h3, h4, by rw [h5]; exact hs⟩
 ·have hi0 : i = 0 := by simp at hi; omega
  subst hi0
  refine ⟨h5, ?_, ?_, fun w _ => Int.le_refl _⟩
  ·show (ofV u 0).l = _
   unfold ofV
   rw [<- h5, z3i, List.map_map]
   rfl
  ·show ((nodesV v).map fun w => w.own.id).Nodup
   rw [<- z3i, h5]; exact hn
 ·simp only [List.map_cons, List.map_nil, List.mem_singleton] at hp hq
  rw [hp] at hx; rw [hq] at hy
  have hd : ((nodesV v).map fun w => w.own.id).Nodup := by rw [<- z3i, h5]; exact hn
  rw [z6a hd x hx y hy hid]
 ·simp only [List.map_cons, List.map_nil, List.mem_singleton] at hp hq
  rw [hp] at hx; rw [hq] at hy
  exact zgy h3 h3 hx hy he
theorem zyl {b : Nat -> Int} {m : Int} {H H' : HM} {nx nx' : Nat} {a : List (Nat × V)} {x : List Vn} (h : Inv b m H nx a x) (ha : Agree nx H H') (hn : nx <= nx') : Inv b m H' nx' a x :=
 ⟨h.len, fun p hp => by
  obtain ⟨h1, h2, h3, h4, h5⟩ := h.tr p hp
  exact ⟨by omega, by rw [ha _ h1]; exact h2, Stand.agree ha _ h4 h3, h4.le hn, h5⟩, h.fit, h.ap, h.lt⟩
theorem zv9 {H : HM} : ∀ v : V, Stand H v -> ∀ j ∈ objsV v, (∃ cs, H j = some (.box 117 cs)) \/ ∃ n cs, H j = some (.row 75 n cs) := by
 refine zbz fun v ih hs j hj => ?_
 obtain ⟨s1, s2, s3⟩ := (z1p H v).1 hs
 rw [z6g, List.mem_cons, List.mem_append] at hj
 rcases hj with rfl | hj | hj
 ·exact .inl ⟨_, s1⟩
 ·unfold zhb at s2
  cases hr : v.row with
  | none => rw [hr] at hj; cases hj
  | some r =>
   rw [hr] at hj s2
   simp only [Option.toList_some, List.mem_singleton] at hj
   subst hj
   exact .inr ⟨_, _, s2⟩
 ·obtain ⟨k, hk, hj⟩ := List.mem_flatMap.1 hj
  exact ih k hk (s3 k hk) j hj
theorem zo1 {b : Nat -> Int} {m : Int} {H : HM} {nx : Nat} {a : List (Nat × V)} {x : List Vn} (h : Inv b m H nx a x) (hm : 0 <= m) {i : Nat} (hi : i < a.length) {u' : T} {made : List Idv} {o : D × HM × Nat} {v' : V} {t : Nat} (hu' : standsT u' = true)
  (hle : nx <= o.2.2) (hag : Agree nx H o.2.1) (ht : t < o.2.2) (hH : o.2.1 t = some (treeB (.ptr v'.num 0))) (hst : Stand o.2.1 v') (hun : Under o.2.2 v') (htr : treeV v' = u') (hupd : Upd nx made a[i].2 v') :
  Inv (byU b nx m) (m + 1) o.2.1 o.2.2 (a ++ [(t, v')]) (x ++ [zd5 (x[i]'(by have := h.len; omega)) u' made m]) := by
 have hk := zyl h hag hle
 have hlen := h.len
 have hnum : ∀ p ∈ a, ∀ w ∈ nodesV p.2, w.num < nx := fun p hp w hw => z3w (h.tr p hp).2.2.2.1 w hw
 have hd : ((nodesV v').map fun w => w.own.id).Nodup := by rw [<- z3i, htr]; exact z2l hu'
 refine ⟨by simp [hlen], fun p hp => ?_, fun k hk2 => ?_, ?_, fun p hp w hw => ?_⟩
 ·rcases List.mem_append.1 hp with hp | hp
  ·exact hk.tr p hp
  ·rw [List.mem_singleton] at hp; subst hp
   exact ⟨ht, hH, hst, hun, by rw [htr]; exact hu'⟩
 ·rw [List.length_append, List.length_singleton] at hk2
  by_cases hkl : k < a.length
  ·have e1 : (a ++ [(t, v')])[k] = a[k] := List.getElem_append_left hkl
   have e2 : (x ++ [zd5 (x[i]'(by omega)) u' made m])[k]'(by simp; omega) = x[k]'(by omega) := List.getElem_append_left (by omega)
   rw [e2]
   simp only [e1]
   exact zvi (fun w hw => hnum _ (List.getElem_mem hkl) w hw) (h.fit k hkl)
  ·have hkl2 : k = a.length := by omega
   subst hkl2
   have e1 : (a ++ [(t, v')])[a.length] = (t, v') := by simp
   have e2 : (x ++ [zd5 (x[i]'(by omega)) u' made m])[a.length]'(by simp; omega) = zd5 (x[i]'(by omega)) u' made m := by
    rw [List.getElem_append_right (by omega)]; simp [hlen]
   rw [e2]
   simp only [e1]
   rw [<- htr]
   exact zyt hm hupd (h.fit i hi) hd
 ·refine zv8 (zvj (made := made) (v := a[i].2) (v' := v') h.ap (List.mem_map.2 ⟨_, List.getElem_mem hi, rfl⟩) (fun w hw n hn => ?_) hupd hd (fun y hy z hz e => zgy hst hst hy hz e)) fun w hw => ?_
  ·obtain ⟨p, hp, rfl⟩ := List.mem_map.1 hw
   exact ⟨hnum p hp n hn, h.lt p hp n hn⟩
  ·rw [List.map_append, List.mem_append] at hw
   rcases hw with hw | hw
   ·exact List.mem_cons_of_mem _ hw
   ·simp only [List.map_cons, List.map_nil, List.mem_singleton] at hw
    rw [hw]; exact List.mem_cons_self
 ·unfold byU
  rcases List.mem_append.1 hp with hp | hp
  ·rw [if_pos (hnum p hp w hw)]
   have := h.lt p hp w hw; omega
  ·rw [List.mem_singleton] at hp; subst hp
   split
   ·rename_i hlt
    rcases hupd w hw with ⟨_, g2, _⟩ | ⟨g1, _⟩
    ·have := h.lt _ (List.getElem_mem hi) w g2; omega
    ·omega
   ·omega
theorem zf1 {b : Nat -> Int} {m : Int} {H : HM} {nx : Nat} {a : List (Nat × V)} {x : List Vn} (h : Inv b m H nx a x) {i k : Nat} (hi : i < a.length) (hk : k < a.length) : zw4 a[i].2 a[k].2 = zgx (x[i]'(by have := h.len; omega)) (x[k]'(by have := h.len; omega)) :=
 zvh h.ap (List.mem_map.2 ⟨_, List.getElem_mem hi, rfl⟩) (List.mem_map.2 ⟨_, List.getElem_mem hk, rfl⟩) (h.fit i hi) (h.fit k hk)
end
section
open Abs Facts Tr
attribute [local irreducible] awp
set_option maxRecDepth 100000
namespace Tr
def zb9 : T := .mk Idv.zero 0 ByteArray.empty [] [] [.mk ⟨1, 0, 1⟩ 2 ⟨#[49]⟩ [] [] [.mk ⟨1, 0, 2⟩ 3 ⟨#[49]⟩ [] [] []]]
def zk7 : List Wd := [⟨⟨#[97]⟩, Idv.zero⟩]
def zuo : T := .mk Idv.zero 0 ByteArray.empty [] [] [.mk ⟨1, 0, 1⟩ 2 ⟨#[49]⟩ [] [] [.mk ⟨1, 0, 2⟩ 3 ⟨#[49]⟩ [] zk7 []]]
def zup : T := .mk Idv.zero 0 ByteArray.empty [] [] [.mk ⟨1, 0, 1⟩ 2 ⟨#[49]⟩ [] zk7 [.mk ⟨1, 0, 2⟩ 3 ⟨#[49]⟩ [] [] []]]
end Tr
theorem zuq : PC Tryz.prog 32 [] (z0o zb9) := by
 refine z1w 3 rfl (z02 _) (z16 [] Tryz.func32 rfl (by decide +kernel) z0b (by decide +kernel) (by simp [Tryz.ntmps32]) ?_)
 show awp _ _ (Code.seq _ _) _ _
 rw [show Tryz.f32.results.toList = [.cell 0 27] from rfl]
 repeat' (first | ((refine zqh fun K J => ?_); (simp (disch := omega) only [go_sem, Nat.reduceBEq, ↓reduceIte, reduceCtorEq, Nat.reduceAdd, Nat.reduceMul, Nat.reduceLeDiff])) | refine zqn ?_ | refine zqu (by (simp (disch := omega) only [go_sem, Nat.reduceBEq, ↓reduceIte, Nat.reduceAdd, Nat.reduceLeDiff]); rfl) rfl ?_ | (refine J _ ?_; clear J K))
 refine z0m ?_ ?_
 ·rfl
 rw [z0o, z0l]
 refine Le.agg ⟨Le.refl _, Le.refl _, Le.refl _, Le.refl _, Le.refl _, Le.nil 4, Le.nil 4, Le.rslL ⟨?_, trivial⟩, trivial⟩
 rw [z0o, z0l]
 refine Le.agg ⟨Le.refl _, Le.refl _, Le.refl _, Le.refl _, Le.refl _, Le.nil 4, Le.nil 4, Le.rslL ⟨?_, trivial⟩, trivial⟩
 rw [z0o, z0l]
 exact Le.agg ⟨Le.refl _, Le.refl _, Le.refl _, Le.refl _, Le.refl _, Le.nil 4, Le.nil 4, Le.nil 8, trivial⟩
theorem AC_le {P : Program} {f : FuncId} {ds es : List D} {H : HM} {nx : Nat} {K : D -> HM -> Nat -> Prop} (h : AC P f es H nx K) (hl : LeL ds es) : AC P f ds H nx K :=
 ⟨h.1, fun s w vs h1 h2 h3 h4 => h.2 s w vs h1 h2 h3 (z72 hl h4)⟩
theorem Det.le {f : FuncId} {ds es : List D} {H : HM} {nx : Nat} {F : D × HM × Nat -> Prop} (h : Det f es H nx F) (hl : LeL ds es) : Det f ds H nx F := by
 obtain ⟨o, h1, h2⟩ := h
 exact ⟨o, AC_le h1 hl, h2⟩
theorem ex15 : z4g zb9 ⟨1, 0, 2⟩ zk7 = 0 /\ z1y ⟨1, 0, 2⟩ (fun q => q.setWords zk7) zb9 = zuo /\ z4g zb9 ⟨1, 0, 1⟩ zk7 = 0 /\ z1y ⟨1, 0, 1⟩ (fun q => q.setWords zk7) zb9 = zup /\ standsT zb9 = true /\ standsT zuo = true /\ standsT zup = true := by decide +kernel
theorem zpz : PC Tryz.prog 9 [] (.bool true) := by
 obtain ⟨x1, x2, x3, x4, s1, s2, s3⟩ := ex15
 have hz := (z8d s1).1
 have c0 := zuq
 refine z1w 1 rfl rfl (z16 [] Tryz.func9 rfl (by decide +kernel) z0b (by decide +kernel) (by simp [Tryz.ntmps9]) ?_)
 show awp _ _ (Code.seq _ _) _ _
 repeat' (first | ((first | refine zqh fun K J => ?_ | refine zqs (c0) ?_); (simp (disch := omega) only [go_sem, Nat.reduceBEq])) | (refine J _ ?_; clear J K))
 refine z8m (zm7 zb9 hz (by decide +kernel) (by decide +kernel)) fun o hF => ?_
 obtain ⟨r, H1, n1⟩ := o
 obtain ⟨v, t, hr, -, ht, hH, hst, hun, htr, -, -⟩ := hF.good s1
 simp only at hr ht hH hst hun
 subst hr
 clear hF
 have i0 := inv_new ht hH hst hun htr s1
 have d1 : Det 33 [.ptr t 0, .agg [.int .i64 1, .int .i64 0, .int .i64 2], .rsl true 4 [.agg [.str ⟨#[97]⟩, .int .i64 0, .int .i64 0, .int .i64 0]]] H1 n1 _ := (z8s (v := v) (by rw [htr]; exact hz) (by rw [htr]; decide +kernel) (by rw [htr]; decide +kernel) (z2l (by rw [htr]; exact s1)) ht hH hun hst ⟨1, 0, 2⟩ zk7 (by decide) (by decide)).le ⟨Le.refl _, Le.refl _, Le.rsl, trivial⟩
 rw [htr, x1, x2] at d1
 (try (simp (disch := omega) only [go_sem, Nat.reduceBEq])); repeat' (first | refine zqj ?_ | ((refine zqh fun K J => ?_); (simp (disch := omega) only [go_sem, Nat.reduceBEq, ↓reduceIte, reduceCtorEq, Nat.reduceAdd, Nat.reduceMul, Nat.reduceLeDiff])) | ((refine zqd _ rfl (fun hc => ?_) (fun hc => ?_)) <;> (first | (cases hc; done) | ((try simp only [] at hc); (try (exfalso; omega))))) | refine zqb ?_ | (refine J _ ?_; clear J K))
 refine z8m (by exact d1) fun o hF => ?_
 obtain ⟨r, H2, n2⟩ := o
 obtain ⟨v1, t1, hr, -, ht1, hH1, hst1, hun1, htr1, hup1, -⟩ := hF.good rfl
 have hle1 := hF.le
 have hag1 := hF.agree
 simp only at hr ht1 hH1 hst1 hun1 hle1 hag1
 subst hr
 clear hF d1
 have i1 := zo1 (o := (.nptr, H2, n2)) i0 (by decide) (i := 0) (by simp) s2 hle1 hag1 ht1 hH1 hst1 hun1 htr1 hup1
 (try (simp (disch := omega) only [go_sem, Nat.reduceBEq])); repeat' (first | ((refine zqh fun K J => ?_); (simp (disch := omega) only [go_sem, Nat.reduceBEq, ↓reduceIte, reduceCtorEq, Nat.reduceAdd, Nat.reduceMul, Nat.reduceLeDiff])) | (refine J _ ?_; clear J K))
 have ht2 : t < n2 := by omega
 have hH2 := (hag1 t ht).trans hH
 have hst2 := Stand.agree hag1 v hun hst
 have hun2 := hun.le hle1
 have d2 : Det 33 [.ptr t 0, .agg [.int .i64 1, .int .i64 0, .int .i64 1], .rsl true 4 [.agg [.str ⟨#[97]⟩, .int .i64 0, .int .i64 0, .int .i64 0]]] H2 n2 _ := (z8s (v := v) (by rw [htr]; exact hz) (by rw [htr]; decide +kernel) (by rw [htr]; decide +kernel) (z2l (by rw [htr]; exact s1)) ht2 hH2 hun2 hst2 ⟨1, 0, 1⟩ zk7 (by decide) (by decide)).le ⟨Le.refl _, Le.refl _, Le.rsl, trivial⟩
 rw [htr, x3, x4] at d2
 refine z8m (by exact d2) fun o hF => ?_
 obtain ⟨r, H3, n3⟩ := o
 obtain ⟨v2, t2, hr, -, ht3, hH3, hst3, hun3, htr3, hup3, -⟩ := hF.good rfl
 have hle3 := hF.le
 have hag3 := hF.agree
 simp only at hr ht3 hH3 hst3 hun3 hle3 hag3
 subst hr
 clear hF d2
 have i2 := zo1 (o := (.nptr, H3, n3)) i1 (by decide) (i := 0) (by simp) s3 hle3 hag3 ht3 hH3 hst3 hun3 htr3 hup3
 obtain ⟨p1, p2, p3, p4, -⟩ := i2.tr (t, v) (by simp)
 obtain ⟨q1, q2, q3, q4, -⟩ := i2.tr (t1, v1) (by simp)
 have e1 : zw4 v1 v = 3 := (zf1 i2 (i := 1) (k := 0) (by simp) (by simp)).trans (show zgx (zd5 (ofV zb9 0) zuo _ 1) (ofV zb9 0) = _ by decide +kernel)
 have e2 : zw4 v2 v = 2 := (zf1 i2 (i := 2) (k := 0) (by simp) (by simp)).trans (show zgx (zd5 (ofV zb9 0) zup _ (1 + 1)) (ofV zb9 0) = _ by decide +kernel)
 have e3 : zw4 v v = 0 := (zf1 i2 (i := 0) (k := 0) (by simp) (by simp)).trans (show zgx (ofV zb9 0) (ofV zb9 0) = _ by decide +kernel)
 have k1 := z7h (v := v1) (w := v) (by rw [htr1]; exact (z8d s2).1) (by rw [htr1]; decide +kernel) q1 q2 q4 q3 (by rw [htr]; exact hz) p1 p2 p4 p3
 have k2 := z7h (v := v2) (w := v) (by rw [htr3]; exact (z8d s3).1) (by rw [htr3]; decide +kernel) ht3 hH3 hun3 hst3 (by rw [htr]; exact hz) p1 p2 p4 p3
 have k3 := z7h (v := v) (w := v) (by rw [htr]; exact hz) (by rw [htr]; decide +kernel) p1 p2 p4 p3 (by rw [htr]; exact hz) p1 p2 p4 p3
 have k4 := zze (v := v) (by rw [htr]; exact hz) (by rw [htr]; decide +kernel) p1 p2 p4 p3
 have k5 := zex (v := v) (by rw [htr]; exact hz) p1 p2 p4 p3
 rw [e1] at k1
 rw [e2] at k2
 rw [e3] at k3
 rw [htr, show cntT zb9 = 3 from by decide +kernel] at k4
 rw [htr] at k5
 (try (simp (disch := omega) only [go_sem, Nat.reduceBEq])); repeat' (first | ((refine zqh fun K J => ?_); (simp (disch := omega) only [go_sem, Nat.reduceBEq, ↓reduceIte])) | (refine J _ ?_; clear J K))
 repeat' (first | ((first | refine z10 (k1) ?_ | refine z10 (k2) ?_ | refine z10 (k3) ?_ | refine z10 (k4) ?_ | refine z10 (k5) ?_); (simp (disch := omega) only [go_sem, Nat.reduceBEq, ↓reduceIte])) | refine zqn ?_ | refine zqu (by (simp (disch := omega) only [go_sem, Nat.reduceBEq]); rfl) rfl ?_ | (refine J _ ?_; clear J K))
 all_goals exact z03 rfl
end
section
open Abs Facts Tr
namespace Tr
end Tr
end
section
open Abs Facts Tr
structure VerOK (H : HM) (n t : Nat) (v : V) : Prop where
 lt : t < n
 at_ : H t = some (treeB (.ptr v.num 0))
 st : Stand H v
 un : Under n v
 ok : standsT (treeV v) = true
section
variable {H H' : HM} {n n' t : Nat} {v : V}
theorem VerOK.keep (h : VerOK H n t v) (ha : Agree n H H') (hn : n <= n') : VerOK H' n' t v :=
 ⟨by have := h.lt; omega, (ha _ h.lt).trans h.at_, Stand.agree ha v h.un h.st, h.un.le hn, h.ok⟩
theorem VerOK.but (h : VerOK H n t v) {k e m : Nat} {cs : List D} (hk : H k = some (.box e cs) /\ e ≠ 117 /\ e ≠ 78 \/ H k = some (.row e m cs) /\ e ≠ 75) (ha : ∀ j, j ≠ k -> j < n -> H' j = H j) (hn : n <= n') : VerOK H' n' t v := by
 have hne : ∀ j ∈ objsV v, j ≠ k := fun j hj ej => by
  subst ej
  rcases zv9 _ h.st j hj with ⟨cs2, h2⟩ | ⟨n2, cs2, h2⟩
  ·rcases hk with ⟨hk, h3, _⟩ | ⟨hk, _⟩
   ·rw [hk] at h2; simp only [Option.some.injEq, HObj.box.injEq] at h2; exact h3 h2.1
   ·rw [hk] at h2; cases h2
  ·rcases hk with ⟨hk, _⟩ | ⟨hk, h3⟩
   ·rw [hk] at h2; cases h2
   ·rw [hk] at h2; simp only [Option.some.injEq, HObj.row.injEq] at h2; exact h3 h2.1
 have hte : t ≠ k := fun ej => by
  have h2 := h.at_
  subst ej
  rcases hk with ⟨hk, _, h3⟩ | ⟨hk, _⟩
  ·rw [hk] at h2; unfold treeB at h2; simp only [Option.some.injEq, HObj.box.injEq] at h2; exact h3 h2.1
  ·rw [hk] at h2; cases h2
 exact ⟨by have := h.lt; omega, (ha _ hte h.lt).trans h.at_, Stand.on v (fun j hj => ha j (hne j hj) (h.un j hj)) h.st, h.un.le hn, h.ok⟩
theorem ver_new {u : T} {o : D × HM × Nat} (hF : NewOK u H n o) (hst : standsT u = true) : ∃ v t, o.1 = .ptr t 0 /\ VerOK o.2.1 o.2.2 t v /\ treeV v = u := by
 obtain ⟨v, t, hr, -, ht, hH, hsv, hun, htr, -, -⟩ := hF.good hst
 exact ⟨v, t, hr, ⟨ht, hH, hsv, hun, by rw [htr]; exact hst⟩, htr⟩
theorem VerOK.sz (h : VerOK H n t v) : szB (treeV v) = true /\ cntT (treeV v) <= 1024 /\ depT (treeV v) <= 8 := z8d h.ok
theorem VerOK.unit (h : VerOK H n t v) : RC Tryz.prog 14 [.ptr t 0] H n (z0o (treeV v)) := zex h.sz.1 h.lt h.at_ h.un h.st
theorem VerOK.len (h : VerOK H n t v) : RC Tryz.prog 15 [.ptr t 0] H n (.int .i64 (cntT (treeV v))) := zze h.sz.1 (by have := h.sz; omega) h.lt h.at_ h.un h.st
theorem VerOK.new (h : VerOK H n t v) {t2 : Nat} {w : V} (h2 : VerOK H n t2 w) : RC Tryz.prog 21 [.ptr t 0, .ptr t2 0] H n (.int .i64 (zw4 v w)) :=
 z7h h.sz.1 (by have := h.sz; omega) h.lt h.at_ h.un h.st h2.sz.1 h2.lt h2.at_ h2.un h2.st
theorem VerOK.up (h : VerOK H n t v) {o : Up} (ho : UpOK o) : Det 23 [.ptr t 0, zi8 o] H n (UpdOK (opE (treeV v) o) (opT (treeV v) o) (opM (treeV v) o) v H n) := det_do h.ok h.lt h.at_ h.un h.st ho
end
end
section
open Abs Facts Tr
attribute [local irreducible] awp
set_option maxRecDepth 100000
theorem ztj (u : T) (hfit : fitB u = true) (id : Idv) : PC Tryz.prog 3 [z0o u, z0y id] (.bool true) := by
 have ha := zpz
 have hf := pc_Few u hfit 40 (by omega) (by omega)
 refine z1w 1 (by simp only [pureD.pureL, z02]; rfl) rfl (z16 [] Tryz.func3 rfl (by decide +kernel) z0b (by decide +kernel) (by simp [Tryz.ntmps3]) ?_)
 show awp _ _ (Code.seq _ _) _ _
 by_cases hb0 : fewB u 40 = true
 ·obtain ⟨hs, hcn, hd⟩ := few_sz (by omega) (by omega) hb0
  rw [hb0] at hf
  have c1 := zpx u hs (by omega) (by omega)
  have hcu := z0l u
  by_cases hst : standsT u = true
  ·rw [hst] at c1
   have hn := z2l hst
   have c2 := zv0 u hs u hs
   rw [decide_eq_true rfl] at c2
   have c3 := ziu u hs (by omega)
   have c4 := zyh id u hs
   have hfs := zc9 id u hs
   have c5 := zv0 (z08 id u).1 hfs (z08 id u).1 hfs
   rw [decide_eq_true rfl] at c5
   have hcf := z0l (z08 id u).1
   repeat' (first | refine zqj ?_ | ((first | refine zqh fun K J => ?_ | refine zqs (ha) ?_ | refine zqs (hf) ?_); (simp (disch := omega) only [go_sem, Nat.reduceBEq, ↓reduceIte, Nat.reduceAdd, Nat.reduceLeDiff, z0o, z0y, z0j])) | ((refine zqd _ rfl (fun hc => ?_) (fun hc => ?_)) <;> (first | (cases hc; done) | ((try simp only [] at hc); (try (exfalso; omega))))) | refine zqb ?_ | (refine J _ ?_; clear J K))
   refine z8m (zm7 u hs (by omega) (by omega)) fun o hF => ?_
   obtain ⟨v, t, hr, hv, htr⟩ := ver_new hF hst
   have hag := hF.agree
   obtain ⟨r, H1, n1⟩ := o
   simp only at hr hv hag
   subst hr
   have b0 := (hag 0 (by (simp (disch := omega) only [go_sem]))).trans (show _ = some (.box 27 (z0g u)) by (simp (disch := omega) only [go_sem, Nat.reduceBEq]))
   have b1 := (hag 1 (by (simp (disch := omega) only [go_sem, Nat.reduceLT]))).trans (show _ = some (.box 23 (z0j id)) by (simp (disch := omega) only [go_sem, Nat.reduceBEq, z0j]))
   have k1 := hv.unit
   have k2 := hv.len
   have k3 := rc_Get (by rw [htr]; exact hs) (by rw [htr]; exact hn) hv.lt hv.at_ hv.un hv.st id
   rw [htr] at k1 k2 k3
   have n0 : 2 <= n1 := hF.le
   have m0 : (0 == n1) = false := beq_eq_false_iff_ne.2 (by omega)
   have m1 : (1 == n1) = false := beq_eq_false_iff_ne.2 (by omega)
   have m2 : (n1 == n1 + 1) = false := beq_eq_false_iff_ne.2 (by omega)
   clear hF
   repeat' (first | refine zqj ?_ | ((first | refine zqh fun K J => ?_ | refine zqe (by decide +kernel) fun K J => ?_ | refine zqs (c1) ?_ | refine z9k (k1) rfl ?_ | refine zqt (c2) ?_ | refine z9k (k2) rfl ?_ | refine zqt (c3) ?_ | refine z10 (k3) ?_ | refine zqs (c4) ?_ | refine zqs (c5) ?_); (simp (disch := omega) only [go_sem, Nat.reduceBEq, ↓reduceIte, Nat.reduceAdd, Nat.reduceLeDiff, b0, b1, m0, m1, m2, z0o, z0j])) | ((refine zqd _ rfl (fun hc => ?_) (fun hc => ?_)) <;> (first | (cases hc; done) | ((try simp only [] at hc); (try (exfalso; omega))))) | refine zqb ?_ | refine zqn ?_ | refine zqu (by (simp (disch := omega) only [go_sem]); rfl) rfl ?_ | (refine J _ ?_; clear J K))
   all_goals exact z03 rfl
  ·rw [Bool.not_eq_true] at hst
   rw [hst] at c1
   repeat' (first | refine zqj ?_ | ((first | refine zqh fun K J => ?_ | refine zqs (ha) ?_ | refine zqs (hf) ?_); (simp (disch := omega) only [go_sem, Nat.reduceBEq, ↓reduceIte, Nat.reduceAdd, Nat.reduceLeDiff, z0o, z0y, z0j])) | ((refine zqd _ rfl (fun hc => ?_) (fun hc => ?_)) <;> (first | (cases hc; done) | ((try simp only [] at hc); (try (exfalso; omega))))) | refine zqb ?_ | (refine J _ ?_; clear J K))
   refine z8m (zm7 u hs (by omega) (by omega)) fun o hF => ?_
   have hr := hF.bad hst
   have hag := hF.agree
   obtain ⟨r, H1, n1⟩ := o
   simp only at hr hag
   subst hr
   have b0 := (hag 0 (by (simp (disch := omega) only [go_sem]))).trans (show _ = some (.box 27 (z0g u)) by (simp (disch := omega) only [go_sem, Nat.reduceBEq]))
   repeat' (first | refine zqj ?_ | ((first | refine zqh fun K J => ?_ | refine zqs (c1) ?_); (simp (disch := omega) only [go_sem, Nat.reduceBEq, ↓reduceIte, Nat.reduceAdd, Nat.reduceLeDiff, b0])) | ((refine zqd _ rfl (fun hc => ?_) (fun hc => ?_)) <;> (first | (cases hc; done) | ((try simp only [] at hc); (try (exfalso; omega))))) | refine zqg ?_ | refine zqu (by (simp (disch := omega) only [go_sem]); rfl) rfl ?_ | (refine J _ ?_; clear J K))
   all_goals exact z03 rfl
 ·rw [Bool.not_eq_true] at hb0
  rw [hb0] at hf
  repeat' (first | refine zqj ?_ | ((first | refine zqh fun K J => ?_ | refine zqs (ha) ?_ | refine zqs (hf) ?_); (simp (disch := omega) only [go_sem, Nat.reduceBEq, ↓reduceIte, Nat.reduceAdd, Nat.reduceLeDiff])) | ((refine zqd _ rfl (fun hc => ?_) (fun hc => ?_)) <;> (first | (cases hc; done) | ((try simp only [] at hc); (try (exfalso; omega))))) | refine zqg ?_ | refine zqu (by (simp (disch := omega) only [go_sem]); rfl) rfl ?_ | (refine J _ ?_; clear J K))
  exact z03 rfl
end
end Go.Proofs.YtmnabhhdiinfaaaGreatDoor
