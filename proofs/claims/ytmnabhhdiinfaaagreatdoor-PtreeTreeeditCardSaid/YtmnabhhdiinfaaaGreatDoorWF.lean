import Derived.Test.YtmnabhhdiinfaaaGreatDoorWE
/-
 Lemmas of the claim. No condition but those that each names.
-/
set_option linter.unusedSimpArgs false
set_option linter.unusedVariables false
set_option maxRecDepth 100000
set_option maxHeartbeats 8000000
set_option linter.unusedSectionVars false
namespace Go.Proofs.YtmnabhhdiinfaaaGreatDoor
section
open Abs Facts Tr
attribute [local irreducible] awp
namespace Tr
def T.setLabel (t : T) (s : ByteArray) : T := .mk t.id t.kind s t.head t.words t.kids
def T.setWords (t : T) (l : List Wd) : T := .mk t.id t.kind t.label t.head l t.kids
def T.setHead (t : T) (l : List Wd) : T := .mk t.id t.kind t.label l t.words t.kids
def zd3 (u : T) (id : Idv) (name : ByteArray) : Bool := decide ((z08 id u).1.label = name) || ((z6f id u).2.2 && z44 (z08 (z6f id u).1 u).1.kids (z08 id u).1.kind name)
def zjf (u : T) (id : Idv) (name : ByteArray) : Int :=
 if standsT u = false \/ z46 name = false then 1 else
 if (z08 id u).2 = false then 4 else
 if (z08 id u).1.kind = 0 then 9 else
 if zd3 u id name = true then 10 else 0
end Tr
theorem zng (u : T) (hu : szB u = true) (cu : cntT u <= 1000000) (du : depT u <= 1000000) (x : T) (id : Idv) (name : ByteArray) : PC Tryz.prog 81 [.rptr (z0o u), .rptr (z0z id), .rptr (z0o x), .rptr (.str name)] (.bool (decide (x.label = name) || ((z6f id u).2.2 && z44 (z08 (z6f id u).1 u).1.kids x.kind name))) := by
 have hp := zf9 (z6f id u).1 u hu
 have c1 := zbi u (z7f u hu) (by omega) id
 have c2 := z85 u (z7f u hu) (by omega) (z6f id u).1
 have c3 := zi9 (z08 (z6f id u).1 u).1.kids (zel hp).1 x.kind name
 refine z22 1 (by simp only [pureD.pureL, z02, pureD, Bool.and_self]; rfl) rfl (z17 [] Tryz.func81 rfl (by decide +kernel) z0b (by decide +kernel) (by simp [Tryz.ntmps81]) ?_)
 show awp _ _ (Code.seq _ _) _ _
 repeat' (first | ((first | refine zqh fun K J => ?_ | refine zqs (c1) ?_ | refine zqs (c2) ?_ | refine zqs (c3) ?_); (simp (disch := omega) only [go_sem, Nat.reduceBEq, ↓reduceIte, reduceCtorEq, Nat.reduceAdd, Nat.reduceLeDiff])) | refine zqn ?_ | refine zqu (by (simp (disch := omega) only [go_sem]); rfl) rfl ?_ | (refine J _ ?_; clear J K) | (refine zqf (fun hb => ?_) (fun hb => ?_) <;> (have hb2 := hb; try simp only [z0e] at hb2) <;> ((first | have hb3 : (_ : Bool) = _ := hb2 | have hb3 := eq_false hb2 | have hb3 := eq_true hb2); (simp (disch := omega) only [go_sem, Nat.reduceBEq, ↓reduceIte, reduceCtorEq, Nat.reduceAdd, hb, hb3, z1k]); clear hb hb3; (try (exfalso; omega)))))
 all_goals exact z03 (by simp [*])
theorem znh (ok : Bool) : PC Tryz.prog 83 [.rptr (.bool ok)] (.bool (!ok)) := by
 refine z22 1 (by simp only [pureD.pureL, pureD, Bool.and_self]) rfl (z17 [] Tryz.func83 rfl (by decide +kernel) z0b (by decide +kernel) (by simp [Tryz.ntmps83]) ?_)
 show awp _ _ (Code.seq _ _) _ _
 repeat' (first | ((refine zqh fun K J => ?_); (simp (disch := omega) only [go_sem, Nat.reduceBEq, ↓reduceIte, Nat.reduceAdd])) | refine zqn ?_ | refine zqu (by (simp (disch := omega) only [go_sem]); rfl) rfl ?_ | (refine J _ ?_; clear J K))
 exact z03 rfl
theorem zni (x : T) : PC Tryz.prog 84 [.rptr (z0o x)] (.bool (decide (x.kind = 0))) := by
 refine z22 1 (by simp only [pureD.pureL, z02, pureD, Bool.and_self]) rfl (z17 [] Tryz.func84 rfl (by decide +kernel) z0b (by decide +kernel) (by simp [Tryz.ntmps84]) ?_)
 show awp _ _ (Code.seq _ _) _ _
 repeat' (first | ((refine zqh fun K J => ?_); (simp (disch := omega) only [go_sem, Nat.reduceBEq, ↓reduceIte, reduceCtorEq, Nat.reduceAdd])) | refine zqn ?_ | refine zqu (by (simp (disch := omega) only [go_sem]); rfl) rfl ?_ | (refine J _ ?_; clear J K))
 exact z03 rfl
theorem znj (q : T) (name : ByteArray) : PC Tryz.prog 85 [z0o q, .rptr (.str name)] (z0o (q.setLabel name)) := by
 refine z22 1 (by simp only [pureD.pureL, z02, pureD, Bool.and_self]) (z02 _) (z17 [] Tryz.func85 rfl (by decide +kernel) z0b (by decide +kernel) (by simp [Tryz.ntmps85]) ?_)
 show awp _ _ (Code.seq _ _) _ _
 rw [show Tryz.f85.results.toList = [.cell 3 27] from rfl]
 rw [show z0o q = .agg _ from by rw [z0o, z0k]]
 repeat' (first | ((refine zqh fun K J => ?_); (simp (disch := omega) only [go_sem, Nat.reduceBEq, ↓reduceIte, reduceCtorEq, Nat.reduceAdd, Nat.reduceLeDiff, Nat.reduceLT, List.set_cons_succ, List.set_cons_zero])) | refine zqn ?_ | refine zqu (by (simp (disch := omega) only [go_sem, Nat.reduceBEq, ↓reduceIte, Nat.reduceAdd, Nat.reduceLeDiff]); rfl) rfl ?_ | (refine J _ ?_; clear J K))
 rw [z0o, z0k]
 exact z0w (by simp only [pureD, pureD.pureL, z0j, z4d, Bool.and_self]) (Le.refl _)
theorem zwp (ok : Bool) (x : T) (b : Bool) (f1 f2 f3 : FuncId) (c1 c2 c3 : List D) : z7d [(f1, c1, 4, !ok), (f2, c2, 9, decide (x.kind = 0)), (f3, c3, 10, b)] = (if ok = false then 4 else if x.kind = 0 then 9 else if b = true then 10 else 0) := by
 cases ok
 ·rw [if_pos rfl]; rfl
 rw [if_neg (by simp), Bool.not_true, z49]
 by_cases h : x.kind = 0
 ·rw [if_pos h, decide_eq_true h]; rfl
 rw [if_neg h, decide_eq_false h, z49]
 cases b
 ·rw [if_neg (by simp)]; rfl
 ·rw [if_pos rfl]; rfl
theorem zhw (u : T) (hu : szB u = true) (cu : cntT u <= 1000000) (du : depT u <= 1000000) (id : Idv) (name : ByteArray) (hn : name.size <= 1000000) :
  PC Tryz.prog 29 [z0o u, z0z id, .str name] (.tup [z0o (if zjf u id name = 0 then z1a id (fun q => q.setLabel name) u else T.zero), .int .i64 (zjf u id name)]) := by
 have c1 := z7h u hu (by omega) (by omega)
 have c2 := zbp name (by unfold maxLen; omega)
 have c3 := z85 u (z7f u hu) (by omega) id
 have c4 := z9t [(83, [.rptr (.bool (z08 id u).2)], 4, !(z08 id u).2), (84, [.rptr (z0o (z08 id u).1)], 9, decide ((z08 id u).1.kind = 0)), (81, [.rptr (z0o u), .rptr (z0z id), .rptr (z0o (z08 id u).1), .rptr (.str name)], 10, zd3 u id name)]
  (by simp) (by
   intro c hc
   simp only [List.mem_cons, List.not_mem_nil, or_false] at hc
   rcases hc with rfl | rfl | rfl
   ·exact ⟨rfl, znh _⟩
   ·exact ⟨by simp only [pureD.pureL, z02, pureD, Bool.and_self], zni _⟩
   ·exact ⟨by simp only [pureD.pureL, z02, pureD, Bool.and_self]; rfl, zng u hu cu du _ id name⟩)
 rw [zwp] at c4
 refine z22 3 (by simp only [pureD.pureL, z02, pureD, Bool.and_self]; rfl) (by simp only [pureD.pureL, z02, pureD, Bool.and_self]) (z17 [] Tryz.func29 rfl (by decide +kernel) z0b (by decide +kernel) (by simp [Tryz.ntmps29]) ?_)
 show awp _ _ (Code.seq _ _) _ _
 rw [show Tryz.f29.results.toList = [.cell 6 27, .tmp 7] from rfl]
 by_cases h1 : standsT u = false
 ·rw [show zjf u id name = 1 from by unfold zjf; rw [if_pos (.inl h1)], if_neg (by decide)]
  rw [h1] at c1
  repeat' (first | refine zqj ?_ | ((first | refine zqh fun K J => ?_ | refine zqs (c1) ?_); (simp (disch := omega) only [go_sem, Nat.reduceBEq, ↓reduceIte, Nat.reduceAdd, Nat.reduceLeDiff])) | ((refine zqd _ rfl (fun hc => ?_) (fun hc => ?_)) <;> (first | (cases hc; done) | ((try simp only [] at hc); (try (exfalso; omega))))) | refine zqg ?_ | refine zqu (by (simp (disch := omega) only [go_sem, Nat.reduceBEq, ↓reduceIte, Nat.reduceAdd, Nat.reduceLeDiff]); rfl) rfl ?_ | (refine J _ ?_; clear J K))
  exact z0w rfl (Le.tup ⟨z3v, Le.refl _, trivial⟩)
 by_cases h2 : z46 name = false
 ·rw [show zjf u id name = 1 from by unfold zjf; rw [if_pos (.inr h2)], if_neg (by decide)]
  rw [Bool.not_eq_false] at h1
  rw [h1] at c1
  rw [h2] at c2
  repeat' (first | refine zqj ?_ | ((first | refine zqh fun K J => ?_ | refine zqs (c1) ?_ | refine zqs (c2) ?_); (simp (disch := omega) only [go_sem, Nat.reduceBEq, ↓reduceIte, Nat.reduceAdd, Nat.reduceLeDiff])) | ((refine zqd _ rfl (fun hc => ?_) (fun hc => ?_)) <;> (first | (cases hc; done) | ((try simp only [] at hc); (try (exfalso; omega))))) | refine zqg ?_ | refine zqu (by (simp (disch := omega) only [go_sem, Nat.reduceBEq, ↓reduceIte, Nat.reduceAdd, Nat.reduceLeDiff]); rfl) rfl ?_ | (refine J _ ?_; clear J K))
  exact z0w rfl (Le.tup ⟨z3v, Le.refl _, trivial⟩)
 have e0 : zjf u id name = (if (z08 id u).2 = false then 4 else if (z08 id u).1.kind = 0 then 9 else if zd3 u id name = true then 10 else 0) := by unfold zjf; rw [if_neg (by rw [not_or]; exact ⟨h1, h2⟩)]
 rw [<- e0] at c4
 rw [Bool.not_eq_false] at h1 h2
 rw [h1] at c1
 rw [h2] at c2
 by_cases hw : zjf u id name = 0
 ·have hmf : (z08 id u).2 = true := by
   rw [e0] at hw
   by_cases h : (z08 id u).2 = false
   ·rw [if_pos h] at hw; cases hw
   ·simpa using h
  have hm : id ∈ idsT u := by rw [z2h, decide_eq_true_eq] at hmf; exact hmf
  have c5 := zfh u hu id (fun q => q.setLabel name) (g := 85) (cap := [.rptr (.str name)]) rfl (fun q _ _ => znj q name)
  rw [(show (atR id (fun q => q.setLabel name) u).1 = z1a id (fun q => q.setLabel name) u from by rw [zeq _ (z16 h1) hm])] at c5
  rw [hw] at c4 ⊢
  rw [if_pos rfl]
  repeat' (first | refine zqj ?_ | ((first | refine z4c (N := 5) rfl fun K J => ?_ | refine zqs (c1) ?_ | refine zqs (c2) ?_ | refine zqs (c3) ?_); (simp (disch := omega) only [go_sem, Nat.reduceBEq, ↓reduceIte, Nat.reduceAdd, Nat.reduceLeDiff, Nat.reduceLT])) | ((refine zqd _ rfl (fun hc => ?_) (fun hc => ?_)) <;> (first | (cases hc; done) | ((try simp only [] at hc); (try (exfalso; omega))))) | refine zqb ?_ | (refine J _ ?_; clear J K))
  refine z4e fun K J => ?_
  (simp (disch := omega) only [go_sem, Nat.reduceBEq, ↓reduceIte, reduceCtorEq, Nat.reduceAdd, Nat.reduceMul, Nat.reduceLeDiff])
  refine z15 (PC.borrow c4 rfl 6 (z01 (z2o 5 rfl (z01 (z0u _ 2 rfl (z01 (z1y (e := 4) 2 ?_ zfj (z07 1 rfl)) z09)) (z01 (z0u _ 2 rfl (z01 (z04 (e := 27) 1 ?_ z0h (z05 _)) z09)) (z01 (z0u _ 2 rfl (z01 (z04 (e := 27) 1 ?_ z0h (z05 _)) (z01 (z04 (e := 23) 1 ?_ z1c rfl) (z01 (z04 (e := 27) 1 ?_ z0h (z05 _)) (z01 (z1y (e := 9) 2 ?_ z8a (z07 1 rfl)) z09))))) z09)))) z09)) ?_
  all_goals try (focus ((simp (disch := omega) only [go_sem, Nat.reduceBEq, z0p]); done))
  (simp (disch := omega) only [go_sem, Nat.reduceBEq])
  refine J _ _ (zoo (b := 2) (j := 5) (e := 9) (cs := [.str name]) (d := .str name) (by (simp (disch := omega) only [go_sem, Nat.reduceBEq])) (.inl rfl) rfl (by (simp (disch := omega) only [go_sem, Nat.reduceBEq]))) ?_
  clear J K
  repeat' (first | refine zqj ?_ | ((first | refine zqh fun K J => ?_ | refine zqs (c5) ?_); (simp (disch := omega) only [go_sem, Nat.reduceBEq, ↓reduceIte, Nat.reduceAdd, Nat.reduceLeDiff])) | ((refine zqd _ rfl (fun hc => ?_) (fun hc => ?_)) <;> (first | (cases hc; done) | ((try simp only [] at hc); (try (exfalso; omega))))) | refine zqb ?_ | refine zqn ?_ | refine zqu (by (simp (disch := omega) only [go_sem, Nat.reduceBEq, ↓reduceIte, Nat.reduceLeDiff]); rfl) rfl ?_ | (refine J _ ?_; clear J K))
  refine z0w ?_ (Le.refl _)
  simp only [pureD, pureD.pureL, z05, Bool.and_self]
 ·rw [if_neg hw]
  repeat' (first | refine zqj ?_ | ((first | refine zqh fun K J => ?_ | refine zqs (c1) ?_ | refine zqs (c2) ?_ | refine zqs (c3) ?_); (simp (disch := omega) only [go_sem, Nat.reduceBEq, ↓reduceIte, reduceCtorEq, Nat.reduceAdd, Nat.reduceMul, Nat.reduceLeDiff, Nat.reduceLT])) | ((refine zqd _ rfl (fun hc => ?_) (fun hc => ?_)) <;> (first | (cases hc; done) | ((try simp only [] at hc); (try (exfalso; omega))))) | refine zqb ?_ | (refine J _ ?_; clear J K))
  refine z15 (PC.borrow c4 rfl 6 (z01 (z2o 5 rfl (z01 (z0u _ 2 rfl (z01 (z1y (e := 4) 2 ?_ zfj (z07 1 rfl)) z09)) (z01 (z0u _ 2 rfl (z01 (z04 (e := 27) 1 ?_ z0h (z05 _)) z09)) (z01 (z0u _ 2 rfl (z01 (z04 (e := 27) 1 ?_ z0h (z05 _)) (z01 (z04 (e := 23) 1 ?_ z1c rfl) (z01 (z04 (e := 27) 1 ?_ z0h (z05 _)) (z01 (z1y (e := 9) 2 ?_ z8a (z07 1 rfl)) z09))))) z09)))) z09)) ?_
  all_goals try (focus ((simp (disch := omega) only [go_sem, Nat.reduceBEq, z0p]); done))
  (try (simp (disch := omega) only [go_sem, Nat.reduceBEq])); repeat' (first | refine zqj ?_ | ((refine zqh fun K J => ?_); (simp (disch := omega) only [go_sem, Nat.reduceBEq, ↓reduceIte, Nat.reduceAdd, Nat.reduceLeDiff])) | ((refine zqd _ rfl (fun hc => ?_) (fun hc => ?_)) <;> (((try simp only [z0e] at hc); (try (exfalso; omega))))) | refine zqg ?_ | refine zqu (by (simp (disch := omega) only [go_sem, Nat.reduceBEq, ↓reduceIte, Nat.reduceAdd, Nat.reduceLeDiff]); rfl) rfl ?_ | (refine J _ ?_; clear J K))
  exact z0w rfl (Le.tup ⟨z3v, Le.refl _, trivial⟩)
namespace Tr
def zxj (l : List Wd) : Bool := l.any fun w => !z78 w.text
def z3y (u : T) (id : Idv) (l : List Wd) : Int :=
 if standsT u = false \/ zxj l = true then 1 else
 if (z08 id u).2 = false then 4 else
 if (z08 id u).1.kind = 0 then 9 else
 if 256 < l.length then 6 else 0
theorem zb0 {u : T} {id : Idv} {l : List Wd} (h : z3y u id l = 0) : standsT u = true /\ id ∈ idsT u /\ zxj l = false /\ ¬ (z08 id u).1.kind = 0 /\ l.length <= 256 := by
 unfold z3y at h
 split at h
 ·cases h
 rename_i h1
 split at h
 ·cases h
 rename_i h2
 split at h
 ·cases h
 rename_i h3
 split at h
 ·cases h
 rename_i h4
 rw [not_or, Bool.not_eq_false, Bool.not_eq_true] at h1
 rw [Bool.not_eq_false, z2h, decide_eq_true_eq] at h2
 exact ⟨h1.1, h2, h1.2, h3, by omega⟩
end Tr
theorem zss (w : Wd) (hw : w.text.size <= maxLen) : PC Tryz.prog 139 [z93 w] (.bool (!z78 w.text)) := by
 have c1 := zh8 true [w.text] (by unfold maxLen; simp) (by intro s hs; simp at hs; subst hs; exact hw)
 rw [show zve [w.text] = z78 w.text from by unfold zve; simp] at c1
 refine z22 1 rfl rfl (z17 [] Tryz.func139 rfl (by decide +kernel) z0b (by decide +kernel) (by simp [Tryz.ntmps139]) ?_)
 show awp _ _ (Code.seq _ _) _ _
 repeat' (first | ((first | refine zqh fun K J => ?_ | refine zqs (c1) ?_); (simp (disch := omega) only [go_sem, Nat.reduceBEq, ↓reduceIte, reduceCtorEq, Nat.reduceAdd, Nat.reduceLeDiff])) | refine zqn ?_ | refine zqu (by (simp (disch := omega) only [go_sem]); rfl) rfl ?_ | (refine J _ ?_; clear J K))
 exact z03 rfl
theorem zst (u : T) (hu : szB u = true) (cu : cntT u <= 1000000) (du : depT u <= 1000000) (l : List Wd) (hl : l.length <= 1000000) (hw : ∀ w ∈ l, w.text.size <= maxLen) : PC Tryz.prog 141 [.rptr (z0o u), .rptr (z0n l), .rptr (.fn 139 [])] (.bool (!standsT u || zxj l)) := by
 have c1 := z7h u hu (by omega) (by omega)
 have c2 := ze3 false l (by unfold maxLen; omega) (g := 139) (cap := []) (fun w => !z78 w.text) rfl (fun w h => zss w (hw w h))
 refine z22 1 (by simp only [pureD.pureL, z02, z0j, pureD, Bool.and_self]) rfl (z17 [] Tryz.func141 rfl (by decide +kernel) z0b (by decide +kernel) (by simp [Tryz.ntmps141]) ?_)
 show awp _ _ (Code.seq _ _) _ _
 repeat' (first | ((first | refine zqh fun K J => ?_ | refine zqs (c1) ?_ | refine zqs (c2) ?_); (simp (disch := omega) only [go_sem, Nat.reduceBEq, ↓reduceIte, Nat.reduceAdd, z0n])) | refine zqn ?_ | refine zqu (by (simp (disch := omega) only [go_sem]); rfl) rfl ?_ | (refine J _ ?_; clear J K) | (refine zqf (fun hb => ?_) (fun hb => ?_) <;> (have hb2 := hb; try simp only [z0e] at hb2) <;> ((have hb3 : (_ : Bool) = _ := hb2); (simp (disch := omega) only [go_sem, Nat.reduceBEq, ↓reduceIte, Nat.reduceAdd, hb3]); clear hb hb3; (try (exfalso; omega)))))
 all_goals exact z03 (by simp [hb2, zxj])
theorem zsu (ok : Bool) : PC Tryz.prog 143 [.rptr (.bool ok)] (.bool (!ok)) := by
 refine z22 1 (by simp only [pureD.pureL, pureD, Bool.and_self]) rfl (z17 [] Tryz.func143 rfl (by decide +kernel) z0b (by decide +kernel) (by simp [Tryz.ntmps143]) ?_)
 show awp _ _ (Code.seq _ _) _ _
 repeat' (first | ((refine zqh fun K J => ?_); (simp (disch := omega) only [go_sem, Nat.reduceBEq, ↓reduceIte, Nat.reduceAdd])) | refine zqn ?_ | refine zqu (by (simp (disch := omega) only [go_sem]); rfl) rfl ?_ | (refine J _ ?_; clear J K))
 exact z03 rfl
theorem zsv (x : T) : PC Tryz.prog 144 [.rptr (z0o x)] (.bool (decide (x.kind = 0))) := by
 refine z22 1 (by simp only [pureD.pureL, z02, pureD, Bool.and_self]) rfl (z17 [] Tryz.func144 rfl (by decide +kernel) z0b (by decide +kernel) (by simp [Tryz.ntmps144]) ?_)
 show awp _ _ (Code.seq _ _) _ _
 repeat' (first | ((refine zqh fun K J => ?_); (simp (disch := omega) only [go_sem, Nat.reduceBEq, ↓reduceIte, reduceCtorEq, Nat.reduceAdd])) | refine zqn ?_ | refine zqu (by (simp (disch := omega) only [go_sem]); rfl) rfl ?_ | (refine J _ ?_; clear J K))
 exact z03 rfl
theorem zsw (l : List Wd) : PC Tryz.prog 145 [.rptr (z0n l)] (.bool (decide (256 < l.length))) := by
 refine z22 1 (by simp only [pureD.pureL, z0j, pureD, Bool.and_self]) rfl (z17 [] Tryz.func145 rfl (by decide +kernel) z0b (by decide +kernel) (by simp [Tryz.ntmps145]) ?_)
 show awp _ _ (Code.seq _ _) _ _
 repeat' (first | ((refine zqh fun K J => ?_); (simp (disch := omega) only [go_sem, Nat.reduceBEq, ↓reduceIte, Nat.reduceAdd, z0n])) | refine zqn ?_ | refine zqu (by (simp (disch := omega) only [go_sem]); rfl) rfl ?_ | (refine J _ ?_; clear J K))
 exact z03 (decide_eq_decide.2 (by omega))
theorem zm6 (u : T) (id : Idv) (l : List Wd) (f1 f2 f3 f4 : FuncId) (c1 c2 c3 c4 : List D) : z7d [(f1, c1, 1, !standsT u || zxj l), (f2, c2, 4, !(z08 id u).2), (f3, c3, 9, decide ((z08 id u).1.kind = 0)), (f4, c4, 6, decide (256 < l.length))] = z3y u id l := by
 unfold z3y
 cases h1 : standsT u
 ·rw [if_pos (.inl rfl)]; rfl
 by_cases h2 : zxj l = true
 ·rw [if_pos (.inr h2), h2]; rfl
 rw [Bool.not_eq_true] at h2
 rw [h2]
 rw [if_neg (by simp)]
 cases h3 : (z08 id u).2
 ·rw [if_pos rfl]; rfl
 rw [if_neg (by simp)]
 by_cases h4 : (z08 id u).1.kind = 0
 ·rw [if_pos h4, decide_eq_true h4]; rfl
 rw [if_neg h4, decide_eq_false h4]
 by_cases h5 : 256 < l.length
 ·rw [if_pos h5, decide_eq_true h5]; rfl
 ·rw [if_neg h5, decide_eq_false h5]; rfl
theorem znu (u : T) (hu : szB u = true) (cu : cntT u <= 1000000) (du : depT u <= 1000000) (id : Idv) (l : List Wd) (hl : l.length <= 1000000) (hw : ∀ w ∈ l, w.text.size <= maxLen) (f : T -> T) {g : FuncId} {cp : List D} (hc : pureD.pureL cp = true)
  (hg : ∀ q : T, PC Tryz.prog g (z0o q :: cp) (z0o (f q))) :
  PC Tryz.prog 86 [z0o u, z0z id, z0n l, .fn g cp] (.tup [z0o (if z3y u id l = 0 then z1a id f u else T.zero), .int .i64 (z3y u id l)]) := by
 have c3 := z85 u (z7f u hu) (by omega) id
 have c4 := z9t [(141, [.rptr (z0o u), .rptr (z0n l), .rptr (.fn 139 [])], 1, !standsT u || zxj l), (143, [.rptr (.bool (z08 id u).2)], 4, !(z08 id u).2), (144, [.rptr (z0o (z08 id u).1)], 9, decide ((z08 id u).1.kind = 0)), (145, [.rptr (z0n l)], 6, decide (256 < l.length))]
  (by simp) (by
   intro c hc
   simp only [List.mem_cons, List.not_mem_nil, or_false] at hc
   rcases hc with rfl | rfl | rfl | rfl
   ·exact ⟨by simp only [pureD.pureL, z02, z0j, pureD, Bool.and_self], zst u hu cu du l hl hw⟩
   ·exact ⟨rfl, zsu _⟩
   ·exact ⟨by simp only [pureD.pureL, z02, pureD, Bool.and_self], zsv _⟩
   ·exact ⟨by simp only [pureD.pureL, z0j, pureD, Bool.and_self], zsw l⟩)
 rw [zm6] at c4
 refine z22 3 (by simp only [pureD.pureL, z02, z0j, pureD, hc, Bool.and_self]; rfl) (by simp only [pureD.pureL, z02, pureD, Bool.and_self]) (z17 [] Tryz.func86 rfl (by decide +kernel) z0b (by decide +kernel) (by simp [Tryz.ntmps86]) ?_)
 show awp _ _ (Code.seq _ _) _ _
 rw [show Tryz.f86.results.toList = [.cell 8 27, .tmp 9] from rfl]
 by_cases ht : z3y u id l = 0
 ·obtain ⟨h1, hm, _, _, _⟩ := zb0 ht
  have c5 := zfh u hu id f hc (fun q _ _ => hg q)
  rw [(show (atR id f u).1 = z1a id f u from by rw [zeq _ (z16 h1) hm])] at c5
  rw [ht] at c4 ⊢
  rw [if_pos rfl]
  repeat' (first | ((first | refine zqh fun K J => ?_ | refine zqs (c3) ?_); (simp (disch := omega) only [go_sem, Nat.reduceBEq, ↓reduceIte, reduceCtorEq, Nat.reduceAdd, Nat.reduceMul, Nat.reduceLeDiff, Nat.reduceLT])) | (refine J _ ?_; clear J K))
  refine z15 (PC.borrow c4 rfl 6 (z01 (z2o 5 rfl (z01 (z0u _ 2 rfl (z01 (z04 (e := 27) 1 ?_ z0h (z05 _)) (z01 (z1y (e := 24) 2 ?_ zeg (z07 1 (z0j _))) (z01 (z1y (e := 148) 2 ?_ zl6 (z07 1 rfl)) z09)))) (z01 (z0u _ 2 rfl (z01 (z1y (e := 4) 2 ?_ zfj (z07 1 rfl)) z09)) (z01 (z0u _ 2 rfl (z01 (z04 (e := 27) 1 ?_ z0h (z05 _)) z09)) (z01 (z0u _ 2 rfl (z01 (z1y (e := 24) 2 ?_ zeg (z07 1 (z0j _))) z09)) z09))))) z09)) ?_
  all_goals try (focus ((simp (disch := omega) only [go_sem, Nat.reduceBEq]); done))
  (try (simp (disch := omega) only [go_sem, Nat.reduceBEq])); repeat' (first | refine zqj ?_ | ((first | refine zqh fun K J => ?_ | refine zqs (c5) ?_); (simp (disch := omega) only [go_sem, Nat.reduceBEq, ↓reduceIte, Nat.reduceAdd, Nat.reduceLeDiff])) | ((refine zqd _ rfl (fun hc => ?_) (fun hc => ?_)) <;> (first | (cases hc; done) | ((try simp only [] at hc); (try (exfalso; omega))))) | refine zqb ?_ | refine zqn ?_ | refine zqu (by (simp (disch := omega) only [go_sem, Nat.reduceBEq, ↓reduceIte, Nat.reduceLeDiff]); rfl) rfl ?_ | (refine J _ ?_; clear J K))
  refine z0w ?_ (Le.refl _)
  simp only [pureD, pureD.pureL, z05, Bool.and_self]
 ·rw [if_neg ht]
  repeat' (first | ((first | refine zqh fun K J => ?_ | refine zqs (c3) ?_); (simp (disch := omega) only [go_sem, Nat.reduceBEq, ↓reduceIte, reduceCtorEq, Nat.reduceAdd, Nat.reduceMul, Nat.reduceLeDiff, Nat.reduceLT])) | (refine J _ ?_; clear J K))
  refine z15 (PC.borrow c4 rfl 6 (z01 (z2o 5 rfl (z01 (z0u _ 2 rfl (z01 (z04 (e := 27) 1 ?_ z0h (z05 _)) (z01 (z1y (e := 24) 2 ?_ zeg (z07 1 (z0j _))) (z01 (z1y (e := 148) 2 ?_ zl6 (z07 1 rfl)) z09)))) (z01 (z0u _ 2 rfl (z01 (z1y (e := 4) 2 ?_ zfj (z07 1 rfl)) z09)) (z01 (z0u _ 2 rfl (z01 (z04 (e := 27) 1 ?_ z0h (z05 _)) z09)) (z01 (z0u _ 2 rfl (z01 (z1y (e := 24) 2 ?_ zeg (z07 1 (z0j _))) z09)) z09))))) z09)) ?_
  all_goals try (focus ((simp (disch := omega) only [go_sem, Nat.reduceBEq]); done))
  (try (simp (disch := omega) only [go_sem, Nat.reduceBEq])); repeat' (first | refine zqj ?_ | ((refine zqh fun K J => ?_); (simp (disch := omega) only [go_sem, Nat.reduceBEq, ↓reduceIte, Nat.reduceAdd, Nat.reduceLeDiff])) | ((refine zqd _ rfl (fun hc => ?_) (fun hc => ?_)) <;> (((try simp only [z0e] at hc); (try (exfalso; omega))))) | refine zqg ?_ | refine zqu (by (simp (disch := omega) only [go_sem, Nat.reduceBEq, ↓reduceIte, Nat.reduceAdd, Nat.reduceLeDiff]); rfl) rfl ?_ | (refine J _ ?_; clear J K))
  exact z0w rfl (Le.tup ⟨z3v, Le.refl _, trivial⟩)
theorem zju (q : T) (l : List Wd) (hl : l.length <= 1000000) : PC Tryz.prog 87 [z0o q, .rptr (z0n l)] (z0o (q.setWords l)) := by
 have c1 := zc4 l hl
 refine z22 5 (by simp only [pureD.pureL, z02, z0j, pureD, Bool.and_self]) (z02 _) (z17 [] Tryz.func87 rfl (by decide +kernel) z0b (by decide +kernel) (by simp [Tryz.ntmps87]) ?_)
 show awp _ _ (Code.seq _ _) _ _
 rw [show Tryz.f87.results.toList = [.cell 3 27] from rfl]
 rw [show z0o q = .agg _ from by rw [z0o, z0k]]
 repeat' (first | ((first | refine zqh fun K J => ?_ | refine zij (c1) ?_); (simp (disch := omega) only [go_sem, Nat.reduceBEq, ↓reduceIte, reduceCtorEq, Nat.reduceAdd, Nat.reduceLeDiff, Nat.reduceLT, z0n, znd, List.set_cons_succ, List.set_cons_zero])) | refine zqn ?_ | refine zqu (by (simp (disch := omega) only [go_sem, Nat.reduceBEq, ↓reduceIte, Nat.reduceAdd, Nat.reduceLeDiff]); rfl) rfl ?_ | (refine J _ ?_; clear J K))
 rw [z0o, z0k]
 refine z7m (z6h 4 (by simp only [pureD.pureL, pureD, Bool.and_false, Bool.false_and]) (z01 (z07 3 rfl) (z01 (z07 3 rfl) (z01 (z07 3 rfl) (z01 (z07 3 rfl) (z01 (z07 3 rfl) (z01 (z07 3 (z0j _)) (z01 (z2q (f := z40) (l := l) 2 rfl ?_ za1 zcz (fun _ => rfl) (fun _ => rfl)) (z01 (z07 3 (z4d _)) z09)))))))))
 (simp (disch := omega) only [go_sem, Nat.reduceBEq])
theorem zem (u : T) (hu : szB u = true) (cu : cntT u <= 1000000) (du : depT u <= 1000000) (id : Idv) (l : List Wd) (hl : l.length <= 1000000) (hw : ∀ w ∈ l, w.text.size <= maxLen) :
  PC Tryz.prog 30 [z0o u, z0z id, z0n l] (.tup [z0o (if z3y u id l = 0 then z1a id (fun q => q.setWords l) u else T.zero), .int .i64 (z3y u id l)]) := by
 have c1 := znu u hu cu du id l hl hw (fun q => q.setWords l) (g := 87) (cp := [.rptr (z0n l)]) (by simp only [pureD.pureL, z0j, pureD, Bool.and_self]) (fun q => zju q l hl)
 refine z22 3 (by simp only [pureD.pureL, z02, z0j, Bool.and_self]; rfl) (by simp only [pureD.pureL, z02, pureD, Bool.and_self]) (z17 [] Tryz.func30 rfl (by decide +kernel) z0b (by decide +kernel) (by simp [Tryz.ntmps30]) ?_)
 show awp _ _ (Code.seq _ _) _ _
 rw [show Tryz.f30.results.toList = [.cell 6 27, .tmp 7] from rfl]
 refine z4e fun K J => ?_
 (simp (disch := omega) only [go_sem, Nat.reduceBEq, Nat.reduceAdd])
 refine J _ _ (zoo (b := 2) (j := 5) (e := 24) (cs := [z0n l]) (d := z0n l) (by (simp (disch := omega) only [go_sem, Nat.reduceBEq, Nat.reduceAdd])) (.inl rfl) (z0j _) (by (simp (disch := omega) only [go_sem, Nat.reduceBEq, Nat.reduceAdd]))) ?_
 clear J K
 repeat' (first | ((first | refine zqh fun K J => ?_ | refine zqs (c1) ?_); (simp (disch := omega) only [go_sem, Nat.reduceBEq, ↓reduceIte, Nat.reduceAdd, Nat.reduceLeDiff, z0n])) | refine zqn ?_ | refine zqu (by (simp (disch := omega) only [go_sem, Nat.reduceBEq, ↓reduceIte, Nat.reduceLeDiff]); rfl) rfl ?_ | (refine J _ ?_; clear J K))
 refine z0w ?_ (Le.refl _)
 simp only [pureD, pureD.pureL, z05, Bool.and_self]
theorem zgh (q : T) (l : List Wd) (hl : l.length <= 1000000) : PC Tryz.prog 89 [z0o q, .rptr (z0n l)] (z0o (q.setHead l)) := by
 have c1 := zc4 l hl
 refine z22 5 (by simp only [pureD.pureL, z02, z0j, pureD, Bool.and_self]) (z02 _) (z17 [] Tryz.func89 rfl (by decide +kernel) z0b (by decide +kernel) (by simp [Tryz.ntmps89]) ?_)
 show awp _ _ (Code.seq _ _) _ _
 rw [show Tryz.f89.results.toList = [.cell 3 27] from rfl]
 rw [show z0o q = .agg _ from by rw [z0o, z0k]]
 repeat' (first | ((first | refine zqh fun K J => ?_ | refine zij (c1) ?_); (simp (disch := omega) only [go_sem, Nat.reduceBEq, ↓reduceIte, reduceCtorEq, Nat.reduceAdd, Nat.reduceLeDiff, Nat.reduceLT, z0n, znd, List.set_cons_succ, List.set_cons_zero])) | refine zqn ?_ | refine zqu (by (simp (disch := omega) only [go_sem, Nat.reduceBEq, ↓reduceIte, Nat.reduceAdd, Nat.reduceLeDiff]); rfl) rfl ?_ | (refine J _ ?_; clear J K))
 rw [z0o, z0k]
 refine z7m (z6h 4 (by simp only [pureD.pureL, pureD, Bool.and_false, Bool.false_and]) (z01 (z07 3 rfl) (z01 (z07 3 rfl) (z01 (z07 3 rfl) (z01 (z07 3 rfl) (z01 (z07 3 rfl) (z01 (z2q (f := z40) (l := l) 2 rfl ?_ za1 zcz (fun _ => rfl) (fun _ => rfl)) (z01 (z07 3 (z0j _)) (z01 (z07 3 (z4d _)) z09)))))))))
 (simp (disch := omega) only [go_sem, Nat.reduceBEq])
theorem zb1 (u : T) (hu : szB u = true) (cu : cntT u <= 1000000) (du : depT u <= 1000000) (id : Idv) (l : List Wd) (hl : l.length <= 1000000) (hw : ∀ w ∈ l, w.text.size <= maxLen) :
  PC Tryz.prog 31 [z0o u, z0z id, z0n l] (.tup [z0o (if z3y u id l = 0 then z1a id (fun q => q.setHead l) u else T.zero), .int .i64 (z3y u id l)]) := by
 have c1 := znu u hu cu du id l hl hw (fun q => q.setHead l) (g := 89) (cp := [.rptr (z0n l)]) (by simp only [pureD.pureL, z0j, pureD, Bool.and_self]) (fun q => zgh q l hl)
 refine z22 3 (by simp only [pureD.pureL, z02, z0j, Bool.and_self]; rfl) (by simp only [pureD.pureL, z02, pureD, Bool.and_self]) (z17 [] Tryz.func31 rfl (by decide +kernel) z0b (by decide +kernel) (by simp [Tryz.ntmps31]) ?_)
 show awp _ _ (Code.seq _ _) _ _
 rw [show Tryz.f31.results.toList = [.cell 6 27, .tmp 7] from rfl]
 refine z4e fun K J => ?_
 (simp (disch := omega) only [go_sem, Nat.reduceBEq, Nat.reduceAdd])
 refine J _ _ (zoo (b := 2) (j := 5) (e := 24) (cs := [z0n l]) (d := z0n l) (by (simp (disch := omega) only [go_sem, Nat.reduceBEq, Nat.reduceAdd])) (.inl rfl) (z0j _) (by (simp (disch := omega) only [go_sem, Nat.reduceBEq, Nat.reduceAdd]))) ?_
 clear J K
 repeat' (first | ((first | refine zqh fun K J => ?_ | refine zqs (c1) ?_); (simp (disch := omega) only [go_sem, Nat.reduceBEq, ↓reduceIte, Nat.reduceAdd, Nat.reduceLeDiff, z0n])) | refine zqn ?_ | refine zqu (by (simp (disch := omega) only [go_sem, Nat.reduceBEq, ↓reduceIte, Nat.reduceLeDiff]); rfl) rfl ?_ | (refine J _ ?_; clear J K))
 refine z0w ?_ (Le.refl _)
 simp only [pureD, pureD.pureL, z05, Bool.and_self]
namespace Tr
end Tr
end
section
open Abs Facts Tr
attribute [local irreducible] awp
set_option maxRecDepth 100000
def fldE (f : T -> T) : zq8 := fun w c r H n => (z0f H c (some (nodeB (f w.own) (kdR r w.kids.length))), n)
def rowE (w : V) (c q : Nat) (ks : List V) (H : HM) : HM := z0f (z0f H q (some (rowV ks))) c (some (nodeB w.own (.osl q ks.length)))
def outK (i : Idv) (w : V) : List V := w.kids.filter fun k => !decide (k.own.id = i)
def outE (i : Idv) : zq8 := fun w c r H n => (rowE w c n (outK i w) (z0f H (r.getD 0) none), n + 1)
def zce (w : V) (c : Nat) (r : Option Nat) (H : HM) (n : Nat) : Nat × HM × Nat := match r with
 | some q => (q, H, n)
 | none => (n, z0f (z0f H n (some row0)) c (some (nodeB w.own (.osl n 0))), n + 1)
def znq (at_ : Nat) (x : V) (w : V) : List V := w.kids.take at_ ++ x :: w.kids.drop at_
def movE (at_ : Nat) (x : V) : zq8 := fun w c r H n => (rowE w c (zce w c r H n).1 (znq at_ x w) (zce w c r H n).2.1, (zce w c r H n).2.2)
def insE (at_ : Nat) (t : T) : zq8 := fun w c r H n =>
 let g := z5b t (zce w c r H n).2.1 (zce w c r H n).2.2
 (rowE w c (zce w c r H n).1 (znq at_ g.1 w) g.2.1, g.2.2)
theorem zi3 {lo m n c : Nat} {H : HM} {r : Option Nat} {w : V} {Q : V -> V -> Prop} (hp : PreE lo m H n c r w) {q n2 : Nat} {ks : List V} {H2 : HM} (hq : m <= q) (hqc : q ≠ c) (hqn : q < n2) (hn : n <= n2) (hag : Agree m H H2)
  (hks : ∀ k ∈ ks, Stand H2 k /\ ∀ j ∈ objsV k, (j < lo \/ m <= j) /\ j < n2 /\ j ≠ q /\ j ≠ c) (hQ : Q w (.mk c (some q) w.own ks)) : PostE lo m H n c w Q (rowE w c q ks H2, n2) (.mk c (some q) w.own ks) := by
 have hmc := hp.mc
 have hcn := hp.cn
 unfold rowE
 have hobj : ∀ j ∈ objsV (.mk c (some q) w.own ks), j = c \/ j = q \/ ∃ k ∈ ks, j ∈ objsV k := fun j hj => by
  rw [z6y, List.mem_cons, List.mem_append] at hj
  rcases hj with e | hj | hj
  ·exact .inl e
  ·have hj : j ∈ (some q).toList := hj
   simp only [Option.toList_some, List.mem_singleton] at hj
   exact .inr (.inl hj)
  ·obtain ⟨k, hk, hj⟩ := List.mem_flatMap.1 hj
   exact .inr (.inr ⟨k, hk, hj⟩)
 refine ⟨rfl, rfl, (z1v _ _).2 ⟨?_, ?_, fun k hk => ?_⟩, fun j hj => ?_, fun j hj => ?_, hn, fun j hj => ?_, hQ⟩
 ·exact z1u _ _ _
 ·show z0f (z0f H2 q _) c _ q = _
  rw [z00 _ hqc, z1u]; rfl
 ·refine Stand.on k (fun j hj => ?_) (hks k hk).1
  have := (hks k hk).2 j hj
  show z0f (z0f H2 q _) c _ j = _
  rw [z00 _ (by omega), z00 _ (by omega)]
 ·rcases hobj j hj with e | e | ⟨k, hk, hj⟩
  ·simp only; omega
  ·simp only; omega
  ·exact ((hks k hk).2 j hj).2.1
 ·rcases hobj j hj with e | e | ⟨k, hk, hj⟩
  ·omega
  ·omega
  ·exact ((hks k hk).2 j hj).1
 ·show z0f (z0f H2 q _) c _ j = _
  rw [z00 _ (by omega), z00 _ (by omega), hag j hj]
theorem zm1 {f : T -> T} (hf : ∀ q : T, (f q).id = q.id /\ (f q).setKids q.kids = f q) {lo : Nat} {H0 : HM} {w : V} : zmr lo H0 (fldE f) (fun w w' => w'.own = f w.own /\ w'.kids = w.kids) w := fun m H n c r hp _ => by
 have hmc := hp.mc
 have hcn := hp.cn
 have hlom := hp.lom
 have hobj : ∀ j ∈ objsV (.mk c r (f w.own) w.kids), j = c \/ (m <= j /\ j < c) \/ j < lo := fun j hj => by
  rw [z6y, List.mem_cons, List.mem_append] at hj
  rcases hj with e | hj | hj
  ·exact .inl e
  ·have hj : j ∈ r.toList := hj
   cases hr : r with
   | none => rw [hr] at hj; cases hj
   | some q =>
    rw [hr] at hj
    simp only [Option.toList_some, List.mem_singleton] at hj
    have := hp.row q hr
    exact .inr (.inl ⟨by omega, by omega⟩)
  ·obtain ⟨k, hk, hj⟩ := List.mem_flatMap.1 hj
   exact .inr (.inr ((hp.kids k hk).2 j hj))
 refine ⟨.mk c r (f w.own) w.kids, rfl, (hf w.own).1, (z1v _ _).2 ⟨z1u _ _ _, ?_, fun k hk => ?_⟩, fun j hj => ?_, fun j hj => ?_, Nat.le_refl _, fun j hj => z00 _ (by omega), rfl, rfl⟩
 ·unfold zi6
  cases r with
  | none => exact hp.nor rfl
  | some q =>
   obtain ⟨h1, h2, h3⟩ := hp.row q rfl
   show z0f H c _ q = _
   rw [z00 _ (by omega), h3]; rfl
 ·refine Stand.on k (fun j hj => ?_) (hp.kids k hk).1
  have := (hp.kids k hk).2 j hj
  exact z00 _ (by omega)
 ·have := hobj j hj
  show j < n
  omega
 ·have := hobj j hj; omega
theorem zsi {i : Idv} {lo : Nat} {H0 : HM} {w : V} (hk : ∃ k ∈ w.kids, k.own.id = i) : zmr lo H0 (outE i) (fun w w' => w'.own = w.own /\ w'.kids = outK i w) w := fun m H n c r hp _ => by
 have hmc := hp.mc
 have hcn := hp.cn
 have hlom := hp.lom
 obtain ⟨q, rfl⟩ : ∃ q, r = some q := by
  cases hr : r with
  | none =>
   obtain ⟨k, hk, _⟩ := hk
   rw [hp.nor hr] at hk; cases hk
  | some q => exact ⟨q, rfl⟩
 obtain ⟨h1, h2, h3⟩ := hp.row q rfl
 refine ⟨_, zi3 hp (q := n) (ks := outK i w) (n2 := n + 1) (H2 := z0f H q none) (by omega) (by omega) (by omega) (by omega) (fun j hj => z00 _ (by omega)) (fun k hk => ?_) ⟨rfl, rfl⟩⟩
 obtain ⟨g1, g2⟩ := hp.kids k (List.mem_filter.1 hk).1
 exact ⟨Stand.on k (fun j hj => z00 _ (by have := g2 j hj; omega)) g1, fun j hj => by have := g2 j hj; omega⟩
theorem z9s {lo m n c : Nat} {H : HM} {r : Option Nat} {w : V} (hp : PreE lo m H n c r w) : let o := zce w c r H n
  m <= o.1 /\ o.1 ≠ c /\ o.1 < o.2.2 /\ n <= o.2.2 /\ Agree m H o.2.1 /\ o.2.1 c = some (nodeB w.own (.osl o.1 w.kids.length)) /\ o.2.1 o.1 = some (rowV w.kids) /\ (∀ k ∈ w.kids, Stand o.2.1 k /\ Under lo k) := by
 have hmc := hp.mc
 have hcn := hp.cn
 have hlom := hp.lom
 cases hr : r with
 | none =>
  have hn0 := hp.nor hr
  unfold zce
  simp only
  refine ⟨by omega, by omega, by omega, by omega, fun j hj => ?_, ?_, ?_, fun k hk => ?_⟩
  ·rw [z00 _ (by omega), z00 _ (by omega)]
  ·rw [z1u, hn0]; rfl
  ·rw [z00 _ (by omega), z1u, hn0]; rfl
  ·rw [hn0] at hk; cases hk
 | some q =>
  obtain ⟨h1, h2, h3⟩ := hp.row q hr
  have hb := hp.box
  rw [hr] at hb
  unfold zce
  simp only
  exact ⟨by omega, by omega, by omega, Nat.le_refl _, Agree.refl _ _, hb, h3, hp.kids⟩
theorem eff_mov {at_ : Nat} {x : V} {lo : Nat} {H0 : HM} {w : V} (hx : Stand H0 x) (hux : Under lo x) : zmr lo H0 (movE at_ x) (fun w w' => w'.own = w.own /\ w'.kids = znq at_ x w) w := fun m H n c r hp h0 => by
 have hmc := hp.mc
 have hcn := hp.cn
 have hlom := hp.lom
 obtain ⟨a1, a2, a3, a4, a5, a6, a7, a8⟩ := z9s hp
 unfold movE
 generalize zce w c r H n = o at a1 a2 a3 a4 a5 a6 a7 a8 ⊢
 refine ⟨_, zi3 hp (q := o.1) (ks := znq at_ x w) (n2 := o.2.2) (H2 := o.2.1) a1 a2 a3 a4 a5 (fun k hk => ?_) ⟨rfl, rfl⟩⟩
 have old : ∀ k, Stand o.2.1 k -> Under lo k -> Stand o.2.1 k /\ ∀ j ∈ objsV k, (j < lo \/ m <= j) /\ j < o.2.2 /\ j ≠ o.1 /\ j ≠ c := fun k h1 h2 => ⟨h1, fun j hj => by have := h2 j hj; omega⟩
 unfold znq at hk
 rcases List.mem_append.1 hk with hk | hk
 ·exact old k (a8 k (List.mem_of_mem_take hk)).1 (a8 k (List.mem_of_mem_take hk)).2
 ·rcases List.mem_cons.1 hk with rfl | hk
  ·exact old k (Stand.on k (fun j hj => by have := hux j hj; rw [a5 j (by omega), h0 j this]) hx) hux
  ·exact old k (a8 k (List.mem_of_mem_drop hk)).1 (a8 k (List.mem_of_mem_drop hk)).2
theorem eff_ins {at_ : Nat} {t : T} {lo : Nat} {H0 : HM} {w : V} : zmr lo H0 (insE at_ t) (fun w w' => w'.own = w.own /\ ∃ g, treeV g = t /\ (objsV g).Nodup /\ (∀ j ∈ objsV g, lo <= j) /\ w'.kids = znq at_ g w) w := fun m H n c r hp h0 => by
 have hmc := hp.mc
 have hcn := hp.cn
 have hlom := hp.lom
 obtain ⟨a1, a2, a3, a4, a5, a6, a7, a8⟩ := z9s hp
 unfold insE
 simp only
 generalize zce w c r H n = o at a1 a2 a3 a4 a5 a6 a7 a8 ⊢
 have hg := z6d t o.2.1 o.2.2
 generalize z5b t o.2.1 o.2.2 = g at hg ⊢
 obtain ⟨b1, b2, b3, b4, b5, b6, b7⟩ := hg
 refine ⟨_, zi3 hp (q := o.1) (ks := znq at_ g.1 w) (n2 := g.2.2) (H2 := g.2.1) a1 a2 (by omega) (by omega) (fun j hj => (b3 j (by omega)).trans (a5 j hj)) (fun k hk => ?_) ⟨rfl, g.1, b1, b7, fun j hj => by have := b6 j hj; omega, rfl⟩⟩
 have old : ∀ k, Stand o.2.1 k -> Under lo k -> Stand g.2.1 k /\ ∀ j ∈ objsV k, (j < lo \/ m <= j) /\ j < g.2.2 /\ j ≠ o.1 /\ j ≠ c := fun k h1 h2 => ⟨Stand.on k (fun j hj => b3 j (by have := h2 j hj; omega)) h1, fun j hj => by have := h2 j hj; omega⟩
 unfold znq at hk
 rcases List.mem_append.1 hk with hk | hk
 ·exact old k (a8 k (List.mem_of_mem_take hk)).1 (a8 k (List.mem_of_mem_take hk)).2
 ·rcases List.mem_cons.1 hk with rfl | hk
  ·exact ⟨b4, fun j hj => by have := b5 j hj; have := b6 j hj; omega⟩
  ·exact old k (a8 k (List.mem_of_mem_drop hk)).1 (a8 k (List.mem_of_mem_drop hk)).2
end
section
open Abs Facts Tr
namespace Tr
theorem zyg {id k : Idv} : ∀ u : T, (idsT u).Nodup -> ¬ u.id = id -> k ∈ idsT u -> (∀ y, z08 id u = (y, true) -> k ∉ idsT y) -> z41 k (z0m id u) = z41 k u := by
 refine z5t fun u ih hn h0 hk hy => ?_
 by_cases hid : id ∉ idsT u
 ·rw [zir hid]
 rw [Classical.not_not] at hid
 by_cases hku : u.id = k
 ·rw [z98 hku]
  exact z98 (by rw [(z77 id u).1]; exact hku)
 ·obtain ⟨i, hi, h1, h2, h3⟩ := z9m hku (z4y.2 hk)
  have hkm := z4y.1 h2
  obtain ⟨g1, g2, g3⟩ := z57 hn
  have hki := List.getElem_mem hi
  have hkeep : ¬ u.kids[i].id = id := fun e => by
   refine hy u.kids[i] ?_ hkm
   have hw : z1s id u.kids[i] = [u.kids[i]] := z47 e
   have hne : z1s id u.kids[i] ≠ [] := by rw [hw]; simp
   rw [z4f (z4r h0 hi (fun j hj h => (z4v id _).2 (g3 i j hi h (by omega) id (e ▸ z1e _))) hne) hne]
   exact z2z e
  have hyk : ∀ y, z08 id u.kids[i] = (y, true) -> k ∉ idsT y := fun y hf => hy y (by
   have hne : z1s id u.kids[i] ≠ [] := za2.1 (by rw [hf])
   rw [z4f (z4r h0 hi (fun j hj h => (z4v id _).2 (g3 i j hi h (by omega) id (z4y.1 hne))) hne) hne]
   exact hf)
  have hin := ih _ hki (g2 _ hki) hkeep hkm hyk
  have hfw := zkw u.kids[i] (g2 _ hki) hkeep hkm hyk
  have hsp : u.kids = u.kids.take i ++ u.kids[i] :: u.kids.drop (i + 1) := by rw [<- List.drop_eq_getElem_cons hi, List.take_append_drop]
  have hwk : k ∈ idsT (z0m id u.kids[i]) := by
   have : (z08 k (z0m id u.kids[i])).2 = true := by rw [hfw]
   rw [z2h, decide_eq_true_eq] at this; exact this
  rw [zov hku hi h1 h2, z4n]
  have e : (u.kids.filter (z6s id)).map (z0m id) = ((u.kids.take i).filter (z6s id)).map (z0m id) ++ z0m id u.kids[i] :: ((u.kids.drop (i + 1)).filter (z6s id)).map (z0m id) := by
   conv => lhs; rw [hsp]
   rw [List.filter_append, List.filter_cons, if_pos (zep hkeep), List.map_append, List.map_cons]
  rw [e, zlz hku ?_ hwk, hin]
  intro hm
  obtain ⟨y, hym, hyk⟩ := List.mem_flatMap.1 hm
  obtain ⟨y', hy', rfl⟩ := List.mem_map.1 hym
  have hmem := (List.mem_filter.1 hy').1
  obtain ⟨j, hj, rfl⟩ := List.getElem_of_mem hmem
  rw [List.length_take] at hj
  rw [List.getElem_take] at hyk
  have := h1 j (by omega) (by omega)
  rw [z4v] at this
  exact this (zok id _ k hyk)
end Tr
namespace Tr
def zfl (t : T) : T := t.setKids []
def zj0 (id : Idv) (a b : T) : Prop := ∀ p ∈ z0g a, ∃ p' ∈ z0g b, p'.id = p.id /\ (p.id ≠ id -> zfl p' = zfl p) /\ ∀ y ∈ p.kids, ∃ y' ∈ p'.kids, y'.id = y.id
theorem zbt : ∀ u x : T, x ∈ z0g u -> ∀ y ∈ z0g x, y ∈ z0g u := by
 refine fun u => z5t (p := fun u => ∀ x : T, x ∈ z0g u -> ∀ y ∈ z0g x, y ∈ z0g u) (fun u ih x hx y hy => ?_) u
 rw [z1i, List.mem_cons] at hx
 rcases hx with rfl | hx
 ·exact hy
 ·obtain ⟨k, hk, hxk⟩ := List.mem_flatMap.1 hx
  exact z2n hk (ih k hk x hxk y hy)
theorem zhl : ∀ t : T, (idsT t).Nodup -> ∀ p ∈ z0g t, ∀ y ∈ p.kids, (z6f y.id t).1 = p.id := by
 refine z5t fun t ih hn p hp y hy => ?_
 obtain ⟨g1, g2, g3⟩ := z57 hn
 rw [z1i, List.mem_cons] at hp
 rcases hp with rfl | hp
 ·obtain ⟨i, hi, rfl⟩ := List.getElem_of_mem hy
  rw [zle (id := p.kids[i].id) (t := p) (i := i) (fun e => g1 _ hy (e ▸ z1e _)) hi (fun j hj h => (z4v _ _).2 (g3 i j hi h (by omega) _ (z1e _))) rfl]
 ·obtain ⟨k, hk, hpk⟩ := List.mem_flatMap.1 hp
  obtain ⟨i, hi, rfl⟩ := List.getElem_of_mem hk
  have hyi : y.id ∈ idsT t.kids[i] := List.mem_map.2 ⟨y, zbt _ p hpk y (z2n hy (z25 y)), rfl⟩
  have hne : ¬ t.kids[i].id = y.id := by
   intro e
   have hn2 := g2 _ hk
   have key : ∀ t : T, (idsT t).Nodup -> ∀ p ∈ z0g t, ∀ y ∈ p.kids, t.id ≠ y.id := by
    intro t hn p hp y hy e
    rw [z1f, List.nodup_cons] at hn
    refine hn.1 ?_
    rw [e]
    rw [z1i, List.mem_cons] at hp
    rcases hp with rfl | hp
    ·exact List.mem_flatMap.2 ⟨y, hy, z1e y⟩
    ·obtain ⟨k, hk, hpk⟩ := List.mem_flatMap.1 hp
     refine List.mem_flatMap.2 ⟨k, hk, List.mem_map.2 ⟨y, ?_, rfl⟩⟩
     exact zbt k p hpk y (z2n hy (z25 y))
   exact key _ hn2 p hpk y hy e
  rw [zw2 (id := y.id) (t := t) (i := i) (fun e => g1 _ hk (e ▸ hyi)) hi (fun j hj h => (z4v _ _).2 (g3 i j hi h (by omega) _ hyi)) hne (z4y.2 hyi)]
  exact ih _ hk (g2 _ hk) p hpk y hy
theorem zl9 (C : Ctx) {x y : T} (h : y ∈ z0g x) : y ∈ z0g (z27 C x) := by
 induction C with
 | hole => exact h
 | node t l c r ih => exact z2n (t := z27 (.node t l c r) x) (k := z27 c x) (by show _ ∈ l ++ _ :: r; simp) ih
theorem zvq {t : T} {k : Idv} (hk : k ∈ idsT t) (h0 : ¬ t.id = k) : ∃ p ∈ z0g t, ∃ y ∈ p.kids, y.id = k := by
 obtain ⟨C, q, l, x, r, e, hx, _⟩ := zjl h0 hk
 refine ⟨q.setKids (l ++ x :: r), ?_, x, by show x ∈ l ++ x :: r; simp, hx⟩
 rw [e]
 exact zl9 C (z25 _)
theorem z54 {id : Idv} {a b : T} (J : zj0 id a b) (ha : (idsT a).Nodup) (hb : (idsT b).Nodup) {k : Idv} (hk : k ∈ idsT a) :
  (z08 k b).2 = true /\ (k ≠ id -> zfl (z08 k a).1 = zfl (z08 k b).1) /\ (¬ a.id = k -> (z6f k a).1 = (z6f k b).1) := by
 obtain ⟨p, hp, hpk⟩ := List.mem_map.1 hk
 obtain ⟨p', hp', e1, e2, _⟩ := J p hp
 have h1 := zc2 ha hp hpk
 have h2 := zc2 hb hp' (e1.trans hpk)
 refine ⟨by rw [h2], fun hne => ?_, fun h0 => ?_⟩
 ·rw [h1, h2]; exact (e2 (by rw [hpk]; exact hne)).symm
 ·obtain ⟨q, hq, y, hy, hyk⟩ := zvq hk h0
  obtain ⟨q', hq', f1, _, f3⟩ := J q hq
  obtain ⟨y', hy', f4⟩ := f3 y hy
  have g1 := zhl a ha q hq y hy
  have g2 := zhl b hb q' hq' y' hy'
  rw [hyk] at g1
  rw [f4, hyk] at g2
  rw [g1, g2, f1]
def zgn : Ctx -> Ctx -> Ctx
 | .hole, D => D
 | .node t l c r, D => .node t l (zgn c D) r
theorem zfm (D : Ctx) (x : T) : ∀ C, z27 (zgn C D) x = z27 C (z27 D x)
 | .hole => rfl
 | .node t l c r => by rw [zgn, z27, zfm D x c, z27]
theorem zos (D : Ctx) : ∀ C, z6c (zgn C D) = z6c C ++ z6c D
 | .hole => by simp [zgn, z6c]
 | .node t l c r => by rw [zgn, z6c, z6c, zos D c, List.cons_append, List.append_assoc]
theorem zla (D : Ctx) : ∀ C, z3k (zgn C D) = z3k D ++ z3k C
 | .hole => by simp [zgn, z3k]
 | .node t l c r => by rw [zgn, z3k, z3k, zla D c, List.append_assoc]
theorem zlb {id : Idv} {a b : T} (h : ∀ p ∈ z0g a, p ∈ z0g b) : zj0 id a b := fun p hp => ⟨p, h p hp, rfl, fun _ => rfl, fun y hy => ⟨y, hy, rfl⟩⟩
theorem zd0 {id : Idv} {a b : T} (J : zj0 id a b) (hid : b.id = a.id) : ∀ C, zj0 id (z27 C a) (z27 C b)
 | .hole => J
 | .node t l c r => by
  have ih := zd0 J hid c
  have hr : (z27 c b).id = (z27 c a).id := by
   cases c with
   | hole => exact hid
   | node t' l' c' r' => rfl
  intro p hp
  rw [z27, z1i, List.mem_cons] at hp
  rcases hp with rfl | hp
  ·refine ⟨z27 (.node t l c r) b, z25 _, rfl, fun _ => rfl, fun y hy => ?_⟩
   have hy : y ∈ l ++ z27 c a :: r := hy
   show ∃ y' ∈ l ++ z27 c b :: r, y'.id = y.id
   rcases List.mem_append.1 hy with h | h
   ·exact ⟨y, List.mem_append_left _ h, rfl⟩
   ·rcases List.mem_cons.1 h with rfl | h
    ·exact ⟨z27 c b, by simp, hr⟩
    ·exact ⟨y, List.mem_append_right _ (List.mem_cons_of_mem _ h), rfl⟩
  ·have hp : p ∈ (l ++ z27 c a :: r).flatMap z0g := hp
   rw [List.flatMap_append, List.flatMap_cons, List.mem_append, List.mem_append] at hp
   have sub : ∀ k ∈ l ++ z27 c b :: r, ∀ y ∈ z0g k, y ∈ z0g (z27 (.node t l c r) b) := fun k hk y hy => z2n (t := z27 (.node t l c r) b) hk hy
   rcases hp with h | h | h
   ·obtain ⟨k, hk, hpk⟩ := List.mem_flatMap.1 h
    exact ⟨p, sub k (List.mem_append_left _ hk) p hpk, rfl, fun _ => rfl, fun y hy => ⟨y, hy, rfl⟩⟩
   ·obtain ⟨p', hp', e⟩ := ih p h
    exact ⟨p', sub _ (by simp) p' hp', e⟩
   ·obtain ⟨k, hk, hpk⟩ := List.mem_flatMap.1 h
    exact ⟨p, sub k (List.mem_append_right _ (List.mem_cons_of_mem _ hk)) p hpk, rfl, fun _ => rfl, fun y hy => ⟨y, hy, rfl⟩⟩
theorem zvr {id : Idv} (q x : T) (l r : List T) : zj0 id (q.setKids (l ++ r)) (q.setKids (l ++ x :: r)) := by
 intro p hp
 have sub : ∀ k ∈ l ++ x :: r, ∀ y ∈ z0g k, y ∈ z0g (q.setKids (l ++ x :: r)) := fun k hk y hy => z2n (t := q.setKids (l ++ x :: r)) hk hy
 have mem : ∀ k ∈ l ++ r, k ∈ l ++ x :: r := fun k hk => by
  rcases List.mem_append.1 hk with h | h
  ·exact List.mem_append_left _ h
  ·exact List.mem_append_right _ (List.mem_cons_of_mem _ h)
 rw [z1i, List.mem_cons] at hp
 rcases hp with rfl | hp
 ·exact ⟨_, z25 _, rfl, fun _ => rfl, fun y hy => ⟨y, mem y hy, rfl⟩⟩
 ·obtain ⟨k, hk, hpk⟩ := List.mem_flatMap.1 hp
  exact ⟨p, sub k (mem k hk) p hpk, rfl, fun _ => rfl, fun y hy => ⟨y, hy, rfl⟩⟩
theorem zvs {q q' : T} (h1 : q'.id = q.id) (h2 : q'.kids = q.kids) : zj0 q.id q q' := by
 intro p hp
 rw [z1i, List.mem_cons] at hp
 rcases hp with rfl | hp
 ·exact ⟨q', z25 _, h1, fun h => (h rfl).elim, fun y hy => ⟨y, by rw [h2]; exact hy, rfl⟩⟩
 ·refine ⟨p, ?_, rfl, fun _ => rfl, fun y hy => ⟨y, hy, rfl⟩⟩
  rw [z1i, h2]; exact List.mem_cons_of_mem _ hp
theorem zro (id : Idv) : ∀ u : T, ∀ p ∈ z0g (z0m id u), ∃ q ∈ z0g u, p = z0m id q := by
 refine z5t fun u ih p hp => ?_
 by_cases hpu : p = z0m id u
 ·exact ⟨u, z25 u, hpu⟩
 ·have hp2 : p ∈ ((u.kids.filter (z6s id)).map (z0m id)).flatMap z0g := by
   have e : z0g (z0m id u) = z0m id u :: ((u.kids.filter (z6s id)).map (z0m id)).flatMap z0g := by
    conv => lhs; rw [z1i]
    rw [show (z0m id u).kids = (u.kids.filter (z6s id)).map (z0m id) from by rw [z4n]; rfl]
   rw [e, List.mem_cons] at hp
   exact hp.resolve_left hpu
  obtain ⟨k, hk, hpk⟩ := List.mem_flatMap.1 hp2
  obtain ⟨k', hk', rfl⟩ := List.mem_map.1 hk
  have hm := (List.mem_filter.1 hk').1
  obtain ⟨q, hq, e⟩ := ih k' hm p hpk
  exact ⟨q, z2n hm hq, e⟩
theorem zhm (id : Idv) (j : Idv) (u : T) : zj0 id (z0m j u) u := by
 intro p hp
 obtain ⟨q, hq, rfl⟩ := zro j u p hp
 refine ⟨q, hq, (z77 j q).1.symm, fun _ => ?_, fun y hy => ?_⟩
 ·unfold zfl
  obtain ⟨h1, h2, h3, h4, h5⟩ := z77 j q
  unfold T.setKids
  rw [h1, h2, h3, h4, h5]
 ·rw [z4n] at hy
  obtain ⟨y', hy', rfl⟩ := List.mem_map.1 hy
  exact ⟨y', (List.mem_filter.1 hy').1, (z77 j y').1.symm⟩
theorem zd1 {C : Ctx} {q q' : T} (hs : standsT (z27 C q) = true) (h1 : q'.id = q.id) (h2 : q'.kind = q.kind) (h3 : q'.kids = q.kids) (ha : z2w q' = true) (hC : ctxR C (z5s q) -> ctxR C (z5s q')) : standsT (z27 C q') = true := by
 rw [z1p] at hs ⊢
 obtain ⟨u1, u2, u3, u4, u5, u6⟩ := hs
 rw [z3c] at u1
 obtain ⟨hr, hp⟩ := z8v C (x := q') (y := q) h1 h2
 have hi : idsT q' = idsT q := by rw [z1f, z1f, h1, h3]
 have hd : depT q' = depT q := by rw [z55, z55 q, h3]
 have hc : cntT q' = cntT q := by rw [<- z2p, <- z2p, hi]
 refine ⟨?_, ?_, ?_, ?_, by rw [hr, hp]; exact u5, ?_⟩
 ·rw [z3c]
  refine ⟨hC u1.1, ?_⟩
  have := u1.2
  rw [z43] at this ⊢
  rw [h3, h2]
  simp only [Bool.and_eq_true] at this ⊢
  exact ⟨ha, this.2⟩
 ·rw [z7s] at u2 ⊢; omega
 ·rw [z58] at u3 ⊢; omega
 ·rw [z29, hi, <- z29]; exact u4
 ·rw [z6w, hi, <- z6w]; exact u6
def LRP (u v : T) (id : Idv) (gone : List Idv) : Prop := standsT v = true /\ cntT v + gone.length = cntT u /\ gone.Nodup /\
 ∀ k ∈ idsT u, (z08 k v).2 = (!decide (k ∈ gone)) /\ ((z08 k v).2 = true -> k ≠ id -> zfl (z08 k u).1 = zfl (z08 k v).1 /\ (z6f k u).1 = (z6f k v).1)
theorem zrp {u : T} {id : Idv} (h : zar u id = 0) : LRP u (z0m id u) id (idsT (z08 id u).1) := by
 obtain ⟨h1, h2, h3⟩ := zit h
 obtain ⟨under, n, x, d1, d2, d3, d4, d5, d6, d7, d8, d9, d10, d11, d12⟩ := zfe h1 h3 h2
 rw [d2]
 refine ⟨d4, by rw [z2p]; exact d11, z16 d5, fun k hk => ?_⟩
 by_cases hx : k ∈ idsT x
 ·have : k ∉ idsT (z0m id u) := d9 k hx
  rw [z2h, decide_eq_false this, decide_eq_true hx]
  exact ⟨rfl, fun h => by cases h⟩
 ·have hr : k ∈ idsT (z0m id u) := (d12 k hk).resolve_left hx
  rw [z2h, decide_eq_true hr, decide_eq_false hx]
  refine ⟨rfl, fun _ hne => ?_⟩
  obtain ⟨_, f2, f3⟩ := z54 (zhm id id u) (z16 d4) (z16 h1) hr
  refine ⟨(f2 hne).symm, ?_⟩
  by_cases hu : u.id = k
  ·rw [z7n hu, z7n (by rw [(z77 id u).1]; exact hu)]
  ·exact (f3 (by rw [(z77 id u).1]; exact hu)).symm
theorem zzi {u : T} {id parent : Idv} {m : Nat} (h : z89 u id parent m = 0) : LRP u (z1a parent (z6t m (z08 id u).1) (z0m id u)) id [] := by
 obtain ⟨h1, h2, h3, h4, h5, hw⟩ := ziv h
 obtain ⟨under, n, x, d1, d2, d3, d4, d5, d6, d7, d8, d9, d10, d11, d12⟩ := zfe h1 h4 h2
 rw [d2] at hw h5 ⊢
 simp only at hw h5 ⊢
 obtain ⟨C, q, l, r, e1, e2, e3, e4, f1, f2, f3, f4, f5, _, f7, f8⟩ := zfd hw
 refine ⟨f1, by simp; omega, List.nodup_nil, fun k hk => ?_⟩
 have hnv := z16 f1
 have hxu : x ∈ z0g u := by have := z9l (id := id) (u := u) (by rw [d2]); rw [d2] at this; exact this
 have hxv : x ∈ z0g (z1a parent (z6t m x) (z0m id u)) := by have := z9l (id := x.id) (u := z1a parent (z6t m x) (z0m id u)) (by rw [f3]); rw [f3] at this; exact this
 by_cases hx : k ∈ idsT x
 ·obtain ⟨a1, a2, a3⟩ := z54 (id := id) (zlb fun p hp => zbt u x hxu p hp) (z16 d5) (z16 h1) hx
  obtain ⟨b1, b2, b3⟩ := z54 (id := id) (zlb fun p hp => zbt _ x hxv p hp) (z16 d5) hnv hx
  refine ⟨by rw [b1]; rfl, fun _ hne => ⟨(a2 hne).symm.trans (b2 hne), ?_⟩⟩
  have hr : ¬ x.id = k := fun e => hne (e.symm.trans d3)
  exact (a3 hr).symm.trans (b3 hr)
 ·have hr : k ∈ idsT (z0m id u) := (d12 k hk).resolve_left hx
  obtain ⟨a1, a2, a3⟩ := z54 (zhm id id u) (z16 d4) (z16 h1) hr
  have J : zj0 id (z0m id u) (z1a parent (z6t m x) (z0m id u)) := by
   have := zd0 (id := id) (zvr q x l r) rfl C
   rw [<- e1, <- e4] at this
   exact this
  obtain ⟨b1, b2, b3⟩ := z54 J (z16 d4) hnv hr
  refine ⟨by rw [b1]; rfl, fun _ hne => ⟨(a2 hne).symm.trans (b2 hne), ?_⟩⟩
  by_cases hu : u.id = k
  ·have h0 : (z0m id u).id = k := by rw [(z77 id u).1]; exact hu
   have hv : (z1a parent (z6t m x) (z0m id u)).id = (z0m id u).id := by
    rw [e4]; conv => rhs; rw [e1]
    exact (z8v C (x := q.setKids (l ++ x :: r)) (y := q.setKids (l ++ r)) rfl rfl).1
   rw [z7n hu, z7n (hv.trans h0)]
  ·have h0 : ¬ (z0m id u).id = k := by rw [(z77 id u).1]; exact hu
   exact (a3 h0).symm.trans (b3 h0)
theorem zvt {u : T} {id : Idv} {f : T -> T} (h1 : standsT u = true) (hm : id ∈ idsT u) (hf : ∀ q : T, (f q).id = q.id /\ (f q).kids = q.kids) (hs : standsT (z1a id f u) = true) : LRP u (z1a id f u) id [] := by
 obtain ⟨C, e, hq, hpre, _⟩ := focus id u hm
 generalize (z08 id u).1 = q at e hq
 have hpost : id ∉ z3k C := (z2j (x := q) (by rw [<- e]; exact z16 h1) (hq ▸ z1e q)).2
 have e4 : z1a id f u = z27 C (f q) := by rw [e, z4m f hq C hpre hpost]
 have hi : idsT (f q) = idsT q := by rw [z1f, z1f q, (hf q).1, (hf q).2]
 have hids : idsT (z1a id f u) = idsT u := by rw [e4, z29, hi, <- z29, <- e]
 refine ⟨hs, by rw [<- z2p, <- z2p, hids]; rfl, List.nodup_nil, fun k hk => ?_⟩
 have J : zj0 id u (z1a id f u) := by
  have := zd0 (zvs (hf q).1 (hf q).2) (hf q).1 C
  rw [hq, <- e, <- e4] at this
  exact this
 obtain ⟨b1, b2, b3⟩ := z54 J (z16 h1) (z16 hs) hk
 refine ⟨by rw [b1]; rfl, fun _ hne => ⟨b2 hne, ?_⟩⟩
 by_cases hu : u.id = k
 ·have hv : (z1a id f u).id = u.id := by
   rw [e4]; conv => rhs; rw [e]
   cases C with
   | hole => exact (hf q).1
   | node t l c r => rfl
  rw [z7n hu, z7n (hv.trans hu)]
 ·exact b3 hu
theorem zvu {u : T} {id : Idv} {l : List Wd} (h : z3y u id l = 0) : LRP u (z1a id (fun q => q.setWords l) u) id [] := by
 obtain ⟨h1, hm, h3, h4, h5⟩ := zb0 h
 refine zvt h1 hm (fun q => ⟨rfl, rfl⟩) ?_
 obtain ⟨C, e, hq, hpre, _⟩ := focus id u hm
 generalize (z08 id u).1 = q at e hq h4
 have hpost : id ∉ z3k C := (z2j (x := q) (by rw [<- e]; exact z16 h1) (hq ▸ z1e q)).2
 rw [e, z4m (fun q => q.setWords l) hq C hpre hpost]
 rw [e] at h1
 refine zd1 h1 rfl rfl rfl ?_ (fun h => h)
 have hr := ((z1p _).1 h1).1
 rw [z3c] at hr
 have ha := (zaz hr.2).1
 unfold z2w at ha ⊢
 simp only [Bool.and_eq_true, decide_eq_true_eq] at ha ⊢
 obtain ⟨a1, a2, a3, a4, a5⟩ := ha
 refine ⟨a1, a2, a3, ?_, ?_⟩
 ·show zhj l = true
  unfold zhj
  rw [decide_eq_true h5, Bool.true_and, List.all_eq_true]
  intro w hw
  unfold zxj at h3
  have := List.any_eq_false.1 h3 w hw
  simpa using this
 ·rw [if_neg h4] at a5
  rw [if_neg (show ¬ (q.setWords l).kind = 0 from h4)]; exact a5
theorem zvv {u : T} {id : Idv} {name : ByteArray} (h : zjf u id name = 0) : standsT u = true /\ z46 name = true /\ id ∈ idsT u /\ ¬ (z08 id u).1.kind = 0 /\ zd3 u id name = false := by
 unfold zjf at h
 split at h
 ·cases h
 rename_i h1
 split at h
 ·cases h
 rename_i h2
 split at h
 ·cases h
 rename_i h3
 split at h
 ·cases h
 rename_i h4
 rw [not_or, Bool.not_eq_false, Bool.not_eq_false] at h1
 rw [Bool.not_eq_false, z2h, decide_eq_true_eq] at h2
 exact ⟨h1.1, h1.2, h2, h3, by simpa using h4⟩
theorem zvw {u : T} {id : Idv} {name : ByteArray} (h : zjf u id name = 0) : LRP u (z1a id (fun q => q.setLabel name) u) id [] := by
 obtain ⟨h1, h2, hm, h4, h5⟩ := zvv h
 refine zvt h1 hm (fun q => ⟨rfl, rfl⟩) ?_
 have alone : ∀ q : T, z2w q = true -> ¬ q.kind = 0 -> z2w (q.setLabel name) = true := fun q ha hk => by
  unfold z2w at ha ⊢
  simp only [Bool.and_eq_true, decide_eq_true_eq] at ha ⊢
  obtain ⟨a1, a2, a3, a4, _⟩ := ha
  refine ⟨a1, a2, a3, a4, ?_⟩
  rw [if_neg (show ¬ (q.setLabel name).kind = 0 from hk)]; exact h2
 by_cases h0 : u.id = id
 ·rw [z2z h0] at h4
  rw [z7w, if_pos h0]
  refine zd1 (C := .hole) h1 rfl rfl rfl (alone u (zaz ((z1p u).1 h1).1).1 h4) (fun _ => trivial)
 ·obtain ⟨C, q, l, x, r, e, hx, hq, n1, n2, hf, hp⟩ := zjl h0 hm
  have hnd := z16 h1
  have hnd' := hnd
  rw [e] at hnd
  have hqs : q.id ∈ idsT (q.setKids (l ++ x :: r)) := by rw [z2e]; exact List.mem_cons_self
  obtain ⟨m1, m2⟩ := z2j hnd hqs
  have hxm : id ∈ idsT (q.setKids (l ++ x :: r)) := by rw [z2e]; exact List.mem_cons_of_mem _ (zcd.2 (.inr (.inl (hx ▸ z1e x))))
  obtain ⟨k1, k2⟩ := z2j hnd hxm
  have ns := (zb2 (z7g hnd)).1 id (hx ▸ z1e x)
  have hfq : z08 q.id u = (q.setKids (l ++ x :: r), true) := by rw [e, z8u hqs C m1]; exact z2z rfl
  -- the edit at x, seen from above it
  have he : z1a id (fun q => q.setLabel name) u = z27 C (q.setKids (l ++ x.setLabel name :: r)) := by
   have hC2 : u = z27 (zgn C (.node q l .hole r)) x := by rw [zfm]; exact e
   rw [hC2, z4m (fun q => q.setLabel name) hx _ ?_ ?_, zfm]; rfl
   ·rw [zos, List.mem_append]
    rintro (h | h)
    ·exact k1 h
    ·simp only [z6c, List.append_nil, List.mem_cons] at h
     rcases h with h | h
     ·exact hq h.symm
     ·exact n2 h
   ·rw [zla, List.mem_append]
    rintro (h | h)
    ·simp only [z3k, List.nil_append] at h
     exact ns.2.2 h
    ·exact k2 h
  rw [he]
  rw [hf] at h4
  have hb : zd3 u id name = false := h5
  unfold zd3 at hb
  rw [hp, hf, hfq] at hb
  simp only [Bool.true_and, Bool.or_eq_false_iff, decide_eq_false_iff_not] at hb
  obtain ⟨_, hb⟩ := hb
  have htk : (name, x.kind) = (name, x.kind) := rfl
  have hs := h1
  rw [e, z1p] at hs
  obtain ⟨u1, u2, u3, u4, u5, u6⟩ := hs
  have hi : idsT (q.setKids (l ++ x.setLabel name :: r)) = idsT (q.setKids (l ++ x :: r)) := by
   rw [z2e, z2e, List.flatMap_append, List.flatMap_append, List.flatMap_cons, List.flatMap_cons, z1f (x.setLabel name), z1f x]; rfl
  have hdx : depT (x.setLabel name) = depT x := by rw [z55, z55 x]; rfl
  obtain ⟨hr, hk⟩ := z8v C (x := q.setKids (l ++ x.setLabel name :: r)) (y := q.setKids (l ++ x :: r)) rfl rfl
  rw [z1p]
  refine ⟨?_, ?_, ?_, ?_, by rw [hr, hk]; exact u5, ?_⟩
  ·rw [z3c, zaw] at u1 ⊢
   obtain ⟨uC, ⟨a1, a2, a3, a4, a5⟩, uX⟩ := u1
   refine ⟨uC, ⟨a1, a2, a3, a4, ?_⟩, ?_⟩
   ·intro hmem
    obtain ⟨y, hy, hk⟩ := List.mem_map.1 hmem
    have hy2 : y ∈ l ++ x :: r := by
     rcases List.mem_append.1 hy with h | h
     ·exact List.mem_append_left _ h
     ·exact List.mem_append_right _ (List.mem_cons_of_mem _ h)
    have := List.any_eq_false.1 hb y hy2
    simp only [Bool.and_eq_true, decide_eq_true_eq, not_and] at this
    exact this (congrArg Prod.fst hk) (congrArg Prod.snd hk)
   ·have := uX
    rw [z43] at this ⊢
    simp only [Bool.and_eq_true] at this ⊢
    exact ⟨alone x this.1 h4, this.2⟩
  ·rw [z7s, zm2] at u2 ⊢; omega
  ·have hc : cntT (q.setKids (l ++ x.setLabel name :: r)) = cntT (q.setKids (l ++ x :: r)) := by rw [<- z2p, <- z2p, hi]
   rw [z58] at u3 ⊢; omega
  ·rw [z29, hi, <- z29]; exact u4
  ·rw [z6w, hi, <- z6w]; exact u6
theorem move_nn {u : T} {id parent : Idv} {i : Int} (h : z89 u id parent i = 0) : 0 <= i := by
 obtain ⟨_, _, _, _, _, hw⟩ := ziv h
 unfold z3j at hw
 split at hw
 ·cases hw
 split at hw
 ·cases hw
 split at hw
 ·cases hw
 split at hw
 ·cases hw
 omega
theorem zvx {u : T} {id parent : Idv} {i : Int} (h : z89 u id parent i = 0) : LRP u (z1a parent (z6t i.toNat (z08 id u).1) (z0m id u)) id [] := by
 have h0 := move_nn h
 obtain ⟨m, rfl⟩ := Int.eq_ofNat_of_zero_le h0
 exact zzi h
end Tr
namespace Tr
theorem Upd.congr {lo : Nat} {m1 m2 : List Idv} {v v' : V} (h : Upd lo m1 v v') (hm : ∀ i, i ∈ m1 ↔ i ∈ m2) : Upd lo m2 v v' := fun a ha => by
 rcases h a ha with ⟨h1, h2, h3⟩ | ⟨h1, h2⟩
 ·exact .inl ⟨h1, h2, fun h => h3 ((hm _).2 h)⟩
 ·exact .inr ⟨h1, h2.imp (hm _).1 _root_.id⟩
theorem zc5 {v : V} {id : Idv} (hm : id ∈ idsT (treeV v)) (i : Idv) : i ∈ zam id v ↔ i ∈ id :: z41 id (treeV v) := by
 have hne := z4y.2 hm
 have hl := zj9 id (treeV v) hne
 unfold zam z41
 have e : z1s id (treeV v) = (z1s id (treeV v)).dropLast ++ [(z1s id (treeV v))[(z1s id (treeV v)).length - 1]'(by have := List.length_pos_iff.2 hne; omega)] := by
  conv => lhs; rw [<- List.dropLast_concat_getLast hne]
  rw [List.getLast_eq_getElem]
 conv => lhs; rw [e]
 rw [List.map_append, List.mem_append, List.mem_cons, List.mem_reverse]
 simp only [List.map_cons, List.map_nil, List.mem_singleton, hl]
 exact or_comm
theorem z48 {n : Nat} {v : V} (hu : Under n v) : ∀ a ∈ nodesV v, a.num < n := fun a ha => z2x hu ha _ (z3t a)
theorem zne {m n : Nat} {id : Idv} {f : T -> T} (hf : ∀ q ks, f (T.setKids q ks) = (f q).setKids ks) (hfi : ∀ q : T, (f q).id = q.id) {v v' : V} (hn : (idsT (treeV v)).Nodup) (hu : Under n v) (hnm : n <= m) (h : Chg m id (fun w w' => w'.own = f w.own /\ w'.kids = w.kids) v v') :
  treeV v' = z1a id f (treeV v) /\ Upd n (id :: z41 id (treeV v)) v v' /\ n <= v'.num := by
 have hm := h.hit
 refine ⟨zee h hn fun w _ w' _ ⟨h1, h2⟩ => ?_, Upd.congr (m1 := zam id v) (fun a ha => ?_) fun i => zc5 hm i, Nat.le_trans hnm h.root.1⟩
 ·rw [z2a w', z2a w, h1, h2, hf]
 ·rcases zbm (New := fun _ => False) h hn (fun a ha => Nat.lt_of_lt_of_le (z48 hu a ha) hnm) (fun w _ w' _ ⟨_, h2⟩ c hc a ha => .inl ⟨c, h2 ▸ hc, ha⟩) a ha with ⟨h1, h2⟩ | ⟨h1, h2, h3⟩ | h
  ·exact .inr ⟨by omega, .inl h2⟩
  ·exact .inl ⟨z48 hu a h2, h2, h3⟩
  ·exact h.elim
theorem upd_ins {m n lo at_ : Nat} {x : T} {id : Idv} {v v' : V} (hw : z3j (treeV v) id at_ x = 0) (hn : (idsT (treeV v)).Nodup) (hu : Under n v) (hnm : n <= m) (hnl : n <= lo)
  (h : Chg m id (fun w w' => w'.own = w.own /\ ∃ g, treeV g = x /\ (objsV g).Nodup /\ (∀ j ∈ objsV g, lo <= j) /\ w'.kids = w.kids.take at_ ++ g :: w.kids.drop at_) v v') :
  treeV v' = z1a id (z6t at_ x) (treeV v) /\ Upd n (id :: z41 id (treeV v)) v v' /\ n <= v'.num := by
 have hm := h.hit
 obtain ⟨_, _, _, _, _, _, _, _, _, _, _, _, _, _, hdis, _⟩ := zfd hw
 refine ⟨zee h hn fun w _ w' _ ⟨h1, g, hg, _, _, h2⟩ => ?_, Upd.congr (m1 := zam id v) (fun a ha => ?_) fun i => zc5 hm i, Nat.le_trans hnm h.root.1⟩
 ·rw [z2a w', z2a w, h1, h2]
  unfold z6t
  show w.own.setKids _ = w.own.setKids (List.take at_ (w.kids.map treeV) ++ x :: List.drop at_ (w.kids.map treeV))
  rw [List.map_append, List.map_cons, hg, List.map_take, List.map_drop]
 ·have hE : ∀ w ∈ nodesV v, ∀ w' : V, w.own.id = id -> (w'.own = w.own /\ ∃ g, treeV g = x /\ (objsV g).Nodup /\ (∀ j ∈ objsV g, lo <= j) /\ w'.kids = w.kids.take at_ ++ g :: w.kids.drop at_) -> ∀ c ∈ w'.kids, ∀ a ∈ nodesV c, (∃ d ∈ w.kids, a ∈ nodesV d) \/ (n <= a.num /\ a.own.id ∈ idsT x) := by
   intro w _ w' _ ⟨_, g, hg, _, hgo, h2⟩ c hc a ha
   rw [h2, List.mem_append, List.mem_cons] at hc
   rcases hc with hc | rfl | hc
   ·exact .inl ⟨c, List.mem_of_mem_take hc, ha⟩
   ·refine .inr ⟨Nat.le_trans hnl (hgo _ (zjx c a ha _ (z3t a))), ?_⟩
    rw [<- hg, z3s]
    exact List.mem_map.2 ⟨a, ha, rfl⟩
   ·exact .inl ⟨c, List.mem_of_mem_drop hc, ha⟩
  rcases zbm (New := fun a => n <= a.num /\ a.own.id ∈ idsT x) h hn (fun a ha => Nat.lt_of_lt_of_le (z48 hu a ha) hnm) hE a ha with ⟨h1, h2⟩ | ⟨h1, h2, h3⟩ | ⟨h1, h2⟩
  ·exact .inr ⟨by omega, .inl h2⟩
  ·exact .inl ⟨z48 hu a h2, h2, h3⟩
  ·exact .inr ⟨h1, .inr (hdis _ h2)⟩
theorem zg4 {u : T} {id : Idv} (hn : (idsT u).Nodup) (h0 : ¬ u.id = id) (hm : id ∈ idsT u) : ∃ under : Idv, (z6f id u).1 = under /\ under ∈ idsT u /\ z41 id u = under :: z41 under u /\ under ∉ idsT (z08 id u).1 /\ (∃ q ∈ z0g u, q.id = under /\ ∃ k ∈ q.kids, k.id = id) /\
  z1a under (fun q => q.setKids (q.kids.filter fun k => !decide (k.id = id))) u = z0m id u := by
 obtain ⟨C, q, l, x, r, e, hx, hq, n1, n2, hf, hp⟩ := zjl h0 hm
 subst e
 have hxm : id ∈ idsT (q.setKids (l ++ x :: r)) := by rw [z2e]; exact List.mem_cons_of_mem _ (zcd.2 (.inr (.inl (hx ▸ z1e x))))
 obtain ⟨k1, k2⟩ := z2j hn hxm
 have ns := (zb2 (z7g hn)).1 id (hx ▸ z1e x)
 have hqs : q.id ∈ idsT (q.setKids (l ++ x :: r)) := by rw [z2e]; exact List.mem_cons_self
 obtain ⟨m1, m2⟩ := z2j hn hqs
 refine ⟨q.id, by rw [hp], z7t C hqs, ?_, ?_, ⟨q.setKids (l ++ x :: r), ?_, rfl, x, by show x ∈ l ++ x :: r; simp, hx⟩, ?_⟩
 ·have e0 : z41 q.id (q.setKids (l ++ x :: r)) = [] := z98 rfl
  rw [ze8 hxm C k1, ze8 hqs C m1, e0, zlz hq n2 (hx ▸ z1e x), z98 hx]
  rfl
 ·rw [hf]
  have hnd := z7g hn
  rw [z2e, List.nodup_cons, List.flatMap_append, List.flatMap_cons, List.mem_append, List.mem_append] at hnd
  exact fun h => hnd.1 (.inr (.inl h))
 ·exact zl9 C (z25 _)
 ·have e1 := z4m (id := q.id) (fun q => q.setKids (q.kids.filter fun k => !decide (k.id = id))) (q := q.setKids (l ++ x :: r)) rfl C m1 m2
  rw [e1, z8x hq hx n2 ns.2.2 C k1 k2]
  congr 1
  show q.setKids ((l ++ x :: r).filter _) = _
  have hkl : ∀ k ∈ l, (!decide (k.id = id)) = true := fun k hk => by
   simp only [Bool.not_eq_true', decide_eq_false_iff_not]
   exact fun e => n2 (List.mem_flatMap.2 ⟨k, hk, e ▸ z1e k⟩)
  have hkr : ∀ k ∈ r, (!decide (k.id = id)) = true := fun k hk => by
   simp only [Bool.not_eq_true', decide_eq_false_iff_not]
   exact fun e => ns.2.2 (List.mem_flatMap.2 ⟨k, hk, e ▸ z1e k⟩)
  rw [List.filter_append, List.filter_cons, if_neg (by simp [hx]), List.filter_eq_self.2 hkl, List.filter_eq_self.2 hkr]
theorem z000 {w : V} {i : Idv} : treeV (V.mk w.num w.row w.own (w.kids.filter fun k => !decide (k.own.id = i))) = (treeV w).setKids ((treeV w).kids.filter fun k => !decide (k.id = i)) := by
 rw [z2a, z2a w]
 show w.own.setKids ((w.kids.filter fun k => !decide (k.own.id = i)).map treeV) = w.own.setKids ((w.kids.map treeV).filter fun k => !decide (k.id = i))
 rw [List.filter_map]
 congr 2
 refine List.filter_congr fun k _ => ?_
 simp only [Function.comp, z2c]
theorem zwm {m n : Nat} {id under : Idv} {v v' : V} (hn : (idsT (treeV v)).Nodup) (hu : Under n v) (hnm : n <= m) (he : z1a under (fun q => q.setKids (q.kids.filter fun k => !decide (k.id = id))) (treeV v) = z0m id (treeV v))
  (h : Chg m under (fun w w' => w'.own = w.own /\ w'.kids = w.kids.filter fun k => !decide (k.own.id = id)) v v') :
  treeV v' = z0m id (treeV v) /\ Upd n (under :: z41 under (treeV v)) v v' /\ n <= v'.num := by
 have hm := h.hit
 refine ⟨?_, Upd.congr (m1 := zam under v) (fun a ha => ?_) fun i => zc5 hm i, Nat.le_trans hnm h.root.1⟩
 ·rw [<- he]
  refine zee h hn fun w _ w' _ ⟨h1, h2⟩ => ?_
  rw [<- z000, z2a w', z2a (V.mk _ _ _ _), h1, h2]
  rfl
 ·rcases zbm (New := fun _ => False) h hn (fun a ha => Nat.lt_of_lt_of_le (z48 hu a ha) hnm) (fun w _ w' _ ⟨_, h2⟩ c hc a ha => .inl ⟨c, (List.mem_filter.1 (h2 ▸ hc)).1, ha⟩) a ha with ⟨h1, h2⟩ | ⟨h1, h2, h3⟩ | h
  ·exact .inr ⟨by omega, .inl h2⟩
  ·exact .inl ⟨z48 hu a h2, h2, h3⟩
  ·exact h.elim
theorem zhv : ∀ t : T, ∀ y ∈ z0g t, ∀ z ∈ z0g y, z ∈ z0g t := by
 refine z5t fun t ih y hy z hz => ?_
 rw [z1i, List.mem_cons] at hy
 rcases hy with rfl | hy
 ·exact hz
 ·obtain ⟨k, hk, hy⟩ := List.mem_flatMap.1 hy
  exact z2n hk (ih k hk y hy z hz)
theorem z001 (t y : T) (hy : y ∈ z0g t) (i : Idv) (hi : i ∈ idsT y) : i ∈ idsT t := by
 obtain ⟨z, hz, rfl⟩ := List.mem_map.1 hi
 exact List.mem_map.2 ⟨z, zhv t y hy z hz, rfl⟩
theorem zwn {k : Idv} : ∀ u : T, ∀ y ∈ z1s k u, k ∈ idsT y := by
 refine z5t fun u ih y hy => ?_
 have hne : z1s k u ≠ [] := List.ne_nil_of_mem hy
 by_cases h0 : u.id = k
 ·rw [z47 h0, List.mem_singleton] at hy
  subst hy
  rw [<- h0]; exact z1e _
 ·obtain ⟨i, hi, h1, h2, h3⟩ := z9m h0 hne
  rw [h3, List.mem_cons] at hy
  rcases hy with rfl | hy
  ·exact z4y.1 hne
  ·exact ih _ (List.getElem_mem hi) y hy
theorem zwo {u : T} {id k : Idv} (hn : (idsT u).Nodup) (hk : k ∈ idsT u) (hid : id ∈ idsT u) (hx : k ∉ idsT (z08 id u).1) : ∀ i ∈ k :: z41 k u, i ∉ idsT (z08 id u).1 := by
 intro i hi hm
 have hf2 : (z08 id u).2 = true := by rw [z2h, decide_eq_true hid]
 have hiu : i ∈ idsT u := zol i hm hf2
 -- k is below i
 obtain ⟨y, hy, e⟩ : ∃ y ∈ z1s k u, y.id = i := by
  have hne := z4y.2 hk
  rcases List.mem_cons.1 hi with rfl | hi
  ·exact ⟨_, List.getElem_mem _, zj9 i u hne⟩
  ·unfold z41 at hi
   rw [List.mem_reverse] at hi
   obtain ⟨y, hy, e⟩ := List.mem_map.1 hi
   exact ⟨y, (List.dropLast_sublist _).subset hy, e⟩
 have hyk := zwn u y hy
 -- y is the node of i, that lies below x
 obtain ⟨z, hz, ez⟩ := List.mem_map.1 hm
 have hyu := zcs k u y hy
 have hzu : z ∈ z0g u := zhv u _ (z9l hf2) z hz
 have hyz : y = z := z6q (f := T.id) hn y hyu z hzu (e.trans ez.symm)
 subst hyz
 exact hx (z001 _ y hz k hyk)
theorem znf : ∀ v : V, ∀ x ∈ nodesV v, ∀ a ∈ nodesV x, a ∈ nodesV v := by
 refine zci fun v ih x hx a ha => ?_
 rw [z3a, List.mem_cons] at hx
 rcases hx with rfl | hx
 ·exact ha
 ·obtain ⟨k, hk, hx⟩ := List.mem_flatMap.1 hx
  exact z2b hk (ih k hk x hx a ha)
theorem upd_mov {m n m2 n2 at_ : Nat} {id under parent : Idv} {v r v' x : V} (h1 : standsT (treeV v) = true) (h0 : ¬ (treeV v).id = id) (hid : id ∈ idsT (treeV v)) (hp : parent ∈ idsT (treeV v)) (hpx : parent ∉ idsT (z08 id (treeV v)).1)
  (hun : z41 id (treeV v) = under :: z41 under (treeV v)) (hum : under ∈ idsT (treeV v)) (hux : under ∉ idsT (z08 id (treeV v)).1)
  (hx : treeV x = (z08 id (treeV v)).1) (hxv : x ∈ nodesV v) (hu : Under n v) (hnm : n <= m) (ho : treeV r = z0m id (treeV v) /\ Upd n (under :: z41 under (treeV v)) v r /\ n <= r.num) (hnr : (idsT (treeV r)).Nodup)
  (hur : Under n2 r) (hn2 : n <= n2) (hnm2 : n2 <= m2) (h : Chg m2 parent (fun w w' => w'.own = w.own /\ w'.kids = w.kids.take at_ ++ x :: w.kids.drop at_) r v') :
  treeV v' = z1a parent (z6t at_ (z08 id (treeV v)).1) (z0m id (treeV v)) /\ Upd n (z41 id (treeV v) ++ parent :: z41 parent (treeV v)) v v' /\ n <= v'.num := by
 have hn := z16 h1
 obtain ⟨o1, o2, o3⟩ := ho
 have hm := h.hit
 have hanc : z41 parent (treeV r) = z41 parent (treeV v) := by
  rw [o1]
  exact zyg (treeV v) hn h0 hp fun y hy => by rw [hy] at hpx; exact hpx
 refine ⟨?_, fun a ha => ?_, Nat.le_trans (Nat.le_trans hn2 hnm2) h.root.1⟩
 ·rw [<- o1]
  refine zee h hnr fun w _ w' _ ⟨g1, g2⟩ => ?_
  rw [z2a w', z2a w, g1, g2]
  unfold z6t
  show w.own.setKids _ = w.own.setKids (List.take at_ (w.kids.map treeV) ++ (z08 id (treeV v)).1 :: List.drop at_ (w.kids.map treeV))
  rw [List.map_append, List.map_cons, hx, List.map_take, List.map_drop]
 ·have hxi : ∀ a ∈ nodesV x, a.own.id ∈ idsT (z08 id (treeV v)).1 := fun a ha => by
   rw [<- hx, z3s]; exact List.mem_map.2 ⟨a, ha, rfl⟩
  have hE : ∀ w ∈ nodesV r, ∀ w' : V, w.own.id = parent -> (w'.own = w.own /\ w'.kids = w.kids.take at_ ++ x :: w.kids.drop at_) -> ∀ c ∈ w'.kids, ∀ a ∈ nodesV c, (∃ d ∈ w.kids, a ∈ nodesV d) \/ a ∈ nodesV x := by
   intro w _ w' _ ⟨_, g2⟩ c hc a ha
   rw [g2, List.mem_append, List.mem_cons] at hc
   rcases hc with hc | rfl | hc
   ·exact .inl ⟨c, List.mem_of_mem_take hc, ha⟩
   ·exact .inr ha
   ·exact .inl ⟨c, List.mem_of_mem_drop hc, ha⟩
  have hmem : ∀ i, i ∈ z41 id (treeV v) ++ parent :: z41 parent (treeV v) ↔ i ∈ under :: z41 under (treeV v) \/ i ∈ parent :: z41 parent (treeV v) := fun i => by rw [List.mem_append, hun]
  rw [hmem]
  rcases zbm (New := fun a => a ∈ nodesV x) h hnr (fun a ha => Nat.lt_of_lt_of_le (z48 hur a ha) hnm2) hE a ha with ⟨g1, g2⟩ | ⟨g1, g2, g3⟩ | g
  ·rw [zc5 hm, hanc] at g2
   exact .inr ⟨by omega, .inl (.inr g2)⟩
  ·rw [zc5 hm, hanc] at g3
   rcases o2 a g2 with ⟨e1, e2, e3⟩ | ⟨e1, e2⟩
   ·exact .inl ⟨e1, e2, fun h => h.elim e3 g3⟩
   ·exact .inr ⟨e1, e2.imp .inl _root_.id⟩
  ·have hav : a ∈ nodesV v := by
    have := znf v x hxv a g
    exact this
   refine .inl ⟨z48 hu a hav, hav, fun h => ?_⟩
   rcases h with h | h
   ·exact zwo hn hum hid hux _ h (hxi a g)
   ·exact zwo hn hp hid hpx _ h (hxi a g)
end Tr
end
section
open Abs Facts Tr
attribute [local irreducible] awp
set_option maxRecDepth 100000
end
section
open Abs Facts Tr
attribute [local irreducible] awp
set_option maxRecDepth 100000
structure VnSz (x : Vn) : Prop where
 sz : szB x.u = true
 cn : cntT x.u <= 1000000
 dp : depT x.u <= 100000
 ln : x.l.length <= 1000000
namespace Tr
end Tr
section
variable {x : Vn}
end
end
section
open Abs Facts Tr
attribute [local irreducible] awp
set_option maxRecDepth 100000
theorem z8z {st : St} {q e e2 k k2 : Nat} {cs cs2 : List D} (h : st.H q = some (.row e k cs)) : z8r st (z0f st.H q (some (.row e2 k2 cs2))) st.nx := by
 refine ⟨Nat.le_refl _, fun id => ⟨fun _ e0 c0 h0 => ?_, fun hlt e0 c0 h0 => ?_⟩⟩
 ·unfold z0f
  split
  ·rename_i e1; rw [e1, h] at h0; cases h0
  ·exact h0
 ·unfold z0f at h0
  split at h0
  ·cases h0
  ·exact ⟨hlt, h0⟩
theorem zoj {at_ : Nat} {x w : V} (h : at_ <= w.kids.length) : rowV (znq at_ x w) = .row 75 (w.kids.length + 1) (((w.kids.take at_).map fun v => .ptr v.num 0) ++ [.ptr x.num 0] ++ ((w.kids.drop at_).map fun v => .ptr v.num 0)) := by
 unfold rowV znq
 have hl : (w.kids.take at_ ++ x :: w.kids.drop at_).length = w.kids.length + 1 := by
  rw [List.length_append, List.length_cons, List.length_take, List.length_drop]; omega
 rw [hl]
 simp
theorem zv4 {at_ : Nat} {x w : V} (h : at_ <= w.kids.length) : (znq at_ x w).length = w.kids.length + 1 := by
 unfold znq
 rw [List.length_append, List.length_cons, List.length_take, List.length_drop]; omega
section
variable {lo : Nat} {H0 : HM} {w : V}
theorem do_rel {b : Nat} {name : ByteArray} (hb : H0 b = some (.box 9 [.str name])) (hbl : b < lo) : DoOK 100 [.ptr b 0] lo H0 (fldE fun q => q.setLabel name) w := by
 intro m H n c r hp h0
 have hbx := hp.box
 have hbb := (h0 b hbl).trans hb
 have hmc := hp.mc
 have hcn := hp.cn
 have hlom := hp.lom
 have k1 : (b == c) = false := z8s (by omega)
 refine (z17 [] Tryz.func100 rfl (by decide +kernel) z0b (by decide +kernel) (by simp [Tryz.ntmps100]) ?_)
 show awp _ _ (Code.region _ _ _) _ _
 repeat' (first | ((refine zqr fun K J => ?_); (simp (disch := omega) only [go_sem, Nat.reduceBEq, ↓reduceIte, reduceCtorEq, Nat.reduceAdd, Nat.reduceLeDiff, Nat.reduceLT, hbx, hbb, nodeB])) | refine zqu (by (simp (disch := omega) only [go_sem]); rfl) rfl ?_ | (refine J _ ?_; clear J K))
 (simp (disch := omega) only [go_sem])
 exact ⟨rfl, rfl⟩
theorem zyq {b : Nat} {l : List Wd} (hl : l.length <= 1000000) (hb : H0 b = some (.box 24 [z0n l])) (hbl : b < lo) : DoOK 91 [.ptr b 0] lo H0 (fldE fun q => q.setWords l) w := by
 intro m H n c r hp h0
 have hbx := hp.box
 have hbb := (h0 b hbl).trans hb
 have hmc := hp.mc
 have hcn := hp.cn
 have hlom := hp.lom
 have c1 := z5e l (by omega)
 refine (z17 [] Tryz.func91 rfl (by decide +kernel) z0b (by decide +kernel) (by simp [Tryz.ntmps91]) ?_)
 show awp _ _ (Code.region _ _ _) _ _
 repeat' (first | ((first | refine zqr fun K J => ?_ | refine zqs (c1) ?_); (simp (disch := omega) only [go_sem, Nat.reduceBEq, ↓reduceIte, reduceCtorEq, Nat.reduceAdd, hbx, hbb, nodeB])) | refine zqu (by (simp (disch := omega) only [go_sem]); rfl) rfl ?_ | (refine J _ ?_; clear J K))
 (simp (disch := omega) only [go_sem])
 exact ⟨rfl, rfl⟩
theorem do_head {b : Nat} {l : List Wd} (hl : l.length <= 1000000) (hb : H0 b = some (.box 24 [z0n l])) (hbl : b < lo) : DoOK 101 [.ptr b 0] lo H0 (fldE fun q => q.setHead l) w := by
 intro m H n c r hp h0
 have hbx := hp.box
 have hbb := (h0 b hbl).trans hb
 have hmc := hp.mc
 have hcn := hp.cn
 have hlom := hp.lom
 have c1 := z5e l (by omega)
 refine (z17 [] Tryz.func101 rfl (by decide +kernel) z0b (by decide +kernel) (by simp [Tryz.ntmps101]) ?_)
 show awp _ _ (Code.region _ _ _) _ _
 repeat' (first | ((first | refine zqr fun K J => ?_ | refine zqs (c1) ?_); (simp (disch := omega) only [go_sem, Nat.reduceBEq, ↓reduceIte, reduceCtorEq, Nat.reduceAdd, hbx, hbb, nodeB])) | refine zqu (by (simp (disch := omega) only [go_sem]); rfl) rfl ?_ | (refine J _ ?_; clear J K))
 (simp (disch := omega) only [go_sem])
 exact ⟨rfl, rfl⟩
theorem do_out {b : Nat} {i : Idv} (hb : H0 b = some (idB i)) (hbl : b < lo) (hk : ∃ k ∈ w.kids, k.own.id = i) (hl : w.kids.length <= 1000000) : DoOK 151 [.ptr b 0] lo H0 (outE i) w := by
 intro m H n c r hp h0
 have hbx := hp.box
 have hbb := (h0 b hbl).trans hb
 have hmc := hp.mc
 have hcn := hp.cn
 have hlom := hp.lom
 obtain ⟨q, rfl⟩ : ∃ q, r = some q := by
  cases hr : r with
  | none =>
   obtain ⟨k, hk, _⟩ := hk
   rw [hp.nor hr] at hk; cases hk
  | some q => exact ⟨q, rfl⟩
 obtain ⟨h1, h2, h3⟩ := hp.row q rfl
 have hdel := zph (nx := n) h3 (by omega) hl hbb (by omega) (by omega) (fun k hk => by
  obtain ⟨g1, g2⟩ := hp.kids k hk
  have := g2 _ (z3t k)
  exact ⟨((z1v _ _).1 g1).1, by omega, by omega⟩) hk
 have k1 : (c == n) = false := z8s (by omega)
 have k2 : (c == q) = false := z8s (by omega)
 refine (z17 [] Tryz.func151 rfl (by decide +kernel) z0b (by decide +kernel) (by simp [Tryz.ntmps151]) ?_)
 show awp _ _ (Code.region _ _ _) _ _
 repeat' (((refine zqr fun K J => ?_); (simp (disch := omega) only [go_sem, Nat.reduceBEq, ↓reduceIte, reduceCtorEq, Nat.reduceAdd, hbx, nodeB, kdR])))
 refine z1b (hdel.mono fun r' H' n' ⟨e1, e2, e3⟩ => ?_)
 subst e1; subst e2; subst e3
 (try (simp (disch := omega) only [go_sem, Nat.reduceBEq, ↓reduceIte, reduceCtorEq, Nat.reduceAdd, Nat.reduceLeDiff, Nat.reduceLT, hbx, nodeB, kdR, k1, k2])); repeat' (first | refine zqu (by (simp (disch := omega) only [go_sem]); rfl) rfl ?_ | (refine J _ ?_; clear J K))
 (simp (disch := omega) only [go_sem])
 exact ⟨rfl, rfl⟩
theorem do_mov {a b at_ : Nat} {x : V} (ha : H0 a = some (.box 3 [.int .i64 at_])) (hal : a < lo) (hb : H0 b = some (.box 75 [.ptr x.num 0])) (hbl : b < lo) (hx : Stand H0 x) (hux : Under lo x) (hat : at_ <= w.kids.length) (hl : w.kids.length <= 1000000) :
  DoOK 99 [.ptr a 0, .ptr b 0] lo H0 (movE at_ x) w := by
 intro m H n c r hp h0
 obtain ⟨a1, a2, a3, a4, a5, a6, a7, a8⟩ := z9s hp
 have hmc := hp.mc
 have hcn := hp.cn
 have hlom := hp.lom
 have hbx := hp.box
 refine zc3 Tryz.func99 rfl (by decide +kernel) (by simp [Tryz.ntmps99]) ?_
 obtain ⟨o, ho⟩ : ∃ o, o = zce w c r H n := ⟨_, rfl⟩
 rw [<- ho] at a1 a2 a3 a4 a5 a6 a7 a8
 have hseal : SealTo Tryz.prog (st0 [.ptr c 0, .ptr a 0, .ptr b 0] H n) (st0 [.ptr c 0, .ptr a 0, .ptr b 0] o.2.1 o.2.2) := by
  cases hr : r with
  | none =>
   rw [hr] at ho hbx
   have h1 : (st0 [.ptr c 0, .ptr a 0, .ptr b 0] H n).H c = some (.box 117 [.int .i64 w.own.id.act, .int .i64 w.own.id.item, .int .i64 w.own.id.n, .int .i64 w.own.kind, .str w.own.label, z0n w.own.head, z0n w.own.words, .nil, .nil]) := hbx
   have h2 := z9v (P := Tryz.prog) (off := 8) 75 h1 rfl
   rw [ho]
   exact h2
  | some q =>
   rw [hr] at ho
   rw [ho]
   exact SealTo.refl _
 refine Sem.seal _ hseal ?_
 have hba := ((a5 a (by omega)).trans (h0 a hal)).trans ha
 have hbb := ((a5 b (by omega)).trans (h0 b hbl)).trans hb
 obtain ⟨q, H1, n1⟩ := o
 simp only at a1 a2 a3 a4 a5 a6 a7 a8 hba hbb ⊢
 refine Sem.walk (own := [3000008, 3000009, 3000010, 4000012]) z0b (by decide +kernel) ?_
 show awp _ _ (Code.region _ _ _) _ _
 unfold rowV at a7
 have k1 : (c == q) = false := z8s (by omega)
 repeat' (((refine zqq (by decide +kernel) fun K J => ?_); (simp (disch := omega) only [go_sem, Nat.reduceBEq, Nat.reduceEqDiff, ↓reduceIte, reduceCtorEq, Nat.reduceAdd, Nat.reduceLeDiff, a6, hba, hbb, nodeB])))
 refine zef (zh9 (i := at_) (nn := true) (els := [.ptr x.num 0]) a7 hat (by simp) rfl (by simp; omega)) rfl rfl (z8z a7) ?_
 (try (simp (disch := omega) only [go_sem, Nat.reduceBEq, Nat.reduceEqDiff, ↓reduceIte, reduceCtorEq, Nat.reduceAdd, Nat.reduceLeDiff, Nat.reduceLT, a6, k1, nodeB])); repeat' (first | refine zqu (by (simp (disch := omega) only [go_sem]); rfl) rfl ?_ | (refine J _ ?_; clear J K))
 unfold movE rowE
 rw [<- ho, zoj hat, zv4 hat]
 exact ⟨rfl, rfl, rfl⟩
theorem do_ins {a b at_ : Nat} {t : T} (ht : szB t = true) (ha : H0 a = some (.box 3 [.int .i64 at_])) (hal : a < lo) (hb : H0 b = some (unitB t)) (hbl : b < lo) (hat : at_ <= w.kids.length) (hl : w.kids.length <= 1000000) :
  DoOK 96 [.ptr a 0, .ptr b 0] lo H0 (insE at_ t) w := by
 intro m H n c r hp h0
 obtain ⟨a1, a2, a3, a4, a5, a6, a7, a8⟩ := z9s hp
 have hmc := hp.mc
 have hcn := hp.cn
 have hlom := hp.lom
 have hbx := hp.box
 refine zc3 Tryz.func96 rfl (by decide +kernel) (by simp [Tryz.ntmps96]) ?_
 obtain ⟨o, ho⟩ : ∃ o, o = zce w c r H n := ⟨_, rfl⟩
 rw [<- ho] at a1 a2 a3 a4 a5 a6 a7 a8
 have hseal : SealTo Tryz.prog (st0 [.ptr c 0, .ptr a 0, .ptr b 0] H n) (st0 [.ptr c 0, .ptr a 0, .ptr b 0] o.2.1 o.2.2) := by
  cases hr : r with
  | none =>
   rw [hr] at ho hbx
   have h1 : (st0 [.ptr c 0, .ptr a 0, .ptr b 0] H n).H c = some (.box 117 [.int .i64 w.own.id.act, .int .i64 w.own.id.item, .int .i64 w.own.id.n, .int .i64 w.own.kind, .str w.own.label, z0n w.own.head, z0n w.own.words, .nil, .nil]) := hbx
   have h2 := z9v (P := Tryz.prog) (off := 8) 75 h1 rfl
   rw [ho]
   exact h2
  | some q =>
   rw [hr] at ho
   rw [ho]
   exact SealTo.refl _
 refine Sem.seal _ hseal ?_
 have hba := ((a5 a (by omega)).trans (h0 a hal)).trans ha
 have hbb := ((a5 b (by omega)).trans (h0 b hbl)).trans hb
 have hgr := z6d t o.2.1 o.2.2
 have hgn : (z5b t o.2.1 o.2.2).1.num = o.2.2 + 1 := by rw [z9u]; rfl
 have hcg := zp1 t ht o.2.1 o.2.2
 unfold insE rowE
 simp only
 rw [<- ho]
 obtain ⟨q, H1, n1⟩ := o
 simp only at a1 a2 a3 a4 a5 a6 a7 a8 hba hbb hgr hgn hcg ⊢
 generalize z5b t H1 n1 = g at hgr hgn hcg ⊢
 obtain ⟨g1, g2, g3, g4, g5, g6, g7⟩ := hgr
 refine Sem.walk (own := [3000008, 3000009, 3000010, 4000011, 10000011, 4000013]) z0b (by decide +kernel) ?_
 show awp _ _ (Code.region _ _ _) _ _
 unfold rowV at a7
 have k1 : (c == q) = false := z8s (by omega)
 have f1 := (g3 c (by omega)).trans a6
 have f2 := (g3 q (by omega)).trans a7
 repeat' (((refine zqq (by decide +kernel) fun K J => ?_); (simp (disch := omega) only [go_sem, Nat.reduceBEq, Nat.reduceEqDiff, ↓reduceIte, reduceCtorEq, Nat.reduceAdd, Nat.reduceLeDiff, a6, hba, hbb, nodeB, unitB])))
 refine z4l hcg rfl rfl rfl ⟨by show n1 <= _; omega, g3⟩ ?_
 (try (simp (disch := omega) only [go_sem, Nat.reduceBEq, ↓reduceIte, reduceCtorEq, Nat.reduceAdd, Nat.reduceLeDiff])); repeat' skip
 refine zef (zh9 (i := at_) (nn := true) (els := [.ptr (n1 + 1) 0]) f2 hat (by simp) rfl (by simp; omega)) rfl rfl (z8z f2) ?_
 (try (simp (disch := omega) only [go_sem, Nat.reduceBEq, Nat.reduceEqDiff, ↓reduceIte, reduceCtorEq, Nat.reduceAdd, Nat.reduceLeDiff, Nat.reduceLT, f1, k1, nodeB])); repeat' (first | refine zqu (by (simp (disch := omega) only [go_sem]); rfl) rfl ?_ | (refine J _ ?_; clear J K))
 rw [zoj hat, zv4 hat, hgn]
 exact ⟨rfl, rfl, rfl⟩
end
end
section
open Abs Facts Tr
attribute [local irreducible] awp
set_option maxRecDepth 100000
def Det (f : FuncId) (ds : List D) (H : HM) (nx : Nat) (F : D × HM × Nat -> Prop) : Prop := ∃ o : D × HM × Nat, AC Tryz.prog f ds H nx (fun r H' n' => r = o.1 /\ H' = o.2.1 /\ n' = o.2.2) /\ F o
theorem Det.mono {f : FuncId} {ds : List D} {H : HM} {nx : Nat} {F G : D × HM × Nat -> Prop} (h : Det f ds H nx F) (hFG : ∀ o, F o -> G o) : Det f ds H nx G := by
 obtain ⟨o, h1, h2⟩ := h
 exact ⟨o, h1, hFG o h2⟩
section
variable {own : List Nat} {n : FuncId} {args cap : List D} {g : List Oper -> (St -> Prop) -> St -> Prop} {rest : List Oper} {K : St -> Prop} {st : St} {dst : Option Nat} {F : D × HM × Nat -> Prop}
theorem z94 (h : Det n (args ++ cap) st.H st.nx F) (hk : ∀ o, F o -> g rest K ((st.withH o.2.1 o.2.2).put dst o.1)) : zmm Tryz.prog (.fn n cap) args g rest K st dst := by
 obtain ⟨o, h1, h2⟩ := h
 exact z1b (h1.mono fun r H' n' ⟨e1, e2, e3⟩ => by subst e1; subst e2; subst e3; exact hk o h2)
end
def treeB (c : D) : HObj := .box 78 [c]
structure AtOK (e : Int) (lo : Nat) (id : Idv) (Q : V -> V -> Prop) (v : V) (H : HM) (n : Nat) (o : D × HM × Nat) : Prop where
 le : n <= o.2.2
 agree : Agree n H o.2.1
 shape : (∃ t, o.1 = .tup [.ptr t 0, .int .i64 e]) \/ o.1 = .tup [.nptr, .int .i64 e]
 bad : e ≠ 0 -> o.1 = .tup [.nptr, .int .i64 e]
 good : e = 0 -> id ∈ idsT (treeV v) -> ∃ v' t, o.1 = .tup [.ptr t 0, .int .i64 0] /\ n <= t /\ t < o.2.2 /\ o.2.1 t = some (treeB (.ptr v'.num 0)) /\ Chg n id Q v v' /\ Stand o.2.1 v' /\ Under o.2.2 v'
theorem zfa {e : Int} {g : FuncId} {cap : List D} {lo tb : Nat} {id : Idv} {E : zq8} {Q : V -> V -> Prop} {H0 H : HM} {v : V} {n : Nat} (htb : tb < n) (hH : H tb = some (treeB (.ptr v.num 0))) (hs : szB (treeV v) = true) (hE : e = 0 -> ∀ w ∈ nodesV v, w.own.id = id -> DoOK g cap lo H0 E w /\ zmr lo H0 E Q w)
  (hlo : lo <= n) (h0 : Agree lo H0 H) (hst : Stand H v) (hu : Under lo v) : Det 90 [.ptr tb 0, .int .i64 e, z0z id, .fn g cap] H n (AtOK e lo id Q v H n) := by
 have k1 : (tb == n) = false := z8s (by omega)
 have hag : Agree n H (z0f H n (some (idB id))) := fun j hj => z00 _ (by omega)
 by_cases he : e = 0
 ·subst he
  have hst1 : Stand (z0f H n (some (idB id))) v := Stand.agree (n := lo) (fun j hj => hag j (by omega)) v hu hst
  have h01 : Agree lo H0 (z0f H n (some (idB id))) := fun j hj => (hag j (by omega)).trans (h0 j hj)
  have hcg := zpm (g := g) (cap := cap) (id := id) (E := E) (Q := Q) (H0 := H0) v hs (hE rfl) (z0f H n (some (idB id))) (n + 1) (by omega) h01 hst1 hu
  have hf := zkh (id := id) (E := E) (Q := Q) (H0 := H0) v (fun w hw e => (hE rfl w hw e).2) (z0f H n (some (idB id))) (n + 1) (by omega) h01 hst1 hu
  generalize zmq id E v (z0f H n (some (idB id))) (n + 1) = o at hcg hf
  have hle := hf.le
  refine ⟨(.tup [.ptr o.2.2 0, .int .i64 0], z0f o.2.1 o.2.2 (some (treeB (ptrO o.1))), o.2.2 + 1), ?_, ⟨by simp only; omega, fun j hj => ?_, .inl ⟨_, rfl⟩, fun h => absurd rfl h, fun _ hin => ?_⟩⟩
  ·refine (z17 [3000016, 3000017, 4000019, 10000019] Tryz.func90 rfl (by decide +kernel) z0b (by decide +kernel) (by simp [Tryz.ntmps90]) ?_)
   show awp _ _ (Code.seq _ _) _ _
   unfold idB at hcg hf
   repeat' (first | refine zqj ?_ | ((first | refine zqh fun K J => ?_ | refine zqe (by decide +kernel) fun K J => ?_); (simp (disch := omega) only [go_sem, Nat.reduceBEq, Nat.reduceEqDiff, ↓reduceIte, reduceCtorEq, Nat.reduceAdd, Nat.reduceLeDiff, hH, k1, treeB, z0z, z0p])) | ((refine zqd _ rfl (fun hc => ?_) (fun hc => ?_)) <;> (first | (cases hc; done) | ((try simp only [] at hc); (try (exfalso; omega))))) | refine zqb ?_ | (refine J _ ?_; clear J K))
   refine z4l hcg rfl rfl rfl ⟨hle, hf.agree⟩ ?_
   obtain ⟨x, H1, n1⟩ := o
   cases x with
   | none =>
    unfold ptrO
    (try (simp (disch := omega) only [go_sem, Nat.reduceBEq, ↓reduceIte, Nat.reduceLeDiff])); repeat' (first | refine zqn ?_ | refine zqu (by (simp (disch := omega) only [go_sem]); rfl) rfl ?_ | (refine J _ ?_; clear J K))
    (simp (disch := omega) only [go_sem, Nat.reduceBEq])
    rfl
   | some x =>
    unfold ptrO
    (try (simp (disch := omega) only [go_sem, Nat.reduceBEq, ↓reduceIte, Nat.reduceLeDiff])); repeat' (first | refine zqn ?_ | refine zqu (by (simp (disch := omega) only [go_sem]); rfl) rfl ?_ | (refine J _ ?_; clear J K))
    (simp (disch := omega) only [go_sem, Nat.reduceBEq])
    rfl
  ·simp only
   rw [z00 _ (by omega), hf.agree j (by omega), hag j hj]
  ·obtain ⟨v', e1, hch, hs', hu', _⟩ := hf.yes hin
   have hs2 : Stand (z0f o.2.1 o.2.2 (some (treeB (ptrO o.1)))) v' := Stand.on v' (fun j hj => z00 _ (by have := hu' j hj; omega)) hs'
   refine ⟨v', o.2.2, rfl, by omega, by simp, ?_, Chg.mono (by omega) (fun _ _ _ h => h) hch, hs2, hu'.le (by simp)⟩
   simp only
   rw [z1u, e1]; rfl
 ·refine ⟨(.tup [.nptr, .int .i64 e], z0f H n (some (idB id)), n + 1), ?_, ⟨by simp, hag, .inr rfl, fun _ => rfl, fun h => absurd h he⟩⟩
  refine (z17 [3000016, 3000017, 4000019, 10000019] Tryz.func90 rfl (by decide +kernel) z0b (by decide +kernel) (by simp [Tryz.ntmps90]) ?_)
  show awp _ _ (Code.seq _ _) _ _
  repeat' (first | refine zqj ?_ | ((refine zqh fun K J => ?_); (simp (disch := omega) only [go_sem, Nat.reduceBEq, ↓reduceIte, z0z, z0p])) | ((refine zqd _ rfl (fun hc => ?_) (fun hc => ?_)) <;> (((try simp only [z0e] at hc); (try (exfalso; omega))))) | refine zqg ?_ | refine zqu (by (simp (disch := omega) only [go_sem]); rfl) rfl ?_ | (refine J _ ?_; clear J K))
  (simp (disch := omega) only [go_sem, Nat.reduceBEq])
  rfl
end
section
open Abs Facts Tr
attribute [local irreducible] awp
set_option maxRecDepth 100000
section
variable {H : HM} {n tb : Nat} {v : V}
theorem zfk (hs : szB (treeV v) = true) (htb : tb < n) (hH : H tb = some (treeB (.ptr v.num 0))) (hu : Under n v) (hst : Stand H v) : RC Tryz.prog 14 [.ptr tb 0] H n (z0o (treeV v)) := by
 have k1 : (tb == n) = false := z8s (by omega)
 have c1 : ∀ o : Option HObj, RC Tryz.prog 41 [.ptr v.num 0] (z0f H n o) (n + 1) (z0o (treeV v)) := fun o =>
  zul v hs _ _ (hu.le (by omega)) (Stand.agree (fun j hj => z00 _ (by omega)) v hu hst)
 have hcu := z0k (treeV v)
 refine zmz (z02 _) (z17 [] Tryz.func14 rfl (by decide +kernel) z0b (by decide +kernel) (by simp [Tryz.ntmps14]) ?_)
 show awp _ _ (Code.seq _ _) _ _
 rw [show Tryz.f14.results.toList = [.cell 2 27] from rfl]
 repeat' (first | ((first | refine zqh fun K J => ?_ | refine z15 (c1 _) ?_); (simp (disch := omega) only [go_sem, Nat.reduceBEq, ↓reduceIte, reduceCtorEq, Nat.reduceAdd, Nat.reduceLeDiff, hH, k1, treeB])) | refine zqn ?_ | refine zqu (by (simp (disch := omega) only [go_sem, Nat.reduceBEq, ↓reduceIte, Nat.reduceLeDiff]); rfl) rfl ?_ | (refine J _ ?_; clear J K))
 (simp (disch := omega) only [go_sem, z0o])
 exact fun j hj => by simp (disch := omega) only [z3g]
theorem ac_Unit (hs : szB (treeV v) = true) (htb : tb < n) (hH : H tb = some (treeB (.ptr v.num 0))) (hu : Under n v) (hst : Stand H v) :
  AC Tryz.prog 14 [.ptr tb 0] H n fun r H' nx' => r = .agg (z4w v (n + 3) v.kids.length) /\ n + 4 <= nx' /\ H' (n + 3) = some (.row 27 v.kids.length ((v.kids.map treeV).flatMap z0d)) /\ ∀ j, j < n -> H' j = H j := by
 have k1 : (tb == n) = false := z8s (by omega)
 have c1 : ∀ o : Option HObj, _ := fun o => ac_tree v hs (z0f H n o) (n + 1) (hu.le (by omega)) (Stand.agree (fun j hj => z00 _ (by omega)) v hu hst)
 refine (z17 [] Tryz.func14 rfl (by decide +kernel) z0b (by decide +kernel) (by simp [Tryz.ntmps14]) ?_)
 show awp _ _ (Code.seq _ _) _ _
 rw [show Tryz.f14.results.toList = [.cell 2 27] from rfl]
 repeat' (first | ((refine zqh fun K J => ?_); (simp (disch := omega) only [go_sem, Nat.reduceBEq, ↓reduceIte, reduceCtorEq, Nat.reduceAdd, hH, k1, treeB])) | (refine J _ ?_; clear J K))
 refine z1b ((c1 _).mono fun r' H' n' ⟨e1, e2, e3, e4⟩ => ?_)
 subst e1
 have hn : H' n = some (.box 27 [.int .i64 0, .int .i64 0, .int .i64 0, .int .i64 0, .str ByteArray.empty, .nil, .nil, .nil]) := (e4 n (Nat.lt_succ_self _)).trans z28
 have k2 : (n + 3 == n) = false := z8s (by omega)
 (try (simp (disch := omega) only [go_sem, Nat.reduceBEq, ↓reduceIte, Nat.reduceAdd, Nat.reduceLeDiff, hn, z4w])); repeat' (first | refine zqn ?_ | refine zqu (by (simp (disch := omega) only [go_sem, Nat.reduceBEq, ↓reduceIte, Nat.reduceAdd, Nat.reduceLeDiff, hn]); rfl) rfl ?_ | (refine J _ ?_; clear J K))
 (simp (disch := omega) only [go_sem, k2])
 refine ⟨by simp [z4w, Nat.add_assoc], by omega, (show H' (n + 1 + 2) = _ from e3), fun j hj => ?_⟩
 simp (disch := omega) only [z3g]
 exact (e4 j (by omega)).trans (z00 _ (by omega))
theorem sz_node : ∀ v : V, szB (treeV v) = true -> ∀ w ∈ nodesV v, szB (treeV w) = true := by
 refine zci fun v ih hs w hw => ?_
 rw [z3a, List.mem_cons] at hw
 rcases hw with rfl | hw
 ·exact hs
 ·obtain ⟨k, hk, hw⟩ := List.mem_flatMap.1 hw
  exact ih k hk (zha hs hk) w hw
def cntS (_ : V) : HObj -> HObj
 | .box e [.int .i64 n] => .box e [.int .i64 (IntKind.i64.wrap (n + 1))]
 | o => o
theorem zzg (l : List V) (k : Nat) (h : k + l.length <= 1000000000) : zbg cntS l (.box 3 [.int .i64 (k : Nat)]) = .box 3 [.int .i64 ((k + l.length : Nat))] := by
 induction l generalizing k with
 | nil => rfl
 | cons w l ih =>
  simp only [List.length_cons] at h
  show zbg cntS l (.box 3 [.int .i64 (IntKind.i64.wrap ((k : Int) + 1))]) = _
  rw [zr3 (by omega), show ((k : Int) + 1) = ((k + 1 : Nat) : Int) by omega, ih (k + 1) (by omega)]
  simp only [List.length_cons]
  congr 3
  congr 1
  omega
def zl7 (o : HObj) : Prop := ∃ k, o = .box 3 [.int .i64 k]
theorem zl8 (w : V) (o : HObj) (h : zl7 o) : zl7 (cntS w o) := by
 obtain ⟨k, rfl⟩ := h
 exact ⟨_, rfl⟩
theorem ac_Len1 {H : HM} {n k : Nat} {w : V} {o : HObj} (hkn : k < n) (hk : H k = some o) (ho : zl7 o) : AC Tryz.prog 43 [.ptr w.num 0, .ptr k 0] H n fun r H' nx' => r = .tup [] /\ H' = z0f H k (some (cntS w o)) /\ nx' = n := by
 obtain ⟨i, rfl⟩ := ho
 refine (z17 [] Tryz.func43 rfl (by decide +kernel) z0b (by decide +kernel) (by simp [Tryz.ntmps43]) ?_)
 show awp _ _ (Code.region _ _ _) _ _
 repeat' (first | ((refine zqr fun K J => ?_); (simp (disch := omega) only [go_sem, Nat.reduceBEq, ↓reduceIte, Nat.reduceAdd, Nat.reduceLeDiff, Nat.reduceLT, hk])) | refine zqu (by (simp (disch := omega) only [go_sem]); rfl) rfl ?_ | (refine J _ ?_; clear J K))
 (simp (disch := omega) only [go_sem])
 rfl
theorem rc_Len (hs : szB (treeV v) = true) (hc : cntT (treeV v) <= 1000000) (htb : tb < n) (hH : H tb = some (treeB (.ptr v.num 0))) (hu : Under n v) (hst : Stand H v) : RC Tryz.prog 15 [.ptr tb 0] H n (.int .i64 (cntT (treeV v))) := by
 have k1 : (tb == n) = false := z8s (by omega)
 rw [znx] at hc ⊢
 have c1 := fun o0 => zmw (g := 43) (cap := [.ptr n 0]) (k := n) cntS zl7 (fun H' => ∀ j, j < n -> H' j = H j) (fun H' o h j hj => by rw [z00 _ (by omega)]; exact h j hj) (fun _ => True) (fun w o _ h => zl8 w o h) v hs (fun _ _ => trivial)
  (fun H' h w hw => Stand.agree (n := n) h w (z2x hu hw) (z50 v hst w hw)) (fun w hw H' nx o hu' hk hko hI _ => ac_Len1 hk hko hI) (z0f (z0f H n o0) n (some (.box 3 [.int .i64 ((0 : Nat))]))) (n + 1) (.box 3 [.int .i64 ((0 : Nat))]) (hu.le (by omega)) (Nat.lt_succ_self _) z28 ⟨_, rfl⟩ (fun j hj => by rw [z00 _ (by omega), z00 _ (by omega)])
 rw [zzg _ _ (by omega)] at c1
 refine zmz rfl (z17 [] Tryz.func15 rfl (by decide +kernel) z0b (by decide +kernel) (by simp [Tryz.ntmps15]) ?_)
 show awp _ _ (Code.seq _ _) _ _
 repeat' (first | ((refine zqh fun K J => ?_); (simp (disch := omega) only [go_sem, Nat.reduceBEq, ↓reduceIte, reduceCtorEq, Nat.reduceAdd, Nat.reduceLeDiff, Nat.reduceLT, hH, k1, treeB])) | (refine J _ ?_; clear J K))
 refine z1b ((c1 _).mono fun r' H' n' ⟨e1, e2, e3⟩ => ?_)
 subst e1; subst e3
 have hn : H' n = some (.box 3 [.int .i64 ((0 + (nodesV v).length : Nat))]) := by rw [e2]; exact z28
 (try (simp (disch := omega) only [go_sem])); repeat' (first | ((refine zqh fun K J => ?_); (simp (disch := omega) only [go_sem, Nat.reduceBEq, ↓reduceIte, Nat.reduceAdd, hn])) | refine zqn ?_ | refine zqu (by (simp (disch := omega) only [go_sem]); rfl) rfl ?_ | (refine J _ ?_; clear J K))
 (simp (disch := omega) only [go_sem, Nat.reduceBEq])
 refine fun j hj => ?_
 rw [e2, z00 _ (by omega), z00 _ (by omega), z00 _ (by omega)]
theorem find_id {id : Idv} {t : T} (h : (z08 id t).2 = true) : (z08 id t).1.id = id := by
 have h1 := za2.1 h
 unfold z08
 rw [zbh _ h1]
 exact zj9 id t h1
theorem zrn (hn : (idsT (treeV v)).Nodup) (id : Idv) : (z8n id v = .nptr /\ z08 id (treeV v) = (T.zero, false)) \/ ∃ w ∈ nodesV v, w.own.id = id /\ z8n id v = .ptr w.num 0 /\ z08 id (treeV v) = (treeV w, true) := by
 unfold z8n
 cases hf : (nodesV v).find? (fun w => decide (w.own.id = id)) with
 | none =>
  left
  refine ⟨rfl, ?_⟩
  have hno : id ∉ idsT (treeV v) := fun hm => by
   rw [z3s] at hm
   obtain ⟨w, hw, e⟩ := List.mem_map.1 hm
   have := List.find?_eq_none.1 hf w hw
   simp [e] at this
  refine zeh ?_
  rw [z4v]
  exact hno
 | some w =>
  right
  have hw := List.mem_of_find?_eq_some hf
  have e : w.own.id = id := by simpa using List.find?_some hf
  refine ⟨w, hw, e, rfl, ?_⟩
  have hm : id ∈ idsT (treeV v) := by rw [z3s]; exact List.mem_map.2 ⟨w, hw, e⟩
  have h2 : (z08 id (treeV v)).2 = true := by rw [z2h, decide_eq_true hm]
  have h3 := z9l h2
  have h4 : (z08 id (treeV v)).1 = treeV w := by
   have hwn : treeV w ∈ z0g (treeV v) := by rw [z4z]; exact List.mem_map.2 ⟨w, hw, rfl⟩
   exact z6q (f := T.id) hn _ h3 _ hwn (by rw [z2c, e]; exact find_id h2)
  exact Prod.ext h4 h2
theorem zzh {u : T} : z3j u ⟨-1, 0, 0⟩ 0 (.mk ⟨-2, 0, 0⟩ 2 ⟨#[49]⟩ [] [] []) = 1 ↔ standsT u = false := by
 unfold z3j
 have h1 : standsT (.mk ⟨-2, 0, 0⟩ 2 ⟨#[49]⟩ [] [] []) = true := by decide +kernel
 cases hs : standsT u with
 | false => simp
 | true =>
  rw [h1]
  have h2 : T.kind (.mk ⟨-2, 0, 0⟩ 2 ⟨#[49]⟩ [] [] []) = 2 := rfl
  rw [h2]
  simp only [Bool.true_eq_false, false_or, iff_false]
  rw [if_neg (by decide)]
  split
  ·decide
  split
  ·decide
  split
  ·decide
  split
  ·decide
  split
  ·decide
  split <;> decide
structure NewOK (u : T) (H : HM) (n : Nat) (o : D × HM × Nat) : Prop where
 le : n <= o.2.2
 agree : Agree n H o.2.1
 bad : standsT u = false -> o.1 = .nptr
 good : standsT u = true -> ∃ v t, o.1 = .ptr t 0 /\ n <= t /\ t < o.2.2 /\ o.2.1 t = some (treeB (.ptr v.num 0)) /\ Stand o.2.1 v /\ Under o.2.2 v /\ treeV v = u /\ (objsV v).Nodup /\ ∀ j ∈ objsV v, n <= j
theorem zvp (u : T) (hs : szB u = true) (hc1 : cntT u <= 1000000) (hd : depT u <= 1000000) : Det 11 [z0o u] H n (NewOK u H n) := by
 have c0 := (zjr u (.mk ⟨-2, 0, 0⟩ 2 ⟨#[49]⟩ [] [] []) hs (by decide +kernel) hc1 (by decide +kernel) hd (by decide +kernel) ⟨-1, 0, 0⟩).le (ds := [z0o u, z0z ⟨-1, 0, 0⟩, .agg [.int .i64 (-2), .int .i64 0, .int .i64 0, .int .i64 2, .str ⟨#[49]⟩, .nil, .nil, .nil]])
  (by simp [pureD.pureL, z02, pureD, z0z, z0p]) ⟨Le.refl _, Le.refl _, by rw [z0o, z0k]; exact Le.agg ⟨Le.refl _, Le.refl _, Le.refl _, Le.refl _, Le.refl _, Le.nil 4, Le.nil 4, Le.nil 8, trivial⟩, trivial⟩
 have hw := zzh (u := u)
 generalize z3j u ⟨-1, 0, 0⟩ 0 (.mk ⟨-2, 0, 0⟩ 2 ⟨#[49]⟩ [] [] []) = e at c0 hw
 have hag : Agree n H (z0f H n (some (unitB u))) := fun j hj => z00 _ (by omega)
 cases hst : standsT u with
 | false =>
  have he := hw.2 hst
  subst he
  refine ⟨(.nptr, z0f H n (some (unitB u)), n + 1), ?_, ⟨by simp, hag, fun _ => rfl, fun h => by rw [hst] at h; cases h⟩⟩
  refine (z17 [] Tryz.func11 rfl (by decide +kernel) z0b (by decide +kernel) (by simp [Tryz.ntmps11]) ?_)
  show awp _ _ (Code.seq _ _) _ _
  repeat' (first | refine zqj ?_ | ((first | refine zqh fun K J => ?_ | refine zqs (c0) ?_); (simp (disch := omega) only [go_sem, Nat.reduceBEq, ↓reduceIte, Nat.reduceAdd, Nat.reduceLeDiff])) | ((refine zqd _ rfl (fun hc => ?_) (fun hc => ?_)) <;> (first | (cases hc; done) | ((try simp only [] at hc); (try (exfalso; omega))))) | refine zqg ?_ | refine zqu (by (simp (disch := omega) only [go_sem]); rfl) rfl ?_ | (refine J _ ?_; clear J K))
  (simp (disch := omega) only [go_sem, Nat.reduceBEq])
  rfl
 | true =>
  have he : ¬ e = 1 := fun h => by rw [hw.1 h] at hst; cases hst
  have c1 := zp1 u hs (z0f H n (some (unitB u))) (n + 1)
  have hg := z6d u (z0f H n (some (unitB u))) (n + 1)
  have hnum : (z5b u (z0f H n (some (unitB u))) (n + 1)).1.num = n + 1 + 1 := by rw [z9u]; rfl
  generalize z5b u (z0f H n (some (unitB u))) (n + 1) = g at c1 hg hnum
  obtain ⟨g1, g2, g3, g4, g5, g6, g7⟩ := hg
  refine ⟨(.ptr g.2.2 0, z0f g.2.1 g.2.2 (some (treeB (.ptr (n + 1 + 1) 0))), g.2.2 + 1), ?_, ⟨by simp only; omega, fun j hj => ?_, (fun h => by rw [hst] at h; cases h), fun _ => ⟨g.1, g.2.2, rfl, by omega, by simp, ?_, ?_, g5.le (by simp), g1, g7, fun j hj => by have := g6 j hj; omega⟩⟩⟩
  ·refine (z17 [] Tryz.func11 rfl (by decide +kernel) z0b (by decide +kernel) (by simp [Tryz.ntmps11]) ?_)
   show awp _ _ (Code.seq _ _) _ _
   unfold unitB at c1
   repeat' (first | refine zqj ?_ | ((first | refine zqh fun K J => ?_ | refine zqs (c0) ?_); (simp (disch := omega) only [go_sem, Nat.reduceBEq, ↓reduceIte, Nat.reduceAdd, Nat.reduceLeDiff])) | ((refine zqd _ rfl (fun hc => ?_) (fun hc => ?_)) <;> (((try simp only [z0e] at hc); (try (exfalso; omega))))) | refine zqb ?_ | (refine J _ ?_; clear J K))
   refine z1b (c1.mono fun r' H' n' ⟨e1, e2, e3⟩ => ?_)
   subst e1; subst e2; subst e3
   (try (simp (disch := omega) only [go_sem, Nat.reduceBEq, ↓reduceIte, Nat.reduceLeDiff])); repeat' (first | refine zqn ?_ | refine zqu (by (simp (disch := omega) only [go_sem]); rfl) rfl ?_ | (refine J _ ?_; clear J K))
   (simp (disch := omega) only [go_sem, Nat.reduceBEq])
   rfl
  ·simp only
   rw [z00 _ (by omega), g3 j (by omega), hag j hj]
  ·simp only
   rw [z1u, hnum]
  ·exact Stand.on g.1 (fun j hj => z00 _ (by have := g5 j hj; omega)) g4
end
end
section
open Abs Facts Tr
attribute [local irreducible] awp
set_option maxRecDepth 100000
def zgg (L : List Nat) : HObj := .map (L.map fun j => (.ptr j 0, .bool true))
def numK : D -> Option Nat
 | .ptr j 0 => some j
 | _ => none
def numsO : HObj -> List Nat
 | .map es => es.filterMap fun e => numK e.1
 | _ => []
theorem zer (L : List Nat) : numsO (zgg L) = L := by
 show List.filterMap (fun e : D × D => numK e.1) (L.map fun j => (D.ptr j 0, D.bool true)) = L
 rw [List.filterMap_map]
 exact List.filterMap_some
def zes (w : V) (o : HObj) : HObj := if w.num ∈ numsO o then o else zgg (numsO o ++ [w.num])
def zd8 (H : HM) (j : Nat) : Prop := ∃ e cs, H j = some (.box e cs)
def zk0 (n : Nat) (H : HM) (j : Nat) : Prop := j < n /\ zd8 H j
def zxq (B : Nat -> Prop) (o : HObj) : Prop := ∃ L, o = zgg L /\ ∀ j ∈ L, B j
theorem zpn {B : Nat -> Prop} {w : V} {o : HObj} (hw : B w.num) (h : zxq B o) : zxq B (zes w o) := by
 obtain ⟨L, rfl, hL⟩ := h
 unfold zes
 rw [zer]
 split
 ·exact ⟨L, rfl, hL⟩
 ·refine ⟨_, rfl, fun j hj => ?_⟩
  rcases List.mem_append.1 hj with hj | hj
  ·exact hL j hj
  ·rw [List.mem_singleton] at hj; subst hj; exact hw
theorem ztb {l : List V} : ∀ L : List Nat, ∃ M, zbg zes l (zgg L) = zgg M /\ ∀ x, x ∈ M ↔ x ∈ L \/ x ∈ l.map V.num := by
 induction l with
 | nil => exact fun L => ⟨L, rfl, fun x => by simp⟩
 | cons w l ih =>
  intro L
  have h1 : zes w (zgg L) = if w.num ∈ L then zgg L else zgg (L ++ [w.num]) := by unfold zes; rw [zer]
  show ∃ M, zbg zes l (zes w (zgg L)) = zgg M /\ _
  rw [h1]
  by_cases h : w.num ∈ L
  ·rw [if_pos h]
   obtain ⟨M, e, hM⟩ := ih L
   refine ⟨M, e, fun x => ?_⟩
   rw [hM, List.map_cons, List.mem_cons]
   constructor
   ·rintro (h2 | h2)
    ·exact .inl h2
    ·exact .inr (.inr h2)
   ·rintro (h2 | h2 | h2)
    ·exact .inl h2
    ·exact .inl (h2 ▸ h)
    ·exact .inr h2
  ·rw [if_neg h]
   obtain ⟨M, e, hM⟩ := ih (L ++ [w.num])
   refine ⟨M, e, fun x => ?_⟩
   rw [hM, List.map_cons, List.mem_cons, List.mem_append, List.mem_singleton, or_assoc]
theorem zxr (L : List Nat) (p : Nat) : z71 (L.map fun j => (D.ptr j 0, D.bool true)) p (.bool true) = L.map fun j => (D.ptr j 0, D.bool true) := by
 induction L generalizing p with
 | nil => rfl
 | cons a L ih =>
  cases p with
  | zero => rfl
  | succ p => simp only [List.map_cons, z71, ih]
section
variable {H H0 : HM} {n m k b : Nat} {v w : V} {o : HObj}
theorem ac_Know (hw : zd8 H w.num) (hb : H b = some (.box 83 [.mp m])) (hm : H m = some o) (ho : zxq (zd8 H) o) : AC Tryz.prog 45 [.ptr w.num 0, .ptr b 0] H n fun r H' nx' => r = .tup [] /\ H' = z0f H m (some (zes w o)) /\ nx' = n := by
 obtain ⟨L, rfl, hL⟩ := ho
 have h1 : zes w (zgg L) = if w.num ∈ L then zgg L else zgg (L ++ [w.num]) := by unfold zes; rw [zer]
 rw [h1]
 have hm2 : H m = some (.map (L.map fun j => (.ptr j 0, .bool true))) := hm
 refine (z17 [] Tryz.func45 rfl (by decide +kernel) z0b (by decide +kernel) (by simp [Tryz.ntmps45]) ?_)
 show awp _ _ (Code.region _ _ _) _ _
 by_cases h : w.num ∈ L
 ·obtain ⟨p, hp, hf⟩ := zeo (x := .bool true) hw L hL h
  rw [if_pos h]
  have hs := zxr L p
  repeat' (first | ((refine zqr fun K J => ?_); (simp (disch := omega) only [go_sem, Nat.reduceBEq, ↓reduceIte, Nat.reduceAdd, hb, hm2, hf, hs])) | refine zqu (by (simp (disch := omega) only [go_sem]); rfl) rfl ?_ | (refine J _ ?_; clear J K))
  exact ⟨rfl, rfl, rfl⟩
 ·have hf := zi8 (f := fun _ => .bool true) hw L hL h
  rw [if_neg h]
  repeat' (first | ((refine zqr fun K J => ?_); (simp (disch := omega) only [go_sem, Nat.reduceBEq, ↓reduceIte, Nat.reduceAdd, hb, hm2, hf])) | refine zqu (by (simp (disch := omega) only [go_sem]); rfl) rfl ?_ | (refine J _ ?_; clear J K))
  unfold zgg
  rw [List.map_append]
  exact ⟨rfl, rfl, rfl⟩
def z7i (M : List Nat) (w : V) (o : HObj) : HObj := if w.num ∈ M then o else cntS w o
theorem ztc (M : List Nat) (w : V) (o : HObj) (h : zl7 o) : zl7 (z7i M w o) := by
 unfold z7i
 split
 ·exact h
 ·exact zl8 w o h
theorem zpo (M : List Nat) (l : List V) (i : Nat) (h : i + l.length <= 1000000000) : zbg (z7i M) l (.box 3 [.int .i64 (i : Nat)]) = .box 3 [.int .i64 ((i + l.countP fun w => !decide (w.num ∈ M) : Nat))] := by
 induction l generalizing i with
 | nil => rfl
 | cons w l ih =>
  simp only [List.length_cons] at h
  by_cases hw : w.num ∈ M
  ·show zbg (z7i M) l (z7i M w _) = _
   have e : z7i M w (.box 3 [.int .i64 (i : Nat)]) = .box 3 [.int .i64 (i : Nat)] := if_pos hw
   rw [e, ih i (by omega), List.countP_cons_of_neg (by simp [hw])]
  ·show zbg (z7i M) l (z7i M w _) = _
   have e : z7i M w (.box 3 [.int .i64 (i : Nat)]) = .box 3 [.int .i64 ((i + 1 : Nat))] := by
    unfold z7i
    rw [if_neg hw]
    show HObj.box 3 [.int .i64 (IntKind.i64.wrap ((i : Int) + 1))] = _
    rw [zr3 (by omega)]; rfl
   rw [e, ih (i + 1) (by omega), List.countP_cons_of_pos (by simp [hw])]
   congr 3
   congr 1
   omega
theorem zxs {M : List Nat} (hw : zd8 H w.num) (hM : ∀ j ∈ M, zd8 H j) (hb : H b = some (.box 83 [.mp m])) (hm : H m = some (zgg M)) (hk : H k = some o) (ho : zl7 o) : AC Tryz.prog 46 [.ptr w.num 0, .ptr b 0, .ptr k 0] H n fun r H' nx' => r = .tup [] /\ H' = z0f H k (some (z7i M w o)) /\ nx' = n := by
 obtain ⟨i, rfl⟩ := ho
 have hm2 : H m = some (.map (M.map fun j => (.ptr j 0, .bool true))) := hm
 unfold z7i
 refine (z17 [] Tryz.func46 rfl (by decide +kernel) z0b (by decide +kernel) (by simp [Tryz.ntmps46]) ?_)
 show awp _ _ (Code.seq _ _) _ _
 by_cases h : w.num ∈ M
 ·obtain ⟨p, hp, hf⟩ := zeo (x := .bool true) hw M hM h
  rw [if_pos h]
  repeat' (first | ((refine zqh fun K J => ?_); (simp (disch := omega) only [go_sem, Nat.reduceBEq, ↓reduceIte, Nat.reduceAdd, hb, hm2, hf])) | ((refine zqm _ rfl (fun hc => ?_) (fun hc => ?_)) <;> (first | (cases hc; done) | ((try simp only [] at hc); (try (exfalso; omega))))) | refine zqk ?_ | refine zqu (by (simp (disch := omega) only [go_sem]); rfl) rfl ?_ | (refine J _ ?_; clear J K))
  exact ⟨rfl, (zjt hk).symm, rfl⟩
 ·have hf := zi8 (f := fun _ => .bool true) hw M hM h
  rw [if_neg h]
  repeat' (first | ((first | refine zqh fun K J => ?_ | refine zqr fun K J => ?_); (simp (disch := omega) only [go_sem, Nat.reduceBEq, ↓reduceIte, Nat.reduceAdd, Nat.reduceLeDiff, Nat.reduceLT, hb, hm2, hf, hk])) | ((refine zqm _ rfl (fun hc => ?_) (fun hc => ?_)) <;> (first | (cases hc; done) | ((try simp only [] at hc); (try (exfalso; omega))))) | refine zqu (by (simp (disch := omega) only [go_sem]); rfl) rfl ?_ | (refine J _ ?_; clear J K))
  exact ⟨rfl, rfl, rfl⟩
theorem zea (hst : Stand H v) {w : V} (hw : w ∈ nodesV v) : zd8 H w.num := ⟨_, _, ((z1v H w).1 (z50 v hst w hw)).1⟩
theorem zxt {H4 : HM} {w : V} (hs : szB (treeV w) = true) (hu : Under n w) (hst : Stand H w) (hag : Agree n H H4) (h1 : H4 (n + 1) = some (.box 83 [.mp n])) (h0 : H4 n = some (zgg [])) :
  ∃ M, (∀ x, x ∈ M ↔ x ∈ (nodesV w).map V.num) /\ AC Tryz.prog 42 [.ptr w.num 0, .fn 45 [.ptr (n + 1) 0]] H4 (n + 2) fun r H' nx' => r = .tup [] /\ H' = z0f H4 n (some (zgg M)) /\ nx' = n + 2 := by
 obtain ⟨M, e, hM⟩ := ztb (l := nodesV w) []
 refine ⟨M, fun x => by rw [hM]; simp, ?_⟩
 rw [<- e]
 have hF : ∀ H' : HM, (Agree n H H' /\ H' (n + 1) = some (.box 83 [.mp n])) -> ∀ x ∈ nodesV w, Stand H' x := fun H' h x hx => Stand.agree h.1 x (z2x hu hx) (z50 w hst x hx)
 refine zmw zes (zxq (zk0 n H)) (fun H' => Agree n H H' /\ H' (n + 1) = some (.box 83 [.mp n])) (fun H' o h => ⟨fun j hj => by rw [z00 _ (by omega)]; exact h.1 j hj, by rw [z00 _ (by omega)]; exact h.2⟩)
  (fun x => zk0 n H x.num) (fun x o hx h => zpn hx h) w hs (fun x hx => ⟨z2x hu hx _ (z3t x), zea hst hx⟩) hF (fun x hx H' nx o hux hn hno hko hFH => ?_) H4 (n + 2) (zgg []) (hu.le (by omega)) (by omega) h0 ⟨[], rfl, fun j hj => by cases hj⟩ ⟨hag, h1⟩
 obtain ⟨L, hL, hLb⟩ := hko
 have old : ∀ j, zk0 n H j -> zd8 H' j := fun j ⟨hj, e, cs, h⟩ => ⟨e, cs, by rw [hFH.1 j hj]; exact h⟩
 exact ac_Know (old _ ⟨z2x hu hx _ (z3t x), zea hst hx⟩) hFH.2 hno ⟨L, hL, fun j hj => old j (hLb j hj)⟩
theorem ztd {H5 : HM} {M : List Nat} (hs : szB (treeV v) = true) (hcn : (nodesV v).length <= 1000000) (hu : Under n v) (hst : Stand H v) (hag : Agree n H H5) (hM : ∀ j ∈ M, zk0 n H j) (h1 : H5 (n + 1) = some (.box 83 [.mp n])) (h0 : H5 n = some (zgg M)) (h2 : H5 (n + 2) = some (.box 3 [.int .i64 0])) :
  AC Tryz.prog 42 [.ptr v.num 0, .fn 46 [.ptr (n + 1) 0, .ptr (n + 2) 0]] H5 (n + 3) fun r H' nx' => r = .tup [] /\ H' = z0f H5 (n + 2) (some (.box 3 [.int .i64 (((nodesV v).countP fun w => !decide (w.num ∈ M) : Nat))])) /\ nx' = n + 3 := by
 have hfo := zpo M (nodesV v) 0 (by omega)
 rw [Nat.zero_add] at hfo
 rw [<- hfo]
 have hF : ∀ H' : HM, (Agree n H H' /\ H' (n + 1) = some (.box 83 [.mp n]) /\ H' n = some (zgg M)) -> ∀ x ∈ nodesV v, Stand H' x := fun H' h x hx => Stand.agree h.1 x (z2x hu hx) (z50 v hst x hx)
 refine zmw (z7i M) zl7 (fun H' => Agree n H H' /\ H' (n + 1) = some (.box 83 [.mp n]) /\ H' n = some (zgg M))
  (fun H' o h => ⟨fun j hj => by rw [z00 _ (by omega)]; exact h.1 j hj, by rw [z00 _ (by omega)]; exact h.2.1, by rw [z00 _ (by omega)]; exact h.2.2⟩)
  (fun _ => True) (fun x o _ h => ztc M x o h) v hs (fun _ _ => trivial) hF (fun x hx H' nx o hux hn hno hko hFH => ?_) H5 (n + 3) _ (hu.le (by omega)) (by omega) h2 ⟨_, rfl⟩ ⟨hag, h1, h0⟩
 have old : ∀ j, zk0 n H j -> zd8 H' j := fun j ⟨hj, e, cs, h⟩ => ⟨e, cs, by rw [hFH.1 j hj]; exact h⟩
 exact zxs (old _ ⟨z2x hu hx _ (z3t x), zea hst hx⟩) (fun j hj => old j (hM j hj)) hFH.2.1 hFH.2.2 hno hko
theorem z7x {tb tb2 : Nat} (hs : szB (treeV v) = true) (hcn : cntT (treeV v) <= 1000000) (htb : tb < n) (hH : H tb = some (treeB (.ptr v.num 0))) (hu : Under n v) (hst : Stand H v)
  (hs2 : szB (treeV w) = true) (htb2 : tb2 < n) (hH2 : H tb2 = some (treeB (.ptr w.num 0))) (hu2 : Under n w) (hst2 : Stand H w) : RC Tryz.prog 21 [.ptr tb 0, .ptr tb2 0] H n (.int .i64 (zx5 v w)) := by
 rw [znx] at hcn
 have hnb := z4a htb
 have hnb2 := z4a htb2
 refine zmz rfl (z17 [] Tryz.func21 rfl (by decide +kernel) z0b (by decide +kernel) (by simp [Tryz.ntmps21]) ?_)
 show awp _ _ (Code.seq _ _) _ _
 repeat' (first | refine zqj ?_ | ((refine zqh fun K J => ?_); (simp (disch := omega) only [go_sem, Nat.reduceBEq, ↓reduceIte, reduceCtorEq, Nat.reduceAdd, Nat.reduceLeDiff, Nat.reduceLT, hH2, hnb, hnb2, treeB])) | ((refine zqd _ rfl (fun hc => ?_) (fun hc => ?_)) <;> (first | (cases hc; done) | ((try simp only [] at hc); (try (exfalso; omega))))) | (refine J _ ?_; clear J K))
 obtain ⟨M, hM, hac⟩ := zxt (H4 := z0f (z0f (z0f H n (some (.map []))) (n + 1) (some (.box 83 [.nmp]))) (n + 1) (some (.box 83 [.mp n]))) hs2 hu2 hst2 (fun j hj => by rw [z00 _ (by omega), z00 _ (by omega), z00 _ (by omega)]) z28 (by rw [z00 _ (by omega), z00 _ (by omega), z28]; rfl)
 refine z1b (hac.mono fun r' H' n' ⟨e1, e2, e3⟩ => ?_)
 subst e1; subst e3
 have hag1 : Agree n H H' := fun j hj => by rw [e2, z00 _ (by omega), z00 _ (by omega), z00 _ (by omega), z00 _ (by omega)]
 have h1 : H' (n + 1) = some (.box 83 [.mp n]) := by rw [e2, z00 _ (by omega), z28]
 have h0 : H' n = some (zgg M) := by rw [e2, z28]
 have hHt : H' tb = some (.box 78 [.ptr v.num 0]) := (hag1 tb htb).trans hH
 (try (simp (disch := omega) only [go_sem])); repeat' (first | ((refine zqh fun K J => ?_); (simp (disch := omega) only [go_sem, Nat.reduceBEq, ↓reduceIte, reduceCtorEq, Nat.reduceAdd, Nat.reduceLeDiff, Nat.reduceLT, hHt, hnb])) | (refine J _ ?_; clear J K))
 refine z1b ((ztd (H := H) (M := M) hs hcn hu hst (fun j hj => ?_) (fun j hj => ?_) ?_ ?_ ?_).mono fun r' H2 n' ⟨e4, e5, e6⟩ => ?_)
 ·(simp (disch := omega) only [go_sem])
  simp (disch := omega) only [z3g]
  exact hag1 j hj
 ·obtain ⟨x, hx, rfl⟩ := List.mem_map.1 ((hM j).1 hj)
  exact ⟨z2x hu2 hx _ (z3t x), zea hst2 hx⟩
 ·(simp (disch := omega) only [go_sem, hnb])
  exact h1
 ·(simp (disch := omega) only [go_sem, hnb])
  exact h0
 ·(simp (disch := omega) only [go_sem])
 ·subst e4; subst e6
  have hn2 : H2 (n + 2) = some (.box 3 [.int .i64 (((nodesV v).countP fun w => !decide (w.num ∈ M) : Nat))]) := by rw [e5]; exact z28
  have hcp : ((nodesV v).countP fun w => !decide (w.num ∈ M)) = zx5 v w := by
   unfold zx5
   refine List.countP_congr fun x _ => ?_
   have := hM x.num
   simp only [Bool.not_eq_true', decide_eq_false_iff_not, this]
  rw [hcp] at hn2
  (try (simp (disch := omega) only [go_sem])); repeat' (first | ((refine zqh fun K J => ?_); (simp (disch := omega) only [go_sem, Nat.reduceBEq, ↓reduceIte, Nat.reduceAdd, hn2])) | refine zqn ?_ | refine zqu (by (simp (disch := omega) only [go_sem]); rfl) rfl ?_ | (refine J _ ?_; clear J K))
  (simp (disch := omega) only [go_sem, Nat.reduceBEq])
  refine fun j hj => ?_
  rw [e5, z00 _ (by omega)]
  (simp (disch := omega) only [go_sem])
  simp (disch := omega) only [z3g]
  exact hag1 j hj
end
end
section
open Abs Facts Tr
attribute [local irreducible] awp
set_option maxRecDepth 100000
theorem zow {k n : Nat} (h : k < n) : (n == n + 1) = false /\ (n == n + 2) = false /\ (n == n + 3) = false /\ (n == n + 4) = false /\ (n == n + 5) = false /\ (n == n + 6) = false /\ (n == n + 7) = false /\ (n == n + 8) = false /\ (n == n + 9) = false /\ (n + 1 == n) = false /\ (n + 1 == n + 2) = false /\ (n + 1 == n + 3) = false /\ (n + 1 == n + 4) = false /\ (n + 1 == n + 5) = false /\ (n + 1 == n + 6) = false /\ (n + 1 == n + 7) = false /\ (n + 1 == n + 8) = false /\ (n + 1 == n + 9) = false /\ (n + 2 == n) = false /\ (n + 2 == n + 1) = false /\ (n + 2 == n + 3) = false /\ (n + 2 == n + 4) = false /\ (n + 2 == n + 5) = false /\ (n + 2 == n + 6) = false /\ (n + 2 == n + 7) = false /\ (n + 2 == n + 8) = false /\ (n + 2 == n + 9) = false /\ (n + 3 == n) = false /\ (n + 3 == n + 1) = false /\ (n + 3 == n + 2) = false /\ (n + 3 == n + 4) = false /\ (n + 3 == n + 5) = false /\ (n + 3 == n + 6) = false /\ (n + 3 == n + 7) = false /\ (n + 3 == n + 8) = false /\ (n + 3 == n + 9) = false /\ (n + 4 == n) = false /\ (n + 4 == n + 1) = false /\ (n + 4 == n + 2) = false /\ (n + 4 == n + 3) = false /\ (n + 4 == n + 5) = false /\ (n + 4 == n + 6) = false /\ (n + 4 == n + 7) = false /\ (n + 4 == n + 8) = false /\ (n + 4 == n + 9) = false /\ (n + 5 == n) = false /\ (n + 5 == n + 1) = false /\ (n + 5 == n + 2) = false /\ (n + 5 == n + 3) = false /\ (n + 5 == n + 4) = false /\ (n + 5 == n + 6) = false /\ (n + 5 == n + 7) = false /\ (n + 5 == n + 8) = false /\ (n + 5 == n + 9) = false /\ (n + 6 == n) = false /\ (n + 6 == n + 1) = false /\ (n + 6 == n + 2) = false /\ (n + 6 == n + 3) = false /\ (n + 6 == n + 4) = false /\ (n + 6 == n + 5) = false /\ (n + 6 == n + 7) = false /\ (n + 6 == n + 8) = false /\ (n + 6 == n + 9) = false /\ (n + 7 == n) = false /\ (n + 7 == n + 1) = false /\ (n + 7 == n + 2) = false /\ (n + 7 == n + 3) = false /\ (n + 7 == n + 4) = false /\ (n + 7 == n + 5) = false /\ (n + 7 == n + 6) = false /\ (n + 7 == n + 8) = false /\ (n + 7 == n + 9) = false /\ (n + 8 == n) = false /\ (n + 8 == n + 1) = false /\ (n + 8 == n + 2) = false /\ (n + 8 == n + 3) = false /\ (n + 8 == n + 4) = false /\ (n + 8 == n + 5) = false /\ (n + 8 == n + 6) = false /\ (n + 8 == n + 7) = false /\ (n + 8 == n + 9) = false /\ (n + 9 == n) = false /\ (n + 9 == n + 1) = false /\ (n + 9 == n + 2) = false /\ (n + 9 == n + 3) = false /\ (n + 9 == n + 4) = false /\ (n + 9 == n + 5) = false /\ (n + 9 == n + 6) = false /\ (n + 9 == n + 7) = false /\ (n + 9 == n + 8) = false /\ (k == n) = false /\ (n == k) = false /\ (k == n + 1) = false /\ (n + 1 == k) = false /\ (k == n + 2) = false /\ (n + 2 == k) = false /\ (k == n + 3) = false /\ (n + 3 == k) = false /\ (k == n + 4) = false /\ (n + 4 == k) = false /\ (k == n + 5) = false /\ (n + 5 == k) = false /\ (k == n + 6) = false /\ (n + 6 == k) = false /\ (k == n + 7) = false /\ (n + 7 == k) = false /\ (k == n + 8) = false /\ (n + 8 == k) = false /\ (k == n + 9) = false /\ (n + 9 == k) = false := by
 refine ⟨?_, ?_, ?_, ?_, ?_, ?_, ?_, ?_, ?_, ?_, ?_, ?_, ?_, ?_, ?_, ?_, ?_, ?_, ?_, ?_, ?_, ?_, ?_, ?_, ?_, ?_, ?_, ?_, ?_, ?_, ?_, ?_, ?_, ?_, ?_, ?_, ?_, ?_, ?_, ?_, ?_, ?_, ?_, ?_, ?_, ?_, ?_, ?_, ?_, ?_, ?_, ?_, ?_, ?_, ?_, ?_, ?_, ?_, ?_, ?_, ?_, ?_, ?_, ?_, ?_, ?_, ?_, ?_, ?_, ?_, ?_, ?_, ?_, ?_, ?_, ?_, ?_, ?_, ?_, ?_, ?_, ?_, ?_, ?_, ?_, ?_, ?_, ?_, ?_, ?_, ?_, ?_, ?_, ?_, ?_, ?_, ?_, ?_, ?_, ?_, ?_, ?_, ?_, ?_, ?_, ?_, ?_, ?_, ?_, ?_⟩ <;> exact z8s (by omega)
structure UpdOK (e : Int) (u' : T) (made : List Idv) (v : V) (H : HM) (n : Nat) (o : D × HM × Nat) : Prop where
 le : n <= o.2.2
 agree : Agree n H o.2.1
 bad : e ≠ 0 -> o.1 = .tup [.nptr, .int .i64 e]
 good : e = 0 -> ∃ v' t, o.1 = .tup [.ptr t 0, .int .i64 0] /\ n <= t /\ t < o.2.2 /\ o.2.1 t = some (treeB (.ptr v'.num 0)) /\ Stand o.2.1 v' /\ Under o.2.2 v' /\ treeV v' = u' /\ Upd n made v v' /\ n <= v'.num
theorem zei {v w : V} (hs : szB (treeV v) = true) (hw : w ∈ nodesV v) : w.kids.length <= 1000000 := by
 obtain ⟨_, _, _, _, _, h3, _⟩ := (z2v _).1 (sz_node v hs w hw)
 rw [z1d, List.length_map] at h3; exact h3
def zj1 : List D := [.int .i64 0, .int .i64 0, .int .i64 0, .int .i64 0, .str ByteArray.empty, .nil, .nil, .nil]
section
variable {H : HM} {n tb : Nat} {v : V}
theorem zbu (hs : szB (treeV v) = true) (htb : tb < n) (hH : H tb = some (treeB (.ptr v.num 0))) (hu : Under n v) (hst : Stand H v) {st : St} {H2 : HM} {n2 : Nat} (h2 : zcl st H2 n2) (hle : n <= st.nx) (hag : Agree n H st.H) : RC Tryz.prog 14 [.ptr tb 0] H2 n2 (z0o (treeV v)) := by
 have ha : Agree n H H2 := fun j hj => (h2.2 j (by omega)).trans (hag j hj)
 have := h2.1
 exact zfk hs (by omega) (by rw [ha _ htb]; exact hH) (hu.le (by omega)) (Stand.agree ha v hu hst)
theorem zrs (hs : szB (treeV v) = true) (hcn : cntT (treeV v) <= 1000000) (hd : depT (treeV v) <= 1000000) (hn : (idsT (treeV v)).Nodup) (htb : tb < n) (hH : H tb = some (treeB (.ptr v.num 0))) (hu : Under n v) (hst : Stand H v)
  (x : T) (hsx : szB x = true) (hcx : cntT x <= 1000000) (hdx : depT x <= 1000000) (parent : Idv) (i : Int) :
  Det 48 [.ptr tb 0, z0z parent, .int .i64 i, z0o x] H n (UpdOK (z3j (treeV v) parent i x) (z1a parent (z6t i.toNat x) (treeV v)) (parent :: z41 parent (treeV v)) v H n) := by
 have c1 := zjq (treeV v) x hs hsx hcn hcx hd hdx parent i
 obtain ⟨e, he⟩ : ∃ e, e = z3j (treeV v) parent i x := ⟨_, rfl⟩
 rw [<- he] at c1 ⊢
 generalize (if e ≠ 0 then T.zero else z1a parent (z6t i.toNat x) (treeV v)) = y at c1
 obtain ⟨H3, hH3⟩ : ∃ H3, H3 = z0f (z0f (z0f H n (some (idB parent))) (n + 1) (some (.box 3 [.int .i64 i]))) (n + 2) (some (unitB x)) := ⟨_, rfl⟩
 obtain ⟨H4, hH4⟩ : ∃ H4, H4 = z0f (z0f H3 (n + 3) (some (.box 27 zj1))) (n + 3) (some (unitB y)) := ⟨_, rfl⟩
 have hag3 : Agree n H H3 := fun j hj => by rw [hH3, z00 _ (by omega), z00 _ (by omega), z00 _ (by omega)]
 have hag4 : ∀ j, j < n + 3 -> H4 j = H3 j := fun j hj => by rw [hH4, z00 _ (by omega), z00 _ (by omega)]
 have hnb := z4a htb
 have hat := zfa (e := e) (g := 96) (cap := [.ptr (n + 1) 0, .ptr (n + 2) 0]) (lo := n + 4) (id := parent) (E := insE i.toNat x) (Q := fun w w' => w'.own = w.own /\ ∃ g, treeV g = x /\ (objsV g).Nodup /\ (∀ j ∈ objsV g, n + 4 <= j) /\ w'.kids = znq i.toNat g w) (H0 := H4) (H := H4) (n := n + 4) (tb := tb) (v := v)
  (by omega) (by rw [hag4 _ (by omega), hag3 _ htb]; exact hH) hs (fun h0 w hw hwi => by
   obtain ⟨_, _, m, hi, hle⟩ := z8g (he.symm.trans h0)
   have hk := hle (treeV w) (by rw [z4z]; exact List.mem_map.2 ⟨w, hw, rfl⟩) (by rw [z2c]; exact hwi)
   rw [z1d, List.length_map] at hk
   have hit : i.toNat = m := by rw [hi]; rfl
   refine ⟨do_ins hsx ?_ (by omega) ?_ (by omega) (by omega) (zei hs hw), eff_ins⟩
   ·rw [hag4 _ (by omega), hH3, z00 _ (by omega), z28, hit, hi]
   ·rw [hag4 _ (by omega), hH3, z28]) (Nat.le_refl _) (Agree.refl _ _) (Stand.agree (n := n) (fun j hj => by rw [hag4 j (by omega), hag3 j hj]) v hu hst) (hu.le (by omega))
 obtain ⟨o, hac, hok⟩ := hat
 refine ⟨o, ?_, ⟨by have := hok.le; omega, fun j hj => by rw [hok.agree j (by omega), hag4 j (by omega), hag3 j hj], hok.bad, fun h0 => ?_⟩⟩
 ·refine (z17 [11000014, 3000015, 3000016, 3000017, 5000018] Tryz.func48 rfl (by decide +kernel) z0b (by decide +kernel) (by simp [Tryz.ntmps48]) ?_)
  show awp _ _ (Code.seq _ _) _ _
  repeat' (first | ((first | refine zqh fun K J => ?_ | refine zqe (by decide +kernel) fun K J => ?_); (simp (disch := omega) only [go_sem, Nat.reduceBEq, z0z, z0p])) | (refine J _ ?_; clear J K))
  refine zbc (fun H2 n2 h2 => zbu hs htb hH hu hst h2 (by (simp (disch := omega) only [go_sem]); omega) fun j hj => by (simp (disch := omega) only [go_sem]); simp (disch := omega) only [z3g]) rfl ?_
  (try (simp (disch := omega) only [go_sem, Nat.reduceBEq, Nat.reduceEqDiff, ↓reduceIte, Nat.reduceAdd, Nat.reduceLeDiff, hnb])); repeat' (first | ((first | refine zqh fun K J => ?_ | refine zqt (c1) ?_); (simp (disch := omega) only [go_sem, Nat.reduceBEq, Nat.reduceEqDiff, ↓reduceIte, Nat.reduceAdd, Nat.reduceLeDiff, hnb])) | (refine J _ ?_; clear J K))
  subst hH4; subst hH3
  refine z1b (hac.mono fun r' H' n' ⟨e1, e2, e3⟩ => ?_)
  rcases hok.shape with ⟨t, hd1⟩ | hd1
  all_goals
   rw [hd1] at e1
   subst e1; subst e2; subst e3
   (try (simp (disch := omega) only [go_sem, Nat.reduceBEq])); repeat' (first | refine zqn ?_ | refine zqu (by (simp (disch := omega) only [go_sem]); rfl) rfl ?_ | (refine J _ ?_; clear J K))
   rw [hd1]
   (simp (disch := omega) only [go_sem, Nat.reduceBEq])
 ·obtain ⟨_, hpm, m, hi, _⟩ := z8g (he.symm.trans h0)
  obtain ⟨v', t, g1, g2, g3, g4, g5, g6, g7⟩ := hok.good h0 hpm
  have hit : i.toNat = m := by rw [hi]; rfl
  have hw0 := he.symm.trans h0
  rw [hi] at hw0
  rw [hit] at g5 ⊢
  obtain ⟨k1, k2, k3⟩ := upd_ins (n := n) (m := n + 4) (lo := n + 4) hw0 hn hu (by omega) (by omega) g5
  exact ⟨v', t, g1, by omega, g3, g4, g6, g7, k1, k2, k3⟩
theorem zvv {u : T} {id : Idv} {name : ByteArray} (h : zjf u id name = 0) : standsT u = true /\ id ∈ idsT u /\ True := by
 unfold zjf at h
 split at h
 ·cases h
 rename_i h1
 split at h
 ·cases h
 rename_i h2
 refine ⟨?_, ?_, trivial⟩
 ·cases hs : standsT u with
  | true => rfl
  | false => exact absurd (.inl hs) h1
 ·rw [z2h] at h2
  simpa using h2
theorem zn4 (hs : szB (treeV v) = true) (hcn : cntT (treeV v) <= 1000000) (hd : depT (treeV v) <= 1000000) (hn : (idsT (treeV v)).Nodup) (htb : tb < n) (hH : H tb = some (treeB (.ptr v.num 0))) (hu : Under n v) (hst : Stand H v)
  (id : Idv) (name : ByteArray) (hnm : name.size <= 1000000) :
  Det 51 [.ptr tb 0, z0z id, .str name] H n (UpdOK (zjf (treeV v) id name) (z1a id (fun q => q.setLabel name) (treeV v)) (id :: z41 id (treeV v)) v H n) := by
 have c1 := zhw (treeV v) hs hcn hd id name hnm
 obtain ⟨e, he⟩ : ∃ e, e = zjf (treeV v) id name := ⟨_, rfl⟩
 rw [<- he] at c1 ⊢
 generalize (if e = 0 then z1a id (fun q => q.setLabel name) (treeV v) else T.zero) = y at c1
 obtain ⟨H3, hH3⟩ : ∃ H3, H3 = z0f (z0f H n (some (idB id))) (n + 1) (some (.box 9 [.str name])) := ⟨_, rfl⟩
 obtain ⟨H4, hH4⟩ : ∃ H4, H4 = z0f (z0f H3 (n + 2) (some (.box 27 zj1))) (n + 2) (some (unitB y)) := ⟨_, rfl⟩
 have hag3 : Agree n H H3 := fun j hj => by rw [hH3, z00 _ (by omega), z00 _ (by omega)]
 have hag4 : ∀ j, j < n + 2 -> H4 j = H3 j := fun j hj => by rw [hH4, z00 _ (by omega), z00 _ (by omega)]
 have hnb := z4a htb
 have hat := zfa (e := e) (g := 100) (cap := [.ptr (n + 1) 0]) (lo := n + 3) (id := id) (E := fldE fun q => q.setLabel name) (Q := fun w w' => w'.own = w.own.setLabel name /\ w'.kids = w.kids) (H0 := H4) (H := H4) (n := n + 3) (tb := tb) (v := v)
  (by omega) (by rw [hag4 _ (by omega), hag3 _ htb]; exact hH) hs (fun h0 w hw hwi => ⟨do_rel (by rw [hag4 _ (by omega), hH3, z28]) (by omega), zm1 (f := fun q => q.setLabel name) (fun q => ⟨rfl, rfl⟩)⟩) (Nat.le_refl _) (Agree.refl _ _) (Stand.agree (n := n) (fun j hj => by rw [hag4 j (by omega), hag3 j hj]) v hu hst) (hu.le (by omega))
 obtain ⟨o, hac, hok⟩ := hat
 refine ⟨o, ?_, ⟨by have := hok.le; omega, fun j hj => by rw [hok.agree j (by omega), hag4 j (by omega), hag3 j hj], hok.bad, fun h0 => ?_⟩⟩
 ·refine (z17 [11000012, 3000013, 3000014, 5000015] Tryz.func51 rfl (by decide +kernel) z0b (by decide +kernel) (by simp [Tryz.ntmps51]) ?_)
  show awp _ _ (Code.seq _ _) _ _
  repeat' (first | ((first | refine zqh fun K J => ?_ | refine zqe (by decide +kernel) fun K J => ?_); (simp (disch := omega) only [go_sem, Nat.reduceBEq, z0z, z0p])) | (refine J _ ?_; clear J K))
  refine zbc (fun H2 n2 h2 => zbu hs htb hH hu hst h2 (by (simp (disch := omega) only [go_sem]); omega) fun j hj => by (simp (disch := omega) only [go_sem]); simp (disch := omega) only [z3g]) rfl ?_
  (try (simp (disch := omega) only [go_sem, Nat.reduceBEq, Nat.reduceEqDiff, ↓reduceIte, Nat.reduceAdd, Nat.reduceLeDiff, hnb])); repeat' (first | ((first | refine zqh fun K J => ?_ | refine zqt (c1) ?_); (simp (disch := omega) only [go_sem, Nat.reduceBEq, Nat.reduceEqDiff, ↓reduceIte, Nat.reduceAdd, Nat.reduceLeDiff, hnb])) | (refine J _ ?_; clear J K))
  subst hH4; subst hH3
  refine z1b (hac.mono fun r' H' n' ⟨e1, e2, e3⟩ => ?_)
  rcases hok.shape with ⟨t, hd1⟩ | hd1
  all_goals
   rw [hd1] at e1
   subst e1; subst e2; subst e3
   (try (simp (disch := omega) only [go_sem, Nat.reduceBEq])); repeat' (first | refine zqn ?_ | refine zqu (by (simp (disch := omega) only [go_sem]); rfl) rfl ?_ | (refine J _ ?_; clear J K))
   rw [hd1]
   (simp (disch := omega) only [go_sem, Nat.reduceBEq])
 ·obtain ⟨_, hpm, _⟩ := zvv (he.symm.trans h0)
  obtain ⟨v', t, g1, g2, g3, g4, g5, g6, g7⟩ := hok.good h0 hpm
  obtain ⟨k1, k2, k3⟩ := zne (n := n) (m := n + 3) (f := fun q => q.setLabel name) (fun _ _ => rfl) (fun _ => rfl) hn hu (by omega) g5
  exact ⟨v', t, g1, by omega, g3, g4, g6, g7, k1, k2, k3⟩
theorem z99 (hs : szB (treeV v) = true) (hcn : cntT (treeV v) <= 1000000) (hd : depT (treeV v) <= 1000000) (hn : (idsT (treeV v)).Nodup) (htb : tb < n) (hH : H tb = some (treeB (.ptr v.num 0))) (hu : Under n v) (hst : Stand H v)
  (id : Idv) (l : List Wd) (hl : l.length <= 1000000) (hw : ∀ w ∈ l, w.text.size <= maxLen) :
  Det 33 [.ptr tb 0, z0z id, z0n l] H n (UpdOK (z3y (treeV v) id l) (z1a id (fun q => q.setWords l) (treeV v)) (id :: z41 id (treeV v)) v H n) := by
 have c1 := zem (treeV v) hs hcn hd id l hl hw
 obtain ⟨e, he⟩ : ∃ e, e = z3y (treeV v) id l := ⟨_, rfl⟩
 rw [<- he] at c1 ⊢
 generalize (if e = 0 then z1a id (fun q => q.setWords l) (treeV v) else T.zero) = y at c1
 obtain ⟨H3, hH3⟩ : ∃ H3, H3 = z0f (z0f H n (some (idB id))) (n + 1) (some (.box 24 [z0n l])) := ⟨_, rfl⟩
 obtain ⟨H4, hH4⟩ : ∃ H4, H4 = z0f (z0f H3 (n + 2) (some (.box 27 zj1))) (n + 2) (some (unitB y)) := ⟨_, rfl⟩
 have hag3 : Agree n H H3 := fun j hj => by rw [hH3, z00 _ (by omega), z00 _ (by omega)]
 have hag4 : ∀ j, j < n + 2 -> H4 j = H3 j := fun j hj => by rw [hH4, z00 _ (by omega), z00 _ (by omega)]
 have hnb := z4a htb
 have hat := zfa (e := e) (g := 91) (cap := [.ptr (n + 1) 0]) (lo := n + 3) (id := id) (E := fldE fun q => q.setWords l) (Q := fun w w' => w'.own = w.own.setWords l /\ w'.kids = w.kids) (H0 := H4) (H := H4) (n := n + 3) (tb := tb) (v := v)
  (by omega) (by rw [hag4 _ (by omega), hag3 _ htb]; exact hH) hs (fun h0 w hw hwi => ⟨zyq hl (by rw [hag4 _ (by omega), hH3, z28]) (by omega), zm1 (f := fun q => q.setWords l) (fun q => ⟨rfl, rfl⟩)⟩) (Nat.le_refl _) (Agree.refl _ _) (Stand.agree (n := n) (fun j hj => by rw [hag4 j (by omega), hag3 j hj]) v hu hst) (hu.le (by omega))
 obtain ⟨o, hac, hok⟩ := hat
 refine ⟨o, ?_, ⟨by have := hok.le; omega, fun j hj => by rw [hok.agree j (by omega), hag4 j (by omega), hag3 j hj], hok.bad, fun h0 => ?_⟩⟩
 ·refine (z17 [11000012, 3000013, 3000014, 5000015] Tryz.func33 rfl (by decide +kernel) z0b (by decide +kernel) (by simp [Tryz.ntmps33]) ?_)
  show awp _ _ (Code.seq _ _) _ _
  repeat' (first | ((first | refine zqh fun K J => ?_ | refine zqe (by decide +kernel) fun K J => ?_); (simp (disch := omega) only [go_sem, Nat.reduceBEq, z0z, z0p])) | (refine J _ ?_; clear J K))
  refine zbc (fun H2 n2 h2 => zbu hs htb hH hu hst h2 (by (simp (disch := omega) only [go_sem]); omega) fun j hj => by (simp (disch := omega) only [go_sem]); simp (disch := omega) only [z3g]) rfl ?_
  (try (simp (disch := omega) only [go_sem, Nat.reduceBEq, Nat.reduceEqDiff, ↓reduceIte, Nat.reduceAdd, Nat.reduceLeDiff, hnb])); repeat' (first | ((first | refine zqh fun K J => ?_ | refine zqt (c1) ?_); (simp (disch := omega) only [go_sem, Nat.reduceBEq, Nat.reduceEqDiff, ↓reduceIte, Nat.reduceAdd, Nat.reduceLeDiff, hnb])) | (refine J _ ?_; clear J K))
  subst hH4; subst hH3
  refine z1b (hac.mono fun r' H' n' ⟨e1, e2, e3⟩ => ?_)
  rcases hok.shape with ⟨t, hd1⟩ | hd1
  all_goals
   rw [hd1] at e1
   subst e1; subst e2; subst e3
   (try (simp (disch := omega) only [go_sem, Nat.reduceBEq])); repeat' (first | refine zqn ?_ | refine zqu (by (simp (disch := omega) only [go_sem]); rfl) rfl ?_ | (refine J _ ?_; clear J K))
   rw [hd1]
   (simp (disch := omega) only [go_sem, Nat.reduceBEq])
 ·obtain ⟨_, hpm, _⟩ := zb0 (he.symm.trans h0)
  obtain ⟨v', t, g1, g2, g3, g4, g5, g6, g7⟩ := hok.good h0 hpm
  obtain ⟨k1, k2, k3⟩ := zne (n := n) (m := n + 3) (f := fun q => q.setWords l) (fun _ _ => rfl) (fun _ => rfl) hn hu (by omega) g5
  exact ⟨v', t, g1, by omega, g3, g4, g6, g7, k1, k2, k3⟩
theorem zgo (hs : szB (treeV v) = true) (hcn : cntT (treeV v) <= 1000000) (hd : depT (treeV v) <= 1000000) (hn : (idsT (treeV v)).Nodup) (htb : tb < n) (hH : H tb = some (treeB (.ptr v.num 0))) (hu : Under n v) (hst : Stand H v)
  (id : Idv) (l : List Wd) (hl : l.length <= 1000000) (hw : ∀ w ∈ l, w.text.size <= maxLen) :
  Det 52 [.ptr tb 0, z0z id, z0n l] H n (UpdOK (z3y (treeV v) id l) (z1a id (fun q => q.setHead l) (treeV v)) (id :: z41 id (treeV v)) v H n) := by
 have c1 := zb1 (treeV v) hs hcn hd id l hl hw
 obtain ⟨e, he⟩ : ∃ e, e = z3y (treeV v) id l := ⟨_, rfl⟩
 rw [<- he] at c1 ⊢
 generalize (if e = 0 then z1a id (fun q => q.setHead l) (treeV v) else T.zero) = y at c1
 obtain ⟨H3, hH3⟩ : ∃ H3, H3 = z0f (z0f H n (some (idB id))) (n + 1) (some (.box 24 [z0n l])) := ⟨_, rfl⟩
 obtain ⟨H4, hH4⟩ : ∃ H4, H4 = z0f (z0f H3 (n + 2) (some (.box 27 zj1))) (n + 2) (some (unitB y)) := ⟨_, rfl⟩
 have hag3 : Agree n H H3 := fun j hj => by rw [hH3, z00 _ (by omega), z00 _ (by omega)]
 have hag4 : ∀ j, j < n + 2 -> H4 j = H3 j := fun j hj => by rw [hH4, z00 _ (by omega), z00 _ (by omega)]
 have hnb := z4a htb
 have hat := zfa (e := e) (g := 101) (cap := [.ptr (n + 1) 0]) (lo := n + 3) (id := id) (E := fldE fun q => q.setHead l) (Q := fun w w' => w'.own = w.own.setHead l /\ w'.kids = w.kids) (H0 := H4) (H := H4) (n := n + 3) (tb := tb) (v := v)
  (by omega) (by rw [hag4 _ (by omega), hag3 _ htb]; exact hH) hs (fun h0 w hw hwi => ⟨do_head hl (by rw [hag4 _ (by omega), hH3, z28]) (by omega), zm1 (f := fun q => q.setHead l) (fun q => ⟨rfl, rfl⟩)⟩) (Nat.le_refl _) (Agree.refl _ _) (Stand.agree (n := n) (fun j hj => by rw [hag4 j (by omega), hag3 j hj]) v hu hst) (hu.le (by omega))
 obtain ⟨o, hac, hok⟩ := hat
 refine ⟨o, ?_, ⟨by have := hok.le; omega, fun j hj => by rw [hok.agree j (by omega), hag4 j (by omega), hag3 j hj], hok.bad, fun h0 => ?_⟩⟩
 ·refine (z17 [11000012, 3000013, 3000014, 5000015] Tryz.func52 rfl (by decide +kernel) z0b (by decide +kernel) (by simp [Tryz.ntmps52]) ?_)
  show awp _ _ (Code.seq _ _) _ _
  repeat' (first | ((first | refine zqh fun K J => ?_ | refine zqe (by decide +kernel) fun K J => ?_); (simp (disch := omega) only [go_sem, Nat.reduceBEq, z0z, z0p])) | (refine J _ ?_; clear J K))
  refine zbc (fun H2 n2 h2 => zbu hs htb hH hu hst h2 (by (simp (disch := omega) only [go_sem]); omega) fun j hj => by (simp (disch := omega) only [go_sem]); simp (disch := omega) only [z3g]) rfl ?_
  (try (simp (disch := omega) only [go_sem, Nat.reduceBEq, Nat.reduceEqDiff, ↓reduceIte, Nat.reduceAdd, Nat.reduceLeDiff, hnb])); repeat' (first | ((first | refine zqh fun K J => ?_ | refine zqt (c1) ?_); (simp (disch := omega) only [go_sem, Nat.reduceBEq, Nat.reduceEqDiff, ↓reduceIte, Nat.reduceAdd, Nat.reduceLeDiff, hnb])) | (refine J _ ?_; clear J K))
  subst hH4; subst hH3
  refine z1b (hac.mono fun r' H' n' ⟨e1, e2, e3⟩ => ?_)
  rcases hok.shape with ⟨t, hd1⟩ | hd1
  all_goals
   rw [hd1] at e1
   subst e1; subst e2; subst e3
   (try (simp (disch := omega) only [go_sem, Nat.reduceBEq])); repeat' (first | refine zqn ?_ | refine zqu (by (simp (disch := omega) only [go_sem]); rfl) rfl ?_ | (refine J _ ?_; clear J K))
   rw [hd1]
   (simp (disch := omega) only [go_sem, Nat.reduceBEq])
 ·obtain ⟨_, hpm, _⟩ := zb0 (he.symm.trans h0)
  obtain ⟨v', t, g1, g2, g3, g4, g5, g6, g7⟩ := hok.good h0 hpm
  obtain ⟨k1, k2, k3⟩ := zne (n := n) (m := n + 3) (f := fun q => q.setHead l) (fun _ _ => rfl) (fun _ => rfl) hn hu (by omega) g5
  exact ⟨v', t, g1, by omega, g3, g4, g6, g7, k1, k2, k3⟩
theorem ac_out (id : Idv) : AC Tryz.prog 98 [z0z id] H n fun r H' n' => r = .fn 151 [.ptr n 0] /\ H' = z0f H n (some (idB id)) /\ n' = n + 1 := by
 refine (z17 [] Tryz.func98 rfl (by decide +kernel) z0b (by decide +kernel) (by simp [Tryz.ntmps98]) ?_)
 show awp _ _ (Code.seq _ _) _ _
 repeat' (first | ((refine zqh fun K J => ?_); (simp (disch := omega) only [go_sem, Nat.reduceBEq, z0z, z0p])) | refine zqn ?_ | refine zqu (by (simp (disch := omega) only [go_sem]); rfl) rfl ?_ | (refine J _ ?_; clear J K))
 (simp (disch := omega) only [go_sem, Nat.reduceBEq])
 rfl
theorem zrt (hs : szB (treeV v) = true) (hcn : cntT (treeV v) <= 1000000) (hd : depT (treeV v) <= 1000000) (hn : (idsT (treeV v)).Nodup) (htb : tb < n) (hH : H tb = some (treeB (.ptr v.num 0))) (hu : Under n v) (hst : Stand H v) (id : Idv) :
  Det 49 [.ptr tb 0, z0z id] H n (UpdOK (zar (treeV v) id) (z0m id (treeV v)) (z41 id (treeV v)) v H n) := by
 have c1 := zl0 (treeV v) hs hcn hd id
 have c2 := zbi (treeV v) (z7f _ hs) (by omega) id
 obtain ⟨e, he⟩ : ∃ e, e = zar (treeV v) id := ⟨_, rfl⟩
 rw [<- he] at c1 ⊢
 generalize (if e = 0 then z0m id (treeV v) else T.zero) = y at c1
 generalize (if e = 0 then (z08 id (treeV v)).1 else T.zero) = z at c1
 obtain ⟨under, hund⟩ : ∃ under, under = (z6f id (treeV v)).1 := ⟨_, rfl⟩
 rw [<- hund] at c2
 obtain ⟨H1, hH1⟩ : ∃ H1, H1 = z0f (z0f (z0f H n (some (idB id))) (n + 1) (some (.box 27 zj1))) (n + 1) (some (unitB (treeV v))) := ⟨_, rfl⟩
 obtain ⟨H2, hH2⟩ : ∃ H2, H2 = z0f (z0f (z0f (z0f H1 (n + 2) (some (.box 27 zj1))) (n + 3) (some (.box 27 zj1))) (n + 2) (some (unitB y))) (n + 3) (some (unitB z)) := ⟨_, rfl⟩
 obtain ⟨H3, hH3⟩ : ∃ H3, H3 = z0f (z0f H2 (n + 4) (some (.box 23 [.int .i64 0, .int .i64 0, .int .i64 0]))) (n + 4) (some (idB under)) := ⟨_, rfl⟩
 obtain ⟨H4, hH4⟩ : ∃ H4, H4 = z0f H3 (n + 5) (some (idB id)) := ⟨_, rfl⟩
 have hag : ∀ j, j < n -> H4 j = H j := fun j hj => by
  rw [hH4, z00 _ (by omega), hH3, z00 _ (by omega), z00 _ (by omega), hH2, z00 _ (by omega), z00 _ (by omega), z00 _ (by omega), z00 _ (by omega), hH1, z00 _ (by omega), z00 _ (by omega), z00 _ (by omega)]
 have hnb := z4a htb
 have hat := zfa (e := e) (g := 151) (cap := [.ptr (n + 5) 0]) (lo := n + 6) (id := under) (E := outE id) (Q := fun w w' => w'.own = w.own /\ w'.kids = outK id w) (H0 := H4) (H := H4) (n := n + 6) (tb := tb) (v := v)
  (by omega) (by rw [hag _ htb]; exact hH) hs (fun h0 w hw hwi => by
   obtain ⟨_, t2, t3⟩ := zit (he.symm.trans h0)
   obtain ⟨u2, q1, q2, q3, q4, ⟨q, q5, q6, k, q7, q8⟩, q9⟩ := zg4 hn t3 t2
   rw [<- hund] at q1
   subst q1
   have hwq : treeV w = q := z6q (f := T.id) hn _ (by rw [z4z]; exact List.mem_map.2 ⟨w, hw, rfl⟩) _ q5 (by rw [z2c, hwi, q6])
   have hk : ∃ k ∈ w.kids, k.own.id = id := by
    rw [<- hwq, z1d] at q7
    obtain ⟨k2, hk2, rfl⟩ := List.mem_map.1 q7
    exact ⟨k2, hk2, by rw [<- z2c]; exact q8⟩
   exact ⟨do_out (by rw [hH4, z28]) (by omega) hk (zei hs hw), zsi hk⟩) (Nat.le_refl _) (Agree.refl _ _) (Stand.agree (n := n) hag v hu hst) (hu.le (by omega))
 obtain ⟨o, hac, hok⟩ := hat
 refine ⟨o, ?_, ⟨by have := hok.le; omega, fun j hj => by rw [hok.agree j (by omega), hag j hj], hok.bad, fun h0 => ?_⟩⟩
 ·have cU := zfk hs (n := n + 1) (H := z0f H n (some (idB id))) (tb := tb) (by omega) (by rw [z00 _ (by omega)]; exact hH) (hu.le (by omega)) (Stand.agree (n := n) (fun j hj => z00 _ (by omega)) v hu hst)
  unfold idB at cU
  refine (z17 [3000031, 3000032, 4000033, 10000033, 4000034, 10000034] Tryz.func49 rfl (by decide +kernel) z0b (by decide +kernel) (by simp [Tryz.ntmps49]) ?_)
  show awp _ _ (Code.seq _ _) _ _
  have hnn := zow htb
  repeat' (first | ((first | refine zqh fun K J => ?_ | refine zqe (by decide +kernel) fun K J => ?_ | refine z15 (cU) ?_ | refine zqs (c1) ?_ | refine zqs (c2) ?_); (simp (disch := omega) only [go_sem, Nat.reduceBEq, Nat.reduceEqDiff, ↓reduceIte, Nat.reduceAdd, Nat.reduceLeDiff, hnn, z0z, z0p])) | (refine J _ ?_; clear J K))
  refine z4l (ac_out id) rfl rfl rfl ⟨Nat.le_succ _, fun j hj => z00 _ (Nat.ne_of_lt hj)⟩ ?_
  (try (simp (disch := omega) only [go_sem, Nat.reduceBEq])); repeat' skip
  subst hH4; subst hH3; subst hH2; subst hH1
  have hle := hok.le
  refine z4l hac rfl rfl rfl ⟨by (simp (disch := omega) only [go_sem]); omega, fun j hj => hok.agree j hj⟩ ?_
  rcases hok.shape with ⟨t, hd1⟩ | hd1
  all_goals
   rw [hd1]
   (try (simp (disch := omega) only [go_sem, Nat.reduceBEq])); repeat' (first | refine zqn ?_ | refine zqu (by (simp (disch := omega) only [go_sem]); rfl) rfl ?_ | (refine J _ ?_; clear J K))
   rw [hd1]
   (simp (disch := omega) only [go_sem, Nat.reduceBEq])
 ·obtain ⟨_, t2, t3⟩ := zit (he.symm.trans h0)
  obtain ⟨u2, q1, q2, q3, q4, _, q9⟩ := zg4 hn t3 t2
  rw [<- hund] at q1
  subst q1
  obtain ⟨v', t, g1, g2, g3, g4, g5, g6, g7⟩ := hok.good h0 q2
  obtain ⟨k1, k2, k3⟩ := zwm (n := n) (m := n + 6) hn hu (by omega) q9 g5
  exact ⟨v', t, g1, by omega, g3, g4, g6, g7, k1, by rw [q3]; exact k2, k3⟩
end
end
section
open Abs Facts Tr
attribute [local irreducible] awp
set_option maxRecDepth 100000
section
variable {H : HM} {n tb : Nat} {v : V}
theorem zyf (hs : szB (treeV v) = true) (hcn : cntT (treeV v) <= 1000000) (hd : depT (treeV v) <= 1000000) (hn : (idsT (treeV v)).Nodup) (htb : tb < n) (hH : H tb = some (treeB (.ptr v.num 0))) (hu : Under n v) (hst : Stand H v) (id parent : Idv) (i : Int) :
  Det 50 [.ptr tb 0, z0z id, z0z parent, .int .i64 i] H n (UpdOK (z89 (treeV v) id parent i) (z1a parent (z6t i.toNat (z08 id (treeV v)).1) (z0m id (treeV v))) (z41 id (treeV v) ++ parent :: z41 parent (treeV v)) v H n) := by
 have c1 := zvb (treeV v) hs hcn hd id parent i
 have c2 := zbi (treeV v) (z7f _ hs) (by omega) id
 obtain ⟨e, he⟩ : ∃ e, e = z89 (treeV v) id parent i := ⟨_, rfl⟩
 rw [<- he] at c1 ⊢
 generalize (if e = 0 then z1a parent (z6t i.toNat (z08 id (treeV v)).1) (z0m id (treeV v)) else T.zero) = y at c1
 obtain ⟨under, hund⟩ : ∃ under, under = (z6f id (treeV v)).1 := ⟨_, rfl⟩
 rw [<- hund] at c2
 obtain ⟨Ha, hHa⟩ : ∃ Ha, Ha = z0f (z0f (z0f H n (some (idB id))) (n + 1) (some (idB parent))) (n + 2) (some (.box 3 [.int .i64 i])) := ⟨_, rfl⟩
 have hagA : Agree n H Ha := fun j hj => by rw [hHa, z00 _ (by omega), z00 _ (by omega), z00 _ (by omega)]
 have cU := zfk hs (n := n + 3) (H := Ha) (tb := tb) (by omega) (by rw [hagA _ htb]; exact hH) (hu.le (by omega)) (Stand.agree hagA v hu hst)
 obtain ⟨H1, hH1⟩ : ∃ H1, H1 = z0f (z0f Ha (n + 3) (some (.box 27 zj1))) (n + 3) (some (unitB (treeV v))) := ⟨_, rfl⟩
 obtain ⟨H2, hH2⟩ : ∃ H2, H2 = z0f (z0f H1 (n + 4) (some (.box 27 zj1))) (n + 4) (some (unitB y)) := ⟨_, rfl⟩
 have hag2 : Agree n H H2 := fun j hj => by
  rw [hH2, z00 _ (by omega), z00 _ (by omega), hH1, z00 _ (by omega), z00 _ (by omega)]; exact hagA j hj
 have hnn := zow htb
 by_cases h0 : e = 0
 ·obtain ⟨m1, m2, m3, m4, m5, m6⟩ := ziv (he.symm.trans h0)
  obtain ⟨u2, q1, q2, q3, q4, ⟨q, q5, q6, k, q7, q8⟩, q9⟩ := zg4 hn m4 m2
  rw [<- hund] at q1
  subst q1
  obtain ⟨x, hxv, hxi, hfx, hrx⟩ : ∃ x ∈ nodesV v, x.own.id = id /\ z8n id v = .ptr x.num 0 /\ z08 id (treeV v) = (treeV x, true) := by
   rcases zrn hn id with ⟨_, hf⟩ | h
   ·have := z2h (id := id) (u := treeV v)
    rw [hf, decide_eq_true m2] at this; cases this
   ·exact h
  obtain ⟨H3, hH3⟩ : ∃ H3, H3 = z0f (z0f H2 (n + 5) (some (.box 23 [.int .i64 0, .int .i64 0, .int .i64 0]))) (n + 5) (some (idB under)) := ⟨_, rfl⟩
  have hag3 : Agree n H H3 := fun j hj => by rw [hH3, z00 _ (by omega), z00 _ (by omega)]; exact hag2 j hj
  have cF : ∀ (H' : HM) (n' : Nat), n <= n' -> Agree n H H' -> RC Tryz.prog 44 [.ptr v.num 0, z0z id] H' n' (.ptr x.num 0) := fun H' n' hle ha => by
   have := rc_find id v hs H' n' (hu.le hle) (Stand.agree ha v hu hst)
   rw [hfx] at this; exact this
  obtain ⟨H4, hH4⟩ : ∃ H4, H4 = z0f (z0f H3 (n + 6) (some (.box 75 [.nptr]))) (n + 6) (some (.box 75 [.ptr x.num 0])) := ⟨_, rfl⟩
  obtain ⟨H5, hH5⟩ : ∃ H5, H5 = z0f H4 (n + 7) (some (idB id)) := ⟨_, rfl⟩
  have hag5 : Agree n H H5 := fun j hj => by rw [hH5, z00 _ (by omega), hH4, z00 _ (by omega), z00 _ (by omega)]; exact hag3 j hj
  have hH5a : H5 (n + 2) = some (.box 3 [.int .i64 i]) := by
   rw [hH5, z00 _ (by omega), hH4, z00 _ (by omega), z00 _ (by omega), hH3, z00 _ (by omega), z00 _ (by omega), hH2, z00 _ (by omega), z00 _ (by omega), hH1, z00 _ (by omega), z00 _ (by omega), hHa, z28]
  have hH5p : H5 (n + 1) = some (idB parent) := by
   rw [hH5, z00 _ (by omega), hH4, z00 _ (by omega), z00 _ (by omega), hH3, z00 _ (by omega), z00 _ (by omega), hH2, z00 _ (by omega), z00 _ (by omega), hH1, z00 _ (by omega), z00 _ (by omega), hHa, z00 _ (by omega), z28]
  have hH5b : H5 (n + 6) = some (.box 75 [.ptr x.num 0]) := by rw [hH5, z00 _ (by omega), hH4, z28]
  -- the unit is taken out
  have hat := zfa (e := 0) (g := 151) (cap := [.ptr (n + 7) 0]) (lo := n + 8) (id := under) (E := outE id) (Q := fun w w' => w'.own = w.own /\ w'.kids = outK id w) (H0 := H5) (H := H5) (n := n + 8) (tb := tb) (v := v)
   (by omega) (by rw [hag5 _ htb]; exact hH) hs (fun _ w hw hwi => by
    have hwq : treeV w = q := z6q (f := T.id) hn _ (by rw [z4z]; exact List.mem_map.2 ⟨w, hw, rfl⟩) _ q5 (by rw [z2c, hwi, q6])
    have hk : ∃ k ∈ w.kids, k.own.id = id := by
     rw [<- hwq, z1d] at q7
     obtain ⟨k2, hk2, rfl⟩ := List.mem_map.1 q7
     exact ⟨k2, hk2, by rw [<- z2c]; exact q8⟩
    exact ⟨do_out (by rw [hH5, z28]) (by omega) hk (zei hs hw), zsi hk⟩) (Nat.le_refl _) (Agree.refl _ _) (Stand.agree hag5 v hu hst) (hu.le (by omega))
  obtain ⟨o1, hac1, hok1⟩ := hat
  obtain ⟨r, t1, g1, g2, g3, g4, g5, g6, g7⟩ := hok1.good rfl q2
  have hout := zwm (n := n) (m := n + 8) hn hu (by omega) q9 g5
  obtain ⟨⟨_, w2, w3, _⟩, w5, m, hi, hle⟩ := z8g m6
  have hsr : szB (treeV r) = true := by rw [hout.1]; exact zsm _ hs
  have hnr : (idsT (treeV r)).Nodup := by rw [hout.1]; exact z16 (by assumption)
  have hit : i.toNat = m := by rw [hi]; rfl
  have hle1 := hok1.le
  -- and put in
  have hat2 := zfa (e := 0) (g := 99) (cap := [.ptr (n + 2) 0, .ptr (n + 6) 0]) (lo := o1.2.2) (id := parent) (E := movE i.toNat x) (Q := fun w w' => w'.own = w.own /\ w'.kids = znq i.toNat x w) (H0 := o1.2.1) (H := o1.2.1) (n := o1.2.2) (tb := t1) (v := r)
   (by omega) g4 hsr (fun _ w hw hwi => by
    have hk := hle (treeV w) (by rw [<- hout.1, z4z]; exact List.mem_map.2 ⟨w, hw, rfl⟩) (by rw [z2c]; exact hwi)
    rw [z1d, List.length_map] at hk
    have hxs : Stand o1.2.1 x := Stand.agree (n := n) (fun j hj => by rw [hok1.agree j (by omega)]; exact hag5 j hj) x (z2x hu hxv) (z50 v hst x hxv)
    have hxu : Under o1.2.2 x := (z2x hu hxv).le (by omega)
    exact ⟨do_mov (by rw [hok1.agree _ (by omega), hH5a, hit, hi]) (by omega) (by rw [hok1.agree _ (by omega), hH5b]) (by omega) hxs hxu (by omega) (zei hsr hw), eff_mov hxs hxu⟩) (Nat.le_refl _) (Agree.refl _ _) g6 g7
  obtain ⟨o2, hac2, hok2⟩ := hat2
  refine ⟨o2, ?_, ⟨by have := hok2.le; omega, fun j hj => by rw [hok2.agree j (by omega), hok1.agree j (by omega)]; exact hag5 j hj, fun h => absurd h0 h, fun _ => ?_⟩⟩
  ·subst h0
   refine (z17 [8000000, 3000042, 3000043, 11000044, 3000047, 3000048, 4000049, 10000049, 4000050, 10000050] Tryz.func50 rfl (by decide +kernel) z0b (by decide +kernel) (by simp [Tryz.ntmps50]) ?_)
   show awp _ _ (Code.seq _ _) _ _
   subst hHa
   unfold idB at cU
   repeat' (first | refine zqj ?_ | ((first | refine zqh fun K J => ?_ | refine zqe (by decide +kernel) fun K J => ?_ | refine z15 (cU) ?_ | refine zqs (c1) ?_ | refine zqs (c2) ?_); (simp (disch := omega) only [go_sem, Nat.reduceBEq, Nat.reduceEqDiff, ↓reduceIte, reduceCtorEq, Nat.reduceAdd, Nat.reduceLeDiff, hH, hnn, treeB, z0z, z0p])) | ((refine zqd _ rfl (fun hc => ?_) (fun hc => ?_)) <;> (first | (cases hc; done) | ((try simp only [] at hc); (try (exfalso; omega))))) | refine zqb ?_ | (refine J _ ?_; clear J K))
   refine zbc (fun H' n' h2 => cF H' n' (Nat.le_trans (by (simp (disch := omega) only [go_sem]) <;> omega) h2.1) fun j hj => (h2.2 j (by (simp (disch := omega) only [go_sem]) <;> omega)).trans (by (simp (disch := omega) only [go_sem]); simp (disch := omega) only [z3g])) rfl ?_
   (try (simp (disch := omega) only [go_sem, Nat.reduceBEq, Nat.reduceEqDiff, ↓reduceIte, Nat.reduceAdd, Nat.reduceLeDiff, Nat.reduceLT, hnn])); repeat' (first | ((refine zqe (by decide +kernel) fun K J => ?_); (simp (disch := omega) only [go_sem, Nat.reduceBEq, Nat.reduceEqDiff, ↓reduceIte, Nat.reduceAdd, Nat.reduceLeDiff, hnn])) | (refine J _ ?_; clear J K))
   refine z4l (ac_out id) rfl rfl rfl ⟨Nat.le_succ _, fun j hj => z00 _ (Nat.ne_of_lt hj)⟩ ?_
   (try (simp (disch := omega) only [go_sem, Nat.reduceBEq])); repeat' skip
   subst hH5; subst hH4; subst hH3; subst hH2; subst hH1
   refine z4l hac1 rfl rfl rfl ⟨by (simp (disch := omega) only [go_sem]) <;> omega, fun j hj => hok1.agree j hj⟩ ?_
   have f6 := (hok1.agree (n + 1) (by omega)).trans hH5p
   rw [g1]
   (try (simp (disch := omega) only [go_sem, Nat.reduceBEq, idB, z0p])); repeat' (first | ((refine zqh fun K J => ?_); (simp (disch := omega) only [go_sem, Nat.reduceBEq, ↓reduceIte, Nat.reduceAdd, Nat.reduceLeDiff, f6, idB, z0p])) | (refine J _ ?_; clear J K))
   refine z1b (hac2.mono fun r' H' n' ⟨e1, e2, e3⟩ => ?_)
   rcases hok2.shape with ⟨t, hd1⟩ | hd1
   all_goals
    rw [hd1] at e1
    subst e1; subst e2; subst e3
    (try (simp (disch := omega) only [go_sem, Nat.reduceBEq])); repeat' (first | refine zqn ?_ | refine zqu (by (simp (disch := omega) only [go_sem]); rfl) rfl ?_ | (refine J _ ?_; clear J K))
    rw [hd1]
    (simp (disch := omega) only [go_sem, Nat.reduceBEq])
  ·rw [hit] at hok2 ⊢
   obtain ⟨v', t, p1, p2, p3, p4, p5, p6, p7⟩ := hok2.good rfl (by rw [hout.1]; exact w5)
   obtain ⟨k1, k2, k3⟩ := upd_mov (n := n) (m := n + 8) (m2 := o1.2.2) (n2 := o1.2.2) (at_ := m) m1 m4 m2 m3 m5 q3 q2 q4 (by rw [hrx]) hxv hu (by omega) hout hnr g7 (by omega) (Nat.le_refl _) p5
   exact ⟨v', t, p1, by omega, p3, p4, p6, p7, k1, k2, k3⟩
 ·refine ⟨(.tup [.nptr, .int .i64 e], H2, n + 5), ?_, ⟨by simp, hag2, fun _ => rfl, fun h => absurd h h0⟩⟩
  refine (z17 [8000000, 3000042, 3000043, 11000044, 3000047, 3000048, 4000049, 10000049, 4000050, 10000050] Tryz.func50 rfl (by decide +kernel) z0b (by decide +kernel) (by simp [Tryz.ntmps50]) ?_)
  show awp _ _ (Code.seq _ _) _ _
  subst hHa
  unfold idB at cU
  repeat' (first | refine zqj ?_ | ((first | refine zqh fun K J => ?_ | refine z15 (cU) ?_ | refine zqs (c1) ?_); (simp (disch := omega) only [go_sem, Nat.reduceBEq, ↓reduceIte, Nat.reduceAdd, Nat.reduceLeDiff, hnn, z0z, z0p])) | ((refine zqd _ rfl (fun hc => ?_) (fun hc => ?_)) <;> (((try simp only [z0e] at hc); (try (exfalso; omega))))) | refine zqg ?_ | refine zqu (by (simp (disch := omega) only [go_sem]); rfl) rfl ?_ | (refine J _ ?_; clear J K))
  (simp (disch := omega) only [go_sem, Nat.reduceBEq])
  rw [hH2, hH1]
  rfl
end
end
section
open Abs Facts Tr
namespace Tr
theorem cap_len {s : ByteArray} (h : z46 s = true) : s.size <= 7 := by
 unfold z46 at h
 simp only [Bool.and_eq_true, decide_eq_true_eq] at h
 omega
theorem zsp {l : List Wd} (h : zhj l = true) : l.length <= 256 /\ ∀ w ∈ l, w.text.size <= 24 := by
 unfold zhj at h
 simp only [Bool.and_eq_true, decide_eq_true_eq, List.all_eq_true] at h
 refine ⟨h.1, fun w hw => ?_⟩
 have := h.2 w hw
 unfold z78 at this
 simp only [Bool.and_eq_true, decide_eq_true_eq] at this
 omega
theorem zxh : ∀ t : T, z39 t = true -> szB t = true := by
 refine z5t fun t ih h => ?_
 rw [z43] at h
 simp only [Bool.and_eq_true, List.all_eq_true] at h
 obtain ⟨ha, _, hk, _⟩ := h
 unfold z2w at ha
 simp only [Bool.and_eq_true, decide_eq_true_eq] at ha
 obtain ⟨_, h1, h2, h3, h4⟩ := ha
 obtain ⟨a1, a2⟩ := zsp h2
 obtain ⟨b1, b2⟩ := zsp h3
 refine (z2v t).2 ⟨?_, by omega, fun w hw => by have := a2 w hw; omega, by omega, fun w hw => by have := b2 w hw; omega, by omega, fun k hk' => ih k hk' (hk k hk')⟩
 split at h4
 ·simp only [Bool.and_eq_true, decide_eq_true_eq] at h4
  rw [h4.1]; decide
 ·have := cap_len h4; omega
theorem z8w {t : T} (h : standsT t = true) : szB t = true /\ cntT t <= 1024 /\ depT t <= 8 :=
 ⟨zxh t ((z1p t).1 h).1, ((z1p t).1 h).2.2.1, ((z1p t).1 h).2.1⟩
theorem zm5 {u : T} {id : Idv} {l : List Wd} (h : z3y u id l = 0) : standsT (z1a id (fun q => q.setHead l) u) = true := by
 obtain ⟨h1, hm, h3, h4, h5⟩ := zb0 h
 obtain ⟨C, e, hq, hpre, _⟩ := focus id u hm
 generalize (z08 id u).1 = q at e hq h4
 have hpost : id ∉ z3k C := (z2j (x := q) (by rw [<- e]; exact z16 h1) (hq ▸ z1e q)).2
 rw [e, z4m (fun q => q.setHead l) hq C hpre hpost]
 rw [e] at h1
 refine zd1 h1 rfl rfl rfl ?_ (fun h => h)
 have hr := ((z1p _).1 h1).1
 rw [z3c] at hr
 have ha := (zaz hr.2).1
 unfold z2w at ha ⊢
 simp only [Bool.and_eq_true, decide_eq_true_eq] at ha ⊢
 obtain ⟨a1, a2, a3, a4, a5⟩ := ha
 refine ⟨a1, a2, ?_, a4, ?_⟩
 ·show zhj l = true
  unfold zhj
  rw [decide_eq_true h5, Bool.true_and, List.all_eq_true]
  intro w hw
  unfold zxj at h3
  have := List.any_eq_false.1 h3 w hw
  simpa using this
 ·rw [if_neg h4] at a5
  rw [if_neg (show ¬ (q.setHead l).kind = 0 from h4)]; exact a5
end Tr
end
section
open Abs Facts Tr
attribute [local irreducible] awp
set_option maxRecDepth 100000
structure Up where
 kind : Int
 id : Idv
 parent : Idv
 at_ : Int
 x : T
 label : ByteArray
 w : List Wd
def z2u (o : Up) : List D := .int .u8 o.kind :: .int .i64 o.id.act :: .int .i64 o.id.item :: .int .i64 o.id.n :: .int .i64 o.parent.act :: .int .i64 o.parent.item :: .int .i64 o.parent.n :: .int .i64 o.at_ :: (z0d o.x ++ [.str o.label, z0n o.w])
def z5i (o : Up) : D := .agg (z2u o)
def z4x (l : List Up) : D := .rsl false 18 (l.map z5i)
theorem z6b (o : Up) : z2u o = [.int .u8 o.kind, .int .i64 o.id.act, .int .i64 o.id.item, .int .i64 o.id.n, .int .i64 o.parent.act, .int .i64 o.parent.item, .int .i64 o.parent.n, .int .i64 o.at_, .int .i64 o.x.id.act, .int .i64 o.x.id.item, .int .i64 o.x.id.n, .int .i64 o.x.kind, .str o.x.label, z0n o.x.head, z0n o.x.words, z1k o.x.kids, .str o.label, z0n o.w] := by
 unfold z2u; rw [z0k]; rfl
theorem zs5 (o : Up) : pureD (z5i o) = true := by
 unfold z5i
 rw [z6b]
 simp only [pureD, pureD.pureL, z0j, z4d, Bool.and_self]
theorem zg2 (l : List Up) : pureD (z4x l) = true := z10 (f := z5i) zs5 l
structure UpIn (o : Up) : Prop where
 ft : fitB o.x = true
 lb : o.label.size <= maxLen
 wl : o.w.length <= maxLen
 wt : ∀ w ∈ o.w, w.text.size <= maxLen
 at_ : -9223372036854775808 <= o.at_ /\ o.at_ <= 9223372036854775807
 k0 : 0 <= o.kind /\ o.kind <= 255
def zlp (o : Up) : Bool := zzq o.x 12 && (decide (o.label.size <= 40) && decide (o.w.length <= 20))
structure UpOK (o : Up) : Prop where
 sz : szB o.x = true
 cn : cntT o.x <= 12
 dp : depT o.x <= 20
 lb : o.label.size <= 40
 wl : o.w.length <= 20
 wt : ∀ w ∈ o.w, w.text.size <= maxLen
 at_ : -9223372036854775808 <= o.at_ /\ o.at_ <= 9223372036854775807
 k0 : 0 <= o.kind /\ o.kind <= 255
theorem few_ok {o : Up} (hi : UpIn o) (h : zlp o = true) : UpOK o := by
 unfold zlp at h
 simp only [Bool.and_eq_true, decide_eq_true_eq] at h
 obtain ⟨s1, s2, s3⟩ := few_sz (by omega) (by omega) h.1
 exact ⟨s1, by omega, s3, h.2.1, h.2.2, hi.wt, hi.at_, hi.k0⟩
theorem zzx (u : T) (hu : fitB u = true) (l : List Up) (hl : l.length <= maxLen) (hin : ∀ o ∈ l, UpIn o) : PC Tryz.prog 19 [z0o u, z4x l] (.bool (l.all zlp && (decide (l.length <= 12) && zzq u 40))) := by
 unfold maxLen at hl
 have c1 := pc_Few u hu 40 (by omega) (by omega)
 refine z22 1 (by simp only [pureD.pureL, zg2, z02, Bool.and_self]) rfl (z17 [] Tryz.func19 rfl (by decide +kernel) z0b (by decide +kernel) (by simp [Tryz.ntmps19]) ?_)
 show awp _ _ (Code.seq _ _) _ _
 repeat' (first | refine zqj ?_ | ((refine zqh fun K J => ?_); (simp (disch := omega) only [go_sem, z4x])) | refine zqa ?_ | (refine J _ ?_; clear J K))
 (refine z5k (fun U st => ∃ (i : _), U = l.length - i /\ st.t 1 = .rsl false 18 (l.map z5i) /\ st.t 2 = .ptr 0 0 /\ st.t 5 = .int .i64 i /\ st.H 0 = some (.box 27 (z0d u)) /\ (i <= l.length) /\ ((l.take i).all zlp = true)) ?_ ?_); rotate_left; (rintro U st ⟨i, rfl, q1, q2, q5, qH0, qp0, qp1⟩); rotate_left
 ·(refine ⟨_, 0, rfl, ?_⟩); (simp (disch := omega) only [go_sem, Nat.reduceBEq, true_and, Int.natCast_zero])
  rfl
 by_cases hi : i < l.length
 ·have hg := (show (l.map z5i)[i]? = some (z5i l[i]) from by rw [List.getElem?_map, List.getElem?_eq_getElem hi]; rfl)
  have htk := List.take_succ_eq_append_getElem hi
  have hui := hin l[i] (List.getElem_mem hi)
  have hcu := z6b l[i]
  have c2 := pc_Few l[i].x hui.ft 12 (by omega) (by omega)
  rw [z0o, z0k] at c2
  have hb1 := hui.lb
  have hb2 := hui.wl
  unfold maxLen at hb1 hb2
  have hall : (l.take (i + 1)).all zlp = zlp l[i] := by rw [htk, List.all_append, qp1]; simp
  have hno : zlp l[i] = false -> l.all zlp = false := fun h => by
   rw [List.all_eq_false]
   exact ⟨l[i], List.getElem_mem hi, by rw [h]; simp⟩
  cases hf : zzq l[i].x 12 with
  | false =>
   rw [hf] at c2
   have h1 : zlp l[i] = false := by unfold zlp; rw [hf]; rfl
   rw [hno h1]
   repeat' (first | refine zqj ?_ | ((first | refine zqh fun K J => ?_ | refine zqs (c2) ?_); (simp (disch := omega) only [go_sem, Nat.reduceBEq, ↓reduceIte, reduceCtorEq, Nat.reduceAdd, Nat.reduceLeDiff, q1, q5, z5i, hcu, z0n])) | ((first | refine zqd _ rfl (fun hc => ?_) (fun hc => ?_) | refine zqm _ rfl (fun hc => ?_) (fun hc => ?_)) <;> (first | (cases hc; done) | ((try simp only [z0e] at hc); (try (exfalso; omega))))) | refine zqa ?_ | refine zqb ?_ | refine zqn ?_ | refine zqx ?_ | refine z8t ?_ | refine zqo ?_ | refine zqu (by (simp (disch := omega) only [go_sem]); rfl) rfl ?_ | (refine J _ ?_; clear J K))
   exact z03 rfl
  | true =>
   rw [hf] at c2
   by_cases hz : l[i].label.size <= 40
   ·by_cases hw : l[i].w.length <= 20
    ·have h1 : zlp l[i] = true := by unfold zlp; rw [hf, decide_eq_true hz, decide_eq_true hw]; rfl
     repeat' (first | refine zqj ?_ | ((first | refine zqh fun K J => ?_ | refine zqr fun K J => ?_ | refine zqs (c2) ?_); (simp (disch := omega) only [go_sem, Nat.reduceBEq, ↓reduceIte, reduceCtorEq, Nat.reduceAdd, Nat.reduceLeDiff, q1, q5, z5i, hcu, z0n])) | ((first | refine zqd _ rfl (fun hc => ?_) (fun hc => ?_) | refine zqm _ rfl (fun hc => ?_) (fun hc => ?_)) <;> (((try simp only [z0e] at hc); (try (exfalso; omega))))) | refine zqa ?_ | refine zqb ?_ | refine zqk ?_ | refine zqv ?_ | refine zqy ?_ | (refine J _ ?_; clear J K) | (refine zqf (fun hb => ?_) (fun hb => ?_) <;> (have hb2 := hb; try simp only [z0e] at hb2) <;> ((first | have hb3 := eq_false hb2 | have hb3 := eq_true hb2); (simp (disch := omega) only [go_sem, Nat.reduceBEq, ↓reduceIte, reduceCtorEq, Nat.reduceAdd, hb3, q1, q5, z5i, hcu, z0n]); clear hb hb3; (try (exfalso; omega)))))
     (refine Exists.intro _ (And.intro ?_ ⟨i + 1, rfl, ?_⟩)); rotate_left; (simp (disch := omega) only [go_sem, Nat.reduceBEq, q1, q2, q5, qH0, true_and, Int.natCast_add, Int.natCast_one]); rotate_left
     ·omega
     ·exact ⟨by omega, by rw [hall, h1]⟩
    ·have h1 : zlp l[i] = false := by unfold zlp; rw [decide_eq_false hw, Bool.and_false, Bool.and_false]
     rw [hno h1]
     repeat' (first | refine zqj ?_ | ((first | refine zqh fun K J => ?_ | refine zqs (c2) ?_); (simp (disch := omega) only [go_sem, Nat.reduceBEq, ↓reduceIte, reduceCtorEq, Nat.reduceAdd, Nat.reduceLeDiff, q1, q5, z5i, hcu, z0n])) | ((first | refine zqd _ rfl (fun hc => ?_) (fun hc => ?_) | refine zqm _ rfl (fun hc => ?_) (fun hc => ?_)) <;> (((try simp only [z0e] at hc); (try (exfalso; omega))))) | refine zqa ?_ | refine zqb ?_ | refine zqn ?_ | refine zqx ?_ | refine z8t ?_ | refine zqo ?_ | refine zqu (by (simp (disch := omega) only [go_sem]); rfl) rfl ?_ | (refine J _ ?_; clear J K) | (refine zqf (fun hb => ?_) (fun hb => ?_) <;> (have hb2 := hb; try simp only [z0e] at hb2) <;> ((first | have hb3 := eq_false hb2 | have hb3 := eq_true hb2); (simp (disch := omega) only [go_sem, Nat.reduceBEq, ↓reduceIte, reduceCtorEq, Nat.reduceAdd, hb3, q1, q5, z5i, hcu, z0n]); clear hb hb3; (try (exfalso; omega)))))
     exact z03 rfl
   ·have h1 : zlp l[i] = false := by unfold zlp; rw [decide_eq_false hz, Bool.false_and, Bool.and_false]
    rw [hno h1]
    repeat' (first | refine zqj ?_ | ((first | refine zqh fun K J => ?_ | refine zqs (c2) ?_); (simp (disch := omega) only [go_sem, Nat.reduceBEq, ↓reduceIte, reduceCtorEq, Nat.reduceAdd, Nat.reduceLeDiff, q1, q5, z5i, hcu, z0n])) | ((first | refine zqd _ rfl (fun hc => ?_) (fun hc => ?_) | refine zqm _ rfl (fun hc => ?_) (fun hc => ?_)) <;> (first | (cases hc; done) | ((try simp only [z0e] at hc); (try (exfalso; omega))))) | refine zqa ?_ | refine zqb ?_ | refine zqn ?_ | refine zqx ?_ | refine z8t ?_ | refine zqo ?_ | refine zqu (by (simp (disch := omega) only [go_sem]); rfl) rfl ?_ | (refine J _ ?_; clear J K) | (refine zqf (fun hb => ?_) (fun hb => ?_) <;> (have hb2 := hb; try simp only [z0e] at hb2) <;> ((first | have hb3 := eq_false hb2 | have hb3 := eq_true hb2); (simp (disch := omega) only [go_sem, Nat.reduceBEq, ↓reduceIte, reduceCtorEq, Nat.reduceAdd, hb3, q1, q5, z5i, hcu, z0n]); clear hb hb3; (try (exfalso; omega)))))
    exact z03 rfl
 ·rw [List.take_of_length_le (by omega)] at qp1
  rw [qp1, Bool.true_and]
  by_cases hl2 : l.length <= 12
  ·repeat' (first | refine zqj ?_ | ((first | refine zqh fun K J => ?_ | refine zqs (c1) ?_); (simp (disch := omega) only [go_sem, Nat.reduceBEq, ↓reduceIte, q1, q5])) | ((refine zqd _ rfl (fun hc => ?_) (fun hc => ?_)) <;> (((try simp only [z0e] at hc); (try (exfalso; omega))))) | refine zqc ?_ | refine zqn ?_ | refine zqv ?_ | refine zqz ?_ | refine zqp ?_ | refine zqu (by (simp (disch := omega) only [go_sem]); rfl) rfl ?_ | (refine J _ ?_; clear J K) | (refine zqf (fun hb => ?_) (fun hb => ?_) <;> (have hb2 := hb; try simp only [z0e] at hb2) <;> ((first | have hb3 := eq_false hb2 | have hb3 := eq_true hb2); (simp (disch := omega) only [go_sem, Nat.reduceBEq, ↓reduceIte, Nat.reduceAdd, Nat.reduceLeDiff, hb3, q2, qH0]); clear hb hb3; (try (exfalso; omega)))))
   all_goals exact z03 (by rw [decide_eq_true hl2, Bool.true_and])
  ·repeat' (first | refine zqj ?_ | ((refine zqh fun K J => ?_); (simp (disch := omega) only [go_sem, Nat.reduceBEq, ↓reduceIte, q1, q5])) | ((refine zqd _ rfl (fun hc => ?_) (fun hc => ?_)) <;> (((try simp only [z0e] at hc); (try (exfalso; omega))))) | refine zqc ?_ | refine zqn ?_ | refine zqv ?_ | refine zqz ?_ | refine zqp ?_ | refine zqu (by (simp (disch := omega) only [go_sem]); rfl) rfl ?_ | (refine J _ ?_; clear J K) | (refine zqf (fun hb => ?_) (fun hb => ?_) <;> (have hb2 := hb; try simp only [z0e] at hb2) <;> ((first | have hb3 := eq_false hb2 | have hb3 := eq_true hb2); (simp (disch := omega) only [go_sem, Nat.reduceBEq, ↓reduceIte, Nat.reduceAdd, Nat.reduceLeDiff, hb3, q2, qH0]); clear hb hb3; (try (exfalso; omega)))))
   all_goals exact z03 (by rw [decide_eq_false hl2, Bool.false_and])
def opE (u : T) (o : Up) : Int := if o.kind = 0 then z3j u o.parent o.at_ o.x else if o.kind = 1 then zar u o.id else if o.kind = 2 then z89 u o.id o.parent o.at_ else if o.kind = 3 then zjf u o.id o.label else if o.kind = 4 \/ o.kind = 5 then z3y u o.id o.w else 1
def opT (u : T) (o : Up) : T := if o.kind = 0 then z1a o.parent (z6t o.at_.toNat o.x) u else if o.kind = 1 then z0m o.id u else if o.kind = 2 then z1a o.parent (z6t o.at_.toNat (z08 o.id u).1) (z0m o.id u) else if o.kind = 3 then z1a o.id (fun q => q.setLabel o.label) u else if o.kind = 4 then z1a o.id (fun q => q.setWords o.w) u else if o.kind = 5 then z1a o.id (fun q => q.setHead o.w) u else u
def opM (u : T) (o : Up) : List Idv := if o.kind = 0 then o.parent :: z41 o.parent u else if o.kind = 1 then z41 o.id u else if o.kind = 2 then z41 o.id u ++ o.parent :: z41 o.parent u else o.id :: z41 o.id u
theorem zwh {u : T} {o : Up} (h : opE u o = 0) : standsT (opT u o) = true := by
 unfold opE at h
 unfold opT
 by_cases k0 : o.kind = 0
 ·rw [if_pos k0] at h ⊢
  obtain ⟨_, _, m, hm, _⟩ := z8g h
  rw [hm] at h ⊢
  obtain ⟨_, _, _, _, _, _, _, _, f1, _⟩ := zfd h
  exact f1
 rw [if_neg k0] at h ⊢
 by_cases k1 : o.kind = 1
 ·rw [if_pos k1] at h ⊢; exact (zrp h).1
 rw [if_neg k1] at h ⊢
 by_cases k2 : o.kind = 2
 ·rw [if_pos k2] at h ⊢; exact (zvx h).1
 rw [if_neg k2] at h ⊢
 by_cases k3 : o.kind = 3
 ·rw [if_pos k3] at h ⊢; exact (zvw h).1
 rw [if_neg k3] at h ⊢
 by_cases k4 : o.kind = 4
 ·rw [if_pos (.inl k4)] at h
  rw [if_pos k4]; exact (zvu h).1
 by_cases k5 : o.kind = 5
 ·rw [if_pos (.inr k5)] at h
  rw [if_neg k4, if_pos k5]; exact zm5 h
 rw [if_neg (by omega)] at h
 cases h
end
end Go.Proofs.YtmnabhhdiinfaaaGreatDoor
namespace Go.Proofs.YtmnabhhdiinfaaaGreatDoor.Glue
open Go.ChangeShapes Go.WideShapes Go.ChangeAt Go.RowKit Abs Facts Tr
set_option maxRecDepth 100000
def S15 : List TypeId := [4, 3, 5, 9, 23, 70, 72, 24, 27, 25, 53, 41]
theorem zsj : zfg Tryz.prog S15 = true := by decide +kernel
theorem zjm {n : Nat} {ds : List D} (h : z4b Tryz.prog n 24 ds) : ∃ l : List Wd, ds = [z0n l] /\ l.length <= maxLen /\ ∀ w ∈ l, w.text.size <= maxLen := by
 obtain ⟨m, parts, rfl, hl, hp, rfl⟩ := z88 Tryz.underlying24 h
 obtain ⟨l, rfl, hq⟩ := z4q (f := z40) (q := fun w : Wd => w.text.size <= maxLen) (fun p hp => zm0 hp) parts hp
 refine ⟨l, ?_, by simpa using hl, hq⟩
 rw [za1, zcz, List.map_map]; rfl
theorem zx8 {n : Nat} {ds : List D} (h : z4b Tryz.prog n 53 ds) : ∃ o : Up, ds = z2u o /\ UpIn o := by
 obtain ⟨m, rfl, h⟩ := z3o Tryz.underlying53 h
 obtain ⟨d1, r1, rfl, h1, d2, r2, rfl, h2, d3, r3, rfl, h3, d4, r4, rfl, h4, d5, r5, rfl, h5, d6, r6, rfl, h6, d7, r7, rfl, h7, rfl⟩ := h
 obtain ⟨k, rfl, hk⟩ : ∃ i : Int, d1 = [.int .u8 i] /\ 0 <= i /\ i <= 255 := by
  cases m with
  | zero => cases h1
  | succ m =>
   simp only [z4b, Tryz.underlying5] at h1
   obtain ⟨i, h1, h2⟩ := h1
   refine ⟨i, h1, ?_⟩
   simp only [Lit.wf, Bool.and_eq_true, decide_eq_true_eq] at h2
   exact h2
 obtain ⟨i, rfl⟩ := zj8 h2
 obtain ⟨j, rfl⟩ := zj8 h3
 obtain ⟨a, rfl, ha1, ha2⟩ := z3n Tryz.underlying3 h4
 obtain ⟨t, rfl, ht⟩ := zhs _ h5
 obtain ⟨s, rfl, hs⟩ := zbq Tryz.underlying9 h6
 obtain ⟨l, rfl, hl1, hl2⟩ := zjm h7
 refine ⟨⟨k, i, j, a, t, s, l⟩, ?_, ⟨ht, hs, hl1, hl2, ⟨ha1, ha2⟩, hk⟩⟩
 rw [List.append_nil]; rfl
section
variable {H : Type} {enc : TypeId × Value -> H} {W : World} {base : Nat} {r : Reach} {b0 : Nat} {spare : Nat -> Bool} {held : Bool} {v : Value} {d : DataW H} {p : List MemPlace}
theorem rd_ups (hv : Value.okWide Tryz.prog W r b0 41 v) (h : DataW.Trod enc Tryz.prog W base spare held 41 v d p) : ∃ l : List Up, (l.length <= maxLen /\ ∀ q ∈ l, UpIn q) /\ rel (z76 W) (z4x l) v := by
 obtain ⟨a, n, c, rfl⟩ := okWide_slice Tryz.underlying41 hv
 obtain ⟨m, d', ht, hr⟩ := one_arg zsj (by decide) zz5 rfl h
 obtain ⟨m, parts, rfl, hl, hp, he⟩ := z88 Tryz.underlying41 ht
 obtain ⟨l, rfl, hq⟩ := z4q (f := z2u) (q := fun q : Up => UpIn q) (fun p hp => zx8 hp) parts hp
 refine ⟨l, ⟨by simpa using hl, hq⟩, ?_⟩
 have : d' = z4x l := by
  simp only [List.cons.injEq, and_true] at he
  rw [he, zz6, sizeT53, List.map_map]; rfl
 rw [this] at hr; exact hr
end
end Go.Proofs.YtmnabhhdiinfaaaGreatDoor.Glue
namespace Go.Proofs.YtmnabhhdiinfaaaGreatDoor
section
open Abs Facts Tr
attribute [local irreducible] awp
set_option maxRecDepth 100000
section
variable {x : Vn} {o : Up}
end
section
variable {H : HM} {n tb : Nat} {v : V} {o : Up}
theorem det_do (hs : standsT (treeV v) = true) (htb : tb < n) (hH : H tb = some (treeB (.ptr v.num 0))) (hu : Under n v) (hst : Stand H v) (ho : UpOK o) :
  Det 23 [.ptr tb 0, z5i o] H n (UpdOK (opE (treeV v) o) (opT (treeV v) o) (opM (treeV v) o) v H n) := by
 obtain ⟨hz, hcn, hd⟩ := z8w hs
 have hn := z16 hs
 have hcu := z6b o
 obtain ⟨H1, hH1⟩ : ∃ H1, H1 = z0f H n (some (.box 53 (z2u o))) := ⟨_, rfl⟩
 have hag : Agree n H H1 := fun j hj => by rw [hH1]; exact z00 _ (by omega)
 have hH' : H1 tb = some (treeB (.ptr v.num 0)) := by rw [hag _ htb]; exact hH
 have hu' : Under (n + 1) v := hu.le (by omega)
 have hst' : Stand H1 v := Stand.agree hag v hu hst
 have hb1 := ho.lb
 have hb2 := ho.wl
 have hb3 := ho.dp
 have hb4 := ho.cn
 have zse : ∀ {e : Int} {u' : T} {m : List Idv} {r : D × HM × Nat}, UpdOK e u' m v H1 (n + 1) r -> UpdOK e u' m v H n r := fun {e u' m r} h => by
  refine ⟨by have := h.le; omega, fun j hj => by rw [h.agree j (by omega), hag j hj], h.bad, fun h0 => ?_⟩
  obtain ⟨v', t, p1, p2, p3, p4, p5, p6, p7, p8, p9⟩ := h.good h0
  refine ⟨v', t, p1, by omega, p3, p4, p5, p6, p7, fun a ha => ?_, by omega⟩
  rcases p8 a ha with ⟨q1, q2, q3⟩ | ⟨q1, q2⟩
  ·exact .inl ⟨z48 hu a q2, q2, q3⟩
  ·exact .inr ⟨by omega, q2⟩
 unfold opE opT opM
 have shape : ∀ {e : Int} {u' : T} {m : List Idv} {r : D × HM × Nat}, UpdOK e u' m v H1 (n + 1) r -> (∃ t, r.1 = .tup [.ptr t 0, .int .i64 e]) \/ r.1 = .tup [.nptr, .int .i64 e] := fun {e u' m r} h => by
  by_cases h0 : e = 0
  ·obtain ⟨v', t, p1, _⟩ := h.good h0
   exact .inl ⟨t, by rw [p1, h0]⟩
  ·exact .inr (h.bad h0)
 by_cases k0 : o.kind = 0
 ·simp only [if_pos k0]
  obtain ⟨r, hac, hok⟩ := zrs hz (by omega) (by omega) hn (by omega) hH' hu' hst' o.x ho.sz (by omega) (by omega) o.parent o.at_
  refine ⟨r, ?_, zse hok⟩
  rw [z0o, z0k] at hac
  refine (z17 [] Tryz.func23 rfl (by decide +kernel) z0b (by decide +kernel) (by simp [Tryz.ntmps23]) ?_)
  show awp _ _ (Code.seq _ _) _ _
  subst hH1
  rw [hcu, k0] at hac
  repeat' (first | refine zqj ?_ | ((refine zqh fun K J => ?_); (simp (disch := omega) only [go_sem, Nat.reduceBEq, ↓reduceIte, reduceCtorEq, Nat.reduceAdd, Nat.reduceLeDiff, z5i, hcu, k0, z0n])) | ((refine zqm _ rfl (fun hc => ?_) (fun hc => ?_)) <;> (first | (cases hc; done) | ((try simp only [] at hc); (try (exfalso; omega))))) | refine zqa ?_ | (refine J _ ?_; clear J K))
  refine z1b (hac.mono fun r' H' n' ⟨e1, e2, e3⟩ => ?_)
  rcases shape hok with ⟨t, hd1⟩ | hd1
  all_goals
   rw [hd1] at e1
   subst e1; subst e2; subst e3
   (try (simp (disch := omega) only [go_sem, Nat.reduceBEq])); repeat' (first | refine zqn ?_ | refine zqx ?_ | refine z8t ?_ | refine zqu (by (simp (disch := omega) only [go_sem]); rfl) rfl ?_ | (refine J _ ?_; clear J K))
   rw [hd1]
   (simp (disch := omega) only [go_sem, Nat.reduceBEq])
 by_cases k1 : o.kind = 1
 ·simp only [if_neg k0, if_pos k1]
  obtain ⟨r, hac, hok⟩ := zrt hz (by omega) (by omega) hn (by omega) hH' hu' hst' o.id
  refine ⟨r, ?_, zse hok⟩
  refine (z17 [] Tryz.func23 rfl (by decide +kernel) z0b (by decide +kernel) (by simp [Tryz.ntmps23]) ?_)
  show awp _ _ (Code.seq _ _) _ _
  subst hH1
  rw [hcu, k1] at hac
  repeat' (first | refine zqj ?_ | ((refine zqh fun K J => ?_); (simp (disch := omega) only [go_sem, Nat.reduceBEq, ↓reduceIte, reduceCtorEq, Nat.reduceAdd, Nat.reduceLeDiff, Int.reduceEq, z5i, hcu, k1, z0n])) | ((refine zqm _ rfl (fun hc => ?_) (fun hc => ?_)) <;> (first | (cases hc; done) | ((try simp only [] at hc); (try (exfalso; omega))))) | refine zqa ?_ | (refine J _ ?_; clear J K))
  refine z1b (hac.mono fun r' H' n' ⟨e1, e2, e3⟩ => ?_)
  rcases shape hok with ⟨t, hd1⟩ | hd1
  all_goals
   rw [hd1] at e1
   subst e1; subst e2; subst e3
   (try (simp (disch := omega) only [go_sem, Nat.reduceBEq])); repeat' (first | refine zqn ?_ | refine zqx ?_ | refine z8t ?_ | refine zqu (by (simp (disch := omega) only [go_sem]); rfl) rfl ?_ | (refine J _ ?_; clear J K))
   rw [hd1]
   (simp (disch := omega) only [go_sem, Nat.reduceBEq])
 by_cases k2 : o.kind = 2
 ·simp only [if_neg k0, if_neg k1, if_pos k2]
  obtain ⟨r, hac, hok⟩ := zyf hz (by omega) (by omega) hn (by omega) hH' hu' hst' o.id o.parent o.at_
  refine ⟨r, ?_, zse hok⟩
  refine (z17 [] Tryz.func23 rfl (by decide +kernel) z0b (by decide +kernel) (by simp [Tryz.ntmps23]) ?_)
  show awp _ _ (Code.seq _ _) _ _
  subst hH1
  rw [hcu, k2] at hac
  repeat' (first | refine zqj ?_ | ((refine zqh fun K J => ?_); (simp (disch := omega) only [go_sem, Nat.reduceBEq, ↓reduceIte, reduceCtorEq, Nat.reduceAdd, Nat.reduceLeDiff, Int.reduceEq, z5i, hcu, k2, z0n])) | ((refine zqm _ rfl (fun hc => ?_) (fun hc => ?_)) <;> (first | (cases hc; done) | ((try simp only [] at hc); (try (exfalso; omega))))) | refine zqa ?_ | (refine J _ ?_; clear J K))
  refine z1b (hac.mono fun r' H' n' ⟨e1, e2, e3⟩ => ?_)
  rcases shape hok with ⟨t, hd1⟩ | hd1
  all_goals
   rw [hd1] at e1
   subst e1; subst e2; subst e3
   (try (simp (disch := omega) only [go_sem, Nat.reduceBEq])); repeat' (first | refine zqn ?_ | refine zqx ?_ | refine z8t ?_ | refine zqu (by (simp (disch := omega) only [go_sem]); rfl) rfl ?_ | (refine J _ ?_; clear J K))
   rw [hd1]
   (simp (disch := omega) only [go_sem, Nat.reduceBEq])
 by_cases k3 : o.kind = 3
 ·simp only [if_neg k0, if_neg k1, if_neg k2, if_pos k3]
  obtain ⟨r, hac, hok⟩ := zn4 hz (by omega) (by omega) hn (by omega) hH' hu' hst' o.id o.label (by omega)
  refine ⟨r, ?_, zse hok⟩
  refine (z17 [] Tryz.func23 rfl (by decide +kernel) z0b (by decide +kernel) (by simp [Tryz.ntmps23]) ?_)
  show awp _ _ (Code.seq _ _) _ _
  subst hH1
  rw [hcu, k3] at hac
  repeat' (first | refine zqj ?_ | ((refine zqh fun K J => ?_); (simp (disch := omega) only [go_sem, Nat.reduceBEq, ↓reduceIte, reduceCtorEq, Nat.reduceAdd, Nat.reduceLeDiff, Int.reduceEq, z5i, hcu, k3, z0n])) | ((refine zqm _ rfl (fun hc => ?_) (fun hc => ?_)) <;> (first | (cases hc; done) | ((try simp only [] at hc); (try (exfalso; omega))))) | refine zqa ?_ | (refine J _ ?_; clear J K))
  refine z1b (hac.mono fun r' H' n' ⟨e1, e2, e3⟩ => ?_)
  rcases shape hok with ⟨t, hd1⟩ | hd1
  all_goals
   rw [hd1] at e1
   subst e1; subst e2; subst e3
   (try (simp (disch := omega) only [go_sem, Nat.reduceBEq])); repeat' (first | refine zqn ?_ | refine zqx ?_ | refine z8t ?_ | refine zqu (by (simp (disch := omega) only [go_sem]); rfl) rfl ?_ | (refine J _ ?_; clear J K))
   rw [hd1]
   (simp (disch := omega) only [go_sem, Nat.reduceBEq])
 by_cases k4 : o.kind = 4
 ·simp only [if_neg k0, if_neg k1, if_neg k2, if_neg k3, if_pos k4, if_pos (Or.inl (b := o.kind = 5) k4)]
  obtain ⟨r, hac, hok⟩ := z99 hz (by omega) (by omega) hn (by omega) hH' hu' hst' o.id o.w (by omega) ho.wt
  refine ⟨r, ?_, zse hok⟩
  refine (z17 [] Tryz.func23 rfl (by decide +kernel) z0b (by decide +kernel) (by simp [Tryz.ntmps23]) ?_)
  show awp _ _ (Code.seq _ _) _ _
  subst hH1
  rw [hcu, k4] at hac
  repeat' (first | refine zqj ?_ | ((refine zqh fun K J => ?_); (simp (disch := omega) only [go_sem, Nat.reduceBEq, ↓reduceIte, reduceCtorEq, Nat.reduceAdd, Nat.reduceLeDiff, Int.reduceEq, z5i, hcu, k4, z0n])) | ((refine zqm _ rfl (fun hc => ?_) (fun hc => ?_)) <;> (first | (cases hc; done) | ((try simp only [] at hc); (try (exfalso; omega))))) | refine zqa ?_ | (refine J _ ?_; clear J K))
  refine z1b (hac.mono fun r' H' n' ⟨e1, e2, e3⟩ => ?_)
  rcases shape hok with ⟨t, hd1⟩ | hd1
  all_goals
   rw [hd1] at e1
   subst e1; subst e2; subst e3
   (try (simp (disch := omega) only [go_sem, Nat.reduceBEq])); repeat' (first | refine zqn ?_ | refine zqx ?_ | refine z8t ?_ | refine zqu (by (simp (disch := omega) only [go_sem]); rfl) rfl ?_ | (refine J _ ?_; clear J K))
   rw [hd1]
   (simp (disch := omega) only [go_sem, Nat.reduceBEq])
 by_cases k5 : o.kind = 5
 ·simp only [if_neg k0, if_neg k1, if_neg k2, if_neg k3, if_neg k4, if_pos k5, if_pos (Or.inr (a := o.kind = 4) k5)]
  obtain ⟨r, hac, hok⟩ := zgo hz (by omega) (by omega) hn (by omega) hH' hu' hst' o.id o.w (by omega) ho.wt
  refine ⟨r, ?_, zse hok⟩
  refine (z17 [] Tryz.func23 rfl (by decide +kernel) z0b (by decide +kernel) (by simp [Tryz.ntmps23]) ?_)
  show awp _ _ (Code.seq _ _) _ _
  subst hH1
  rw [hcu, k5] at hac
  repeat' (first | refine zqj ?_ | ((refine zqh fun K J => ?_); (simp (disch := omega) only [go_sem, Nat.reduceBEq, ↓reduceIte, reduceCtorEq, Nat.reduceAdd, Nat.reduceLeDiff, Int.reduceEq, z5i, hcu, k5, z0n])) | ((refine zqm _ rfl (fun hc => ?_) (fun hc => ?_)) <;> (first | (cases hc; done) | ((try simp only [] at hc); (try (exfalso; omega))))) | refine zqa ?_ | (refine J _ ?_; clear J K))
  refine z1b (hac.mono fun r' H' n' ⟨e1, e2, e3⟩ => ?_)
  rcases shape hok with ⟨t, hd1⟩ | hd1
  all_goals
   rw [hd1] at e1
   subst e1; subst e2; subst e3
   (try (simp (disch := omega) only [go_sem, Nat.reduceBEq])); repeat' (first | refine zqn ?_ | refine zqx ?_ | refine z8t ?_ | refine zqu (by (simp (disch := omega) only [go_sem]); rfl) rfl ?_ | (refine J _ ?_; clear J K))
   rw [hd1]
   (simp (disch := omega) only [go_sem, Nat.reduceBEq])
 ·simp only [if_neg k0, if_neg k1, if_neg k2, if_neg k3, if_neg k4, if_neg k5, if_neg (show ¬ (o.kind = 4 \/ o.kind = 5) from fun h => h.elim k4 k5)]
  refine ⟨(.tup [.nptr, .int .i64 1], H1, n + 1), ?_, ⟨by simp, hag, fun _ => rfl, fun h => by cases h⟩⟩
  refine (z17 [] Tryz.func23 rfl (by decide +kernel) z0b (by decide +kernel) (by simp [Tryz.ntmps23]) ?_)
  show awp _ _ (Code.seq _ _) _ _
  rw [hH1, hcu]
  repeat' (first | refine zqj ?_ | ((refine zqh fun K J => ?_); (simp (disch := omega) only [go_sem, Nat.reduceBEq, ↓reduceIte, reduceCtorEq, Nat.reduceAdd, z5i, hcu, k0, k1, k2, k3, k4, k5, z0n])) | ((refine zqm _ rfl (fun hc => ?_) (fun hc => ?_)) <;> (first | (cases hc; done) | ((try simp only [] at hc); (try (exfalso; omega))))) | refine zqa ?_ | refine zqk ?_ | refine zqn ?_ | refine zqv ?_ | refine zqy ?_ | refine zqu (by (simp (disch := omega) only [go_sem]); rfl) rfl ?_ | (refine J _ ?_; clear J K))
  (simp (disch := omega) only [go_sem, Nat.reduceBEq])
  rfl
end
end
section
open Abs Facts Tr
structure Inv (b : Nat -> Int) (m : Int) (H : HM) (nx : Nat) (a : List (Nat × V)) (x : List Vn) : Prop where
 len : x.length = a.length
 tr : ∀ p ∈ a, p.1 < nx /\ H p.1 = some (treeB (.ptr p.2.num 0)) /\ Stand H p.2 /\ Under nx p.2 /\ standsT (treeV p.2) = true
 fit : ∀ i (h : i < a.length), Fits b a[i].2 (x[i]'(by omega))
 ap : Apart b (a.map (·.2))
 lt : ∀ p ∈ a, ∀ n ∈ nodesV p.2, b n.num < m
theorem zw9 {b : Nat -> Int} {S S' : List V} (h : Apart b S) (hs : ∀ v ∈ S', v ∈ S) : Apart b S' :=
 ⟨fun v hv w hw => h.key v (hs v hv) w (hs w hw), fun v hv w hw => h.same v (hs v hv) w (hs w hw)⟩
theorem inv_new {u : T} {H : HM} {nx : Nat} {v : V} {t : Nat} (h1 : t < nx) (h2 : H t = some (treeB (.ptr v.num 0))) (h3 : Stand H v) (h4 : Under nx v) (h5 : treeV v = u) (hs : standsT u = true) : Inv (fun _ => 0) 1 H nx [(t, v)] [ofV u 0] := by
 have hn := z16 hs
 refine ⟨rfl, fun p hp => ?_, fun i hi => ?_, ⟨fun p hp q hq x hx y hy hid _ => ?_, fun p hp q hq x hx y hy he => ?_⟩, fun p hp n _ => by decide⟩
 ·rw [List.mem_singleton] at hp
  subst hp
  exact ⟨h1, h2, h3, h4, by rw [h5]; exact hs⟩
 ·have hi0 : i = 0 := by simp at hi; omega
  subst hi0
  refine ⟨h5, ?_, ?_, fun w _ => Int.le_refl _⟩
  ·show (ofV u 0).l = _
   unfold ofV
   rw [<- h5, z3s, List.map_map]
   rfl
  ·show ((nodesV v).map fun w => w.own.id).Nodup
   rw [<- z3s, h5]; exact hn
 ·simp only [List.map_cons, List.map_nil, List.mem_singleton] at hp hq
  rw [hp] at hx; rw [hq] at hy
  have hd : ((nodesV v).map fun w => w.own.id).Nodup := by rw [<- z3s, h5]; exact hn
  rw [z6q hd x hx y hy hid]
 ·simp only [List.map_cons, List.map_nil, List.mem_singleton] at hp hq
  rw [hp] at hx; rw [hq] at hy
  exact zhu h3 h3 hx hy he
theorem zzo {b : Nat -> Int} {m : Int} {H H' : HM} {nx nx' : Nat} {a : List (Nat × V)} {x : List Vn} (h : Inv b m H nx a x) (ha : Agree nx H H') (hn : nx <= nx') : Inv b m H' nx' a x :=
 ⟨h.len, fun p hp => by
  obtain ⟨h1, h2, h3, h4, h5⟩ := h.tr p hp
  exact ⟨by omega, by rw [ha _ h1]; exact h2, Stand.agree ha _ h4 h3, h4.le hn, h5⟩, h.fit, h.ap, h.lt⟩
theorem zwa {H : HM} : ∀ v : V, Stand H v -> ∀ j ∈ objsV v, (∃ cs, H j = some (.box 117 cs)) \/ ∃ n cs, H j = some (.row 75 n cs) := by
 refine zci fun v ih hs j hj => ?_
 obtain ⟨s1, s2, s3⟩ := (z1v H v).1 hs
 rw [z6y, List.mem_cons, List.mem_append] at hj
 rcases hj with rfl | hj | hj
 ·exact .inl ⟨_, s1⟩
 ·unfold zi6 at s2
  cases hr : v.row with
  | none => rw [hr] at hj; cases hj
  | some r =>
   rw [hr] at hj s2
   simp only [Option.toList_some, List.mem_singleton] at hj
   subst hj
   exact .inr ⟨_, _, s2⟩
 ·obtain ⟨k, hk, hj⟩ := List.mem_flatMap.1 hj
  exact ih k hk (s3 k hk) j hj
theorem zoz {b : Nat -> Int} {m : Int} {H : HM} {nx : Nat} {a : List (Nat × V)} {x : List Vn} (h : Inv b m H nx a x) (hm : 0 <= m) {i : Nat} (hi : i < a.length) {u' : T} {made : List Idv} {o : D × HM × Nat} {v' : V} {t : Nat} (hu' : standsT u' = true)
  (hle : nx <= o.2.2) (hag : Agree nx H o.2.1) (ht : t < o.2.2) (hH : o.2.1 t = some (treeB (.ptr v'.num 0))) (hst : Stand o.2.1 v') (hun : Under o.2.2 v') (htr : treeV v' = u') (hupd : Upd nx made a[i].2 v') :
  Inv (byU b nx m) (m + 1) o.2.1 o.2.2 (a ++ [(t, v')]) (x ++ [zds (x[i]'(by have := h.len; omega)) u' made m]) := by
 have hk := zzo h hag hle
 have hlen := h.len
 have hnum : ∀ p ∈ a, ∀ w ∈ nodesV p.2, w.num < nx := fun p hp w hw => z48 (h.tr p hp).2.2.2.1 w hw
 have hd : ((nodesV v').map fun w => w.own.id).Nodup := by rw [<- z3s, htr]; exact z16 hu'
 refine ⟨by simp [hlen], fun p hp => ?_, fun k hk2 => ?_, ?_, fun p hp w hw => ?_⟩
 ·rcases List.mem_append.1 hp with hp | hp
  ·exact hk.tr p hp
  ·rw [List.mem_singleton] at hp; subst hp
   exact ⟨ht, hH, hst, hun, by rw [htr]; exact hu'⟩
 ·rw [List.length_append, List.length_singleton] at hk2
  by_cases hkl : k < a.length
  ·have e1 : (a ++ [(t, v')])[k] = a[k] := List.getElem_append_left hkl
   have e2 : (x ++ [zds (x[i]'(by omega)) u' made m])[k]'(by simp; omega) = x[k]'(by omega) := List.getElem_append_left (by omega)
   rw [e2]
   simp only [e1]
   exact zwj (fun w hw => hnum _ (List.getElem_mem hkl) w hw) (h.fit k hkl)
  ·have hkl2 : k = a.length := by omega
   subst hkl2
   have e1 : (a ++ [(t, v')])[a.length] = (t, v') := by simp
   have e2 : (x ++ [zds (x[i]'(by omega)) u' made m])[a.length]'(by simp; omega) = zds (x[i]'(by omega)) u' made m := by
    rw [List.getElem_append_right (by omega)]; simp [hlen]
   rw [e2]
   simp only [e1]
   rw [<- htr]
   exact zzy hm hupd (h.fit i hi) hd
 ·refine zw9 (zwk (made := made) (v := a[i].2) (v' := v') h.ap (List.mem_map.2 ⟨_, List.getElem_mem hi, rfl⟩) (fun w hw n hn => ?_) hupd hd (fun y hy z hz e => zhu hst hst hy hz e)) fun w hw => ?_
  ·obtain ⟨p, hp, rfl⟩ := List.mem_map.1 hw
   exact ⟨hnum p hp n hn, h.lt p hp n hn⟩
  ·rw [List.map_append, List.mem_append] at hw
   rcases hw with hw | hw
   ·exact List.mem_cons_of_mem _ hw
   ·simp only [List.map_cons, List.map_nil, List.mem_singleton] at hw
    rw [hw]; exact List.mem_cons_self
 ·unfold byU
  rcases List.mem_append.1 hp with hp | hp
  ·rw [if_pos (hnum p hp w hw)]
   have := h.lt p hp w hw; omega
  ·rw [List.mem_singleton] at hp; subst hp
   split
   ·rename_i hlt
    rcases hupd w hw with ⟨_, g2, _⟩ | ⟨g1, _⟩
    ·have := h.lt _ (List.getElem_mem hi) w g2; omega
    ·omega
   ·omega
theorem zfq {b : Nat -> Int} {m : Int} {H : HM} {nx : Nat} {a : List (Nat × V)} {x : List Vn} (h : Inv b m H nx a x) {i k : Nat} (hi : i < a.length) (hk : k < a.length) : zx5 a[i].2 a[k].2 = zht (x[i]'(by have := h.len; omega)) (x[k]'(by have := h.len; omega)) :=
 zwi h.ap (List.mem_map.2 ⟨_, List.getElem_mem hi, rfl⟩) (List.mem_map.2 ⟨_, List.getElem_mem hk, rfl⟩) (h.fit i hi) (h.fit k hk)
end
section
open Abs Facts Tr
attribute [local irreducible] awp
set_option maxRecDepth 100000
namespace Tr
def zbr : T := .mk Idv.zero 0 ByteArray.empty [] [] [.mk ⟨1, 0, 1⟩ 2 ⟨#[49]⟩ [] [] [.mk ⟨1, 0, 2⟩ 3 ⟨#[49]⟩ [] [] []]]
def zl5 : List Wd := [⟨⟨#[97]⟩, Idv.zero⟩]
def zvh : T := .mk Idv.zero 0 ByteArray.empty [] [] [.mk ⟨1, 0, 1⟩ 2 ⟨#[49]⟩ [] [] [.mk ⟨1, 0, 2⟩ 3 ⟨#[49]⟩ [] zl5 []]]
def zvi : T := .mk Idv.zero 0 ByteArray.empty [] [] [.mk ⟨1, 0, 1⟩ 2 ⟨#[49]⟩ [] zl5 [.mk ⟨1, 0, 2⟩ 3 ⟨#[49]⟩ [] [] []]]
end Tr
theorem zvj : PC Tryz.prog 32 [] (z0o zbr) := by
 refine z22 3 rfl (z02 _) (z17 [] Tryz.func32 rfl (by decide +kernel) z0b (by decide +kernel) (by simp [Tryz.ntmps32]) ?_)
 show awp _ _ (Code.seq _ _) _ _
 rw [show Tryz.f32.results.toList = [.cell 0 27] from rfl]
 repeat' (first | ((refine zqh fun K J => ?_); (simp (disch := omega) only [go_sem, Nat.reduceBEq, ↓reduceIte, reduceCtorEq, Nat.reduceAdd, Nat.reduceMul, Nat.reduceLeDiff])) | refine zqn ?_ | refine zqu (by (simp (disch := omega) only [go_sem, Nat.reduceBEq, ↓reduceIte, Nat.reduceAdd, Nat.reduceLeDiff]); rfl) rfl ?_ | (refine J _ ?_; clear J K))
 refine z0w ?_ ?_
 ·rfl
 rw [z0o, z0k]
 refine Le.agg ⟨Le.refl _, Le.refl _, Le.refl _, Le.refl _, Le.refl _, Le.nil 4, Le.nil 4, Le.rslL ⟨?_, trivial⟩, trivial⟩
 rw [z0o, z0k]
 refine Le.agg ⟨Le.refl _, Le.refl _, Le.refl _, Le.refl _, Le.refl _, Le.nil 4, Le.nil 4, Le.rslL ⟨?_, trivial⟩, trivial⟩
 rw [z0o, z0k]
 exact Le.agg ⟨Le.refl _, Le.refl _, Le.refl _, Le.refl _, Le.refl _, Le.nil 4, Le.nil 4, Le.nil 8, trivial⟩
theorem AC_le {P : Program} {f : FuncId} {ds es : List D} {H : HM} {nx : Nat} {K : D -> HM -> Nat -> Prop} (h : AC P f es H nx K) (hl : LeL ds es) : AC P f ds H nx K :=
 ⟨h.1, fun s w vs h1 h2 h3 h4 => h.2 s w vs h1 h2 h3 (z7j hl h4)⟩
theorem Det.le {f : FuncId} {ds es : List D} {H : HM} {nx : Nat} {F : D × HM × Nat -> Prop} (h : Det f es H nx F) (hl : LeL ds es) : Det f ds H nx F := by
 obtain ⟨o, h1, h2⟩ := h
 exact ⟨o, AC_le h1 hl, h2⟩
theorem ex15 : z3y zbr ⟨1, 0, 2⟩ zl5 = 0 /\ z1a ⟨1, 0, 2⟩ (fun q => q.setWords zl5) zbr = zvh /\ z3y zbr ⟨1, 0, 1⟩ zl5 = 0 /\ z1a ⟨1, 0, 1⟩ (fun q => q.setWords zl5) zbr = zvi /\ standsT zbr = true /\ standsT zvh = true /\ standsT zvi = true := by decide +kernel
theorem zrm : PC Tryz.prog 9 [] (.bool true) := by
 obtain ⟨x1, x2, x3, x4, s1, s2, s3⟩ := ex15
 have hz := (z8w s1).1
 have c0 := zvj
 refine z22 1 rfl rfl (z17 [] Tryz.func9 rfl (by decide +kernel) z0b (by decide +kernel) (by simp [Tryz.ntmps9]) ?_)
 show awp _ _ (Code.seq _ _) _ _
 repeat' (first | ((first | refine zqh fun K J => ?_ | refine zqs (c0) ?_); (simp (disch := omega) only [go_sem, Nat.reduceBEq])) | (refine J _ ?_; clear J K))
 refine z94 (zvp zbr hz (by decide +kernel) (by decide +kernel)) fun o hF => ?_
 obtain ⟨r, H1, n1⟩ := o
 obtain ⟨v, t, hr, -, ht, hH, hst, hun, htr, -, -⟩ := hF.good s1
 simp only at hr ht hH hst hun
 subst hr
 clear hF
 have i0 := inv_new ht hH hst hun htr s1
 have d1 : Det 33 [.ptr t 0, .agg [.int .i64 1, .int .i64 0, .int .i64 2], .rsl true 4 [.agg [.str ⟨#[97]⟩, .int .i64 0, .int .i64 0, .int .i64 0]]] H1 n1 _ := (z99 (v := v) (by rw [htr]; exact hz) (by rw [htr]; decide +kernel) (by rw [htr]; decide +kernel) (z16 (by rw [htr]; exact s1)) ht hH hun hst ⟨1, 0, 2⟩ zl5 (by decide) (by decide)).le ⟨Le.refl _, Le.refl _, Le.rsl, trivial⟩
 rw [htr, x1, x2] at d1
 (try (simp (disch := omega) only [go_sem, Nat.reduceBEq])); repeat' (first | refine zqj ?_ | ((refine zqh fun K J => ?_); (simp (disch := omega) only [go_sem, Nat.reduceBEq, ↓reduceIte, reduceCtorEq, Nat.reduceAdd, Nat.reduceMul, Nat.reduceLeDiff])) | ((refine zqd _ rfl (fun hc => ?_) (fun hc => ?_)) <;> (first | (cases hc; done) | ((try simp only [] at hc); (try (exfalso; omega))))) | refine zqb ?_ | (refine J _ ?_; clear J K))
 refine z94 (by exact d1) fun o hF => ?_
 obtain ⟨r, H2, n2⟩ := o
 obtain ⟨v1, t1, hr, -, ht1, hH1, hst1, hun1, htr1, hup1, -⟩ := hF.good rfl
 have hle1 := hF.le
 have hag1 := hF.agree
 simp only at hr ht1 hH1 hst1 hun1 hle1 hag1
 subst hr
 clear hF d1
 have i1 := zoz (o := (.nptr, H2, n2)) i0 (by decide) (i := 0) (by simp) s2 hle1 hag1 ht1 hH1 hst1 hun1 htr1 hup1
 (try (simp (disch := omega) only [go_sem, Nat.reduceBEq])); repeat' (first | ((refine zqh fun K J => ?_); (simp (disch := omega) only [go_sem, Nat.reduceBEq, ↓reduceIte, reduceCtorEq, Nat.reduceAdd, Nat.reduceMul, Nat.reduceLeDiff])) | (refine J _ ?_; clear J K))
 have ht2 : t < n2 := by omega
 have hH2 := (hag1 t ht).trans hH
 have hst2 := Stand.agree hag1 v hun hst
 have hun2 := hun.le hle1
 have d2 : Det 33 [.ptr t 0, .agg [.int .i64 1, .int .i64 0, .int .i64 1], .rsl true 4 [.agg [.str ⟨#[97]⟩, .int .i64 0, .int .i64 0, .int .i64 0]]] H2 n2 _ := (z99 (v := v) (by rw [htr]; exact hz) (by rw [htr]; decide +kernel) (by rw [htr]; decide +kernel) (z16 (by rw [htr]; exact s1)) ht2 hH2 hun2 hst2 ⟨1, 0, 1⟩ zl5 (by decide) (by decide)).le ⟨Le.refl _, Le.refl _, Le.rsl, trivial⟩
 rw [htr, x3, x4] at d2
 refine z94 (by exact d2) fun o hF => ?_
 obtain ⟨r, H3, n3⟩ := o
 obtain ⟨v2, t2, hr, -, ht3, hH3, hst3, hun3, htr3, hup3, -⟩ := hF.good rfl
 have hle3 := hF.le
 have hag3 := hF.agree
 simp only at hr ht3 hH3 hst3 hun3 hle3 hag3
 subst hr
 clear hF d2
 have i2 := zoz (o := (.nptr, H3, n3)) i1 (by decide) (i := 0) (by simp) s3 hle3 hag3 ht3 hH3 hst3 hun3 htr3 hup3
 obtain ⟨p1, p2, p3, p4, -⟩ := i2.tr (t, v) (by simp)
 obtain ⟨q1, q2, q3, q4, -⟩ := i2.tr (t1, v1) (by simp)
 have e1 : zx5 v1 v = 3 := (zfq i2 (i := 1) (k := 0) (by simp) (by simp)).trans (show zht (zds (ofV zbr 0) zvh _ 1) (ofV zbr 0) = _ by decide +kernel)
 have e2 : zx5 v2 v = 2 := (zfq i2 (i := 2) (k := 0) (by simp) (by simp)).trans (show zht (zds (ofV zbr 0) zvi _ (1 + 1)) (ofV zbr 0) = _ by decide +kernel)
 have e3 : zx5 v v = 0 := (zfq i2 (i := 0) (k := 0) (by simp) (by simp)).trans (show zht (ofV zbr 0) (ofV zbr 0) = _ by decide +kernel)
 have k1 := z7x (v := v1) (w := v) (by rw [htr1]; exact (z8w s2).1) (by rw [htr1]; decide +kernel) q1 q2 q4 q3 (by rw [htr]; exact hz) p1 p2 p4 p3
 have k2 := z7x (v := v2) (w := v) (by rw [htr3]; exact (z8w s3).1) (by rw [htr3]; decide +kernel) ht3 hH3 hun3 hst3 (by rw [htr]; exact hz) p1 p2 p4 p3
 have k3 := z7x (v := v) (w := v) (by rw [htr]; exact hz) (by rw [htr]; decide +kernel) p1 p2 p4 p3 (by rw [htr]; exact hz) p1 p2 p4 p3
 have k4 := rc_Len (v := v) (by rw [htr]; exact hz) (by rw [htr]; decide +kernel) p1 p2 p4 p3
 have k5 := zfk (v := v) (by rw [htr]; exact hz) p1 p2 p4 p3
 rw [e1] at k1
 rw [e2] at k2
 rw [e3] at k3
 rw [htr, show cntT zbr = 3 from by decide +kernel] at k4
 rw [htr] at k5
 (try (simp (disch := omega) only [go_sem, Nat.reduceBEq])); repeat' (first | ((refine zqh fun K J => ?_); (simp (disch := omega) only [go_sem, Nat.reduceBEq, ↓reduceIte])) | (refine J _ ?_; clear J K))
 repeat' (first | ((first | refine z15 (k1) ?_ | refine z15 (k2) ?_ | refine z15 (k3) ?_ | refine z15 (k4) ?_ | refine z15 (k5) ?_); (simp (disch := omega) only [go_sem, Nat.reduceBEq, ↓reduceIte])) | refine zqn ?_ | refine zqu (by (simp (disch := omega) only [go_sem, Nat.reduceBEq]); rfl) rfl ?_ | (refine J _ ?_; clear J K))
 all_goals exact z03 rfl
end
section
open Abs Facts Tr
namespace Tr
end Tr
end
section
open Abs Facts Tr
structure VerOK (H : HM) (n t : Nat) (v : V) : Prop where
 lt : t < n
 at_ : H t = some (treeB (.ptr v.num 0))
 st : Stand H v
 un : Under n v
 ok : standsT (treeV v) = true
section
variable {H H' : HM} {n n' t : Nat} {v : V}
theorem VerOK.keep (h : VerOK H n t v) (ha : Agree n H H') (hn : n <= n') : VerOK H' n' t v :=
 ⟨by have := h.lt; omega, (ha _ h.lt).trans h.at_, Stand.agree ha v h.un h.st, h.un.le hn, h.ok⟩
theorem VerOK.but (h : VerOK H n t v) {k e m : Nat} {cs : List D} (hk : H k = some (.box e cs) /\ e ≠ 117 /\ e ≠ 78 \/ H k = some (.row e m cs) /\ e ≠ 75) (ha : ∀ j, j ≠ k -> j < n -> H' j = H j) (hn : n <= n') : VerOK H' n' t v := by
 have hne : ∀ j ∈ objsV v, j ≠ k := fun j hj ej => by
  subst ej
  rcases zwa _ h.st j hj with ⟨cs2, h2⟩ | ⟨n2, cs2, h2⟩
  ·rcases hk with ⟨hk, h3, _⟩ | ⟨hk, _⟩
   ·rw [hk] at h2; simp only [Option.some.injEq, HObj.box.injEq] at h2; exact h3 h2.1
   ·rw [hk] at h2; cases h2
  ·rcases hk with ⟨hk, _⟩ | ⟨hk, h3⟩
   ·rw [hk] at h2; cases h2
   ·rw [hk] at h2; simp only [Option.some.injEq, HObj.row.injEq] at h2; exact h3 h2.1
 have hte : t ≠ k := fun ej => by
  have h2 := h.at_
  subst ej
  rcases hk with ⟨hk, _, h3⟩ | ⟨hk, _⟩
  ·rw [hk] at h2; unfold treeB at h2; simp only [Option.some.injEq, HObj.box.injEq] at h2; exact h3 h2.1
  ·rw [hk] at h2; cases h2
 exact ⟨by have := h.lt; omega, (ha _ hte h.lt).trans h.at_, Stand.on v (fun j hj => ha j (hne j hj) (h.un j hj)) h.st, h.un.le hn, h.ok⟩
theorem ver_new {u : T} {o : D × HM × Nat} (hF : NewOK u H n o) (hst : standsT u = true) : ∃ v t, o.1 = .ptr t 0 /\ VerOK o.2.1 o.2.2 t v /\ treeV v = u := by
 obtain ⟨v, t, hr, -, ht, hH, hsv, hun, htr, -, -⟩ := hF.good hst
 exact ⟨v, t, hr, ⟨ht, hH, hsv, hun, by rw [htr]; exact hst⟩, htr⟩
theorem ver_up {o : Up} {r : D × HM × Nat} (hf : UpdOK (opE (treeV v) o) (opT (treeV v) o) (opM (treeV v) o) v H n r) (he : opE (treeV v) o = 0) :
  ∃ v2 t2, r.1 = .tup [.ptr t2 0, .int .i64 0] /\ VerOK r.2.1 r.2.2 t2 v2 /\ treeV v2 = opT (treeV v) o /\ Upd n (opM (treeV v) o) v v2 /\ n <= v2.num := by
 obtain ⟨v2, t2, hr, -, ht, hH, hst, hun, htr, hup, hnm⟩ := hf.good he
 exact ⟨v2, t2, hr, ⟨ht, hH, hst, hun, by rw [htr]; exact zwh he⟩, htr, hup, hnm⟩
theorem VerOK.sz (h : VerOK H n t v) : szB (treeV v) = true /\ cntT (treeV v) <= 1024 /\ depT (treeV v) <= 8 := z8w h.ok
theorem VerOK.unit (h : VerOK H n t v) : RC Tryz.prog 14 [.ptr t 0] H n (z0o (treeV v)) := zfk h.sz.1 h.lt h.at_ h.un h.st
theorem VerOK.len (h : VerOK H n t v) : RC Tryz.prog 15 [.ptr t 0] H n (.int .i64 (cntT (treeV v))) := rc_Len h.sz.1 (by have := h.sz; omega) h.lt h.at_ h.un h.st
theorem VerOK.new (h : VerOK H n t v) {t2 : Nat} {w : V} (h2 : VerOK H n t2 w) : RC Tryz.prog 21 [.ptr t 0, .ptr t2 0] H n (.int .i64 (zx5 v w)) :=
 z7x h.sz.1 (by have := h.sz; omega) h.lt h.at_ h.un h.st h2.sz.1 h2.lt h2.at_ h2.un h2.st
theorem VerOK.up (h : VerOK H n t v) {o : Up} (ho : UpOK o) : Det 23 [.ptr t 0, z5i o] H n (UpdOK (opE (treeV v) o) (opT (treeV v) o) (opM (treeV v) o) v H n) := det_do h.ok h.lt h.at_ h.un h.st ho
end
theorem zeroUp : ∃ Z, z1n Tryz.prog 53 = some Z /\ Z.length = 18 /\ ∀ o : Up, z1m Z 0 (z2u o) = z2u o := by
 refine ⟨_, zeroT53, rfl, fun o => ?_⟩
 have h : (z2u o).length = 18 := by rw [z6b]; rfl
 rw [z7p _ _ _ (by rw [h]; decide), h]
 show [] ++ z2u o ++ [] = _
 rw [List.append_nil, List.nil_append]
end
section
open Abs Facts Tr
attribute [local irreducible] awp
set_option maxRecDepth 100000
theorem zgp (u : T) (hfit : fitB u = true) (l : List Up) (hl : l.length <= maxLen) (hin : ∀ o ∈ l, UpIn o) : PC Tryz.prog 8 [z0o u, z4x l] (.bool true) := by
 have ha := zrm
 have hf := zzx u hfit l hl hin
 refine z22 1 (by simp only [pureD.pureL, z02, zg2, Bool.and_self]) rfl (z17 [] Tryz.func8 rfl (by decide +kernel) z0b (by decide +kernel) (by simp [Tryz.ntmps8]) ?_)
 show awp _ _ (Code.seq _ _) _ _
 have hcu := z0k u
 obtain ⟨Z, hZ, hZ1, hZ2⟩ := zeroUp
 by_cases hb0 : (l.all zlp && (decide (l.length <= 12) && zzq u 40)) = true
 ·have hb1 := hb0
  rw [hb0] at hf
  simp only [Bool.and_eq_true, decide_eq_true_eq, List.all_eq_true] at hb1
  obtain ⟨hb1, hb2, hb3⟩ := hb1
  obtain ⟨hs, hcn, hd⟩ := few_sz (by omega) (by omega) hb3
  have c1 := zrk u hs (by omega) (by omega)
  have ho : ∀ o ∈ l, UpOK o := fun o h => few_ok (hin o h) (hb1 o h)
  by_cases hst : standsT u = true
  ·rw [hst] at c1
   repeat' (first | refine zqj ?_ | ((first | refine zqh fun K J => ?_ | refine zqs (ha) ?_ | refine zqs (hf) ?_ | refine zqs (c1) ?_); (simp (disch := omega) only [go_sem, Nat.reduceBEq, ↓reduceIte, Nat.reduceAdd, Nat.reduceLeDiff, z0o, z4x])) | ((refine zqd _ rfl (fun hc => ?_) (fun hc => ?_)) <;> (first | (cases hc; done) | ((try simp only [] at hc); (try (exfalso; omega))))) | refine zqb ?_ | (refine J _ ?_; clear J K))
   refine z94 (zvp u hs (by omega) (by omega)) fun o hF => ?_
   obtain ⟨v0, t0, hr, hv0, htr0⟩ := ver_new hF hst
   have hag := hF.agree
   obtain ⟨r, H1, n1⟩ := o
   simp only at hr hv0 hag
   have b0 := (hag 0 (by (simp (disch := omega) only [go_sem, Nat.reduceLT]))).trans (show _ = some (.box 27 (z0d u)) by (simp (disch := omega) only [go_sem]))
   have n0 : 1 <= n1 := hF.le
   subst hr
   clear hF
   repeat' (first | refine zqj ?_ | ((refine zqh fun K J => ?_); (simp (disch := omega) only [go_sem, Nat.reduceBEq])) | refine zqa ?_ | (refine J _ ?_; clear J K))
   (refine z5k (fun U st => ∃ (i : _) (v : V) (t : Nat), U = l.length - i /\ st.t 2 = .ptr 0 0 /\ st.t 5 = .ptr t 0 /\ st.t 30 = z4x l /\ st.t 31 = .int .i64 l.length /\ st.t 32 = .int .i64 i /\ st.H 0 = some (.box 27 (z0d (treeV v))) /\ (i <= l.length) /\ (VerOK st.H st.nx t v) /\ (0 < st.nx)) ?_ ?_); rotate_left; (rintro U st ⟨i, v, t, rfl, q2, q5, q30, q31, q32, qH0, qp0, qp1, qp2⟩); rotate_left
   ·(refine ⟨_, 0, v0, t0, rfl, ?_⟩); (simp (disch := omega) only [go_sem, Nat.reduceBEq, true_and, Int.natCast_zero, z4x, b0, htr0])
    exact ⟨hv0, by omega⟩
   by_cases hi : i < l.length
   ·have hg := (show (l.map z5i)[i]? = some (z5i l[i]) from by rw [List.getElem?_map, List.getElem?_eq_getElem hi]; rfl)
    have hul : (z2u l[i]).length = 18 := by rw [z6b]; rfl
    have hcl := z6b l[i]
    have htk : (z2u l[i]).take 18 = z2u l[i] := List.take_of_length_le (by omega)
    have hk0 : (z2u l[i])[0]? = some (.int .u8 l[i].kind) := by rw [hcl]; rfl
    have hup := ho l[i] (List.getElem_mem hi)
    have m1 : (st.nx == st.nx + 1) = false := beq_eq_false_iff_ne.2 (by omega)
    obtain ⟨m, hm⟩ : ∃ m, m = st.nx := ⟨_, rfl⟩
    obtain ⟨e, he⟩ : ∃ e, e = opE (treeV v) l[i] := ⟨_, rfl⟩
    obtain ⟨Y, hY⟩ : ∃ Y, Y = if e = 0 then opT (treeV v) l[i] else T.zero := ⟨_, rfl⟩
    have hsz := qp1.sz
    have d1 : ((z2u l[i]).drop 1).take 3 = z0p l[i].id := by rw [hcl]; rfl
    have d4 : ((z2u l[i]).drop 4).take 3 = z0p l[i].parent := by rw [hcl]; rfl
    have d7 : (z2u l[i])[7]? = some (.int .i64 l[i].at_) := by rw [hcl]; rfl
    have d8 : ((z2u l[i]).drop 8).take 8 = z0d l[i].x := by rw [hcl, z0k]; rfl
    have d16 : (z2u l[i])[16]? = some (.str l[i].label) := by rw [hcl]; rfl
    have d17 : (z2u l[i])[17]? = some (z0n l[i].w) := by rw [hcl]; rfl
    have hcz := z0k T.zero
    repeat' (first | refine zqj ?_ | ((refine z4c (N := 9) rfl fun K J => ?_); (simp (disch := omega) only [go_sem, Nat.reduceBEq, ↓reduceIte, reduceCtorEq, Nat.reduceAdd, Nat.reduceLeDiff, q30, q31, q32, z4x, z5i, hul, hZ, hZ1, hZ2])) | ((refine zqd _ rfl (fun hc => ?_) (fun hc => ?_)) <;> (((try simp only [z0e] at hc); (try (exfalso; omega))))) | refine zqa ?_ | refine zqb ?_ | (refine J _ ?_; clear J K))
    (refine zif (fun st => st.t 2 = .ptr 0 0 /\ st.t 5 = .ptr t 0 /\ st.t 7 = .ptr m 0 /\ st.t 8 = .int .i64 e /\ st.t 9 = .ptr (m + 1) 0 /\ st.t 30 = z4x l /\ st.t 31 = .int .i64 l.length /\ st.t 32 = .int .i64 i /\ st.H 0 = some (.box 27 (z0d (treeV v))) /\ st.H (m) = some (.box 53 (z2u l[i])) /\ st.H (m + 1) = some (.box 27 (z0d Y)) /\ st.nx = m + 2 /\ (VerOK st.H st.nx t v)) ?_ ?_); rotate_left; (rintro st ⟨r2, r5, r7, r8, r9, r30, r31, r32, rH0, rHm, rHm1, rnx, rp0⟩); rotate_left
    ·by_cases k0 : l[i].kind = 0
     ·have e1 : opE (treeV v) l[i] = z3j (treeV v) l[i].parent l[i].at_ l[i].x := by unfold opE; simp [k0]
      have e2 : opT (treeV v) l[i] = z1a l[i].parent (z6t l[i].at_.toNat l[i].x) (treeV v) := by unfold opT; simp [k0]
      have c1 := zjq (treeV v) l[i].x hsz.1 hup.sz (by omega) (by have := hup.cn; omega) (by omega) (by have := hup.dp; omega) l[i].parent l[i].at_
      rw [<- e1, <- e2, <- he] at c1
      rw [ite_not, <- hY] at c1
      simp only [z0z, z0o] at c1
      repeat' (first | ((first | refine zqh fun K J => ?_ | refine zqr fun K J => ?_ | refine zqs (c1) ?_); (simp (disch := omega) only [go_sem, Nat.reduceBEq, ↓reduceIte, reduceCtorEq, Nat.reduceAdd, Nat.reduceLeDiff, q2, qH0, hul, d4, d7, d8, hk0, m1, k0])) | ((refine zqm _ rfl (fun hc => ?_) (fun hc => ?_)) <;> (first | (cases hc; done) | ((try simp only [] at hc); (try (exfalso; omega))))) | refine zqi ?_ | refine zqy ?_ | (refine J _ ?_; clear J K))
      subst hm
      (refine zdk ?_); (simp (disch := omega) only [go_sem, Nat.reduceBEq, q2, q5, q30, q31, q32, qH0, true_and, m1])
      exact qp1.keep (fun j hj => by rw [z00 _ (by omega), z00 _ (by omega), z00 _ (by omega), z00 _ (by omega)]) (by omega)
     ·by_cases k1 : l[i].kind = 1
      ·have e1 : opE (treeV v) l[i] = zar (treeV v) l[i].id := by unfold opE; simp [k1]
       have e2 : opT (treeV v) l[i] = z0m l[i].id (treeV v) := by unfold opT; simp [k1]
       have c1 := zl0 (treeV v) hsz.1 (by omega) (by omega) l[i].id
       rw [<- e1, <- e2, <- he] at c1
       rw [<- hY] at c1
       simp only [z0z, z0o] at c1
       repeat' (first | ((first | refine zqh fun K J => ?_ | refine zqr fun K J => ?_ | refine zqs (c1) ?_); (simp (disch := omega) only [go_sem, Nat.reduceBEq, ↓reduceIte, reduceCtorEq, Nat.reduceAdd, Nat.reduceLeDiff, Int.reduceEq, q2, qH0, hul, d1, hk0, m1, k1])) | ((refine zqm _ rfl (fun hc => ?_) (fun hc => ?_)) <;> (first | (cases hc; done) | ((try simp only [] at hc); (try (exfalso; omega))))) | refine zqi ?_ | refine zqy ?_ | (refine J _ ?_; clear J K))
       subst hm
       (refine zdk ?_); (simp (disch := omega) only [go_sem, Nat.reduceBEq, q2, q5, q30, q31, q32, qH0, true_and, m1])
       exact qp1.keep (fun j hj => by rw [z00 _ (by omega), z00 _ (by omega), z00 _ (by omega), z00 _ (by omega)]) (by omega)
      ·by_cases k2 : l[i].kind = 2
       ·have e1 : opE (treeV v) l[i] = z89 (treeV v) l[i].id l[i].parent l[i].at_ := by unfold opE; simp [k2]
        have e2 : opT (treeV v) l[i] = z1a l[i].parent (z6t l[i].at_.toNat (z08 l[i].id (treeV v)).1) (z0m l[i].id (treeV v)) := by unfold opT; simp [k2]
        have c1 := zvb (treeV v) hsz.1 (by omega) (by omega) l[i].id l[i].parent l[i].at_
        rw [<- e1, <- e2, <- he] at c1
        rw [<- hY] at c1
        simp only [z0z, z0o] at c1
        repeat' (first | ((first | refine zqh fun K J => ?_ | refine zqr fun K J => ?_ | refine zqs (c1) ?_); (simp (disch := omega) only [go_sem, Nat.reduceBEq, ↓reduceIte, reduceCtorEq, Nat.reduceAdd, Nat.reduceLeDiff, Int.reduceEq, q2, qH0, hul, d1, d4, d7, hk0, m1, k2])) | ((refine zqm _ rfl (fun hc => ?_) (fun hc => ?_)) <;> (first | (cases hc; done) | ((try simp only [] at hc); (try (exfalso; omega))))) | refine zqi ?_ | refine zqy ?_ | (refine J _ ?_; clear J K))
        subst hm
        (refine zdk ?_); (simp (disch := omega) only [go_sem, Nat.reduceBEq, q2, q5, q30, q31, q32, qH0, true_and, m1])
        exact qp1.keep (fun j hj => by rw [z00 _ (by omega), z00 _ (by omega), z00 _ (by omega), z00 _ (by omega)]) (by omega)
       ·by_cases k3 : l[i].kind = 3
        ·have e1 : opE (treeV v) l[i] = zjf (treeV v) l[i].id l[i].label := by unfold opE; simp [k3]
         have e2 : opT (treeV v) l[i] = z1a l[i].id (fun q => q.setLabel l[i].label) (treeV v) := by unfold opT; simp [k3]
         have c1 := zhw (treeV v) hsz.1 (by omega) (by omega) l[i].id l[i].label (by have := hup.lb; omega)
         rw [<- e1, <- e2, <- he] at c1
         rw [<- hY] at c1
         simp only [z0z, z0o] at c1
         repeat' (first | ((first | refine zqh fun K J => ?_ | refine zqr fun K J => ?_ | refine zqs (c1) ?_); (simp (disch := omega) only [go_sem, Nat.reduceBEq, ↓reduceIte, reduceCtorEq, Nat.reduceAdd, Nat.reduceLeDiff, Int.reduceEq, q2, qH0, hul, d1, d16, hk0, m1, k3])) | ((refine zqm _ rfl (fun hc => ?_) (fun hc => ?_)) <;> (first | (cases hc; done) | ((try simp only [] at hc); (try (exfalso; omega))))) | refine zqi ?_ | refine zqy ?_ | (refine J _ ?_; clear J K))
         subst hm
         (refine zdk ?_); (simp (disch := omega) only [go_sem, Nat.reduceBEq, q2, q5, q30, q31, q32, qH0, true_and, m1])
         exact qp1.keep (fun j hj => by rw [z00 _ (by omega), z00 _ (by omega), z00 _ (by omega), z00 _ (by omega)]) (by omega)
        ·by_cases k4 : l[i].kind = 4
         ·have e1 : opE (treeV v) l[i] = z3y (treeV v) l[i].id l[i].w := by unfold opE; simp [k4]
          have e2 : opT (treeV v) l[i] = z1a l[i].id (fun q => q.setWords l[i].w) (treeV v) := by unfold opT; simp [k4]
          have c1 := zem (treeV v) hsz.1 (by omega) (by omega) l[i].id l[i].w (by have := hup.wl; omega) hup.wt
          rw [<- e1, <- e2, <- he] at c1
          rw [<- hY] at c1
          simp only [z0z, z0o] at c1
          repeat' (first | ((first | refine zqh fun K J => ?_ | refine zqr fun K J => ?_ | refine zqs (c1) ?_); (simp (disch := omega) only [go_sem, Nat.reduceBEq, ↓reduceIte, reduceCtorEq, Nat.reduceAdd, Nat.reduceLeDiff, Int.reduceEq, q2, qH0, hul, d1, d17, hk0, m1, k4])) | ((refine zqm _ rfl (fun hc => ?_) (fun hc => ?_)) <;> (first | (cases hc; done) | ((try simp only [] at hc); (try (exfalso; omega))))) | refine zqi ?_ | refine zqy ?_ | (refine J _ ?_; clear J K))
          subst hm
          (refine zdk ?_); (simp (disch := omega) only [go_sem, Nat.reduceBEq, q2, q5, q30, q31, q32, qH0, true_and, m1])
          exact qp1.keep (fun j hj => by rw [z00 _ (by omega), z00 _ (by omega), z00 _ (by omega), z00 _ (by omega)]) (by omega)
         ·by_cases k5 : l[i].kind = 5
          ·have e1 : opE (treeV v) l[i] = z3y (treeV v) l[i].id l[i].w := by unfold opE; simp [k5]
           have e2 : opT (treeV v) l[i] = z1a l[i].id (fun q => q.setHead l[i].w) (treeV v) := by unfold opT; simp [k5]
           have c1 := zb1 (treeV v) hsz.1 (by omega) (by omega) l[i].id l[i].w (by have := hup.wl; omega) hup.wt
           rw [<- e1, <- e2, <- he] at c1
           rw [<- hY] at c1
           simp only [z0z, z0o] at c1
           repeat' (first | ((first | refine zqh fun K J => ?_ | refine zqr fun K J => ?_ | refine zqs (c1) ?_); (simp (disch := omega) only [go_sem, Nat.reduceBEq, ↓reduceIte, reduceCtorEq, Nat.reduceAdd, Nat.reduceLeDiff, Int.reduceEq, q2, qH0, hul, d1, d17, hk0, m1, k5])) | ((refine zqm _ rfl (fun hc => ?_) (fun hc => ?_)) <;> (first | (cases hc; done) | ((try simp only [] at hc); (try (exfalso; omega))))) | refine zqi ?_ | refine zqy ?_ | (refine J _ ?_; clear J K))
           subst hm
           (refine zdk ?_); (simp (disch := omega) only [go_sem, Nat.reduceBEq, q2, q5, q30, q31, q32, qH0, true_and, m1])
           exact qp1.keep (fun j hj => by rw [z00 _ (by omega), z00 _ (by omega), z00 _ (by omega), z00 _ (by omega)]) (by omega)
          ·repeat' (first | ((first | refine zqh fun K J => ?_ | refine zqr fun K J => ?_); (simp (disch := omega) only [go_sem, Nat.reduceBEq, ↓reduceIte, reduceCtorEq, Nat.reduceAdd, q32, hk0, m1, k0, k1, k2, k3, k4, k5])) | ((refine zqm _ rfl (fun hc => ?_) (fun hc => ?_)) <;> (first | (cases hc; done) | ((try simp only [] at hc); (try (exfalso; omega))))) | refine zqi ?_ | refine zql ?_ | refine zqv ?_ | refine zqw ?_ | refine zqz ?_ | refine zqza rfl ?_ | (refine J _ ?_; clear J K))
           (refine Exists.intro _ (And.intro ?_ ⟨i + 1, v, t, rfl, ?_⟩)); rotate_left; (simp (disch := omega) only [go_sem, Nat.reduceBEq, q2, q5, q30, q31, q32, qH0, true_and, and_true, Int.natCast_add, Int.natCast_one, z4x]); rotate_left
           ·omega
           ·exact ⟨by omega, qp1.keep (fun j hj => by rw [z00 _ (by omega), z00 _ (by omega), z00 _ (by omega)]) (by omega)⟩
    repeat' skip
    repeat' (((refine zqh fun K J => ?_); (simp (disch := omega) only [go_sem, Nat.reduceBEq, ↓reduceIte, Nat.reduceAdd, Nat.reduceLeDiff, r5, r7, rHm, htk, hul])))
    refine z94 (rp0.up hup) fun o hF => ?_
    have hag2 := hF.agree
    have hle2 := hF.le
    have hv2 := rp0.keep hag2 hle2
    have b0 := (hag2 0 (by omega)).trans rH0
    have b7 := (hag2 m (by omega)).trans rHm
    have b9 := (hag2 (m + 1) (by omega)).trans rHm1
    by_cases h0 : opE (treeV v) l[i] = 0
    ·obtain ⟨w, tw, hr, hw, htw, -, -⟩ := ver_up hF h0
     obtain ⟨r, H2, n2⟩ := o
     simp only at hr hw hle2 b0 b7 b9
     subst hr
     clear hF hag2 hv2
     have e0 : e = 0 := by rw [he]; exact h0
     subst e0
     rw [if_pos rfl, <- htw] at hY
     subst hY
     have hcw := z0k (treeV w)
     have h8 : ∀ y : T, (z0d y).length = 8 := fun y => by rw [z0k]; rfl
     have h8t : ∀ y : T, (z0d y).take 8 = z0d y := fun y => by rw [z0k]; rfl
     have h8s : ∀ x y : T, z1m (z0d x) 0 (z0d y) = z0d y := fun x y => by rw [z0k, z0k y]; rfl
     have p1 : (0 == m) = false := beq_eq_false_iff_ne.2 (by omega)
     have p2 : (0 == m + 1) = false := beq_eq_false_iff_ne.2 (by omega)
     (try (simp (disch := omega) only [go_sem, Nat.reduceBEq])); repeat' (first | refine zqj ?_ | ((refine zqh fun K J => ?_); (simp (disch := omega) only [go_sem, Nat.reduceBEq, ↓reduceIte, Nat.reduceAdd, Nat.reduceLeDiff, r2, r5, r8, r9, b0, b9, h8, h8t, h8s])) | ((refine zqd _ rfl (fun hc => ?_) (fun hc => ?_)) <;> (first | (cases hc; done) | ((try simp only [] at hc); (try (exfalso; omega))))) | refine zqb ?_ | (refine J _ ?_; clear J K))
     repeat' skip
     have hw3 : VerOK (z0f H2 0 (some (.box 27 (z0d (treeV w))))) n2 tw w := hw.but (k := 0) (m := 0) (.inl ⟨b0, by decide, by decide⟩) (fun j h1 h2 => z00 _ (by omega)) (Nat.le_refl _)
     refine z1b ((ac_Unit hw3.sz.1 hw3.lt hw3.at_ hw3.un hw3.st).mono fun r' H4 n4 hUn => ?_)
     obtain ⟨hr, hn4, hrow, hsame⟩ := hUn
     subst hr
     have hw4 : VerOK H4 n4 tw w := hw3.keep (fun j hj => hsame j hj) (by omega)
     have b04 := (hsame 0 (by omega)).trans z28
     obtain ⟨kn, hkn⟩ : ∃ kn, kn = w.kids.length := ⟨_, rfl⟩
     obtain ⟨q, hq⟩ : ∃ q, q = n2 + 3 := ⟨_, rfl⟩
     rw [<- hkn, <- hq] at hrow
     rw [<- hkn, <- hq]
     have p3 : (q == n4) = false := beq_eq_false_iff_ne.2 (by omega)
     have p4 : (n4 == q) = false := beq_eq_false_iff_ne.2 (by omega)
     have p5 : (0 == n4) = false := beq_eq_false_iff_ne.2 (by omega)
     have p6 : (0 == q) = false := beq_eq_false_iff_ne.2 (by omega)
     have hfl : ((w.kids.map treeV).flatMap z0d).length = kn * 8 := by rw [z5w (f := z0d) (sz := 8) (fun t => h8 t), List.length_map, hkn]
     generalize (w.kids.map treeV).flatMap z0d = rows at hrow hfl
     have hkl : kn <= 1000000 := by
      have h1 := ((z2v _).1 hw4.sz.1).2.2.2.2.2.1
      rw [z2a] at h1
      rw [hkn]
      simpa [T.setKids, T.kids] using h1
     clear hsame hw3
     (try (simp (disch := omega) only [go_sem, Nat.reduceBEq, ↓reduceIte, Nat.reduceAdd, Nat.reduceLeDiff, z4w])); repeat' (first | refine zqj ?_ | ((refine zqh fun K J => ?_); (simp (disch := omega) only [go_sem, Nat.reduceBEq, ↓reduceIte, reduceCtorEq, Nat.reduceAdd])) | refine zqa ?_ | (refine J _ ?_; clear J K))
     repeat' skip
     (refine z5k (fun U st => ∃ (j : _) (rz : List D), U = kn - j /\ st.t 2 = .ptr 0 0 /\ st.t 5 = .ptr tw 0 /\ st.t 12 = .ptr n4 0 /\ st.t 30 = z4x l /\ st.t 31 = .int .i64 l.length /\ st.t 32 = .int .i64 i /\ st.t 124 = .int .i64 kn /\ st.t 125 = .int .i64 j /\ st.H 0 = some (.box 27 (z0d (treeV w))) /\ st.H (n4) = some (.box 27 (z4w w q kn)) /\ st.H (q) = some (.row 27 kn rz) /\ (j <= kn) /\ (rz.length = kn * 8) /\ (VerOK st.H st.nx tw w) /\ (n4 < st.nx) /\ (kn <= 1000000)) ?_ ?_); rotate_left; (rintro U st ⟨j, rz, rfl, s2, s5, s12, s30, s31, s32, s124, s125, sH0, sHn4, sHq, sp0, sp1, sp2, sp3, sp4⟩); rotate_left
     ·(refine ⟨_, 0, rows, rfl, ?_⟩); (simp (disch := omega) only [go_sem, Nat.reduceBEq, r2, r5, r30, r31, r32, true_and, Int.natCast_zero, z4x, b04, hrow, p3, p5, z4w])
      exact ⟨hfl, hw4.keep (fun j hj => by rw [z00 _ (by omega), z00 _ (by omega)]) (by omega), by omega, hkl⟩
     by_cases hj : j < kn
     ·repeat' (first | ((first | refine zqh fun K J => ?_ | refine zqr fun K J => ?_); (simp (disch := omega) only [go_sem, Nat.reduceBEq, ↓reduceIte, reduceCtorEq, Nat.reduceAdd, Nat.reduceLT, s12, s124, s125, sHn4, sHq, z4w])) | ((refine zqd _ rfl (fun hc => ?_) (fun hc => ?_)) <;> (((try simp only [z0e] at hc); (try (exfalso; omega))))) | refine zqa ?_ | refine zqb ?_ | refine zqv ?_ | refine zqy ?_ | (refine J _ ?_; clear J K))
      (refine Exists.intro _ (And.intro ?_ ⟨j + 1, rz.set (j * 8 + 4) (.str ⟨#[115, 112, 111, 105, 108, 116]⟩), rfl, ?_⟩)); rotate_left; (simp (disch := omega) only [go_sem, Nat.reduceBEq, s2, s5, s12, s30, s31, s32, s124, s125, sH0, sHn4, sHq, true_and, Int.natCast_add, Int.natCast_one, p4, p6]); rotate_left
      ·omega
      ·exact ⟨by omega, sp1, sp2.but (k := q) (.inr ⟨sHq, by decide⟩) (fun j h1 h2 => z00 _ h1) (Nat.le_refl _), sp3, sp4⟩
     ·have k1 := sp2.unit
      have k2 := pc_Same (treeV w) sp2.sz.1 (treeV w) sp2.sz.1
      rw [decide_eq_true rfl] at k2
      repeat' (first | ((first | refine zqh fun K J => ?_ | refine zqe (by decide +kernel) fun K J => ?_ | refine zqr fun K J => ?_ | refine zib (k1) rfl ?_ | refine zqt (k2) ?_); (simp (disch := omega) only [go_sem, Nat.reduceBEq, ↓reduceIte, Nat.reduceAdd, Nat.reduceLeDiff, s2, s5, s32, s124, s125, sH0])) | ((first | refine zqd _ rfl (fun hc => ?_) (fun hc => ?_) | refine zqm _ rfl (fun hc => ?_) (fun hc => ?_)) <;> (first | (cases hc; done) | ((try simp only [z0e] at hc); (try (exfalso; omega))))) | refine zqc ?_ | refine zqk ?_ | refine zqv ?_ | refine zqy ?_ | refine zqz ?_ | refine zqp ?_ | (refine J _ ?_; clear J K))
      (refine Exists.intro _ (And.intro ?_ ⟨i + 1, w, tw, rfl, ?_⟩)); rotate_left; (simp (disch := omega) only [go_sem, Nat.reduceBEq, s2, s5, s30, s31, s32, sH0, true_and, Int.natCast_add, Int.natCast_one, z4x]); rotate_left
      ·omega
      ·exact ⟨by omega, sp2, by omega⟩
    ·have hr := hF.bad h0
     obtain ⟨r, H2, n2⟩ := o
     simp only at hr hv2 hle2 b0 b7 b9
     rw [<- he] at hr h0
     subst hr
     clear hF hag2
     (try (simp (disch := omega) only [go_sem, Nat.reduceBEq])); repeat' (first | refine zqj ?_ | ((first | refine zqh fun K J => ?_ | refine zqr fun K J => ?_); (simp (disch := omega) only [go_sem, Nat.reduceBEq, ↓reduceIte, r8, r32])) | ((refine zqd _ rfl (fun hc => ?_) (fun hc => ?_)) <;> (first | (cases hc; done) | ((try simp only [z0e] at hc); (try (exfalso; omega))))) | refine zqb ?_ | refine zqc ?_ | refine zqv ?_ | refine zqz ?_ | (refine J _ ?_; clear J K))
     repeat' skip
     (refine Exists.intro _ (And.intro ?_ ⟨i + 1, v, t, rfl, ?_⟩)); rotate_left; (simp (disch := omega) only [go_sem, Nat.reduceBEq, r2, r5, r30, r31, r32, true_and, Int.natCast_add, Int.natCast_one, z4x, b0]); rotate_left
     ·omega
     ·exact ⟨by omega, hv2, by omega⟩
   ·skip
    repeat' (first | ((refine zqh fun K J => ?_); (simp (disch := omega) only [go_sem, ↓reduceIte, q31, q32])) | ((refine zqd _ rfl (fun hc => ?_) (fun hc => ?_)) <;> (((try simp only [z0e] at hc); (try (exfalso; omega))))) | refine zqc ?_ | refine zqn ?_ | refine zqv ?_ | refine zqz ?_ | refine zqp ?_ | refine zqu (by (simp (disch := omega) only [go_sem]); rfl) rfl ?_ | (refine J _ ?_; clear J K))
    exact z03 rfl
  ·rw [Bool.not_eq_true] at hst
   rw [hst] at c1
   repeat' (first | refine zqj ?_ | ((first | refine zqh fun K J => ?_ | refine zqs (ha) ?_ | refine zqs (hf) ?_ | refine zqs (c1) ?_); (simp (disch := omega) only [go_sem, Nat.reduceBEq, ↓reduceIte, Nat.reduceAdd, Nat.reduceLeDiff, z0o, z4x])) | ((refine zqd _ rfl (fun hc => ?_) (fun hc => ?_)) <;> (first | (cases hc; done) | ((try simp only [] at hc); (try (exfalso; omega))))) | refine zqg ?_ | refine zqu (by (simp (disch := omega) only [go_sem]); rfl) rfl ?_ | (refine J _ ?_; clear J K))
   exact z03 rfl
 ·rw [Bool.not_eq_true] at hb0
  rw [hb0] at hf
  repeat' (first | refine zqj ?_ | ((first | refine zqh fun K J => ?_ | refine zqs (ha) ?_ | refine zqs (hf) ?_); (simp (disch := omega) only [go_sem, Nat.reduceBEq, ↓reduceIte, Nat.reduceAdd, Nat.reduceLeDiff, z0o, z4x])) | ((refine zqd _ rfl (fun hc => ?_) (fun hc => ?_)) <;> (first | (cases hc; done) | ((try simp only [] at hc); (try (exfalso; omega))))) | refine zqg ?_ | refine zqu (by (simp (disch := omega) only [go_sem]); rfl) rfl ?_ | (refine J _ ?_; clear J K))
  exact z03 rfl
end
end Go.Proofs.YtmnabhhdiinfaaaGreatDoor
