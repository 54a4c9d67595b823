/-
 The walk of the program's Strip. No condition but lengths.
-/
import Derived.Test.YtkhjpcmpljpmjaaGreatDoorStripR
set_option maxRecDepth 100000
set_option linter.unusedSimpArgs false
set_option linter.unusedVariables false
namespace Go.Proofs.YtkhjpcmpljpmjaaGreatDoor
open Abs Facts Tr
attribute [local irreducible] awp
def rowWd (l : List Wd) : HObj := .row 51 l.length (l.flatMap cellsWd)
theorem ac_CloneW (l : List Wd) (hl : l.length ≤ 1000000) (H : HM) (nx : Nat) : AC Tryz.prog 65 [encWs l] H nx fun r H' nx' => r = .osl nx l.length ∧ H' = updH H nx (some (rowWd l)) ∧ nx' = nx + 1 := by
 refine AC.split (pre := []) (post := []) (sz := 4) (els := l.map encWd) (fun he => ?_) ?_
 ·have hl0 : l = [] := by simpa using he
  subst hl0
  have hp : PC Tryz.prog 65 [.nil] .nil := by
   refine zqzd 2 rfl rfl (zqze [] Tryz.func65 rfl (by decide +kernel) mixed (by decide +kernel) (by simp [Tryz.ntmps65]) ?_)
   show awp _ _ (Code.seq _ _) _ _
   skip
   repeat' (first | refine zqj ?_ | ((first | refine zqh fun K hK => ?_ | refine zqe (by decide +kernel) fun K hK => ?_ | refine zqr fun K hK => ?_ | refine zqq (by decide +kernel) fun K hK => ?_); (simp (disch := omega) only [go_sem, Nat.reduceBEq, Nat.reduceBeqDiff, Nat.reduceEqDiff, ↓reduceIte, reduceCtorEq, Nat.reduceAdd, Nat.reduceMul, Nat.reduceLeDiff, Nat.reduceLT, Int.reduceLT, Int.reduceLE, Int.reduceEq])) | ((first | refine zqd _ rfl (fun hc => ?_) (fun hc => ?_) | refine zqm _ rfl (fun hc => ?_) (fun hc => ?_)) <;> (first | (cases hc; done) | ((try simp only [boolS] at hc); (try (exfalso; omega))))) | refine zqa ?_ | refine zqi ?_ | refine zqb ?_ | refine zqg ?_ | refine zqc ?_ | refine zqk ?_ | refine zql ?_ | refine zqn ?_ | refine zqv ?_ | refine zqw ?_ | refine zqx ?_ | refine zqy ?_ | refine zqz ?_ | refine zqza rfl ?_ | refine zqzb ?_ | refine zqp ?_ | refine zqo ?_ | refine zqu (by (simp (disch := omega) only [go_sem, Nat.reduceBEq, Nat.reduceBeqDiff, Nat.reduceEqDiff, ↓reduceIte, reduceCtorEq, Nat.reduceAdd, Nat.reduceLeDiff, Nat.reduceLT]); rfl) rfl ?_ | (refine hK _ ?_; clear hK K) | (refine zqf (fun hb => ?_) (fun hb => ?_) <;> (have hb2 := hb; try simp only [boolS] at hb2) <;> ((first | have hb3 : (_ : Bool) = _ := hb2 | have hb3 := eq_false hb2 | have hb3 := eq_true hb2); (simp (disch := omega) only [go_sem, Nat.reduceBEq, Nat.reduceBeqDiff, Nat.reduceEqDiff, ↓reduceIte, reduceCtorEq, Nat.reduceAdd, Nat.reduceMul, Nat.reduceLeDiff, Nat.reduceLT, Int.reduceLT, Int.reduceLE, Int.reduceEq, hb, hb3]); clear hb hb3; (try (exfalso; omega)))) | (exfalso; omega))
   exact fin_pure rfl (Le.refl _)
  exact AC_nilrow 51 (hp.ac ⟨rfl, rfl, rfl, rfl⟩)
 ·have ho : OC Tryz.prog 65 [.rsl true 4 (l.map encWd)] [rowWd l] (.osl 0 l.length) := by
   refine OC_intro (by simp only [pureD.pureL, pureD, pureL_map (f := encWd) (fun _ => rfl) l, Bool.and_self]) rfl (fun o ho => by simp at ho; subst ho; exact pureL_flatMap (fun _ => rfl) _) (zqze [5] Tryz.func65 rfl (by decide +kernel) mixed (by decide +kernel) (by simp [Tryz.ntmps65]) ?_)
   show awp _ _ (Code.seq _ _) _ _
   skip
   repeat' (first | refine zqj ?_ | ((first | refine zqh fun K hK => ?_ | refine zqe (by decide +kernel) fun K hK => ?_ | refine zqr fun K hK => ?_ | refine zqq (by decide +kernel) fun K hK => ?_); (simp (disch := omega) only [go_sem, Nat.reduceBEq, Nat.reduceBeqDiff, Nat.reduceEqDiff, ↓reduceIte, reduceCtorEq, Nat.reduceAdd, Nat.reduceMul, Nat.reduceLeDiff, Nat.reduceLT, Int.reduceLT, Int.reduceLE, Int.reduceEq, cellsAll_encWd])) | ((first | refine zqd _ rfl (fun hc => ?_) (fun hc => ?_) | refine zqm _ rfl (fun hc => ?_) (fun hc => ?_)) <;> (first | (cases hc; done) | ((try simp only [boolS] at hc); (try (exfalso; omega))))) | refine zqa ?_ | refine zqi ?_ | refine zqb ?_ | refine zqg ?_ | refine zqc ?_ | refine zqk ?_ | refine zql ?_ | refine zqn ?_ | refine zqv ?_ | refine zqw ?_ | refine zqx ?_ | refine zqy ?_ | refine zqz ?_ | refine zqza rfl ?_ | refine zqzb ?_ | refine zqp ?_ | refine zqo ?_ | refine zqu (by (simp (disch := omega) only [go_sem, Nat.reduceBEq, Nat.reduceBeqDiff, Nat.reduceEqDiff, ↓reduceIte, reduceCtorEq, Nat.reduceAdd, Nat.reduceLeDiff, Nat.reduceLT, cellsAll_encWd]); rfl) rfl ?_ | (refine hK _ ?_; clear hK K) | (refine zqf (fun hb => ?_) (fun hb => ?_) <;> (have hb2 := hb; try simp only [boolS] at hb2) <;> ((first | have hb3 : (_ : Bool) = _ := hb2 | have hb3 := eq_false hb2 | have hb3 := eq_true hb2); (simp (disch := omega) only [go_sem, Nat.reduceBEq, Nat.reduceBeqDiff, Nat.reduceEqDiff, ↓reduceIte, reduceCtorEq, Nat.reduceAdd, Nat.reduceMul, Nat.reduceLeDiff, Nat.reduceLT, Int.reduceLT, Int.reduceLE, Int.reduceEq, hb, hb3, cellsAll_encWd]); clear hb hb3; (try (exfalso; omega)))) | (exfalso; omega))
   refine ⟨fun _ => 0, fun i j hi hj _ => by simp at hi hj; omega, ?_, fun j hj => ?_⟩
   ·(simp (disch := omega) only [go_sem, Nat.reduceBEq, Nat.reduceBeqDiff, Nat.reduceEqDiff, ↓reduceIte, reduceCtorEq, Nat.reduceAdd, Nat.reduceMul, Nat.reduceLeDiff, Nat.reduceLT, Int.reduceLT, Int.reduceLE, Int.reduceEq, renD])
   ·obtain rfl : j = 0 := by simp at hj; omega
    (simp (disch := omega) only [go_sem, Nat.reduceBEq, Nat.reduceBeqDiff, Nat.reduceEqDiff, ↓reduceIte, reduceCtorEq, Nat.reduceAdd, Nat.reduceMul, Nat.reduceLeDiff, Nat.reduceLT, Int.reduceLT, Int.reduceLE, Int.reduceEq, rowWd])
    try rfl
  exact ho.ac ⟨by simp [renD], rfl, rfl⟩
theorem oc_CloneW (l : List Wd) (hl : l.length ≤ 1000000) : OC Tryz.prog 65 [encWs l] [rowWd l] (.osl 0 l.length) :=
 ⟨by simp only [pureD.pureL, pure_encWs, Bool.and_self], rfl, fun o ho => by simp at ho; subst ho; exact pureL_flatMap (fun _ => rfl) _, fun H nx => (ac_CloneW l hl H nx).mono fun r H' nx' ⟨h1, h2, h3⟩ => ⟨by rw [h1]; rfl, h2, h3⟩⟩
def rowUn (l : List T) : HObj := .row 27 l.length (l.flatMap cellsU)
def cellsOwn (t : T) (a b c : Nat) : List D := [.int .i64 t.id.act, .int .i64 t.id.item, .int .i64 t.id.n, .int .i64 t.kind, .str t.label, .osl a t.head.length, .osl b t.words.length, .osl c t.kids.length]
namespace Tr
end Tr
def zeroC : List D := [.int .i64 0, .int .i64 0, .int .i64 0, .int .i64 0, .str ByteArray.empty, .nil, .nil, .nil]
end Go.Proofs.YtkhjpcmpljpmjaaGreatDoor
