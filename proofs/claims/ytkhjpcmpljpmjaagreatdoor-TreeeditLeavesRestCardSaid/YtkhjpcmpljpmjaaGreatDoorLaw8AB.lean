import Derived.Test.YtkhjpcmpljpmjaaGreatDoorEdMoves
import Derived.Test.YtkhjpcmpljpmjaaGreatDoorRefMove
set_option maxRecDepth 100000
set_option maxHeartbeats 8000000
set_option linter.unusedSimpArgs false
set_option linter.unusedVariables false
/-
 The example of the chapter; the laws TreeeditInserts and TreeeditRemoves. No condition but lengths.
-/
namespace Go.Proofs.YtkhjpcmpljpmjaaGreatDoor
open Abs Facts Tr
attribute [local irreducible] awp
namespace Tr
def exX (n : Int) : T := .mk ⟨1, 0, n⟩ 2 ⟨#[49]⟩ [] [] []
def exU : T := .mk Idv.zero 0 ByteArray.empty [] [] [exX 1]
def exC (n : Int) : List D := [.int .i64 1, .int .i64 0, .int .i64 n, .int .i64 2, .str ⟨#[49]⟩, .nil, .nil, .nil]
theorem le_ex (n : Int) : Le (.agg (exC n)) (encU (exX n)) := by
 rw [encU, cellsU_eq]
 exact Le.agg ⟨Le.refl _, Le.refl _, Le.refl _, Le.refl _, Le.refl _, Le.nil 4, Le.nil 4, Le.nil 8, trivial⟩
end Tr
theorem pc_awake8 : PC Tryz.prog 10 [] (.bool true) := by
 have z0 : szB T.zero = true := sz_zero
 have z1 : szB (exX 1) = true := by decide +kernel
 have z2 : szB (exX 2) = true := by decide +kernel
 have z3 : szB exU = true := by decide +kernel
 have c1 := (pc_Insert T.zero (exX 1) z0 z1 (by decide +kernel) (by decide +kernel) (by decide +kernel) (by decide +kernel) Idv.zero 0).le (ds := [.agg [.int .i64 0, .int .i64 0, .int .i64 0, .int .i64 0, .str ByteArray.empty, .nil, .nil, .nil], encId Idv.zero, .int .i64 0, .agg (exC 1)]) rfl ⟨le_zeroU, Le.refl _, Le.refl _, le_ex 1, trivial⟩
 rw [show wrongT T.zero Idv.zero 0 (exX 1) = 0 from by decide +kernel, if_neg (by decide), show editT Idv.zero (insK (0 : Int).toNat (exX 1)) T.zero = exU from by decide +kernel] at c1
 have c2 := (pc_Insert exU (exX 2) z3 z2 (by decide +kernel) (by decide +kernel) (by decide +kernel) (by decide +kernel) Idv.zero 0).le (ds := [encU exU, encId Idv.zero, .int .i64 0, .agg (exC 2)]) (by simp only [pureD.pureL, pure_encU, pureD, exC, Bool.and_self]; rfl) ⟨Le.refl _, Le.refl _, Le.refl _, le_ex 2, trivial⟩
 rw [show wrongT exU Idv.zero 0 (exX 2) = 10 from by decide +kernel, if_pos (by decide)] at c2
 have c3 := pc_Remove exU z3 (by decide +kernel) (by decide +kernel) ⟨1, 0, 1⟩
 rw [show takeE exU ⟨1, 0, 1⟩ = 0 from by decide +kernel, if_pos rfl, if_pos rfl, show wipeT ⟨1, 0, 1⟩ exU = T.zero from by decide +kernel, show (findR ⟨1, 0, 1⟩ exU).1 = exX 1 from by decide +kernel] at c3
 have c4 := (pc_CanInsert exU (exX 2) z3 z2 (by decide +kernel) (by decide +kernel) (by decide +kernel) (by decide +kernel) Idv.zero).le (ds := [encU exU, encId Idv.zero, .agg (exC 2)]) (by simp only [pureD.pureL, pure_encU, pureD, exC, Bool.and_self]; rfl) ⟨Le.refl _, Le.refl _, le_ex 2, trivial⟩
 rw [show wrongT exU Idv.zero 0 (exX 2) = 10 from by decide +kernel] at c4
 refine zqzd 1 rfl rfl (zqze [] Tryz.func10 rfl (by decide +kernel) mixed (by decide +kernel) (by simp [Tryz.ntmps10]) ?_)
 show awp _ _ (Code.seq _ _) _ _
 skip
 repeat' (first | refine zqj ?_ | ((first | refine zqh fun K hK => ?_ | refine zqe (by decide +kernel) fun K hK => ?_ | refine zqr fun K hK => ?_ | refine zqq (by decide +kernel) fun K hK => ?_ | refine zqs (c1) ?_ | refine zqt (c1) ?_ | refine zqs (c2) ?_ | refine zqt (c2) ?_ | refine zqs (c3) ?_ | refine zqt (c3) ?_ | refine zqs (c4) ?_ | refine zqt (c4) ?_); (simp (disch := omega) only [go_sem, Nat.reduceBEq, Nat.reduceBeqDiff, Nat.reduceEqDiff, ↓reduceIte, reduceCtorEq, Nat.reduceAdd, Nat.reduceMul, Nat.reduceLeDiff, Nat.reduceLT, Int.reduceLT, Int.reduceLE, Int.reduceEq, encUs, List.set_cons_succ, List.set_cons_zero])) | ((first | refine zqd _ rfl (fun hc => ?_) (fun hc => ?_) | refine zqm _ rfl (fun hc => ?_) (fun hc => ?_)) <;> (first | (cases hc; done) | ((try simp only [boolS] at hc); (try (exfalso; omega))))) | refine zqa ?_ | refine zqi ?_ | refine zqb ?_ | refine zqg ?_ | refine zqc ?_ | refine zqk ?_ | refine zql ?_ | refine zqn ?_ | refine zqv ?_ | refine zqw ?_ | refine zqx ?_ | refine zqy ?_ | refine zqz ?_ | refine zqza rfl ?_ | refine zqzb ?_ | refine zqp ?_ | refine zqo ?_ | refine zqu (by (simp (disch := omega) only [go_sem, Nat.reduceBEq, Nat.reduceBeqDiff, Nat.reduceEqDiff, ↓reduceIte, reduceCtorEq, Nat.reduceAdd, Nat.reduceLeDiff, Nat.reduceLT, encUs, List.set_cons_succ, List.set_cons_zero]); rfl) rfl ?_ | (refine hK _ ?_; clear hK K) | (refine zqf (fun hb => ?_) (fun hb => ?_) <;> (have hb2 := hb; try simp only [boolS] at hb2) <;> ((first | have hb3 : (_ : Bool) = _ := hb2 | have hb3 := eq_false hb2 | have hb3 := eq_true hb2); (simp (disch := omega) only [go_sem, Nat.reduceBEq, Nat.reduceBeqDiff, Nat.reduceEqDiff, ↓reduceIte, reduceCtorEq, Nat.reduceAdd, Nat.reduceMul, Nat.reduceLeDiff, Nat.reduceLT, Int.reduceLT, Int.reduceLE, Int.reduceEq, hb, hb3, encUs, List.set_cons_succ, List.set_cons_zero]); clear hb hb3; (try (exfalso; omega)))) | (exfalso; omega))
 all_goals first | exact fin_bool rfl | exact absurd rfl hb2
namespace Tr
theorem sz_inserted {u x : T} (hu : szB u = true) (hx : szB x = true) {parent : Idv} {n : Nat} (h : wrongT u parent n x = 0) : szB (editT parent (insK n x) u) = true := by
 obtain ⟨C, q, l, r, e, _, _, e2, hs, _⟩ := ins_facts h
 rw [e2] at hs ⊢
 have hq : szB (q.setKids (l ++ r)) = true := sz_in C (by rw [← e]; exact hu)
 refine sz_plug (x := q.setKids (l ++ r)) ?_ C (by rw [← e]; exact hu)
 obtain ⟨g1, g2⟩ := sz_kids hq
 refine sz_set (t := q.setKids (l ++ r)) hq (l := l ++ x :: r) ?_ fun k hk => ?_
 ·rw [stands_iff, right_plug] at hs
  have := (alone_len hs.1.2).2
  have h2 : (l ++ x :: r).length ≤ 64 := this
  omega
 ·rcases List.mem_append.1 hk with hk | hk
  ·exact g2 k (List.mem_append_left _ hk)
  ·rcases List.mem_cons.1 hk with rfl | hk
   ·exact hx
   ·exact g2 k (List.mem_append_right _ hk)
end Tr
end Go.Proofs.YtkhjpcmpljpmjaaGreatDoor
/-
 The laws TreeeditRemoveInverse, TreeeditMoveInverse, TreeeditMoves. No condition but lengths.
-/
namespace Go.Proofs.YtkhjpcmpljpmjaaGreatDoor
open Abs Facts Tr
attribute [local irreducible] awp
namespace Tr
theorem dep8 {t : T} (h : standsT t = true) : depT t ≤ 8 := ((stands_iff t).1 h).2.1
theorem take_zero {u x : T} {id : Idv} (h1 : standsT u = true) (h2 : findR id u = (x, true)) (h3 : ¬ u.id = id) : takeE u id = 0 := by
 unfold takeE; rw [if_neg (by rw [h1]; simp), if_neg (by rw [h2]; simp), if_neg h3]
theorem sz_moveE {u : T} (hu : szB u = true) (id parent : Idv) (i : Int) : szB (if moveE u id parent i = 0 then editT parent (insK i.toNat (findR id u).1) (wipeT id u) else T.zero) = true := by
 by_cases h : moveE u id parent i = 0
 ·rw [if_pos h]
  obtain ⟨_, _, _, _, _, hw⟩ := move_ok h
  obtain ⟨_, _, n, rfl, _⟩ := wrong_ok hw
  exact sz_inserted (sz_wipe u hu) (sz_find id u hu) hw
 ·rw [if_neg h]; exact sz_zero
end Tr
end Go.Proofs.YtkhjpcmpljpmjaaGreatDoor
