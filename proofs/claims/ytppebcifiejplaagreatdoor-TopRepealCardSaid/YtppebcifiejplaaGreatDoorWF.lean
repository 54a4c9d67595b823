import Derived.Test.YtppebcifiejplaaGreatDoorWE
/-
 Lemmas of the claim. No condition but those that each names.
-/
set_option linter.unusedSimpArgs false
set_option linter.unusedVariables false
set_option maxHeartbeats 8000000
set_option linter.unusedSectionVars false
namespace Go.Proofs.YtppebcifiejplaaGreatDoor
section
open Abs Facts Tr
attribute [local irreducible] awp
set_option maxRecDepth 100000
set_option maxHeartbeats 16000000 in
theorem zxd : ∀ x : It, OkI x -> PC Tryz.prog 29 [z8u x] (.bool (zcx x)) := by
  refine zm7 fun x ih hx => ?_
  obtain ⟨b, O⟩ := (za7 x).1 hx
  obtain ⟨⟨a1, a1'⟩, ⟨a2, a2'⟩, ⟨a3, a3'⟩, ⟨a4, a4'⟩, a5, ⟨u1, u2, u3⟩, s1, s2, s3, s4⟩ := b
  have m1 : 1000 <= maxLen := by unfold maxLen; omega
  have c1 := z7l x.kind 0 11
  have hmay := zsm x
  unfold mayF at hmay
  refine z1y 1 (by simp only [pureD.pureL, z2v, Bool.and_self]) rfl (z1v [] Tryz.func29 rfl (by decide +kernel) z0i (by decide +kernel) (by simp [Tryz.ntmps29]) ?_)
  show awp _ _ (Code.seq _ _) _ _
  by_cases h0 : 0 <= x.kind /\ x.kind <= 11
  case neg =>
    have hin : inB x.kind 0 11 = false := decide_eq_false h0
    rw [hin] at c1 hmay
    rw [Bool.false_and, Bool.false_and] at hmay
    rw [hmay]
    repeat' (first | refine zqj ?_ | ((first | refine z03 (N := 3) rfl fun K J => ?_ | refine z12 (N := 3) rfl (by decide +kernel) fun K J => ?_ | refine zqt (c1) ?_); (simp (disch := omega) only [go_sem, Nat.reduceBEq, ↓reduceIte, reduceCtorEq, Nat.reduceAdd])) | ((refine zqd _ rfl (fun hc => ?_) (fun hc => ?_)) <;> (first | (cases hc; done) | ((try simp only [] at hc); (try (exfalso; omega))))) | refine zqg ?_ | refine zqu (by (simp (disch := omega) only [go_sem]); rfl) rfl ?_ | (refine J _ ?_; clear J K))
    exact z00 rfl
  have hin : inB x.kind 0 11 = true := decide_eq_true h0
  rw [hin, Bool.true_and] at hmay
  rw [hin] at c1
  have hf := ok_fit x hx
  have c2 := pc_told x h0
  have c3 := zyn x hf (zli x) (zys x hf)
  by_cases ht : x = zli x
  case neg =>
    rw [decide_eq_false ht, Bool.false_and] at hmay
    rw [decide_eq_false ht] at c3
    rw [hmay]
    repeat' (first | refine zqj ?_ | ((first | refine z03 (N := 3) rfl fun K J => ?_ | refine z12 (N := 3) rfl (by decide +kernel) fun K J => ?_ | refine zqt (c1) ?_ | refine zqt (c2) ?_ | refine zqt (c3) ?_); (simp (disch := omega) only [go_sem, Nat.reduceBEq, ↓reduceIte, reduceCtorEq, Nat.reduceAdd, Nat.reduceLeDiff])) | ((refine zqd _ rfl (fun hc => ?_) (fun hc => ?_)) <;> (first | (cases hc; done) | ((try simp only [] at hc); (try (exfalso; omega))))) | refine zqg ?_ | refine zqu (by (simp (disch := omega) only [go_sem]); rfl) rfl ?_ | (refine J _ ?_; clear J K))
    exact z00 rfl
  rw [decide_eq_true ht, Bool.true_and] at hmay
  rw [decide_eq_true ht] at c3
  have c4 := ztc x.at_ (by omega) fun s hs => by have := a1' s hs; omega
  have c5 := zel x.for_ (by omega)
  have c6 := zxp x.sk x.sd x.se (by omega)
  repeat' (first | refine zqj ?_ | ((first | refine z03 (N := 3) rfl fun K J => ?_ | refine z12 (N := 3) rfl (by decide +kernel) fun K J => ?_ | refine zqt (c1) ?_ | refine zqt (c2) ?_ | refine zqt (c3) ?_); (simp (disch := omega) only [go_sem, Nat.reduceBEq, ↓reduceIte, reduceCtorEq, Nat.reduceAdd, Nat.reduceLeDiff])) | ((refine zqd _ rfl (fun hc => ?_) (fun hc => ?_)) <;> (first | (cases hc; done) | ((try simp only [] at hc); (try (exfalso; omega))))) | refine zqb ?_ | (refine J _ ?_; clear J K))
  obtain ⟨b, hb⟩ : ∃ b, b = zcx x := ⟨_, rfl⟩
  rw [<- hb] at hmay ⊢
  clear ht c2 c3
  (refine zhm (fun st => st.t 1 = .ptr 0 0 /\ st.H 0 = some (.box 43 (z0f x)) /\ (b = z4w x (x.by_.map zcx))) ?_ ?_); rotate_left; (rintro st ⟨p1, pH0, pp0⟩); rotate_left
  · by_cases h6 : x.kind <= 6
    · rw [decide_eq_false (by omega), Bool.false_or] at hmay
      repeat' (first | ((first | refine zqh fun K J => ?_ | refine zqs (c4) ?_ | refine zqs (c5) ?_ | refine zqs (c6) ?_); (simp (disch := omega) only [go_sem, Nat.reduceBEq, ↓reduceIte, reduceCtorEq, Nat.reduceAdd, h6, z0a])) | ((refine zqm _ rfl (fun hc => ?_) (fun hc => ?_)) <;> (first | (cases hc; done) | ((try simp only [z01] at hc); (try (exfalso; omega))))) | refine zqk ?_ | refine zqn ?_ | refine zqx ?_ | refine zqu (by (simp (disch := omega) only [go_sem]); rfl) rfl ?_ | (refine J _ ?_; clear J K) | (refine zqf (fun hb => ?_) (fun hb => ?_) <;> (have hb2 := hb; try simp only [z01] at hb2) <;> ((first | have F : (_ : Bool) = _ := hb2 | have F := eq_false hb2 | have F := eq_true hb2); (simp (disch := omega) only [go_sem, Nat.reduceBEq, ↓reduceIte, reduceCtorEq, Nat.reduceAdd, Nat.reduceLeDiff, F]); clear hb F; (try (exfalso; omega)))))
      all_goals first
        | (clear hb; refine z00 ?_; rw [hmay]; simp [*, z1c]; done)
        | ((refine zzl ?_); (simp (disch := omega) only [go_sem, Nat.reduceBEq, true_and])
           clear hb; rw [hmay]; simp [*, z1c]; done)
       
    · rw [decide_eq_true (by omega), Bool.true_or, Bool.true_and] at hmay
      repeat' (first | ((refine zqh fun K J => ?_); (simp (disch := omega) only [go_sem, Nat.reduceBEq, ↓reduceIte, reduceCtorEq, Nat.reduceAdd])) | ((refine zqm _ rfl (fun hc => ?_) (fun hc => ?_)) <;> (first | (cases hc; done) | ((try simp only [] at hc); (try (exfalso; omega))))) | refine zqk ?_ | (refine J _ ?_; clear J K) | (refine zqf (fun hb => ?_) (fun hb => ?_) <;> (have hb2 := hb; try simp only [z01] at hb2) <;> ((first | have F := eq_false hb2 | have F := eq_true hb2); (simp (disch := omega) only [go_sem, Nat.reduceBEq, ↓reduceIte, reduceCtorEq, Nat.reduceAdd, F]); clear hb F; (try (exfalso; omega)))))
      (refine zzl ?_); (simp (disch := omega) only [go_sem, Nat.reduceBEq, true_and])
      exact hmay
  subst pp0
  clear hmay c1 c4 c5 c6
  rcases (show x.kind = 0 \/ x.kind = 1 \/ x.kind = 2 \/ x.kind = 3 \/ x.kind = 4 \/ x.kind = 5 \/ x.kind = 6 \/ x.kind = 7 \/ x.kind = 8 \/ x.kind = 9 \/ x.kind = 10 \/ x.kind = 11 by omega) with h | h | h | h | h | h | h | h | h | h | h | h
  · have e : z4w x (x.by_.map zcx) = (inB x.wh 0 3 && (z6z x.unit && decide (x.unit = z6b x.unit) && (!decide (x.unit.kind = 0) && decide ((zsj x.unit).2 = 0)))) := by
      unfold z4w
      rw [if_pos (c := x.kind = 0) (by omega)]
    rw [e]
    have d0 := zvv x.unit u1 (by omega) (by omega)
    have d1 := z7l x.wh 0 3
    have d2 := z00h x.unit u1 (by omega) (by omega)
    have huk : (z0f x)[8]? = some (.int .i64 x.unit.kind) := by rw [z0b]; rfl
    generalize (z6z x.unit && decide (x.unit = z6b x.unit)) = B at d2 ⊢
    clear e
    repeat' (first | refine zqj ?_ | ((first | refine zqh fun K J => ?_ | refine zqs (d0) ?_ | refine zqs (d1) ?_ | refine zqs (d2) ?_); (simp (disch := omega) only [go_sem, Nat.reduceBEq, ↓reduceIte, reduceCtorEq, Nat.reduceAdd, Nat.reduceLeDiff, p1, pH0, h])) | ((refine zqm _ rfl (fun hc => ?_) (fun hc => ?_)) <;> (first | (cases hc; done) | ((try simp only [] at hc); (try (exfalso; omega))))) | refine zqa ?_ | refine zqn ?_ | refine zqx ?_ | refine z23 ?_ | refine zqu (by (simp (disch := omega) only [go_sem]); rfl) rfl ?_ | (refine J _ ?_; clear J K) | (refine zqf (fun hb => ?_) (fun hb => ?_) <;> (have hb2 := hb; try simp only [z01] at hb2) <;> ((first | have F : (_ : Bool) = _ := hb2 | have F := eq_false hb2 | have F := eq_true hb2); (simp (disch := omega) only [go_sem, Nat.reduceBEq, ↓reduceIte, reduceCtorEq, Nat.reduceAdd, Nat.reduceLeDiff, hb, F, p1, pH0, huk]); clear hb F; (try (exfalso; omega)))))
    all_goals first
      | exact z00 rfl
      | (refine z00 ?_; simp [*]; done)
      | skip
  · have e : z4w x (x.by_.map zcx) = (true) := by
      unfold z4w
      rw [if_neg (c := x.kind = 0) (by omega), if_neg (c := x.kind = 2) (by omega), if_neg (c := x.kind = 3) (by omega), if_neg (c := x.kind = 4) (by omega), if_neg (c := x.kind = 5) (by omega), if_neg (c := x.kind = 6) (by omega), if_neg (c := x.kind = 7 \/ x.kind = 8 \/ x.kind = 9) (by omega), if_neg (c := x.kind = 10) (by omega), if_neg (c := x.kind = 11) (by omega)]
    rw [e]
    repeat' (first | refine zqj ?_ | ((refine zqh fun K J => ?_); (simp (disch := omega) only [go_sem, Nat.reduceBEq, ↓reduceIte, reduceCtorEq, Nat.reduceAdd, Int.reduceEq, p1, pH0, h])) | ((first | refine zqd _ rfl (fun hc => ?_) (fun hc => ?_) | refine zqm _ rfl (fun hc => ?_) (fun hc => ?_)) <;> (first | (cases hc; done) | ((try simp only [] at hc); (try (exfalso; omega))))) | refine zqa ?_ | refine zqk ?_ | refine zqn ?_ | refine zqv ?_ | refine zqy ?_ | refine zqu (by (simp (disch := omega) only [go_sem]); rfl) rfl ?_ | (refine J _ ?_; clear J K))
    all_goals first
      | exact z00 rfl
      | (refine z00 ?_; simp [*]; done)
      | skip
  · have e : z4w x (x.by_.map zcx) = (zfg x.old && decide (1 <= x.old.length) && (zfg x.new && inB x.nth 0 256)) := by
      unfold z4w
      rw [if_neg (c := x.kind = 0) (by omega), if_pos (c := x.kind = 2) (by omega)]
    rw [e]
    have d0 := zaw x.old (by omega) (fun s hs => by have := a3' s hs; omega) 1
    have d1 := zaw x.new (by omega) (fun s hs => by have := a4' s hs; omega) 0
    have d2 := z7l x.nth 0 256
    have ll1 := a3
    have ll2 := a4
    have r0 : ∀ l : List ByteArray, decide ((0 : Int) <= (l.length : Int)) = true := fun l => decide_eq_true (by omega)
    have r1 : ∀ l : List ByteArray, decide ((1 : Int) <= (l.length : Int)) = decide (1 <= l.length) := fun l => decide_eq_decide.2 (by omega)
    simp only [r0, r1, Bool.and_true] at d0 d1
    clear e
    generalize (zfg x.old && decide (1 <= x.old.length)) = B at d0 ⊢
    repeat' (first | refine zqj ?_ | ((first | refine zqh fun K J => ?_ | refine zqs (d0) ?_ | refine zqs (d1) ?_ | refine zqs (d2) ?_); (simp (disch := omega) only [go_sem, Nat.reduceBEq, ↓reduceIte, reduceCtorEq, Nat.reduceAdd, Int.reduceEq, p1, pH0, h, z3b])) | ((refine zqm _ rfl (fun hc => ?_) (fun hc => ?_)) <;> (first | (cases hc; done) | ((try simp only [] at hc); (try (exfalso; omega))))) | refine zqa ?_ | refine zqn ?_ | refine zqx ?_ | refine z23 ?_ | refine zqu (by (simp (disch := omega) only [go_sem]); rfl) rfl ?_ | (refine J _ ?_; clear J K) | (refine zqf (fun hb => ?_) (fun hb => ?_) <;> (have hb2 := hb; try simp only [z01] at hb2) <;> ((have F : (_ : Bool) = _ := hb2); (simp (disch := omega) only [go_sem, Nat.reduceBEq, ↓reduceIte, reduceCtorEq, Nat.reduceAdd, hb, p1, pH0, z3b]); clear hb F; (try (exfalso; omega)))))
    all_goals first
      | exact z00 rfl
      | (refine z00 ?_; simp [*]; done)
      | skip
  · have e : z4w x (x.by_.map zcx) = (zfg x.old && (zfg x.new && decide (1 <= x.new.length) && (inB x.nth 0 256 && (decide (0 < x.old.length) || decide (x.nth = 0))))) := by
      unfold z4w
      rw [if_neg (c := x.kind = 0) (by omega), if_neg (c := x.kind = 2) (by omega), if_pos (c := x.kind = 3) (by omega)]
    rw [e]
    have d0 := zaw x.old (by omega) (fun s hs => by have := a3' s hs; omega) 0
    have d1 := zaw x.new (by omega) (fun s hs => by have := a4' s hs; omega) 1
    have d2 := z7l x.nth 0 256
    have ll1 := a3
    have ll2 := a4
    have r0 : ∀ l : List ByteArray, decide ((0 : Int) <= (l.length : Int)) = true := fun l => decide_eq_true (by omega)
    have r1 : ∀ l : List ByteArray, decide ((1 : Int) <= (l.length : Int)) = decide (1 <= l.length) := fun l => decide_eq_decide.2 (by omega)
    simp only [r0, r1, Bool.and_true] at d0 d1
    clear e
    generalize (zfg x.new && decide (1 <= x.new.length)) = B at d1 ⊢
    by_cases z : 0 < x.old.length
    · rw [decide_eq_true z, Bool.true_or]
      repeat' (first | refine zqj ?_ | ((first | refine zqh fun K J => ?_ | refine zqs (d0) ?_ | refine zqs (d1) ?_ | refine zqs (d2) ?_); (simp (disch := omega) only [go_sem, Nat.reduceBEq, ↓reduceIte, reduceCtorEq, Nat.reduceAdd, Int.reduceEq, p1, pH0, h, z3b])) | ((refine zqm _ rfl (fun hc => ?_) (fun hc => ?_)) <;> (first | (cases hc; done) | ((try simp only [] at hc); (try (exfalso; omega))))) | refine zqa ?_ | refine zqn ?_ | refine zqx ?_ | refine z23 ?_ | refine zqu (by (simp (disch := omega) only [go_sem]); rfl) rfl ?_ | (refine J _ ?_; clear J K) | (refine zqf (fun hb => ?_) (fun hb => ?_) <;> (have hb2 := hb; try simp only [z01] at hb2) <;> ((first | have F : (_ : Bool) = _ := hb2 | have F := eq_false hb2 | have F := eq_true hb2); (simp (disch := omega) only [go_sem, Nat.reduceBEq, ↓reduceIte, reduceCtorEq, Nat.reduceAdd, hb, F, p1, pH0, z3b]); clear hb F; (try (exfalso; omega)))))
      all_goals first
        | exact z00 rfl
        | (refine z00 ?_; simp [*]; done)
        | skip
    · rw [decide_eq_false z, Bool.false_or]
      repeat' (first | refine zqj ?_ | ((first | refine zqh fun K J => ?_ | refine zqs (d0) ?_ | refine zqs (d1) ?_ | refine zqs (d2) ?_); (simp (disch := omega) only [go_sem, Nat.reduceBEq, ↓reduceIte, reduceCtorEq, Nat.reduceAdd, Int.reduceEq, p1, pH0, h, z3b])) | ((refine zqm _ rfl (fun hc => ?_) (fun hc => ?_)) <;> (first | (cases hc; done) | ((try simp only [] at hc); (try (exfalso; omega))))) | refine zqa ?_ | refine zqn ?_ | refine zqx ?_ | refine z23 ?_ | refine zqu (by (simp (disch := omega) only [go_sem]); rfl) rfl ?_ | (refine J _ ?_; clear J K) | (refine zqf (fun hb => ?_) (fun hb => ?_) <;> (have hb2 := hb; try simp only [z01] at hb2) <;> ((first | have F : (_ : Bool) = _ := hb2 | have F := eq_false hb2 | have F := eq_true hb2); (simp (disch := omega) only [go_sem, Nat.reduceBEq, ↓reduceIte, reduceCtorEq, Nat.reduceAdd, hb, F, p1, pH0, z3b]); clear hb F; (try (exfalso; omega)))))
      all_goals first
        | exact z00 rfl
        | (refine z00 ?_; simp [*]; done)
        | skip
  · have e : z4w x (x.by_.map zcx) = (zfg x.new) := by
      unfold z4w
      rw [if_neg (c := x.kind = 0) (by omega), if_neg (c := x.kind = 2) (by omega), if_neg (c := x.kind = 3) (by omega), if_pos (c := x.kind = 4) (by omega)]
    rw [e]
    have d0 := zaw x.new (by omega) (fun s hs => by have := a4' s hs; omega) 0
    have ll1 := a3
    have ll2 := a4
    have r0 : ∀ l : List ByteArray, decide ((0 : Int) <= (l.length : Int)) = true := fun l => decide_eq_true (by omega)
    have r1 : ∀ l : List ByteArray, decide ((1 : Int) <= (l.length : Int)) = decide (1 <= l.length) := fun l => decide_eq_decide.2 (by omega)
    simp only [r0, Bool.and_true] at d0
    clear e
    repeat' (first | refine zqj ?_ | ((first | refine zqh fun K J => ?_ | refine zqs (d0) ?_); (simp (disch := omega) only [go_sem, Nat.reduceBEq, ↓reduceIte, reduceCtorEq, Nat.reduceAdd, Int.reduceEq, p1, pH0, h, z3b])) | ((refine zqm _ rfl (fun hc => ?_) (fun hc => ?_)) <;> (first | (cases hc; done) | ((try simp only [] at hc); (try (exfalso; omega))))) | refine zqa ?_ | refine zqn ?_ | refine zqx ?_ | refine z23 ?_ | refine zqu (by (simp (disch := omega) only [go_sem]); rfl) rfl ?_ | (refine J _ ?_; clear J K))
    all_goals first
      | exact z00 rfl
      | (refine z00 ?_; simp [*]; done)
      | skip
  · have e : z4w x (x.by_.map zcx) = (z3c x.label) := by
      unfold z4w
      rw [if_neg (c := x.kind = 0) (by omega), if_neg (c := x.kind = 2) (by omega), if_neg (c := x.kind = 3) (by omega), if_neg (c := x.kind = 4) (by omega), if_pos (c := x.kind = 5) (by omega)]
    rw [e]
    have d0 := zd5 x.label (by omega)
    repeat' (first | refine zqj ?_ | ((first | refine zqh fun K J => ?_ | refine zqs (d0) ?_); (simp (disch := omega) only [go_sem, Nat.reduceBEq, ↓reduceIte, reduceCtorEq, Nat.reduceAdd, Int.reduceEq, p1, pH0, h])) | ((refine zqm _ rfl (fun hc => ?_) (fun hc => ?_)) <;> (first | (cases hc; done) | ((try simp only [] at hc); (try (exfalso; omega))))) | refine zqa ?_ | refine zqn ?_ | refine zqx ?_ | refine z23 ?_ | refine zqu (by (simp (disch := omega) only [go_sem]); rfl) rfl ?_ | (refine J _ ?_; clear J K))
    all_goals first
      | exact z00 rfl
      | (refine z00 ?_; simp [*]; done)
      | skip
  · have e : z4w x (x.by_.map zcx) = (inB x.wh 0 3 && z7c x.to) := by
      unfold z4w
      rw [if_neg (c := x.kind = 0) (by omega), if_neg (c := x.kind = 2) (by omega), if_neg (c := x.kind = 3) (by omega), if_neg (c := x.kind = 4) (by omega), if_neg (c := x.kind = 5) (by omega), if_pos (c := x.kind = 6) (by omega)]
    rw [e]
    have d0 := z7l x.wh 0 3
    have d1 := ztc x.to (by omega) fun s hs => by have := a2' s hs; omega
    repeat' (first | refine zqj ?_ | ((first | refine zqh fun K J => ?_ | refine zqs (d0) ?_ | refine zqs (d1) ?_); (simp (disch := omega) only [go_sem, Nat.reduceBEq, ↓reduceIte, reduceCtorEq, Nat.reduceAdd, Int.reduceEq, p1, pH0, h])) | ((refine zqm _ rfl (fun hc => ?_) (fun hc => ?_)) <;> (first | (cases hc; done) | ((try simp only [] at hc); (try (exfalso; omega))))) | refine zqa ?_ | refine zqn ?_ | refine zqx ?_ | refine z23 ?_ | refine zqu (by (simp (disch := omega) only [go_sem]); rfl) rfl ?_ | (refine J _ ?_; clear J K) | (refine zqf (fun hb => ?_) (fun hb => ?_) <;> (have hb2 := hb; try simp only [z01] at hb2) <;> ((have F : (_ : Bool) = _ := hb2); (simp (disch := omega) only [go_sem, Nat.reduceBEq, ↓reduceIte, reduceCtorEq, Nat.reduceAdd, hb, p1, pH0]); clear hb F; (try (exfalso; omega)))))
    all_goals first
      | exact z00 rfl
      | (refine z00 ?_; simp [*]; done)
      | skip
  · have e : z4w x (x.by_.map zcx) = (inB x.act 1 1048576 && (inB x.item (-1) 31 && inB x.day 0 1048576)) := by
      unfold z4w
      rw [if_neg (c := x.kind = 0) (by omega), if_neg (c := x.kind = 2) (by omega), if_neg (c := x.kind = 3) (by omega), if_neg (c := x.kind = 4) (by omega), if_neg (c := x.kind = 5) (by omega), if_neg (c := x.kind = 6) (by omega), if_pos (c := x.kind = 7 \/ x.kind = 8 \/ x.kind = 9) (by omega)]
    rw [e]
    have d0 := z7l x.act 1 1048576
    have d1 := z7l x.item (-1) 31
    have d2 := z7l x.day 0 1048576
    repeat' (first | refine zqj ?_ | ((first | refine zqh fun K J => ?_ | refine zqs (d0) ?_ | refine zqs (d1) ?_ | refine zqs (d2) ?_); (simp (disch := omega) only [go_sem, Nat.reduceBEq, ↓reduceIte, reduceCtorEq, Nat.reduceAdd, Int.reduceEq, p1, pH0, h])) | ((first | refine zqd _ rfl (fun hc => ?_) (fun hc => ?_) | refine zqm _ rfl (fun hc => ?_) (fun hc => ?_)) <;> (first | (cases hc; done) | ((try simp only [] at hc); (try (exfalso; omega))))) | refine zqa ?_ | refine zqb ?_ | refine zqn ?_ | refine zqx ?_ | refine z23 ?_ | refine zqu (by (simp (disch := omega) only [go_sem]); rfl) rfl ?_ | (refine J _ ?_; clear J K) | (refine zqf (fun hb => ?_) (fun hb => ?_) <;> (have hb2 := hb; try simp only [z01] at hb2) <;> ((have F : (_ : Bool) = _ := hb2); (simp (disch := omega) only [go_sem, Nat.reduceBEq, ↓reduceIte, reduceCtorEq, Nat.reduceAdd, hb, p1, pH0]); clear hb F; (try (exfalso; omega)))))
    all_goals first
      | exact z00 rfl
      | (refine z00 ?_; simp [*]; done)
      | skip
  · have e : z4w x (x.by_.map zcx) = (inB x.act 1 1048576 && (inB x.item (-1) 31 && inB x.day 0 1048576)) := by
      unfold z4w
      rw [if_neg (c := x.kind = 0) (by omega), if_neg (c := x.kind = 2) (by omega), if_neg (c := x.kind = 3) (by omega), if_neg (c := x.kind = 4) (by omega), if_neg (c := x.kind = 5) (by omega), if_neg (c := x.kind = 6) (by omega), if_pos (c := x.kind = 7 \/ x.kind = 8 \/ x.kind = 9) (by omega)]
    rw [e]
    have d0 := z7l x.act 1 1048576
    have d1 := z7l x.item (-1) 31
    have d2 := z7l x.day 0 1048576
    repeat' (first | refine zqj ?_ | ((first | refine zqh fun K J => ?_ | refine zqs (d0) ?_ | refine zqs (d1) ?_ | refine zqs (d2) ?_); (simp (disch := omega) only [go_sem, Nat.reduceBEq, ↓reduceIte, reduceCtorEq, Nat.reduceAdd, Int.reduceEq, p1, pH0, h])) | ((first | refine zqd _ rfl (fun hc => ?_) (fun hc => ?_) | refine zqm _ rfl (fun hc => ?_) (fun hc => ?_)) <;> (first | (cases hc; done) | ((try simp only [] at hc); (try (exfalso; omega))))) | refine zqa ?_ | refine zqb ?_ | refine zqn ?_ | refine zqx ?_ | refine z23 ?_ | refine zqu (by (simp (disch := omega) only [go_sem]); rfl) rfl ?_ | (refine J _ ?_; clear J K) | (refine zqf (fun hb => ?_) (fun hb => ?_) <;> (have hb2 := hb; try simp only [z01] at hb2) <;> ((have F : (_ : Bool) = _ := hb2); (simp (disch := omega) only [go_sem, Nat.reduceBEq, ↓reduceIte, reduceCtorEq, Nat.reduceAdd, hb, p1, pH0]); clear hb F; (try (exfalso; omega)))))
    all_goals first
      | exact z00 rfl
      | (refine z00 ?_; simp [*]; done)
      | skip
  · have e : z4w x (x.by_.map zcx) = (inB x.act 1 1048576 && (inB x.item (-1) 31 && inB x.day 0 1048576)) := by
      unfold z4w
      rw [if_neg (c := x.kind = 0) (by omega), if_neg (c := x.kind = 2) (by omega), if_neg (c := x.kind = 3) (by omega), if_neg (c := x.kind = 4) (by omega), if_neg (c := x.kind = 5) (by omega), if_neg (c := x.kind = 6) (by omega), if_pos (c := x.kind = 7 \/ x.kind = 8 \/ x.kind = 9) (by omega)]
    rw [e]
    have d0 := z7l x.act 1 1048576
    have d1 := z7l x.item (-1) 31
    have d2 := z7l x.day 0 1048576
    repeat' (first | refine zqj ?_ | ((first | refine zqh fun K J => ?_ | refine zqs (d0) ?_ | refine zqs (d1) ?_ | refine zqs (d2) ?_); (simp (disch := omega) only [go_sem, Nat.reduceBEq, ↓reduceIte, reduceCtorEq, Nat.reduceAdd, Int.reduceEq, p1, pH0, h])) | ((first | refine zqd _ rfl (fun hc => ?_) (fun hc => ?_) | refine zqm _ rfl (fun hc => ?_) (fun hc => ?_)) <;> (first | (cases hc; done) | ((try simp only [] at hc); (try (exfalso; omega))))) | refine zqa ?_ | refine zqn ?_ | refine zqx ?_ | refine z23 ?_ | refine zqu (by (simp (disch := omega) only [go_sem]); rfl) rfl ?_ | (refine J _ ?_; clear J K) | (refine zqf (fun hb => ?_) (fun hb => ?_) <;> (have hb2 := hb; try simp only [z01] at hb2) <;> ((have F : (_ : Bool) = _ := hb2); (simp (disch := omega) only [go_sem, Nat.reduceBEq, ↓reduceIte, reduceCtorEq, Nat.reduceAdd, hb, p1, pH0]); clear hb F; (try (exfalso; omega)))))
    all_goals first
      | exact z00 rfl
      | (refine z00 ?_; simp [*]; done)
      | skip
  · have e : z4w x (x.by_.map zcx) = (ze5 x.event && inB x.day 0 1048576) := by
      unfold z4w
      rw [if_neg (c := x.kind = 0) (by omega), if_neg (c := x.kind = 2) (by omega), if_neg (c := x.kind = 3) (by omega), if_neg (c := x.kind = 4) (by omega), if_neg (c := x.kind = 5) (by omega), if_neg (c := x.kind = 6) (by omega), if_neg (c := x.kind = 7 \/ x.kind = 8 \/ x.kind = 9) (by omega), if_pos (c := x.kind = 10) (by omega)]
    rw [e]
    have d0 := zel x.event (by omega)
    have d1 := z7l x.day 0 1048576
    repeat' (first | refine zqj ?_ | ((first | refine zqh fun K J => ?_ | refine zqs (d0) ?_ | refine zqs (d1) ?_); (simp (disch := omega) only [go_sem, Nat.reduceBEq, ↓reduceIte, reduceCtorEq, Nat.reduceAdd, Int.reduceEq, p1, pH0, h])) | ((first | refine zqd _ rfl (fun hc => ?_) (fun hc => ?_) | refine zqm _ rfl (fun hc => ?_) (fun hc => ?_)) <;> (first | (cases hc; done) | ((try simp only [] at hc); (try (exfalso; omega))))) | refine zqa ?_ | refine zqn ?_ | refine zqx ?_ | refine z23 ?_ | refine zqu (by (simp (disch := omega) only [go_sem]); rfl) rfl ?_ | (refine J _ ?_; clear J K) | (refine zqf (fun hb => ?_) (fun hb => ?_) <;> (have hb2 := hb; try simp only [z01] at hb2) <;> ((have F : (_ : Bool) = _ := hb2); (simp (disch := omega) only [go_sem, Nat.reduceBEq, ↓reduceIte, reduceCtorEq, Nat.reduceAdd, hb, p1, pH0]); clear hb F; (try (exfalso; omega)))))
    all_goals first
      | exact z00 rfl
      | (refine z00 ?_; simp [*]; done)
      | skip
  · have e : z4w x (x.by_.map zcx) = (inB x.act 1 1048576 && (inB x.item 0 31 && (decide (x.by_.length = 1) && ((x.by_.all fun y => inB y.kind 0 6) && (x.by_.map zcx).all id)))) := by
      unfold z4w
      rw [if_neg (c := x.kind = 0) (by omega), if_neg (c := x.kind = 2) (by omega), if_neg (c := x.kind = 3) (by omega), if_neg (c := x.kind = 4) (by omega), if_neg (c := x.kind = 5) (by omega), if_neg (c := x.kind = 6) (by omega), if_neg (c := x.kind = 7 \/ x.kind = 8 \/ x.kind = 9) (by omega), if_neg (c := x.kind = 10) (by omega), if_pos (c := x.kind = 11) (by omega)]
    rw [e]
    have d0 := z7l x.act 1 1048576
    have d1 := z7l x.item 0 31
    cases hbn : x.by_ with
    | nil =>
      repeat' (first | refine zqj ?_ | ((first | refine zqh fun K J => ?_ | refine zqs (d0) ?_ | refine zqs (d1) ?_); (simp (disch := omega) only [go_sem, Nat.reduceBEq, ↓reduceIte, reduceCtorEq, Nat.reduceAdd, Int.reduceEq, p1, pH0, h, List.map_nil])) | ((first | refine zqd _ rfl (fun hc => ?_) (fun hc => ?_) | refine zqm _ rfl (fun hc => ?_) (fun hc => ?_)) <;> (first | (cases hc; done) | ((try simp only [] at hc); (try (exfalso; omega))))) | refine zqa ?_ | refine zqn ?_ | refine zqx ?_ | refine z23 ?_ | refine zqu (by (simp (disch := omega) only [go_sem, Nat.reduceBEq, ↓reduceIte]); rfl) rfl ?_ | (refine J _ ?_; clear J K) | (refine zqf (fun hb => ?_) (fun hb => ?_) <;> (have hb2 := hb; try simp only [z01] at hb2) <;> ((have F : (_ : Bool) = _ := hb2); (simp (disch := omega) only [go_sem, Nat.reduceBEq, ↓reduceIte, reduceCtorEq, Nat.reduceAdd, hb, p1, pH0, z2i, hbn, List.length_nil, List.map_nil]); clear hb F; (try (exfalso; omega)))))
      all_goals first
        | exact z00 rfl
        | (refine z00 ?_; simp [*]; done)
        | skip
    | cons y l =>
      have d2 := z7l y.kind 0 6
      have d3 := ih y (by rw [hbn]; simp) (O y (by rw [hbn]; simp))
      have hln : x.by_.length = l.length + 1 := by rw [hbn]; rfl
      clear e hb
      cases l with
      | nil =>
        simp only [List.length_cons, List.length_nil, List.all_cons, List.all_nil, List.map_cons, List.map_nil, Bool.and_true, id_eq]
        repeat' (first | refine zqj ?_ | ((first | refine zqh fun K J => ?_ | refine zqs (d0) ?_ | refine zqs (d1) ?_ | refine zqs (d2) ?_ | refine zqs (d3) ?_); (simp (disch := omega) only [go_sem, Nat.reduceBEq, ↓reduceIte, reduceCtorEq, Nat.reduceAdd, Int.reduceEq, p1, pH0, h, List.map_cons, List.map_nil])) | ((first | refine zqd _ rfl (fun hc => ?_) (fun hc => ?_) | refine zqm _ rfl (fun hc => ?_) (fun hc => ?_)) <;> (first | (cases hc; done) | ((try simp only [] at hc); (try (exfalso; omega))))) | refine zqa ?_ | refine zqn ?_ | refine zqx ?_ | refine z23 ?_ | refine zqu (by (simp (disch := omega) only [go_sem]); rfl) rfl ?_ | (refine J _ ?_; clear J K) | (refine zqf (fun hb => ?_) (fun hb => ?_) <;> (have hb2 := hb; try simp only [z01] at hb2) <;> ((first | have F : (_ : Bool) = _ := hb2 | have F := eq_false hb2 | have F := eq_true hb2); (simp (disch := omega) only [go_sem, Nat.reduceBEq, ↓reduceIte, reduceCtorEq, Nat.reduceAdd, hb, F, p1, pH0, z2i, hbn, zln, List.length_cons, List.length_nil, List.map_cons, List.map_nil]); clear hb F; (try (exfalso; omega)))))
        all_goals first
          | exact z00 rfl
          | (refine z00 ?_; simp [*]; done)
          | skip
      | cons z l =>
        rw [decide_eq_false (p := (y :: z :: l).length = 1) (by simp only [List.length_cons]; omega), Bool.false_and]
        have hl2 : (z :: l).length = l.length + 1 := rfl
        have hl1 : (y :: z :: l).length = l.length + 2 := rfl
        repeat' (first | refine zqj ?_ | ((first | refine zqh fun K J => ?_ | refine zqs (d0) ?_ | refine zqs (d1) ?_); (simp (disch := omega) only [go_sem, Nat.reduceBEq, ↓reduceIte, reduceCtorEq, Nat.reduceAdd, Int.reduceEq, p1, pH0, h, List.map_cons])) | ((first | refine zqd _ rfl (fun hc => ?_) (fun hc => ?_) | refine zqm _ rfl (fun hc => ?_) (fun hc => ?_)) <;> (first | (cases hc; done) | ((try simp only [] at hc); (try (exfalso; omega))))) | refine zqa ?_ | refine zqn ?_ | refine zqx ?_ | refine z23 ?_ | refine zqu (by (simp (disch := omega) only [go_sem, Nat.reduceBEq, ↓reduceIte]); rfl) rfl ?_ | (refine J _ ?_; clear J K) | (refine zqf (fun hb => ?_) (fun hb => ?_) <;> (have hb2 := hb; try simp only [z01] at hb2) <;> ((have F : (_ : Bool) = _ := hb2); (simp (disch := omega) only [go_sem, Nat.reduceBEq, ↓reduceIte, reduceCtorEq, Nat.reduceAdd, hb, p1, pH0, z2i, hbn, List.map_cons]); clear hb F; (try (exfalso; omega)))))
        all_goals first
          | exact z00 rfl
          | (refine z00 ?_; simp [*]; done)
          | (exfalso; omega)
          | skip
end
section
open Abs Facts Tr
attribute [local irreducible] awp
set_option maxRecDepth 100000
theorem zs6 (k : Int) : PC Tryz.prog 28 [.int .i64 k] (.bool (decide (0 <= k /\ k <= 6))) := by
 refine z1y 1 rfl rfl (z1v [] Tryz.func28 rfl (by decide +kernel) z0i (by decide +kernel) (by simp [Tryz.ntmps28]) ?_)
 show awp _ _ (Code.seq _ _) _ _
 repeat' (first | ((refine zqh fun K J => ?_); (simp (disch := omega) only [go_sem, Nat.reduceBEq, ↓reduceIte])) | refine zqn ?_ | refine zqu (by (simp (disch := omega) only [go_sem]); rfl) rfl ?_ | (refine J _ ?_; clear J K) | (refine zqf (fun hb => ?_) (fun hb => ?_) <;> (have hb2 := hb; try simp only [z01] at hb2) <;> ((first | have F := eq_false hb2 | have F := eq_true hb2); (simp (disch := omega) only [go_sem, Nat.reduceBEq, ↓reduceIte, F]); clear hb F; (try (exfalso; omega)))))
 all_goals first | exact z00 (decide_eq_true (by omega)).symm | exact z00 (decide_eq_false (by omega)).symm | exact z00 (decide_eq_decide.2 (by omega))
theorem zon (u : T) (hf : fitB u = true) (most : Int) (h0 : 0 <= most) (h1 : most <= 1000) : PC Tryz.prog 5 [z25 u, .int .i64 most] (.bool (zvg u most)) := by
 have c1 := zz5 u hf most h0 h1
 refine z1y 1 (by simp only [pureD.pureL, z05, pureD, Bool.and_self]) rfl (z1v [] Tryz.func5 rfl (by decide +kernel) z0i (by decide +kernel) (by simp [Tryz.ntmps5]) ?_)
 show awp _ _ (Code.seq _ _) _ _
 unfold zvg
 by_cases hfw : zz4 u most = true
 case neg =>
  rw [Bool.not_eq_true] at hfw
  rw [hfw] at c1 ⊢
  repeat' (first | ((first | refine zqh fun K J => ?_ | refine zqe (by decide +kernel) fun K J => ?_ | refine zqt (c1) ?_); (simp (disch := omega) only [go_sem, Nat.reduceBEq, ↓reduceIte, Nat.reduceAdd, Nat.reduceLeDiff])) | refine zqn ?_ | refine zqu (by (simp (disch := omega) only [go_sem]); rfl) rfl ?_ | (refine J _ ?_; clear J K))
  exact z00 rfl
 obtain ⟨z1, z2, z3⟩ := zzm h0 h1 hfw
 have c2 := zzn u z1 (by omega) (by omega)
 rw [hfw] at c1 ⊢
 rw [Bool.true_and]
 have hl := ((z2e u).1 z1).2.2.2.2.2.1
 have hz : Int.toNat 0 = 0 := rfl
 cases hkn : u.kids with
 | nil =>
  repeat' (first | ((first | refine zqh fun K J => ?_ | refine zqe (by decide +kernel) fun K J => ?_ | refine zqt (c1) ?_ | refine zqt (c2) ?_); (simp (disch := omega) only [go_sem, Nat.reduceBEq, ↓reduceIte, reduceCtorEq, Nat.reduceAdd, Nat.reduceLeDiff, List.map_nil])) | refine zqn ?_ | refine zqu (by (simp (disch := omega) only [go_sem, Nat.reduceBEq, ↓reduceIte]); rfl) rfl ?_ | (refine J _ ?_; clear J K) | (refine zqf (fun hb => ?_) (fun hb => ?_) <;> (have hb2 := hb; try simp only [z01] at hb2) <;> ((first | have F : (_ : Bool) = _ := hb2 | have F := eq_false hb2 | have F := eq_true hb2); (simp (disch := omega) only [go_sem, Nat.reduceBEq, ↓reduceIte, reduceCtorEq, Nat.reduceAdd, Nat.reduceLeDiff, hb, F, z10, hkn, List.length_nil, List.map_nil]); clear hb F; (try (exfalso; omega)))))
  all_goals first
   | exact z00 rfl
   | (refine z00 ?_; simp [*]; done)
 | cons k l =>
  repeat' (first | ((first | refine zqh fun K J => ?_ | refine zqe (by decide +kernel) fun K J => ?_ | refine zqt (c1) ?_ | refine zqt (c2) ?_); (simp (disch := omega) only [go_sem, Nat.reduceBEq, ↓reduceIte, reduceCtorEq, Nat.reduceAdd, Nat.reduceLeDiff, List.map_cons])) | refine zqn ?_ | refine zqu (by (simp (disch := omega) only [go_sem]); rfl) rfl ?_ | (refine J _ ?_; clear J K) | (refine zqf (fun hb => ?_) (fun hb => ?_) <;> (have hb2 := hb; try simp only [z01] at hb2) <;> ((first | have F : (_ : Bool) = _ := hb2 | have F := eq_false hb2 | have F := eq_true hb2); (simp (disch := omega) only [go_sem, Nat.reduceBEq, ↓reduceIte, reduceCtorEq, Nat.reduceAdd, Nat.reduceLeDiff, hb, F, z10, hkn, zln, List.length_cons, List.map_cons]); clear hb F; (try (exfalso; omega)))))
  all_goals first
   | exact z00 rfl
   | (refine z00 ?_; simp [*]; done)
namespace Tr
end Tr
end
section
open Abs Facts Tr
attribute [local irreducible] awp
set_option maxRecDepth 100000
set_option maxHeartbeats 16000000 in
theorem zwk : ∀ x : It, RdI x -> PC Tryz.prog 24 [z8u x] (.bool (zi1 x)) := by
  refine zm7 fun x ih hx => ?_
  obtain ⟨⟨⟨a1, _⟩, ⟨a2, _⟩, ⟨a3, _⟩, ⟨a4, _⟩, a5, a6, a7, a8, a9, a10⟩, O⟩ := (zhr x).1 hx
  have c1 := zz5 x.unit a6 30 (by decide) (by decide)
  unfold maxLen at a1 a2 a3 a4 a5 a7 a8 a9 a10
  refine z1y 1 (by simp only [pureD.pureL, z2v, Bool.and_self]) rfl (z1v [] Tryz.func24 rfl (by decide +kernel) z0i (by decide +kernel) (by simp [Tryz.ntmps24]) ?_)
  show awp _ _ (Code.seq _ _) _ _
  have hno : fewN x = false -> zi1 x = false := fun h => by rw [zmf, h, Bool.false_and]
  repeat' (first | refine zqj ?_ | ((first | refine z03 (N := 3) rfl fun K J => ?_ | refine zqs (c1) ?_); (simp (disch := omega) only [go_sem, Nat.reduceBEq, ↓reduceIte, reduceCtorEq, Nat.reduceAdd, z0a])) | ((refine zqd _ rfl (fun hc => ?_) (fun hc => ?_)) <;> (first | (cases hc; done) | ((try simp only [z01] at hc); (try (exfalso; omega))))) | refine zqb ?_ | refine zqg ?_ | refine zqu (by (simp (disch := omega) only [go_sem]); rfl) rfl ?_ | (refine J _ ?_; clear J K) | (refine zqf (fun hb => ?_) (fun hb => ?_) <;> (have hb2 := hb; try simp only [z01] at hb2) <;> ((first | have F := eq_false hb2 | have F := eq_true hb2); (simp (disch := omega) only [go_sem, Nat.reduceBEq, ↓reduceIte, reduceCtorEq, Nat.reduceAdd, Nat.reduceLeDiff, F, z0a, z3b, z2i]); clear hb F; (try (exfalso; omega)))))
  all_goals first
    | (refine z00 (hno ?_).symm
       unfold fewN
       simp only [Bool.and_eq_false_imp, decide_eq_true_eq]
       intros
       first | omega | assumption)
    | skip
  have hN : fewN x = true := by
    unfold fewN
    simp only [Bool.and_eq_true, decide_eq_true_eq]
    exact ⟨by omega, by omega, by omega, by omega, by omega, by omega, by omega, by omega, by omega, by assumption⟩
  rw [zmf, hN, Bool.true_and]
  (refine z1o (fun st => st.t 1 = .ptr 0 0 /\ st.H 0 = some (.box 43 (z0f x)) /\ st.nx = 1) ?_ ?_); rotate_left; (rintro st ⟨p1, pH0, pnx⟩); rotate_left
  · (simp (disch := omega) only [go_sem, Nat.reduceBEq, and_self])
  repeat' (first | ((refine zqh fun K J => ?_); (simp (disch := omega) only [go_sem, pnx])) | refine zqa ?_ | (refine J _ ?_; clear J K))
  (refine z3h (fun U st => ∃ (k : _), U = x.old.length - k /\ st.t 1 = .ptr 0 0 /\ st.t 3 = .int .i64 k /\ st.H 0 = some (.box 43 (z0f x)) /\ st.nx = 1 /\ (k <= x.old.length) /\ ((x.old.take k).all (fun s => decide (s.size <= 100)) = true)) ?_ ?_); rotate_left; (rintro U st ⟨k, rfl, q1, q3, qH0, qnx, qp0, qp1⟩); rotate_left
  · (refine ⟨_, 0, rfl, ?_⟩); (simp (disch := omega) only [go_sem, Nat.reduceBEq, p1, pH0, true_and, Int.natCast_zero])
    try simp
  by_cases hk0 : k < x.old.length
  · repeat' (first | refine zqj ?_ | ((first | refine zqh fun K J => ?_ | refine zqr fun K J => ?_); (simp (disch := omega) only [go_sem, Nat.reduceBEq, ↓reduceIte, reduceCtorEq, Nat.reduceAdd, q1, q3, qH0, qnx, z3b])) | ((first | refine zqd _ rfl (fun hc => ?_) (fun hc => ?_) | refine zqm _ rfl (fun hc => ?_) (fun hc => ?_)) <;> (((try simp only [z01] at hc); (try (exfalso; omega))))) | refine zqa ?_ | refine zqb ?_ | refine zqk ?_ | refine zqn ?_ | refine zqv ?_ | refine zqx ?_ | refine zqy ?_ | refine z23 ?_ | refine zqo ?_ | refine zqu (by (simp (disch := omega) only [go_sem]); rfl) rfl ?_ | (refine J _ ?_; clear J K))
    · refine z00 ?_
      rw [show shS x.old = false from z3r (k := k) hk0 (decide_eq_false (by omega)), Bool.false_and]
    · (refine Exists.intro _ (And.intro ?_ ⟨k + 1, rfl, ?_⟩)); rotate_left; (simp (disch := omega) only [go_sem, Nat.reduceBEq, q1, q3, qH0, true_and, Int.natCast_add, Int.natCast_one]); rotate_left
      · omega
      · exact ⟨by omega, z2f hk0 qp1 (decide_eq_true (by omega))⟩
  rw [show shS x.old = true from z2l hk0 qp1, Bool.true_and]
  repeat' (first | refine zqj ?_ | ((refine zqh fun K J => ?_); (simp (disch := omega) only [go_sem, Nat.reduceBEq, ↓reduceIte, reduceCtorEq, Nat.reduceAdd, q1, q3, qH0, qnx, z3b])) | ((refine zqd _ rfl (fun hc => ?_) (fun hc => ?_)) <;> (((try simp only [z01] at hc); (try (exfalso; omega))))) | refine zqa ?_ | refine zqc ?_ | refine zqv ?_ | refine zqz ?_ | refine zqp ?_ | (refine J _ ?_; clear J K))
  (refine z3h (fun U st => ∃ (k : _), U = x.new.length - k /\ st.t 1 = .ptr 0 0 /\ st.t 4 = .int .i64 k /\ st.H 0 = some (.box 43 (z0f x)) /\ st.nx = 1 /\ (k <= x.new.length) /\ ((x.new.take k).all (fun s => decide (s.size <= 100)) = true)) ?_ ?_); rotate_left; (rintro U st ⟨k, rfl, r1, r4, rH0, rnx, rp0, rp1⟩); rotate_left
  · (refine ⟨_, 0, rfl, ?_⟩); (simp (disch := omega) only [go_sem, Nat.reduceBEq, q1, qH0, true_and, Int.natCast_zero])
    try simp
  by_cases hk1 : k < x.new.length
  · repeat' (first | refine zqj ?_ | ((first | refine zqh fun K J => ?_ | refine zqr fun K J => ?_); (simp (disch := omega) only [go_sem, Nat.reduceBEq, ↓reduceIte, reduceCtorEq, Nat.reduceAdd, r1, r4, rH0, rnx, z3b])) | ((first | refine zqd _ rfl (fun hc => ?_) (fun hc => ?_) | refine zqm _ rfl (fun hc => ?_) (fun hc => ?_)) <;> (((try simp only [z01] at hc); (try (exfalso; omega))))) | refine zqa ?_ | refine zqb ?_ | refine zqk ?_ | refine zqn ?_ | refine zqv ?_ | refine zqx ?_ | refine zqy ?_ | refine z23 ?_ | refine zqo ?_ | refine zqu (by (simp (disch := omega) only [go_sem]); rfl) rfl ?_ | (refine J _ ?_; clear J K))
    · refine z00 ?_
      rw [show shS x.new = false from z3r (k := k) hk1 (decide_eq_false (by omega)), Bool.false_and]
    · (refine Exists.intro _ (And.intro ?_ ⟨k + 1, rfl, ?_⟩)); rotate_left; (simp (disch := omega) only [go_sem, Nat.reduceBEq, r1, r4, rH0, true_and, Int.natCast_add, Int.natCast_one]); rotate_left
      · omega
      · exact ⟨by omega, z2f hk1 rp1 (decide_eq_true (by omega))⟩
  rw [show shS x.new = true from z2l hk1 rp1, Bool.true_and]
  repeat' (first | refine zqj ?_ | ((refine zqh fun K J => ?_); (simp (disch := omega) only [go_sem, Nat.reduceBEq, ↓reduceIte, reduceCtorEq, Nat.reduceAdd, r1, r4, rH0, rnx, z3b])) | ((refine zqd _ rfl (fun hc => ?_) (fun hc => ?_)) <;> (((try simp only [z01] at hc); (try (exfalso; omega))))) | refine zqa ?_ | refine zqc ?_ | refine zqv ?_ | refine zqz ?_ | refine zqp ?_ | (refine J _ ?_; clear J K))
  (refine z3h (fun U st => ∃ (k : _), U = x.at_.length - k /\ st.t 1 = .ptr 0 0 /\ st.t 5 = .int .i64 k /\ st.H 0 = some (.box 43 (z0f x)) /\ st.nx = 1 /\ (k <= x.at_.length) /\ ((x.at_.take k).all (fun s => decide (s.label.size <= 100)) = true)) ?_ ?_); rotate_left; (rintro U st ⟨k, rfl, u1, u5, uH0, unx, up0, up1⟩); rotate_left
  · (refine ⟨_, 0, rfl, ?_⟩); (simp (disch := omega) only [go_sem, Nat.reduceBEq, r1, rH0, true_and, Int.natCast_zero])
    try simp
  by_cases hk2 : k < x.at_.length
  · repeat' (first | refine zqj ?_ | ((first | refine zqh fun K J => ?_ | refine zqr fun K J => ?_); (simp (disch := omega) only [go_sem, Nat.reduceBEq, ↓reduceIte, reduceCtorEq, Nat.reduceAdd, u1, u5, uH0, unx, z0a])) | ((first | refine zqd _ rfl (fun hc => ?_) (fun hc => ?_) | refine zqm _ rfl (fun hc => ?_) (fun hc => ?_)) <;> (((try simp only [z01] at hc); (try (exfalso; omega))))) | refine zqa ?_ | refine zqb ?_ | refine zqk ?_ | refine zqn ?_ | refine zqv ?_ | refine zqx ?_ | refine zqy ?_ | refine z23 ?_ | refine zqo ?_ | refine zqu (by (simp (disch := omega) only [go_sem]); rfl) rfl ?_ | (refine J _ ?_; clear J K))
    · refine z00 ?_
      rw [show shP x.at_ = false from z3r (k := k) hk2 (decide_eq_false (by omega)), Bool.false_and]
    · (refine Exists.intro _ (And.intro ?_ ⟨k + 1, rfl, ?_⟩)); rotate_left; (simp (disch := omega) only [go_sem, Nat.reduceBEq, u1, u5, uH0, true_and, Int.natCast_add, Int.natCast_one]); rotate_left
      · omega
      · exact ⟨by omega, z2f hk2 up1 (decide_eq_true (by omega))⟩
  rw [show shP x.at_ = true from z2l hk2 up1, Bool.true_and]
  repeat' (first | refine zqj ?_ | ((refine zqh fun K J => ?_); (simp (disch := omega) only [go_sem, Nat.reduceBEq, ↓reduceIte, reduceCtorEq, Nat.reduceAdd, u1, u5, uH0, unx, z0a])) | ((refine zqd _ rfl (fun hc => ?_) (fun hc => ?_)) <;> (((try simp only [z01] at hc); (try (exfalso; omega))))) | refine zqa ?_ | refine zqc ?_ | refine zqv ?_ | refine zqz ?_ | refine zqp ?_ | (refine J _ ?_; clear J K))
  (refine z3h (fun U st => ∃ (k : _), U = x.to.length - k /\ st.t 1 = .ptr 0 0 /\ st.t 6 = .int .i64 k /\ st.H 0 = some (.box 43 (z0f x)) /\ st.nx = 1 /\ (k <= x.to.length) /\ ((x.to.take k).all (fun s => decide (s.label.size <= 100)) = true)) ?_ ?_); rotate_left; (rintro U st ⟨k, rfl, v1, v6, vH0, vnx, vp0, vp1⟩); rotate_left
  · (refine ⟨_, 0, rfl, ?_⟩); (simp (disch := omega) only [go_sem, Nat.reduceBEq, u1, uH0, true_and, Int.natCast_zero])
    try simp
  by_cases hk3 : k < x.to.length
  · repeat' (first | refine zqj ?_ | ((first | refine zqh fun K J => ?_ | refine zqr fun K J => ?_); (simp (disch := omega) only [go_sem, Nat.reduceBEq, ↓reduceIte, reduceCtorEq, Nat.reduceAdd, v1, v6, vH0, vnx, z0a])) | ((first | refine zqd _ rfl (fun hc => ?_) (fun hc => ?_) | refine zqm _ rfl (fun hc => ?_) (fun hc => ?_)) <;> (((try simp only [z01] at hc); (try (exfalso; omega))))) | refine zqa ?_ | refine zqb ?_ | refine zqk ?_ | refine zqn ?_ | refine zqv ?_ | refine zqx ?_ | refine zqy ?_ | refine z23 ?_ | refine zqo ?_ | refine zqu (by (simp (disch := omega) only [go_sem]); rfl) rfl ?_ | (refine J _ ?_; clear J K))
    · refine z00 ?_
      rw [show shP x.to = false from z3r (k := k) hk3 (decide_eq_false (by omega)), Bool.false_and]
    · (refine Exists.intro _ (And.intro ?_ ⟨k + 1, rfl, ?_⟩)); rotate_left; (simp (disch := omega) only [go_sem, Nat.reduceBEq, v1, v6, vH0, true_and, Int.natCast_add, Int.natCast_one]); rotate_left
      · omega
      · exact ⟨by omega, z2f hk3 vp1 (decide_eq_true (by omega))⟩
  rw [show shP x.to = true from z2l hk3 vp1, Bool.true_and]
  repeat' (first | refine zqj ?_ | ((refine zqh fun K J => ?_); (simp (disch := omega) only [go_sem, Nat.reduceBEq, ↓reduceIte, reduceCtorEq, Nat.reduceAdd, v1, v6, vH0, vnx, z0a])) | ((refine zqd _ rfl (fun hc => ?_) (fun hc => ?_)) <;> (((try simp only [z01] at hc); (try (exfalso; omega))))) | refine zqa ?_ | refine zqc ?_ | refine zqv ?_ | refine zqz ?_ | refine zqp ?_ | (refine J _ ?_; clear J K))
  (refine z3h (fun U st => ∃ (k : _), U = x.by_.length - k /\ st.t 1 = .ptr 0 0 /\ st.t 7 = .int .i64 k /\ st.H 0 = some (.box 43 (z0f x)) /\ st.nx = 1 /\ (k <= x.by_.length) /\ ((x.by_.take k).all (fun y => !zme y && zi1 y) = true)) ?_ ?_); rotate_left; (rintro U st ⟨k, rfl, w1, w7, wH0, wnx, wp0, wp1⟩); rotate_left
  · (refine ⟨_, 0, rfl, ?_⟩); (simp (disch := omega) only [go_sem, Nat.reduceBEq, v1, vH0, true_and, Int.natCast_zero])
    try simp
  by_cases hk4 : k < x.by_.length
  · have c2 := ih x.by_[k] (List.getElem_mem hk4) (O _ (List.getElem_mem hk4))
    obtain ⟨d0, hd0⟩ := (zhr _).1 (O _ (List.getElem_mem hk4))
    have d5 := d0.by_
    unfold maxLen at d5
    have hz : Int.toNat 0 = 0 := rfl
    cases hbn : (x.by_[k]).by_ with
    | nil =>
      have hdp : zme x.by_[k] = false := by unfold zme; rw [hbn]; rfl
      repeat' (first | refine zqj ?_ | ((first | refine zqh fun K J => ?_ | refine zqr fun K J => ?_ | refine zqs (c2) ?_); (simp (disch := omega) only [go_sem, Nat.reduceBEq, ↓reduceIte, reduceCtorEq, Nat.reduceAdd, w1, w7, wH0, wnx, z2i, hbn, List.length_nil, List.map_nil])) | ((first | refine zqd _ rfl (fun hc => ?_) (fun hc => ?_) | refine zqm _ rfl (fun hc => ?_) (fun hc => ?_)) <;> (((try simp only [z01] at hc); (try (exfalso; omega))))) | refine zqa ?_ | refine zqb ?_ | refine zqk ?_ | refine zqn ?_ | refine zqv ?_ | refine zqx ?_ | refine zqy ?_ | refine z23 ?_ | refine zqo ?_ | refine zqu (by (simp (disch := omega) only [go_sem]); rfl) rfl ?_ | (refine J _ ?_; clear J K) | (refine zqf (fun hb => ?_) (fun hb => ?_) <;> (have hb2 := hb; try simp only [z01] at hb2) <;> ((first | have F := eq_false hb2 | have F := eq_true hb2); (simp (disch := omega) only [go_sem, Nat.reduceBEq, ↓reduceIte, reduceCtorEq, Nat.reduceAdd, F, w1, w7, wH0, z2i, hbn, List.map_nil]); clear hb F; (try (exfalso; omega)))))
      · exact z00 (z3r (k := k) hk4 (by rw [hdp, ‹zi1 x.by_[k] = false›]; rfl)).symm
      · (refine Exists.intro _ (And.intro ?_ ⟨k + 1, rfl, ?_⟩)); rotate_left; (simp (disch := omega) only [go_sem, Nat.reduceBEq, w1, w7, wH0, true_and, Int.natCast_add, Int.natCast_one, Int.natCast_zero]); rotate_left
        · omega
        · exact ⟨by omega, z2f hk4 wp1 (by rw [hdp, ‹zi1 x.by_[k] = true›]; rfl)⟩
    | cons z l =>
      have hdp : zme x.by_[k] = decide (0 < z.by_.length) := by unfold zme; rw [hbn]; simp
      have hzl : z.by_.length <= 9223372036854775807 := by
        have := (zhr _).1 (hd0 z (by rw [hbn]; simp))
        exact this.1.by_
      rw [hbn, List.length_cons] at d5
      repeat' (first | refine zqj ?_ | ((first | refine zqh fun K J => ?_ | refine zqr fun K J => ?_ | refine zqs (c2) ?_); (simp (disch := omega) only [go_sem, Nat.reduceBEq, ↓reduceIte, reduceCtorEq, Nat.reduceAdd, w1, w7, wH0, wnx, z2i, hbn, List.length_cons, List.map_cons])) | ((first | refine zqd _ rfl (fun hc => ?_) (fun hc => ?_) | refine zqm _ rfl (fun hc => ?_) (fun hc => ?_)) <;> (first | (cases hc; done) | ((try simp only [z01] at hc); (try (exfalso; omega))))) | refine zqa ?_ | refine zqb ?_ | refine zqk ?_ | refine zqn ?_ | refine zqv ?_ | refine zqx ?_ | refine zqy ?_ | refine z23 ?_ | refine zqo ?_ | refine zqu (by (simp (disch := omega) only [go_sem]); rfl) rfl ?_ | (refine J _ ?_; clear J K) | (refine zqf (fun hb => ?_) (fun hb => ?_) <;> (have hb2 := hb; try simp only [z01] at hb2) <;> ((first | have F := eq_false hb2 | have F := eq_true hb2); (simp (disch := omega) only [go_sem, Nat.reduceBEq, ↓reduceIte, reduceCtorEq, Nat.reduceAdd, F, w1, w7, wH0, z2i, hbn, zln, List.map_cons]); clear hb F; (try (exfalso; omega)))))
      all_goals first
        | exact z00 (z3r (k := k) hk4 (by rw [hdp, decide_eq_true (by omega)]; rfl)).symm
        | exact z00 (z3r (k := k) hk4 (by rw [‹zi1 x.by_[k] = false›, Bool.and_false])).symm
        | skip
      all_goals
        (refine Exists.intro _ (And.intro ?_ ⟨k + 1, rfl, ?_⟩)); rotate_left; (simp (disch := omega) only [go_sem, Nat.reduceBEq, w1, w7, wH0, true_and, Int.natCast_add, Int.natCast_one]); rotate_left
        · omega
        · exact ⟨by omega, z2f hk4 wp1 (by rw [hdp, decide_eq_false (by omega), ‹zi1 x.by_[k] = true›]; rfl)⟩
  · repeat' (first | refine zqj ?_ | ((refine zqh fun K J => ?_); (simp (disch := omega) only [go_sem, Nat.reduceBEq, ↓reduceIte, reduceCtorEq, Nat.reduceAdd, w1, w7, wH0, wnx, z2i])) | ((refine zqd _ rfl (fun hc => ?_) (fun hc => ?_)) <;> (((try simp only [z01] at hc); (try (exfalso; omega))))) | refine zqc ?_ | refine zqn ?_ | refine zqv ?_ | refine zqz ?_ | refine zqp ?_ | refine zqu (by (simp (disch := omega) only [go_sem]); rfl) rfl ?_ | (refine J _ ?_; clear J K))
    exact z00 (z2l hk4 wp1).symm
end
section
open Abs Facts Tr
attribute [local irreducible] awp
set_option maxRecDepth 100000
structure WordOK (w : List Wd) (x : It) (a j : Int) : Prop where
 len : w.length <= 256
 old : x.old.length <= 1000
 new : x.new.length <= 1000
 n0 : 0 <= x.nth
 n1 : x.nth <= 256
 e : editE w x a j = 0
theorem WordOK.lo {w : List Wd} {x : It} {a j : Int} (h : WordOK w x a j) (ho : 0 < x.old.length) : ¬ (zhz (txt w) x.old 0).length = 0 /\ ¬ ((zhz (txt w) x.old 0).length : Int) < x.nth /\ (zt8 w x a j).length <= 256 /\
  zt8 w x a j = if x.kind = 3 then ze8 w 0 x.new a j ((zt6 x.nth (zhz (txt w) x.old 0)).map (· + x.old.length)) 0 0 else ze8 w x.old.length x.new a j (zt6 x.nth (zhz (txt w) x.old 0)) 0 0 := by
 have he := h.e
 unfold editE at he
 rw [if_neg (fun g => by omega)] at he
 split at he
 ·cases he
 rename_i h1
 split at he
 ·cases he
 rename_i h2
 rw [not_or] at h1
 have hwl : (txt w).length = w.length := txt_len w
 obtain ⟨i1, i2, i3⟩ := occ_in (w := txt w) (row := x.old) ho (txt w).length 0 (by omega)
 refine ⟨h1.1, h1.2, by omega, ?_⟩
 unfold zt8
 rw [if_neg (fun g => by omega), zxa h.n0 h1.2 (fun p hp => by rw [<- hwl]; exact (i1 p hp).2) i2]
 by_cases O : x.kind = 3
 ·rw [if_pos (decide_eq_true O), if_pos O]
 ·rw [if_neg (by simpa using O), if_neg O]
def z8m (l : List EIt) : D := .rsl false 28 (l.map zf0)
theorem zlp (l : List EIt) : pureD (z8m l) = true := z1l (f := zf0) z51 l
noncomputable def z6l (d : EIt) : Bool := decide (0 <= d.it.kind /\ d.it.kind <= 6) && zcx d.it
theorem zlq (d : EIt) (hx : OkI d.it) : PC Tryz.prog 25 [zf0 d] (.bool (z6l d)) := by
 have c1 := zs6 d.it.kind
 have c2 := zxd d.it hx
 refine z1y 1 (by simp only [pureD.pureL, z51, Bool.and_self]) rfl (z1v [] Tryz.func25 rfl (by decide +kernel) z0i (by decide +kernel) (by simp [Tryz.ntmps25]) ?_)
 show awp _ _ (Code.seq _ _) _ _
 unfold z6l
 by_cases O : 0 <= d.it.kind /\ d.it.kind <= 6
 ·rw [decide_eq_true O] at c1 ⊢
  rw [Bool.true_and]
  repeat' (first | ((first | refine zqh fun K J => ?_ | refine zqs (c1) ?_ | refine zqs (c2) ?_); (simp (disch := omega) only [go_sem, Nat.reduceBEq, ↓reduceIte, reduceCtorEq, Nat.reduceAdd, Nat.reduceLeDiff])) | refine zqn ?_ | refine zqu (by (simp (disch := omega) only [go_sem]); rfl) rfl ?_ | (refine J _ ?_; clear J K))
  exact z00 rfl
 ·rw [decide_eq_false O] at c1 ⊢
  rw [Bool.false_and]
  repeat' (first | ((first | refine zqh fun K J => ?_ | refine zqs (c1) ?_); (simp (disch := omega) only [go_sem, Nat.reduceBEq, ↓reduceIte, reduceCtorEq, Nat.reduceAdd])) | refine zqn ?_ | refine zqu (by (simp (disch := omega) only [go_sem]); rfl) rfl ?_ | (refine J _ ?_; clear J K))
  exact z00 rfl
noncomputable def rowI (l : List EIt) (most : Int) : Bool := decide ((l.length : Int) <= most) && l.all fun d => zi1 d.it && z6l d
theorem ztt (l : List EIt) (hl : l.length <= maxLen) (hr : ∀ d ∈ l, RdI d.it) (most : Int) (h0 : 0 <= most) (h1 : most <= 1000) : PC Tryz.prog 6 [z8m l, .int .i64 most] (.bool (rowI l most)) := by
 unfold maxLen at hl
 refine z1y 1 (by simp only [pureD.pureL, zlp, pureD, Bool.and_self]) rfl (z1v [] Tryz.func6 rfl (by decide +kernel) z0i (by decide +kernel) (by simp [Tryz.ntmps6]) ?_)
 show awp _ _ (Code.seq _ _) _ _
 unfold rowI
 by_cases hm : (l.length : Int) <= most
 case neg =>
  rw [decide_eq_false hm, Bool.false_and]
  repeat' (first | refine zqj ?_ | ((refine zqh fun K J => ?_); (simp (disch := omega) only [go_sem, Nat.reduceBEq, ↓reduceIte, z8m])) | ((refine zqd _ rfl (fun hc => ?_) (fun hc => ?_)) <;> (((try simp only [z01] at hc); (try (exfalso; omega))))) | refine zqg ?_ | refine zqu (by (simp (disch := omega) only [go_sem]); rfl) rfl ?_ | (refine J _ ?_; clear J K))
  exact z00 rfl
 rw [decide_eq_true hm, Bool.true_and]
 repeat' (first | refine zqj ?_ | ((refine zqh fun K J => ?_); (simp (disch := omega) only [go_sem, Nat.reduceBEq, ↓reduceIte, z8m])) | ((refine zqd _ rfl (fun hc => ?_) (fun hc => ?_)) <;> (((try simp only [z01] at hc); (try (exfalso; omega))))) | refine zqa ?_ | refine zqb ?_ | (refine J _ ?_; clear J K))
 (refine z3h (fun U st => ∃ (i : _), U = l.length - i /\ st.t 0 = z8m l /\ st.t 5 = .int .i64 i /\ (i <= l.length) /\ ((l.take i).all (fun d => zi1 d.it && z6l d) = true)) ?_ ?_); rotate_left; (rintro U st ⟨i, rfl, q0, q5, qp0, qp1⟩); rotate_left
 ·(refine ⟨_, 0, rfl, ?_⟩); (simp (disch := omega) only [go_sem, Nat.reduceBEq, true_and, Int.natCast_zero, z8m])
  try rfl
 by_cases hi : i < l.length
 ·have hg := (show (l.map zf0)[i]? = some (zf0 l[i]) from by rw [List.getElem?_map, List.getElem?_eq_getElem hi]; rfl)
  have htk := List.take_succ_eq_append_getElem hi
  have c1 := zwk l[i].it (hr _ (List.getElem_mem hi))
  have hall : (l.take (i + 1)).all (fun d => zi1 d.it && z6l d) = (zi1 l[i].it && z6l l[i]) := by rw [htk, List.all_append, qp1]; simp
  have hno : (zi1 l[i].it && z6l l[i]) = false -> l.all (fun d => zi1 d.it && z6l d) = false := fun h => by
   rw [List.all_eq_false]
   exact ⟨l[i], List.getElem_mem hi, by rw [h]; simp⟩
  cases hf : zi1 l[i].it with
  | false =>
   rw [hf] at c1
   rw [hno (by rw [hf]; rfl)]
   repeat' (first | refine zqj ?_ | ((first | refine zqh fun K J => ?_ | refine zqs (c1) ?_); (simp (disch := omega) only [go_sem, Nat.reduceBEq, ↓reduceIte, reduceCtorEq, Nat.reduceAdd, Nat.reduceLeDiff, q0, q5, z8m])) | ((first | refine zqd _ rfl (fun hc => ?_) (fun hc => ?_) | refine zqm _ rfl (fun hc => ?_) (fun hc => ?_)) <;> (first | (cases hc; done) | ((try simp only [z01] at hc); (try (exfalso; omega))))) | refine zqa ?_ | refine zqb ?_ | refine zqn ?_ | refine zqx ?_ | refine z23 ?_ | refine zqo ?_ | refine zqu (by (simp (disch := omega) only [go_sem]); rfl) rfl ?_ | (refine J _ ?_; clear J K))
   exact z00 rfl
  | true =>
   rw [hf] at c1
   have c2 := zlq l[i] (zzx _ hf)
   cases hcb : z6l l[i] with
   | false =>
    rw [hcb] at c2
    rw [hno (by rw [hf, hcb]; rfl)]
    repeat' (first | refine zqj ?_ | ((first | refine zqh fun K J => ?_ | refine zqs (c1) ?_ | refine zqs (c2) ?_); (simp (disch := omega) only [go_sem, Nat.reduceBEq, ↓reduceIte, reduceCtorEq, Nat.reduceAdd, Nat.reduceLeDiff, q0, q5, z8m])) | ((first | refine zqd _ rfl (fun hc => ?_) (fun hc => ?_) | refine zqm _ rfl (fun hc => ?_) (fun hc => ?_)) <;> (first | (cases hc; done) | ((try simp only [z01] at hc); (try (exfalso; omega))))) | refine zqa ?_ | refine zqb ?_ | refine zqn ?_ | refine zqx ?_ | refine z23 ?_ | refine zqo ?_ | refine zqu (by (simp (disch := omega) only [go_sem]); rfl) rfl ?_ | (refine J _ ?_; clear J K))
    exact z00 rfl
   | true =>
    rw [hcb] at c2
    repeat' (first | refine zqj ?_ | ((first | refine zqh fun K J => ?_ | refine zqr fun K J => ?_ | refine zqs (c1) ?_ | refine zqs (c2) ?_); (simp (disch := omega) only [go_sem, Nat.reduceBEq, ↓reduceIte, reduceCtorEq, Nat.reduceAdd, Nat.reduceLeDiff, q0, q5, z8m])) | ((first | refine zqd _ rfl (fun hc => ?_) (fun hc => ?_) | refine zqm _ rfl (fun hc => ?_) (fun hc => ?_)) <;> (first | (cases hc; done) | ((try simp only [z01] at hc); (try (exfalso; omega))))) | refine zqa ?_ | refine zqb ?_ | refine zqk ?_ | refine zqv ?_ | refine zqy ?_ | (refine J _ ?_; clear J K))
    (refine Exists.intro _ (And.intro ?_ ⟨i + 1, rfl, ?_⟩)); rotate_left; (simp (disch := omega) only [go_sem, Nat.reduceBEq, q0, q5, true_and, Int.natCast_add, Int.natCast_one, z8m]); rotate_left
    ·omega
    ·exact ⟨by omega, by rw [hall, hf, hcb]; rfl⟩
 ·rw [List.take_of_length_le (by omega)] at qp1
  rw [qp1]
  repeat' (first | refine zqj ?_ | ((refine zqh fun K J => ?_); (simp (disch := omega) only [go_sem, Nat.reduceBEq, ↓reduceIte, q0, q5, z8m])) | ((refine zqd _ rfl (fun hc => ?_) (fun hc => ?_)) <;> (((try simp only [z01] at hc); (try (exfalso; omega))))) | refine zqc ?_ | refine zqn ?_ | refine zqv ?_ | refine zqz ?_ | refine zqp ?_ | refine zqu (by (simp (disch := omega) only [go_sem]); rfl) rfl ?_ | (refine J _ ?_; clear J K))
  exact z00 rfl
end
end Go.Proofs.YtppebcifiejplaaGreatDoor
namespace Go.Proofs.YtppebcifiejplaaGreatDoor.Glue
open Go.ChangeShapes Go.WideShapes Go.ChangeAt Go.RowKit Abs Facts Tr
set_option maxRecDepth 100000
section
variable {H : Type} {enc : TypeId × Value -> H} {W : World} {base : Nat} {r : Reach} {b0 : Nat} {spare : Nat -> Bool} {held : Bool} {v : Value} {d : DataW H} {p : List MemPlace}
end
end Go.Proofs.YtppebcifiejplaaGreatDoor.Glue
namespace Go.Proofs.YtppebcifiejplaaGreatDoor
section
open Abs Facts Tr
attribute [local irreducible] awp
set_option maxRecDepth 100000
namespace Tr
def zha (l : List UInt8) : List Bool := l.foldl (fun L b => L.set b.toNat true) (List.replicate 256 false)
theorem ztf (l : List UInt8) (b : UInt8) : zha (l ++ [b]) = (zha l).set b.toNat true := by unfold zha; rw [List.foldl_append]; rfl
theorem zd9 (l : List UInt8) : (zha l).length = 256 := by
 unfold zha
 have : ∀ (l : List UInt8) (L : List Bool), (l.foldl (fun L b => L.set b.toNat true) L).length = L.length := fun l => by
  induction l with
  | nil => intro L; rfl
  | cons b l ih => intro L; rw [List.foldl_cons, ih, List.length_set]
 rw [this, List.length_replicate]
def zxf (L : List Bool) (b : UInt8) : Bool := L.getD b.toNat false
def zhb (L : List Bool) : Nat -> ByteArray -> ByteArray
 | 0, s => s
 | n + 1, s => if 0 < s.size then (if zxf L ((bl s).headD 0) = true then zhb L n (s.extract 1 s.size) else s) else s
def zbp (L : List Bool) : Nat -> ByteArray -> ByteArray
 | 0, s => s
 | n + 1, s => if 0 < s.size then (if zxf L ((bl s).getD (s.size - 1) 0) = true then zbp L n (s.extract 0 (s.size - 1)) else s) else s
end Tr
theorem z5r (L : List Bool) : pureD.pureL (L.map D.bool) = true := z1l (f := D.bool) (fun _ => rfl) L
theorem ztg : z17 Tryz.prog 240 = some ((zha []).map .bool) := by
 have h : z17 Tryz.prog 240 = some (List.replicate 256 (.bool false)) := by kernel_rfl
 rw [h]
 unfold zha
 rw [List.foldl_nil, List.map_replicate]
theorem zj9 {M L : List Bool} (h : M.length = 256) (h2 : L.length = 256) : z11 ((M.map D.bool)) 0 (L.map D.bool) = L.map .bool := by
 have : ∀ (a b c : List D), b.length = c.length -> z11 (a ++ b) a.length c = a ++ c := by
  intro a b c
  induction c generalizing a b with
  | nil =>
   intro h
   cases b with
   | nil => rfl
   | cons y b => simp at h
  | cons x c ih =>
   intro h
   cases b with
   | nil => simp at h
   | cons y b =>
    have e : (a ++ y :: b).set a.length x = (a ++ [x]) ++ b := by simp
    unfold z11
    rw [e, show a.length + 1 = (a ++ [x]).length by simp, ih _ _ (by simpa using h)]
    simp
 exact this [] _ _ (by simp [h, h2])
theorem zp4 {L : List Bool} (h : L.length = 256) : List.take 256 (L.map D.bool) = L.map .bool := List.take_of_length_le (by simp [h])
theorem zth {L : List Bool} (h : L.length = 256) (b : UInt8) : (L.map D.bool)[b.toNat]? = some (.bool (zxf L b)) := by
 have hb : b.toNat < L.length := by have := b.toNat_lt; omega
 rw [List.getElem?_map, List.getElem?_eq_getElem hb]
 unfold zxf
 rw [List.getD_eq_getElem?_getD, List.getElem?_eq_getElem hb]; rfl
set_option maxHeartbeats 4000000 in
theorem zed (L : List Bool) (hL : L.length = 256) (b : UInt8) : PC Tryz.prog 312 [.rptr (.agg (L.map .bool)), .int .u8 b.toNat] (.bool (zxf L b)) := by
 have hb := b.toNat_lt
 have hg := zth hL b
 have hz : Int.toNat (b.toNat : Int) = b.toNat := rfl
 refine z1y 1 (by simp only [pureD.pureL, pureD, z5r, Bool.and_self]) rfl (z1v [] Tryz.func312 rfl (by decide +kernel) z0i (by decide +kernel) (by simp [Tryz.ntmps312]) ?_)
 show awp _ _ (Code.seq _ _) _ _
 repeat' (first | ((refine zqh fun K J => ?_); (simp (disch := omega) only [go_sem, Nat.reduceBEq, ↓reduceIte, reduceCtorEq, Nat.reduceAdd, hz, hg, Nat.mul_one])) | refine zqn ?_ | refine zqu (by (simp (disch := omega) only [go_sem]); rfl) rfl ?_ | (refine J _ ?_; clear J K))
 exact z00 rfl
set_option maxHeartbeats 4000000 in
theorem zp5 (s : ByteArray) (hs : s.size <= 1000) (h : ∀ b ∈ bl s, b.toNat < 128) : PC Tryz.prog 287 [.str s] (.tup [.agg ((zha (bl s)).map .bool), .bool true]) := by
 have hbl := z18 s
 refine z1y 2 rfl (by simp only [pureD.pureL, pureD, z5r, Bool.and_self]) (z1v [] Tryz.func287 rfl (by decide +kernel) z0i (by decide +kernel) (by simp [Tryz.ntmps287]) ?_)
 show awp _ _ (Code.seq _ _) _ _
 rw [show Tryz.f287.results.toList = [.cell 2 240, .tmp 3] from rfl]
 repeat' (first | refine zqj ?_ | ((refine zqh fun K J => ?_); (simp (disch := omega) only [go_sem, ztg])) | refine zqa ?_ | (refine J _ ?_; clear J K))
 (refine z3h (fun U st => ∃ (k : _), U = s.size - k /\ st.t 0 = .str s /\ st.t 2 = .ptr 0 0 /\ st.t 4 = .int .i64 k /\ st.H 0 = some (.box 240 ((zha ((bl s).take k)).map .bool)) /\ (k <= s.size) /\ (1 <= st.nx)) ?_ ?_); rotate_left; (rintro U st ⟨k, rfl, q0, q2, q4, qH0, qp0, qp1⟩); rotate_left
 ·(refine ⟨_, 0, rfl, ?_⟩); (simp (disch := omega) only [go_sem, Nat.reduceBEq, Nat.reduceLeDiff, and_self, Int.natCast_zero, List.take_zero])
 have hl := zd9 ((bl s).take k)
 have htc := zp4 hl
 have hac := zj9 hl hl
 by_cases O : k < s.size
 ·have h1 := h _ (List.getElem_mem (show k < (bl s).length by omega))
  have h2 : (bl s).take (k + 1) = (bl s).take k ++ [(bl s)[k]] := List.take_succ_eq_append_getElem (by omega)
  have h3 : (zha ((bl s).take (k + 1))) = (zha ((bl s).take k)).set (bl s)[k].toNat true := by rw [h2, ztf]
  have hz : Int.toNat ((bl s)[k].toNat : Int) = (bl s)[k].toNat := rfl
  repeat' (first | refine zqj ?_ | ((first | refine zqh fun K J => ?_ | refine zqr fun K J => ?_); (simp (disch := omega) only [go_sem, Nat.reduceBEq, ↓reduceIte, reduceCtorEq, Nat.reduceLeDiff, Nat.reduceLT, q0, q2, q4, qH0, zdi, hz, Nat.mul_one, List.length_map, hl])) | ((refine zqd _ rfl (fun hc => ?_) (fun hc => ?_)) <;> (((try simp only [z01] at hc); (try (exfalso; omega))))) | refine zqa ?_ | refine zqb ?_ | refine zqv ?_ | refine zqy ?_ | (refine J _ ?_; clear J K))
  (refine Exists.intro _ (And.intro ?_ ⟨k + 1, rfl, ?_⟩)); rotate_left; (simp (disch := omega) only [go_sem, Nat.reduceBEq, q0, q2, q4, qH0, true_and, Int.natCast_add, Int.natCast_one, h3]); rotate_left
  ·omega
  ·exact ⟨by rw [List.map_set], by omega, by omega⟩
 ·have h2 : (bl s).take k = bl s := List.take_of_length_le (by omega)
  rw [h2] at hl htc hac qH0
  repeat' (first | refine zqj ?_ | ((refine zqh fun K J => ?_); (simp (disch := omega) only [go_sem, Nat.reduceBEq, ↓reduceIte, Nat.reduceAdd, Nat.reduceLeDiff, q0, q2, q4, qH0, List.length_map, hl, htc, hac, List.drop_zero, Nat.zero_add])) | ((refine zqd _ rfl (fun hc => ?_) (fun hc => ?_)) <;> (((try simp only [z01] at hc); (try (exfalso; omega))))) | refine zqc ?_ | refine zqn ?_ | refine zqv ?_ | refine zqz ?_ | refine zqp ?_ | refine zqu (by (simp (disch := omega) only [go_sem, Nat.reduceBEq, ↓reduceIte, Nat.reduceLeDiff, q2, qH0, List.length_map, hl, htc, List.drop_zero, Nat.zero_add]); rfl) rfl ?_ | (refine J _ ?_; clear J K))
  exact z09 (by simp only [pureD.pureL, pureD, z5r, Bool.and_self]) (Le.refl _)
set_option maxHeartbeats 4000000 in
theorem zxg (L : List Bool) (hL : L.length = 256) (s : ByteArray) (hs : s.size <= 1000) : PC Tryz.prog 288 [.str s, .rptr (.agg (L.map .bool))] (.str (zhb L s.size s)) := by
 refine z1y 1 (by simp only [pureD.pureL, pureD, z5r, Bool.and_self]) rfl (z1v [] Tryz.func288 rfl (by decide +kernel) z0i (by decide +kernel) (by simp [Tryz.ntmps288]) ?_)
 show awp _ _ (Code.seq _ _) _ _
 repeat' (first | ((refine zqh fun K J => ?_); (simp (disch := omega) only [go_sem])) | refine zqa ?_ | (refine J _ ?_; clear J K))
 (refine z3h (fun U st => ∃ (u : ByteArray), U = u.size /\ st.t 0 = .str u /\ st.t 1 = .rptr (.agg (L.map .bool)) /\ (u.size <= 1000) /\ (zhb L u.size u = zhb L s.size s)) ?_ ?_); rotate_left; (rintro U st ⟨u, rfl, q0, q1, qp0, qp1⟩); rotate_left
 ·(refine ⟨_, s, rfl, ?_⟩); (simp (disch := omega) only [go_sem, Nat.reduceBEq, true_and, and_true])
  exact hs
 have hbl := z18 u
 have hz : Int.toNat 0 = 0 := rfl
 have hz1 : Int.toNat 1 = 1 := rfl
 have hzu : Int.toNat (u.size : Int) = u.size := rfl
 by_cases hu : 0 < u.size
 ·have hhd := zo1 (s := u) hu
  have kc := zed L hL ((bl u).headD 0)
  obtain ⟨n, hn⟩ : ∃ n, u.size = n + 1 := ⟨u.size - 1, by omega⟩
  have hst : zhb L u.size u = if zxf L ((bl u).headD 0) = true then zhb L n (u.extract 1 u.size) else u := by
   conv => lhs; rw [hn, zhb]
   rw [if_pos hu]
  have hsz : (u.extract 1 u.size).size = n := by rw [ByteArray.size_extract]; omega
  cases hh : zxf L ((bl u).headD 0) with
  | true =>
   rw [hh] at kc hst
   rw [if_pos rfl] at hst
   repeat' (first | refine zqj ?_ | ((first | refine zqh fun K J => ?_ | refine zqr fun K J => ?_ | refine zqs (kc) ?_); (simp (disch := omega) only [go_sem, Nat.reduceBEq, ↓reduceIte, Int.reduceLE, q0, q1, zdi, hz, hz1, hzu, hhd])) | ((refine zqd _ rfl (fun hc => ?_) (fun hc => ?_)) <;> (first | (cases hc; done) | ((try simp only [z01] at hc); (try (exfalso; omega))))) | refine zqi ?_ | refine zqb ?_ | refine zqy ?_ | (refine J _ ?_; clear J K))
   (refine Exists.intro _ (And.intro ?_ ⟨(u.extract 1 u.size), rfl, ?_⟩)); rotate_left; (simp (disch := omega) only [go_sem, Nat.reduceBEq, q0, q1, true_and]); rotate_left
   ·omega
   ·exact ⟨by omega, by rw [hsz, <- hst, qp1]⟩
  | false =>
   rw [hh] at kc hst
   rw [if_neg (by simp)] at hst
   repeat' (first | refine zqj ?_ | ((first | refine zqh fun K J => ?_ | refine zqs (kc) ?_); (simp (disch := omega) only [go_sem, Nat.reduceBEq, ↓reduceIte, Int.reduceLE, q0, q1, zdi, hz, hhd])) | ((refine zqd _ rfl (fun hc => ?_) (fun hc => ?_)) <;> (first | (cases hc; done) | ((try simp only [z01] at hc); (try (exfalso; omega))))) | refine zqi ?_ | refine zqb ?_ | refine zqc ?_ | refine zqn ?_ | refine zqv ?_ | refine zqz ?_ | refine z58 rfl ?_ | refine zqp ?_ | refine zqu (by (simp (disch := omega) only [go_sem]); rfl) rfl ?_ | (refine J _ ?_; clear J K))
   rw [<- qp1, hst]
   exact z09 rfl (Le.refl _)
 ·have h0 : u.size = 0 := by omega
  have hst : zhb L u.size u = u := by rw [h0]; rfl
  repeat' (first | refine zqj ?_ | ((refine zqh fun K J => ?_); (simp (disch := omega) only [go_sem, Nat.reduceBEq, ↓reduceIte, q0])) | ((refine zqd _ rfl (fun hc => ?_) (fun hc => ?_)) <;> (((try simp only [z01] at hc); (try (exfalso; omega))))) | refine zqc ?_ | refine zqn ?_ | refine zqv ?_ | refine zqz ?_ | refine zqp ?_ | refine zqu (by (simp (disch := omega) only [go_sem]); rfl) rfl ?_ | (refine J _ ?_; clear J K))
  rw [<- qp1, hst]
  exact z09 rfl (Le.refl _)
set_option maxHeartbeats 4000000 in
theorem zxh (L : List Bool) (hL : L.length = 256) (s : ByteArray) (hs : s.size <= 1000) : PC Tryz.prog 289 [.str s, .rptr (.agg (L.map .bool))] (.str (zbp L s.size s)) := by
 refine z1y 1 (by simp only [pureD.pureL, pureD, z5r, Bool.and_self]) rfl (z1v [] Tryz.func289 rfl (by decide +kernel) z0i (by decide +kernel) (by simp [Tryz.ntmps289]) ?_)
 show awp _ _ (Code.seq _ _) _ _
 repeat' (first | ((refine zqh fun K J => ?_); (simp (disch := omega) only [go_sem])) | refine zqa ?_ | (refine J _ ?_; clear J K))
 (refine z3h (fun U st => ∃ (u : ByteArray), U = u.size /\ st.t 0 = .str u /\ st.t 1 = .rptr (.agg (L.map .bool)) /\ (u.size <= 1000) /\ (zbp L u.size u = zbp L s.size s)) ?_ ?_); rotate_left; (rintro U st ⟨u, rfl, q0, q1, qp0, qp1⟩); rotate_left
 ·(refine ⟨_, s, rfl, ?_⟩); (simp (disch := omega) only [go_sem, Nat.reduceBEq, true_and, and_true])
  exact hs
 have hbl := z18 u
 by_cases hu : 0 < u.size
 ·obtain ⟨n, hn⟩ : ∃ n, u.size = n + 1 := ⟨u.size - 1, by omega⟩
  have hln : n < (bl u).length := by omega
  have hzn : ((u.size : Int) - 1) = (n : Int) := by omega
  have hzt : Int.toNat (n : Int) = n := rfl
  have hz0 : Int.toNat 0 = 0 := rfl
  have hgd : (bl u)[n] = (bl u).getD (u.size - 1) 0 := by
   rw [hn, Nat.add_sub_cancel, List.getD_eq_getElem?_getD, List.getElem?_eq_getElem hln]; rfl
  have hst : zbp L u.size u = if zxf L ((bl u).getD (u.size - 1) 0) = true then zbp L n (u.extract 0 (u.size - 1)) else u := by
   conv => lhs; rw [hn, zbp]
   rw [if_pos hu]
  rw [show u.size - 1 = n from by omega] at hst hgd
  rw [<- hgd] at hst
  have kc := zed L hL (bl u)[n]
  have hsz : (u.extract 0 n).size = n := by rw [ByteArray.size_extract]; omega
  cases hh : zxf L (bl u)[n] with
  | true =>
   rw [hh] at kc hst
   rw [if_pos rfl] at hst
   repeat' (first | refine zqj ?_ | ((first | refine zqh fun K J => ?_ | refine zqr fun K J => ?_ | refine zqs (kc) ?_); (simp (disch := omega) only [go_sem, Nat.reduceBEq, ↓reduceIte, q0, q1, zdi, hzn, hzt])) | ((refine zqd _ rfl (fun hc => ?_) (fun hc => ?_)) <;> (first | (cases hc; done) | ((try simp only [z01] at hc); (try (exfalso; omega))))) | refine zqi ?_ | refine zqb ?_ | refine zqy ?_ | (refine J _ ?_; clear J K))
   (refine Exists.intro _ (And.intro ?_ ⟨(u.extract 0 n), rfl, ?_⟩)); rotate_left; (simp (disch := omega) only [go_sem, Nat.reduceBEq, q0, q1, true_and]); rotate_left
   ·omega
   ·exact ⟨by omega, by rw [hsz, <- hst, qp1]⟩
  | false =>
   rw [hh] at kc hst
   rw [if_neg (by simp)] at hst
   repeat' (first | refine zqj ?_ | ((first | refine zqh fun K J => ?_ | refine zqs (kc) ?_); (simp (disch := omega) only [go_sem, Nat.reduceBEq, ↓reduceIte, q0, q1, zdi, hzn, hzt])) | ((refine zqd _ rfl (fun hc => ?_) (fun hc => ?_)) <;> (first | (cases hc; done) | ((try simp only [z01] at hc); (try (exfalso; omega))))) | refine zqi ?_ | refine zqb ?_ | refine zqc ?_ | refine zqn ?_ | refine zqv ?_ | refine zqz ?_ | refine z58 rfl ?_ | refine zqp ?_ | refine zqu (by (simp (disch := omega) only [go_sem]); rfl) rfl ?_ | (refine J _ ?_; clear J K))
   rw [<- qp1, hst]
   exact z09 rfl (Le.refl _)
 ·have h0 : u.size = 0 := by omega
  have hst : zbp L u.size u = u := by rw [h0]; rfl
  repeat' (first | refine zqj ?_ | ((refine zqh fun K J => ?_); (simp (disch := omega) only [go_sem, Nat.reduceBEq, ↓reduceIte, q0])) | ((refine zqd _ rfl (fun hc => ?_) (fun hc => ?_)) <;> (((try simp only [z01] at hc); (try (exfalso; omega))))) | refine zqc ?_ | refine zqn ?_ | refine zqv ?_ | refine zqz ?_ | refine zqp ?_ | refine zqu (by (simp (disch := omega) only [go_sem]); rfl) rfl ?_ | (refine J _ ?_; clear J K))
  rw [<- qp1, hst]
  exact z09 rfl (Le.refl _)
theorem znb (L : List Bool) : ∀ (n : Nat) (s : ByteArray), (zbp L n s).size <= s.size
 | 0, s => Nat.le_refl _
 | n + 1, s => by
  unfold zbp
  split
  ·split
   ·refine Nat.le_trans (znb L n _) ?_
    rw [ByteArray.size_extract]; omega
   ·exact Nat.le_refl _
  ·exact Nat.le_refl _
def cutB : ByteArray := ⟨#[97, 98, 99, 100, 101, 102, 103, 104, 105, 106, 107, 108, 109, 110, 111, 112, 113, 114, 115, 116, 117, 118, 119, 120, 121, 122, 48, 49, 50, 51, 52, 53, 54, 55, 56, 57, 45]⟩
def trimB (s : ByteArray) : ByteArray := if s = z1c then s else zhb (zha (bl cutB)) (zbp (zha (bl cutB)) s.size s).size (zbp (zha (bl cutB)) s.size s)
set_option maxHeartbeats 4000000 in
theorem zxi (s : ByteArray) (hs : s.size <= 1000) : PC Tryz.prog 232 [.str s, .str cutB] (.str (trimB s)) := by
 have hl := zd9 (bl cutB)
 have c1 := zp5 cutB (by decide +kernel) (by decide +kernel)
 have hr := znb (zha (bl cutB)) s.size s
 have c2 := zxh (zha (bl cutB)) hl s hs
 have c3 := zxg (zha (bl cutB)) hl (zbp (zha (bl cutB)) s.size s) (by omega)
 have hcs : cutB.size = 37 := by decide +kernel
 have hc0 : decide (cutB = (⟨#[]⟩ : ByteArray)) = false := by decide +kernel
 have hac := zj9 (zd9 []) hl
 refine z1y 2 rfl rfl (z1v [] Tryz.func232 rfl (by decide +kernel) z0i (by decide +kernel) (by simp [Tryz.ntmps232]) ?_)
 show awp _ _ (Code.seq _ _) _ _
 unfold trimB
 generalize zha (bl cutB) = A at *
 by_cases h0 : s = z1c
 ·rw [if_pos h0]
  have V : decide (s = (⟨#[]⟩ : ByteArray)) = true := decide_eq_true h0
  repeat' (first | refine zqj ?_ | ((refine zqh fun K J => ?_); (simp (disch := omega) only [go_sem, Nat.reduceBEq, ↓reduceIte, V])) | ((refine zqd _ rfl (fun hc => ?_) (fun hc => ?_)) <;> (first | (cases hc; done) | ((try simp only [] at hc); (try (exfalso; omega))))) | refine zqg ?_ | refine zqu (by (simp (disch := omega) only [go_sem]); rfl) rfl ?_ | (refine J _ ?_; clear J K))
  exact z09 rfl (Le.refl _)
 ·rw [if_neg h0]
  have V : decide (s = (⟨#[]⟩ : ByteArray)) = false := decide_eq_false h0
  repeat' (first | refine zqj ?_ | ((refine z03 (N := 5) rfl fun K J => ?_); (simp (disch := omega) only [go_sem, Nat.reduceBEq, ↓reduceIte, V, hc0, hcs])) | ((refine zqd _ rfl (fun hc => ?_) (fun hc => ?_)) <;> (first | (cases hc; done) | ((try simp only [] at hc); (try (exfalso; omega))))) | refine zqb ?_ | (refine J _ ?_; clear J K))
  refine z3g fun K J => ?_
  have hl0 := zd9 []
  (try (simp (disch := omega) only [go_sem, Nat.reduceBEq])); repeat' (((refine zqs (c1) ?_); (simp (disch := omega) only [go_sem, Nat.reduceBEq, ↓reduceIte, Nat.reduceLeDiff, ztg, hl, hl0, hac])))
  refine J _ _ (zzd (b := 0) (j := 5) (e := 240) (cs := A.map .bool) (d := .agg (A.map .bool)) (by (simp (disch := omega) only [go_sem])) (.inr rfl) (z5r A) (by (simp (disch := omega) only [go_sem, Nat.reduceBEq]))) ?_
  clear J K
  repeat' (first | refine zqj ?_ | ((first | refine zqh fun K J => ?_ | refine zqs (c2) ?_ | refine zqs (c3) ?_); (simp (disch := omega) only [go_sem, Nat.reduceBEq])) | ((refine zqd _ rfl (fun hc => ?_) (fun hc => ?_)) <;> (first | (cases hc; done) | ((try simp only [] at hc); (try (exfalso; omega))))) | refine zqg ?_ | refine zqu (by (simp (disch := omega) only [go_sem]); rfl) rfl ?_ | (refine J _ ?_; clear J K))
  exact z09 rfl (Le.refl _)
set_option maxHeartbeats 4000000 in
theorem zja (s : ByteArray) (hs : s.size <= 1000) : ∃ b : Bool, PC Tryz.prog 125 [.str s] (.bool b) := by
 have c1 := zxi s hs
 have hbl := z18 s
 have hz : Int.toNat 0 = 0 := rfl
 rw [show cutB = ⟨#[97, 98, 99, 100, 101, 102, 103, 104, 105, 106, 107, 108, 109, 110, 111, 112, 113, 114, 115, 116, 117, 118, 119, 120, 121, 122, 48, 49, 50, 51, 52, 53, 54, 55, 56, 57, 45]⟩ from rfl] at c1
 by_cases hq : 1 <= s.size /\ s.size <= 16
 ·have hpos : 0 < (bl s).length := by omega
  by_cases hlo : 97 <= ((bl s)[0]'hpos).toNat /\ ((bl s)[0]'hpos).toNat <= 122
  ·refine ⟨decide (trimB s = (⟨#[]⟩ : ByteArray)), ?_⟩
   refine z1y 1 rfl rfl (z1v [] Tryz.func125 rfl (by decide +kernel) z0i (by decide +kernel) (by simp [Tryz.ntmps125]) ?_)
   show awp _ _ (Code.seq _ _) _ _
   repeat' (first | refine zqj ?_ | ((first | refine zqh fun K J => ?_ | refine zqs (c1) ?_); (simp (disch := omega) only [go_sem, Nat.reduceBEq, ↓reduceIte])) | ((refine zqd _ rfl (fun hc => ?_) (fun hc => ?_)) <;> (((try simp only [z01] at hc); (try (exfalso; omega))))) | refine zqb ?_ | refine zqn ?_ | refine zqu (by (simp (disch := omega) only [go_sem]); rfl) rfl ?_ | (refine J _ ?_; clear J K) | (refine zqf (fun hb => ?_) (fun hb => ?_) <;> (have hb2 := hb; try simp only [z01] at hb2) <;> ((first | have F := eq_false hb2 | have F := eq_true hb2); (simp (disch := omega) only [go_sem, Nat.reduceBEq, ↓reduceIte, Int.reduceLE, F, zdi, hz]); clear hb F; (try (exfalso; omega)))))
   all_goals first | exact z00 rfl | (exfalso; omega)
  ·refine ⟨false, ?_⟩
   refine z1y 1 rfl rfl (z1v [] Tryz.func125 rfl (by decide +kernel) z0i (by decide +kernel) (by simp [Tryz.ntmps125]) ?_)
   show awp _ _ (Code.seq _ _) _ _
   repeat' (first | refine zqj ?_ | ((refine z03 (N := 3) rfl fun K J => ?_); (simp (disch := omega) only [go_sem, Nat.reduceBEq, ↓reduceIte])) | ((refine zqd _ rfl (fun hc => ?_) (fun hc => ?_)) <;> (first | (cases hc; done) | ((try simp only [z01] at hc); (try (exfalso; omega))))) | refine zqg ?_ | refine zqu (by (simp (disch := omega) only [go_sem]); rfl) rfl ?_ | (refine J _ ?_; clear J K) | (refine zqf (fun hb => ?_) (fun hb => ?_) <;> (have hb2 := hb; try simp only [z01] at hb2) <;> ((first | have F := eq_false hb2 | have F := eq_true hb2); (simp (disch := omega) only [go_sem, Nat.reduceBEq, ↓reduceIte, Int.reduceLE, F, zdi, hz]); clear hb F; (try (exfalso; omega)))))
   all_goals first | exact z00 rfl | (exfalso; omega)
 ·refine ⟨false, ?_⟩
  refine z1y 1 rfl rfl (z1v [] Tryz.func125 rfl (by decide +kernel) z0i (by decide +kernel) (by simp [Tryz.ntmps125]) ?_)
  show awp _ _ (Code.seq _ _) _ _
  repeat' (first | refine zqj ?_ | ((refine z03 (N := 3) rfl fun K J => ?_); (simp (disch := omega) only [go_sem, Nat.reduceBEq, ↓reduceIte])) | ((refine zqd _ rfl (fun hc => ?_) (fun hc => ?_)) <;> (first | (cases hc; done) | ((try simp only [] at hc); (try (exfalso; omega))))) | refine zqg ?_ | refine zqu (by (simp (disch := omega) only [go_sem]); rfl) rfl ?_ | (refine J _ ?_; clear J K) | (refine zqf (fun hb => ?_) (fun hb => ?_) <;> (have hb2 := hb; try simp only [z01] at hb2) <;> ((first | have F := eq_false hb2 | have F := eq_true hb2); (simp (disch := omega) only [go_sem, Nat.reduceBEq, ↓reduceIte, Int.reduceLE, F, zdi, hz]); clear hb F; (try (exfalso; omega)))))
  all_goals first | exact z00 rfl | (exfalso; omega)
end
end Go.Proofs.YtppebcifiejplaaGreatDoor
namespace Go.Proofs.YtppebcifiejplaaGreatDoor.Abs
open Go.RowKit
variable {P : Program}
inductive OT where
 | run (l : List Nat)
 | fork (l : List Nat) (a b : OT)
def OT.pre (l : List Nat) : OT -> OT
 | .run m => .run (l ++ m)
 | .fork m a b => .fork (l ++ m) a b
def OT.isDone : OT -> Bool
 | .run [] => true
 | _ => false
def zcu (P : Program) (own : List Nat) (ops : Array Oper) (K : St -> Prop) : OT -> St -> Prop
 | .run l, st => z7r P own ops K l st
 | .fork l a b, st => z7r P own ops (fun st => zcu P own ops K a st /\ zcu P own ops K b st) l st
def zrx (cm : Nat -> Nat -> Bool) (i : Nat) : List Nat -> Option (List Nat)
 | [] => none
 | j :: l => if j == i then some l else if cm j i then (zrx cm i l).map (j :: ·) else none
def zog (cm : Nat -> Nat -> Bool) (i : Nat) : OT -> Option OT
 | .run l => (zrx cm i l).map .run
 | .fork l a b => if l.contains i then (zrx cm i l).map fun m => .fork m a b else
   if l.all (fun j => cm j i) then (match zog cm i a, zog cm i b with
    | some t, none => some (t.pre l)
    | none, some t => some (t.pre l)
    | _, _ => none) else none
def zie (cm : Nat -> Nat -> Bool) (ops : Array Oper) : Nat -> Array Bool -> OT -> Bool
 | 0, listed, t => (Region.ready .any ops listed).isEmpty && t.isDone
 | n + 1, listed, t => if (Region.ready .any ops listed).isEmpty then t.isDone else (Region.ready .any ops listed).all fun i => match zog cm i t with
  | some t' => decide (i < ops.size) && zie cm ops n (listed.setIfInBounds i true) t'
  | none => false
section
variable {own : List Nat} {ops : Array Oper} {K : St -> Prop} {cm : Nat -> Nat -> Bool}
theorem zbk {i : Nat} : ∀ {l m : List Nat}, zrx cm i l = some m -> ∃ r1 r2, l = r1 ++ i :: r2 /\ m = r1 ++ r2 /\ ∀ j ∈ r1, cm j i = true
 | [], m, h => by cases h
 | j :: l, m, h => by
  unfold zrx at h
  split at h
  ·rename_i he
   rw [beq_iff_eq] at he
   subst he
   cases h
   exact ⟨[], l, rfl, rfl, fun j hj => by cases hj⟩
  ·split at h
   ·rename_i hc
    simp only [Option.map_eq_some_iff] at h
    obtain ⟨m', hm, rfl⟩ := h
    obtain ⟨r1, r2, rfl, rfl, h3⟩ := zbk hm
    refine ⟨j :: r1, r2, rfl, rfl, fun k O => ?_⟩
    rcases List.mem_cons.1 O with rfl | O
    ·exact hc
    ·exact h3 k O
   ·cases h
theorem zwl (l : List Nat) (t : OT) (st : St) : zcu P own ops K (t.pre l) st = z7r P own ops (zcu P own ops K t) l st := by
 cases t with
 | run m => unfold OT.pre; unfold zcu; rw [z3w]; congr 1
 | fork m a b => unfold OT.pre; unfold zcu; rw [z3w]; congr 1
def zdx (P : Program) (own : List Nat) (ops : Array Oper) (x y : Oper) : Prop := ∀ (st : St) (dx dy : D) (H1 H2 : HM) (n1 n2 : Nat), z0r P own ops x st dx H1 n1 -> z0r P own ops y (st.next x dx H1 n1) dy H2 n2 ->
  ∃ H3 n3, z0r P own ops y st dy H3 n3 /\ z0r P own ops x (st.next y dy H3 n3) dx H2 n2 /\ (st.next x dx H1 n1).next y dy H2 n2 = (st.next y dy H3 n3).next x dx H2 n2
def isMk (o : Oper) : Bool := match o.op with
 | .makeMap _ none => true
 | _ => false
def z002 (own : List Nat) (ops : Array Oper) (x y : Oper) : Bool := x.apart ops y && ((z72 own x && isMk y) || (isMk x && z72 own y))
theorem zmt {x : Oper} {st : St} {d : D} {H : HM} {nx : Nat} (O : isMk x = true) (h : z0r P own ops x st d H nx) : z88 st H nx := by
 unfold isMk at O
 split at O
 ·rename_i t hop
  unfold z0r at h
  rcases h with ⟨hg, ⟨f, args, tys, g, cap, hop2, _⟩ | hs⟩ | ⟨hg, h1, h2, h3⟩
  ·rw [hop] at hop2; cases hop2
  ·have h0 := hs.1
   unfold opR at h0
   simp only [hop, Option.map_eq_some_iff, Prod.mk.injEq] at h0
   obtain ⟨_, _, _, rfl, rfl⟩ := h0
   exact z8q st (by intro e cs h; cases h)
  ·subst h2; subst h3; exact z41 st
 ·cases O
theorem z003 {x y : Oper} (hp : z002 own ops x y = true) : zdx P own ops x y := by
 intro st dx dy H1 H2 n1 n2 hx hy
 simp only [z002, Bool.and_eq_true, Bool.or_eq_true] at hp
 obtain ⟨hap, hc⟩ := hp
 obtain ⟨ha1, ha2, ha3⟩ := Oper.apart_spec hap
 have ty : ∀ t ∈ y.looksAt ops, (st.next x dx H1 n1).t t = st.t t := fun t ht => z9f (fun e => ha1 t e ht)
 have tx : ∀ H n t, t ∈ x.looksAt ops -> st.t t = (st.next y dy H n).t t := fun H n t ht => (z9f (fun e => ha3 t e ht)).symm
 have hcomm := fun H3 n3 => zk1 (st := st) (x := x) (y := y) (dx := dx) (dy := dy) (H1 := H1) (H2 := H3) (H3 := H2) (n1 := n1) (n2 := n3) (n3 := n2) ha2
 rcases hc with ⟨hl, O⟩ | ⟨O, hl⟩
 ·obtain ⟨rfl, rfl⟩ := z2u (by rw [z73 hl]; omega) hx
  have hy' : z0r P own ops y st dy H2 n2 := z0j ty (z27 ..) (z1g ..) hy
  have hs := zmt O hy'
  refine ⟨H2, n2, hy', ?_, hcomm _ _⟩
  exact z0j (st := st.withH H2 n2) (fun t ht => tx _ _ t ht) (z27 ..).symm (z1g ..).symm ((z6h hl hs).1 hx)
 ·have hs := zmt O hx
  obtain ⟨h1, h2⟩ := z2u (by rw [z73 hl]; omega) hy
  rw [z27] at h1; rw [z1g] at h2
  subst h1; subst h2
  have hy' : z0r P own ops y (st.withH H2 n2) dy H2 n2 := z0j ty (z27 ..) (z1g ..) hy
  refine ⟨st.H, st.nx, (z6h hl hs).2 hy', ?_, hcomm _ _⟩
  exact z0j (fun t ht => tx _ _ t ht) (z27 ..).symm (z1g ..).symm hx
theorem zwm {i : Nat} {oi : Oper} (hi : ops[i]? = some oi) : ∀ (r1 r2 : List Nat) (st : St),
  (∀ j ∈ r1, ∀ oj, ops[j]? = some oj -> zdx P own ops oj oi) -> z7r P own ops K (r1 ++ i :: r2) st -> z7r P own ops K (i :: (r1 ++ r2)) st
 | [], r2, st, _, h => h
 | j :: r1, r2, st, hp, h => by
  simp only [List.cons_append, z7r] at h
  obtain ⟨oj, dj, Hj, nj, hoj, hsj, h⟩ := h
  have h' := zwm hi r1 r2 _ (fun k O => hp k (List.mem_cons_of_mem _ O)) h
  simp only [z7r] at h'
  obtain ⟨o', di, Hi, ni, hoi, hsi, h'⟩ := h'
  rw [hi] at hoi
  cases hoi
  obtain ⟨H3, n3, h1, h2, h3⟩ := hp j (by simp) oj hoj _ _ _ _ _ _ _ hsj hsi
  simp only [List.cons_append, z7r]
  exact ⟨oi, di, H3, n3, hi, h1, oj, dj, Hi, ni, hoj, h2, by rw [<- h3]; exact h'⟩
theorem pullKS {K1 K2 : St -> Prop} {i : Nat} {oi : Oper} (hi : ops[i]? = some oi) (r : List Nat) (st : St)
  (hp : ∀ j ∈ r, ∀ oj, ops[j]? = some oj -> zdx P own ops oj oi) (O : ∀ st, K1 st -> z7r P own ops K2 [i] st) (h : z7r P own ops K1 r st) : z7r P own ops K2 (i :: r) st := by
 have h1 := z74 O r st h
 rw [<- z3w] at h1
 have := zwm hi r [] st hp h1
 rwa [List.append_nil] at this
theorem z9y (hcm : ∀ j i oj oi, cm j i = true -> ops[j]? = some oj -> ops[i]? = some oi -> zdx P own ops oj oi) {i : Nat} {oi : Oper} (hi : ops[i]? = some oi) :
  ∀ (t t' : OT) (st : St), zog cm i t = some t' -> zcu P own ops K t st -> z7r P own ops (zcu P own ops K t') [i] st
 | .run l, t', st, h, hr => by
  simp only [zog, Option.map_eq_some_iff] at h
  obtain ⟨m, hm, rfl⟩ := h
  obtain ⟨r1, r2, rfl, rfl, h3⟩ := zbk hm
  exact zwm hi r1 r2 st (fun j hj oj hoj => hcm j i oj oi (h3 j hj) hoj hi) hr
 | .fork l a b, t', st, h, hr => by
  unfold zog at h
  split at h
  ·simp only [Option.map_eq_some_iff] at h
   obtain ⟨m, hm, rfl⟩ := h
   obtain ⟨r1, r2, rfl, rfl, h3⟩ := zbk hm
   exact zwm hi r1 r2 st (fun j hj oj hoj => hcm j i oj oi (h3 j hj) hoj hi) hr
  ·split at h
   ·rename_i hall
    have hp : ∀ j ∈ l, ∀ oj, ops[j]? = some oj -> zdx P own ops oj oi := fun j hj oj hoj => hcm j i oj oi (List.all_eq_true.1 hall j hj) hoj hi
    have go : ∀ t : OT, (∀ st, (zcu P own ops K a st /\ zcu P own ops K b st) -> z7r P own ops (zcu P own ops K t) [i] st) -> z7r P own ops (zcu P own ops K (t.pre l)) [i] st := by
     intro t ht
     have h1 := pullKS hi l st hp ht hr
     have e : zcu P own ops K (t.pre l) = z7r P own ops (zcu P own ops K t) l := funext fun st => zwl l t st
     rw [e]
     exact h1
    split at h
    ·rename_i t h1 h2
     cases h
     exact go t fun st hh => z9y hcm hi a t st h1 hh.1
    ·rename_i t h1 h2
     cases h
     exact go t fun st hh => z9y hcm hi b t st h2 hh.2
    ·cases h
   ·cases h
theorem zwn {N : Nat} {Q : Exit -> Act -> World -> Prop} (hcm : ∀ j i oj oi, cm j i = true -> ops[j]? = some oj -> ops[i]? = some oi -> zdx P own ops oj oi) (hdst : ∀ (i : Nat) o, ops[i]? = some o -> za4 N o = true) :
  ∀ (fuel : Nat) (listed : Array Bool) (t : OT) (st : St) (s : RS) (a : Act) (w : World), zie cm ops fuel listed t = true -> zcu P own ops K t st -> Fr P N st s a w ->
  (∀ st' s' a' w', K st' -> Fr P N st' s' a' w' -> Step s w s' w' -> Q .normal a' w') -> wpAny P .any ops Q fuel listed a w := by
 have hend : ∀ (t : OT) (st : St), t.isDone = true -> zcu P own ops K t st -> K st := fun t st h hr => by
  cases t with
  | run l => cases l with
   | nil => exact hr
   | cons i l => cases h
  | fork l a b => cases h
 intro fuel
 induction fuel with
 | zero =>
  intro listed t st s a w hc hr hf O
  simp only [zie, Bool.and_eq_true, List.isEmpty_iff] at hc
  exact ⟨hc.1, O st s a w (hend t st hc.2 hr) hf (Step.refl s w)⟩
 | succ fuel ih =>
  intro listed t st s a w hc hr hf O
  unfold zie at hc
  refine ⟨fun h0 => ?_, fun i hi => ?_⟩
  ·rw [if_pos (by rw [h0]; rfl)] at hc
   exact O st s a w (hend t st hc hr) hf (Step.refl s w)
  ·rw [if_neg (by intro e; rw [List.isEmpty_iff] at e; rw [e] at hi; cases hi)] at hc
   have h1 := List.all_eq_true.1 hc i hi
   split at h1
   ·rename_i t' ht
    simp only [Bool.and_eq_true, decide_eq_true_eq] at h1
    have hoi := Array.getElem?_eq_getElem h1.1
    obtain ⟨o, d, H, nx, ho, hstep, hrest⟩ := z9y hcm hoi t t' st ht hr
    exact z7s ho (hdst i o ho) hf hstep fun s' a' w' hf' hs' => ih _ t' _ s' a' w' h1.2 hrest hf' fun st2 s2 a2 w2 hK2 hf2 hs2 => O st2 s2 a2 w2 hK2 hf2 (hs'.trans hs2)
   ·cases h1
def cmL (cs : List (Nat × Nat)) (j i : Nat) : Bool := cs.any fun p => p.1 == j && p.2 == i
def cmOK (own : List Nat) (ops : Array Oper) (cs : List (Nat × Nat)) : Bool := cs.all fun p => match ops[p.1]?, ops[p.2]? with
 | some x, some y => zb3 own ops x y || z002 own ops x y
 | _, _ => true
theorem cm_ok {cs : List (Nat × Nat)} (h : cmOK own ops cs = true) : ∀ j i oj oi, cmL cs j i = true -> ops[j]? = some oj -> ops[i]? = some oi -> zdx P own ops oj oi := by
 intro j i oj oi hc hj hi
 obtain ⟨p, hp, hpe⟩ := List.any_eq_true.1 hc
 simp only [Bool.and_eq_true, beq_iff_eq] at hpe
 have h1 := List.all_eq_true.1 h p hp
 rw [hpe.1, hpe.2, hj, hi] at h1
 simp only [Bool.or_eq_true] at h1
 rcases h1 with h1 | h1
 ·exact fun st dx dy H1 H2 n1 n2 hx hy => swap h1 hx hy
 ·exact z003 h1
theorem zwo {N id : Nat} {Q : Exit -> St -> Prop} {st : St} (hm : P.follows .mixedOrders = true) (hdst : ∀ o ∈ ops.toList, za4 N o = true) (cs : List (Nat × Nat)) (t : OT) (hcs : cmOK own ops cs = true)
  (hcov : zie (cmL cs) ops ops.size (Array.replicate ops.size false) t = true) (h : zcu P own ops (Q .normal) t st) : Sem P N (.region id ops true) Q st := by
 intro s0 w0 s a w hf hs
 obtain ⟨hds, hdr⟩ := zf8 (w' := { w with drawn := w.drawn + 1 }) hf.heap rfl rfl rfl rfl
 have hf' : Fr P N st s a { w with drawn := w.drawn + 1 } := ⟨hf.H, hf.nx, hf.size, hf.defers, hf.tmps, hdr⟩
 have hdst2 : ∀ (i : Nat) o, ops[i]? = some o -> za4 N o = true := fun i o ho => hdst o (by
  obtain ⟨h1, h2⟩ := (Array.getElem?_eq_some_iff.1 ho)
  rw [<- h2]; exact (Array.mem_toList_iff.2 (Array.getElem_mem h1)))
 exact wp_region_any hm (zwn (Q := lift P N s0 w0 Q) (cm_ok hcs) hdst2 ops.size _ t st s a _ hcov h hf' fun st' s' a' w' J hf2 hs2 => ⟨st', s', J, hf2, hs.trans (hds.trans hs2)⟩)
theorem zwp {l : List Nat} {os : List Oper} {st : St} (hl : l.map (fun k => ops[k]?) = os.map some) (h : z2s P own (zuu ops) os K st) : zcu P own ops K (.run l) st := z60 os l st hl h
theorem zry {l : List Nat} {os : List Oper} {a b : OT} {st : St} (hl : l.map (fun k => ops[k]?) = os.map some) (h : z2s P own (zuu ops) os (fun st => zcu P own ops K a st /\ zcu P own ops K b st) st) : zcu P own ops K (.fork l a b) st := z60 os l st hl h
end
end Go.Proofs.YtppebcifiejplaaGreatDoor.Abs
namespace Go.Proofs.YtppebcifiejplaaGreatDoor
section
open Abs Facts Go.Lib Go.RowKit
namespace Abs
variable {P : Program}
end Abs
end
end Go.Proofs.YtppebcifiejplaaGreatDoor
namespace Go.Proofs.YtppebcifiejplaaGreatDoor.Abs
open Go.RowKit Go.Lib
variable {P : Program}
theorem Sem.join {N : Nat} {x y : Code} {Q : Exit -> St -> Prop} {st : St} (I : St -> Prop) (h2 : Sem P N x (znr I Q) st) (h1 : ∀ st, I st -> Sem P N y Q st) : Sem P N (.seq x y) Q st := by
 intro s0 w0 s a w hf hs
 refine wp_seq (wp_mono (h2 s0 w0 s a w hf hs) ?_)
 rintro e a' w' ⟨st', s', hq, hf', hs'⟩
 cases e with
 | normal => exact h1 st' hq s0 w0 s' a' w' hf' hs'
 | exit id => exact ⟨st', s', hq, hf', hs'⟩
 | goto l => exact ⟨st', s', hq, hf', hs'⟩
 | ret => exact ⟨st', s', hq, hf', hs'⟩
 | panic ch => exact ⟨st', s', hq, hf', hs'⟩
 | outgrown => exact ⟨st', s', hq, hf', hs'⟩
end Go.Proofs.YtppebcifiejplaaGreatDoor.Abs
namespace Go.Proofs.YtppebcifiejplaaGreatDoor
section
open Abs Facts Tr
attribute [local irreducible] awp
set_option maxRecDepth 100000
namespace Abs
def zjp : List Oper -> Nat -> Option Oper
 | [], _ => none
 | o :: _, 0 => some o
 | _ :: l, k + 1 => zjp l k
def z6n (opl : List Oper) : List Nat -> List Oper
 | [] => []
 | k :: l => match zjp opl k with
  | some o => o :: z6n opl l
  | none => z6n opl l
theorem z4z {P : Program} {own : List Nat} {K : St -> Prop} {opl : List Oper} {l : List Nat} {st : St} (h : z2s P own (opl.map (·.dst)) (z6n opl l) K st) (hl : l.map (fun k => opl.toArray[k]?) = (z6n opl l).map some) : zcu P own opl.toArray K (.run l) st := zwp hl h
theorem z4p {P : Program} {own : List Nat} {K : St -> Prop} {opl : List Oper} {l : List Nat} {a b : OT} {st : St} (h : z2s P own (opl.map (·.dst)) (z6n opl l) (fun st => zcu P own opl.toArray K a st /\ zcu P own opl.toArray K b st) st) (hl : l.map (fun k => opl.toArray[k]?) = (z6n opl l).map some) : zcu P own opl.toArray K (.fork l a b) st := zry hl h
end Abs
set_option maxHeartbeats 4000000 in
theorem zu0 (n a b : Int) : PC Tryz.prog 228 [.int .i64 n, .int .i64 a, .int .i64 b] (.bool (inB n a b)) := by
 refine z1y 1 rfl rfl (z1v [] Tryz.func228 rfl (by decide +kernel) z0i (by decide +kernel) (by simp [Tryz.ntmps228]) ?_)
 show awp _ _ (Code.seq _ _) _ _
 unfold inB
 repeat' (first | refine zqj ?_ | ((first | refine zqh fun K J => ?_ | refine zqe (by decide +kernel) fun K J => ?_ | refine zqr fun K J => ?_ | refine zqq (by decide +kernel) fun K J => ?_); (simp (disch := omega) only [go_sem, Nat.reduceBEq, Nat.reduceBeqDiff, Nat.reduceEqDiff, ↓reduceIte, reduceCtorEq, Nat.reduceAdd, Nat.reduceMul, Nat.reduceLeDiff, Nat.reduceLT, Int.reduceLT, Int.reduceLE, Int.reduceEq])) | ((first | refine zqd _ rfl (fun hc => ?_) (fun hc => ?_) | refine zqm _ rfl (fun hc => ?_) (fun hc => ?_)) <;> (first | (cases hc; done) | ((try simp only [z01] at hc); (try (exfalso; omega))))) | refine zqa ?_ | refine zqi ?_ | refine zqb ?_ | refine zqg ?_ | refine zqc ?_ | refine zqk ?_ | refine zql ?_ | refine zqn ?_ | refine zqv ?_ | refine zqw ?_ | refine zqx ?_ | refine zqy ?_ | refine zqz ?_ | refine z58 rfl ?_ | refine z23 ?_ | refine zqp ?_ | refine zqo ?_ | refine zqu (by (simp (disch := omega) only [go_sem, Nat.reduceBEq, Nat.reduceBeqDiff, Nat.reduceEqDiff, ↓reduceIte, reduceCtorEq, Nat.reduceAdd, Nat.reduceLeDiff, Nat.reduceLT]); rfl) rfl ?_ | (refine J _ ?_; clear J K) | (refine zqf (fun hb => ?_) (fun hb => ?_) <;> (have hb2 := hb; try simp only [z01] at hb2) <;> ((first | have F : (_ : Bool) = _ := hb2 | have F := eq_false hb2 | have F := eq_true hb2); (simp (disch := omega) only [go_sem, Nat.reduceBEq, Nat.reduceBeqDiff, Nat.reduceEqDiff, ↓reduceIte, reduceCtorEq, Nat.reduceAdd, Nat.reduceMul, Nat.reduceLeDiff, Nat.reduceLT, Int.reduceLT, Int.reduceLE, Int.reduceEq, hb, F]); clear hb F; (try (exfalso; omega)))) | (exfalso; omega))
 all_goals refine z00 ?_
 all_goals first
  | exact (decide_eq_false (by omega)).symm
  | exact decide_eq_decide.2 (by omega)
theorem zpg (k d : Int) (e : ByteArray) (he : e.size <= 1000) : ∃ b : Bool, PC Tryz.prog 126 [.agg [.int .i64 k, .int .i64 d, .str e]] (.bool b) := by
 obtain ⟨bn, c2⟩ := zja e he
 have c1 := zu0 d 0 1048576
 by_cases h02 : k = 0 \/ k = 2
 ·refine ⟨decide (d = 0) && decide (e = (⟨#[]⟩ : ByteArray)), ?_⟩
  refine z1y 1 rfl rfl (z1v [] Tryz.func126 rfl (by decide +kernel) z0i (by decide +kernel) (by simp [Tryz.ntmps126]) ?_)
  show awp _ _ (Code.seq _ _) _ _
  rcases h02 with h0 | h0
  all_goals
   by_cases V : d = 0
   all_goals
    repeat' (first | refine zqj ?_ | ((first | refine zqh fun K J => ?_ | refine zqe (by decide +kernel) fun K J => ?_ | refine zqr fun K J => ?_ | refine zqq (by decide +kernel) fun K J => ?_); (simp (disch := omega) only [go_sem, Nat.reduceBEq, Nat.reduceBeqDiff, Nat.reduceEqDiff, ↓reduceIte, reduceCtorEq, Nat.reduceAdd, Nat.reduceMul, Nat.reduceLeDiff, Nat.reduceLT, Int.reduceLT, Int.reduceLE, Int.reduceEq, h0])) | ((first | refine zqd _ rfl (fun hc => ?_) (fun hc => ?_) | refine zqm _ rfl (fun hc => ?_) (fun hc => ?_)) <;> (first | (cases hc; done) | ((try simp only [z01] at hc); (try (exfalso; omega))))) | refine zqa ?_ | refine zqi ?_ | refine zqb ?_ | refine zqg ?_ | refine zqc ?_ | refine zqk ?_ | refine zql ?_ | refine zqn ?_ | refine zqv ?_ | refine zqw ?_ | refine zqx ?_ | refine zqy ?_ | refine zqz ?_ | refine z58 rfl ?_ | refine z23 ?_ | refine zqp ?_ | refine zqo ?_ | refine zqu (by (simp (disch := omega) only [go_sem, Nat.reduceBEq, Nat.reduceBeqDiff, Nat.reduceEqDiff, ↓reduceIte, reduceCtorEq, Nat.reduceAdd, Nat.reduceLeDiff, Nat.reduceLT, h0]); rfl) rfl ?_ | (refine J _ ?_; clear J K) | (refine zqf (fun hb => ?_) (fun hb => ?_) <;> (have hb2 := hb; try simp only [z01] at hb2) <;> ((first | have F : (_ : Bool) = _ := hb2 | have F := eq_false hb2 | have F := eq_true hb2); (simp (disch := omega) only [go_sem, Nat.reduceBEq, Nat.reduceBeqDiff, Nat.reduceEqDiff, ↓reduceIte, reduceCtorEq, Nat.reduceAdd, Nat.reduceMul, Nat.reduceLeDiff, Nat.reduceLT, Int.reduceLT, Int.reduceLE, Int.reduceEq, hb, F, h0]); clear hb F; (try (exfalso; omega)))) | (exfalso; omega))
    all_goals first
     | (refine z00 ?_; rw [decide_eq_true (p := d = 0) (by assumption), Bool.true_and]; done)
     | (refine z00 ?_; rw [decide_eq_false (p := d = 0) (by assumption)]; rfl)
 by_cases h1 : k = 1
 ·refine ⟨inB d 0 1048576 && decide (e = (⟨#[]⟩ : ByteArray)), ?_⟩
  refine z1y 1 rfl rfl (z1v [] Tryz.func126 rfl (by decide +kernel) z0i (by decide +kernel) (by simp [Tryz.ntmps126]) ?_)
  show awp _ _ (Code.seq _ _) _ _
  cases hin : inB d 0 1048576
  all_goals
   rw [hin] at c1
   repeat' (first | refine zqj ?_ | ((first | refine zqh fun K J => ?_ | refine zqe (by decide +kernel) fun K J => ?_ | refine zqr fun K J => ?_ | refine zqq (by decide +kernel) fun K J => ?_ | refine zqs (c1) ?_ | refine zqt (c1) ?_); (simp (disch := omega) only [go_sem, Nat.reduceBEq, Nat.reduceBeqDiff, Nat.reduceEqDiff, ↓reduceIte, reduceCtorEq, Nat.reduceAdd, Nat.reduceMul, Nat.reduceLeDiff, Nat.reduceLT, Int.reduceLT, Int.reduceLE, Int.reduceEq, h1])) | ((first | refine zqd _ rfl (fun hc => ?_) (fun hc => ?_) | refine zqm _ rfl (fun hc => ?_) (fun hc => ?_)) <;> (first | (cases hc; done) | ((try simp only [z01] at hc); (try (exfalso; omega))))) | refine zqa ?_ | refine zqi ?_ | refine zqb ?_ | refine zqg ?_ | refine zqc ?_ | refine zqk ?_ | refine zql ?_ | refine zqn ?_ | refine zqv ?_ | refine zqw ?_ | refine zqx ?_ | refine zqy ?_ | refine zqz ?_ | refine z58 rfl ?_ | refine z23 ?_ | refine zqp ?_ | refine zqo ?_ | refine zqu (by (simp (disch := omega) only [go_sem, Nat.reduceBEq, Nat.reduceBeqDiff, Nat.reduceEqDiff, ↓reduceIte, reduceCtorEq, Nat.reduceAdd, Nat.reduceLeDiff, Nat.reduceLT, h1]); rfl) rfl ?_ | (refine J _ ?_; clear J K) | (refine zqf (fun hb => ?_) (fun hb => ?_) <;> (have hb2 := hb; try simp only [z01] at hb2) <;> ((first | have F : (_ : Bool) = _ := hb2 | have F := eq_false hb2 | have F := eq_true hb2); (simp (disch := omega) only [go_sem, Nat.reduceBEq, Nat.reduceBeqDiff, Nat.reduceEqDiff, ↓reduceIte, reduceCtorEq, Nat.reduceAdd, Nat.reduceMul, Nat.reduceLeDiff, Nat.reduceLT, Int.reduceLT, Int.reduceLE, Int.reduceEq, hb, F, h1]); clear hb F; (try (exfalso; omega)))) | (exfalso; omega))
   all_goals exact z00 rfl
 by_cases h3 : k = 3
 ·refine ⟨decide (d = 0) && bn, ?_⟩
  refine z1y 1 rfl rfl (z1v [] Tryz.func126 rfl (by decide +kernel) z0i (by decide +kernel) (by simp [Tryz.ntmps126]) ?_)
  show awp _ _ (Code.seq _ _) _ _
  by_cases V : d = 0
  all_goals
   repeat' (first | refine zqj ?_ | ((first | refine zqh fun K J => ?_ | refine zqe (by decide +kernel) fun K J => ?_ | refine zqr fun K J => ?_ | refine zqq (by decide +kernel) fun K J => ?_ | refine zqs (c2) ?_ | refine zqt (c2) ?_); (simp (disch := omega) only [go_sem, Nat.reduceBEq, Nat.reduceBeqDiff, Nat.reduceEqDiff, ↓reduceIte, reduceCtorEq, Nat.reduceAdd, Nat.reduceMul, Nat.reduceLeDiff, Nat.reduceLT, Int.reduceLT, Int.reduceLE, Int.reduceEq, h3])) | ((first | refine zqd _ rfl (fun hc => ?_) (fun hc => ?_) | refine zqm _ rfl (fun hc => ?_) (fun hc => ?_)) <;> (first | (cases hc; done) | ((try simp only [z01] at hc); (try (exfalso; omega))))) | refine zqa ?_ | refine zqi ?_ | refine zqb ?_ | refine zqg ?_ | refine zqc ?_ | refine zqk ?_ | refine zql ?_ | refine zqn ?_ | refine zqv ?_ | refine zqw ?_ | refine zqx ?_ | refine zqy ?_ | refine zqz ?_ | refine z58 rfl ?_ | refine z23 ?_ | refine zqp ?_ | refine zqo ?_ | refine zqu (by (simp (disch := omega) only [go_sem, Nat.reduceBEq, Nat.reduceBeqDiff, Nat.reduceEqDiff, ↓reduceIte, reduceCtorEq, Nat.reduceAdd, Nat.reduceLeDiff, Nat.reduceLT, h3]); rfl) rfl ?_ | (refine J _ ?_; clear J K) | (refine zqf (fun hb => ?_) (fun hb => ?_) <;> (have hb2 := hb; try simp only [z01] at hb2) <;> ((first | have F : (_ : Bool) = _ := hb2 | have F := eq_false hb2 | have F := eq_true hb2); (simp (disch := omega) only [go_sem, Nat.reduceBEq, Nat.reduceBeqDiff, Nat.reduceEqDiff, ↓reduceIte, reduceCtorEq, Nat.reduceAdd, Nat.reduceMul, Nat.reduceLeDiff, Nat.reduceLT, Int.reduceLT, Int.reduceLE, Int.reduceEq, hb, F, h3]); clear hb F; (try (exfalso; omega)))) | (exfalso; omega))
   all_goals first
    | (refine z00 ?_; rw [decide_eq_true (p := d = 0) (by assumption), Bool.true_and]; done)
    | (refine z00 ?_; rw [decide_eq_false (p := d = 0) (by assumption)]; rfl)
 ·refine ⟨false, ?_⟩
  refine z1y 1 rfl rfl (z1v [] Tryz.func126 rfl (by decide +kernel) z0i (by decide +kernel) (by simp [Tryz.ntmps126]) ?_)
  show awp _ _ (Code.seq _ _) _ _
  repeat' (first | refine zqj ?_ | ((first | refine zqh fun K J => ?_ | refine zqe (by decide +kernel) fun K J => ?_ | refine zqr fun K J => ?_ | refine zqq (by decide +kernel) fun K J => ?_); (simp (disch := omega) only [go_sem, Nat.reduceBEq, Nat.reduceBeqDiff, Nat.reduceEqDiff, ↓reduceIte, reduceCtorEq, Nat.reduceAdd, Nat.reduceMul, Nat.reduceLeDiff, Nat.reduceLT, Int.reduceLT, Int.reduceLE, Int.reduceEq])) | ((first | refine zqd _ rfl (fun hc => ?_) (fun hc => ?_) | refine zqm _ rfl (fun hc => ?_) (fun hc => ?_)) <;> (first | (cases hc; done) | ((try simp only [z01] at hc); (try (exfalso; omega))))) | refine zqa ?_ | refine zqi ?_ | refine zqb ?_ | refine zqg ?_ | refine zqc ?_ | refine zqk ?_ | refine zql ?_ | refine zqn ?_ | refine zqv ?_ | refine zqw ?_ | refine zqx ?_ | refine zqy ?_ | refine zqz ?_ | refine z58 rfl ?_ | refine z23 ?_ | refine zqp ?_ | refine zqo ?_ | refine zqu (by (simp (disch := omega) only [go_sem, Nat.reduceBEq, Nat.reduceBeqDiff, Nat.reduceEqDiff, ↓reduceIte, reduceCtorEq, Nat.reduceAdd, Nat.reduceLeDiff, Nat.reduceLT]); rfl) rfl ?_ | (refine J _ ?_; clear J K) | (refine zqf (fun hb => ?_) (fun hb => ?_) <;> (have hb2 := hb; try simp only [z01] at hb2) <;> ((first | have F : (_ : Bool) = _ := hb2 | have F := eq_false hb2 | have F := eq_true hb2); (simp (disch := omega) only [go_sem, Nat.reduceBEq, Nat.reduceBeqDiff, Nat.reduceEqDiff, ↓reduceIte, reduceCtorEq, Nat.reduceAdd, Nat.reduceMul, Nat.reduceLeDiff, Nat.reduceLT, Int.reduceLT, Int.reduceLE, Int.reduceEq, hb, F]); clear hb F; (try (exfalso; omega)))) | (exfalso; omega))
  all_goals first | exact z00 rfl | (exfalso; omega)
set_option maxHeartbeats 4000000 in
theorem zu1 (a : List Stp) (ha : a.length <= 1000) : PC Tryz.prog 233 [z0a a, z0a a] (.bool true) := by
 refine z1y 1 (by simp only [pureD.pureL, z1e, Bool.and_self]) rfl (z1v [] Tryz.func233 rfl (by decide +kernel) z0i (by decide +kernel) (by simp [Tryz.ntmps233]) ?_)
 show awp _ _ (Code.seq _ _) _ _
 repeat' (first | refine zqj ?_ | ((first | refine zqh fun K J => ?_ | refine zqe (by decide +kernel) fun K J => ?_ | refine zqr fun K J => ?_ | refine zqq (by decide +kernel) fun K J => ?_); (simp (disch := omega) only [go_sem, Nat.reduceBEq, Nat.reduceBeqDiff, Nat.reduceEqDiff, ↓reduceIte, reduceCtorEq, Nat.reduceAdd, Nat.reduceMul, Nat.reduceLeDiff, Nat.reduceLT, Int.reduceLT, Int.reduceLE, Int.reduceEq, z0a])) | ((first | refine zqd _ rfl (fun hc => ?_) (fun hc => ?_) | refine zqm _ rfl (fun hc => ?_) (fun hc => ?_)) <;> (first | (cases hc; done) | ((try simp only [z01] at hc); (try (exfalso; omega))))) | refine zqa ?_ | refine zqi ?_ | refine zqb ?_ | refine zqg ?_ | refine zqc ?_ | refine zqk ?_ | refine zql ?_ | refine zqn ?_ | refine zqv ?_ | refine zqw ?_ | refine zqx ?_ | refine zqy ?_ | refine zqz ?_ | refine z58 rfl ?_ | refine z23 ?_ | refine zqp ?_ | refine zqo ?_ | refine zqu (by (simp (disch := omega) only [go_sem, Nat.reduceBEq, Nat.reduceBeqDiff, Nat.reduceEqDiff, ↓reduceIte, reduceCtorEq, Nat.reduceAdd, Nat.reduceLeDiff, Nat.reduceLT, z0a]); rfl) rfl ?_ | (refine J _ ?_; clear J K) | (refine zqf (fun hb => ?_) (fun hb => ?_) <;> (have hb2 := hb; try simp only [z01] at hb2) <;> ((first | have F : (_ : Bool) = _ := hb2 | have F := eq_false hb2 | have F := eq_true hb2); (simp (disch := omega) only [go_sem, Nat.reduceBEq, Nat.reduceBeqDiff, Nat.reduceEqDiff, ↓reduceIte, reduceCtorEq, Nat.reduceAdd, Nat.reduceMul, Nat.reduceLeDiff, Nat.reduceLT, Int.reduceLT, Int.reduceLE, Int.reduceEq, hb, F, z0a]); clear hb F; (try (exfalso; omega)))) | (exfalso; omega))
 (refine z3h (fun U st => ∃ (k : _), U = a.length - k /\ st.t 0 = z0a a /\ st.t 1 = z0a a /\ st.t 11 = z0a a /\ st.t 12 = .int .i64 a.length /\ st.t 13 = .int .i64 k /\ (k <= a.length)) ?_ ?_); rotate_left; (rintro U st ⟨k, rfl, q0, q1, q11, q12, q13, qp0⟩); rotate_left
 ·(refine ⟨_, 0, rfl, ?_⟩); (simp (disch := omega) only [go_sem, Nat.reduceBEq, Nat.reduceBeqDiff, Nat.reduceEqDiff, ↓reduceIte, reduceCtorEq, Nat.reduceAdd, Nat.reduceMul, Nat.reduceLeDiff, Nat.reduceLT, Int.reduceLT, Int.reduceLE, Int.reduceEq, true_and, and_true, and_self, Int.natCast_add, Int.natCast_one, Int.natCast_zero, List.flatMap_nil, List.map_nil, List.append_nil, List.nil_append, z0a])
 repeat' (first | refine zqj ?_ | ((first | refine zqh fun K J => ?_ | refine zqe (by decide +kernel) fun K J => ?_ | refine zqr fun K J => ?_ | refine zqq (by decide +kernel) fun K J => ?_); (simp (disch := omega) only [go_sem, Nat.reduceBEq, Nat.reduceBeqDiff, Nat.reduceEqDiff, ↓reduceIte, reduceCtorEq, Nat.reduceAdd, Nat.reduceMul, Nat.reduceLeDiff, Nat.reduceLT, Int.reduceLT, Int.reduceLE, Int.reduceEq, q0, q1, q11, q12, q13, z0a, eq_self, decide_true, Bool.and_self])) | ((first | refine zqd _ rfl (fun hc => ?_) (fun hc => ?_) | refine zqm _ rfl (fun hc => ?_) (fun hc => ?_)) <;> (first | (cases hc; done) | ((try simp only [z01] at hc); (try (exfalso; omega))))) | refine zqa ?_ | refine zqi ?_ | refine zqb ?_ | refine zqg ?_ | refine zqc ?_ | refine zqk ?_ | refine zql ?_ | refine zqn ?_ | refine zqv ?_ | refine zqw ?_ | refine zqx ?_ | refine zqy ?_ | refine zqz ?_ | refine z58 rfl ?_ | refine z23 ?_ | refine zqp ?_ | refine zqo ?_ | refine zqu (by (simp (disch := omega) only [go_sem, Nat.reduceBEq, Nat.reduceBeqDiff, Nat.reduceEqDiff, ↓reduceIte, reduceCtorEq, Nat.reduceAdd, Nat.reduceLeDiff, Nat.reduceLT, q0, q1, q11, q12, q13, z0a, eq_self, decide_true, Bool.and_self]); rfl) rfl ?_ | (refine J _ ?_; clear J K) | (refine zqf (fun hb => ?_) (fun hb => ?_) <;> (have hb2 := hb; try simp only [z01] at hb2) <;> ((first | have F : (_ : Bool) = _ := hb2 | have F := eq_false hb2 | have F := eq_true hb2); (simp (disch := omega) only [go_sem, Nat.reduceBEq, Nat.reduceBeqDiff, Nat.reduceEqDiff, ↓reduceIte, reduceCtorEq, Nat.reduceAdd, Nat.reduceMul, Nat.reduceLeDiff, Nat.reduceLT, Int.reduceLT, Int.reduceLE, Int.reduceEq, hb, F, q0, q1, q11, q12, q13, z0a, eq_self, decide_true, Bool.and_self]); clear hb F; (try (exfalso; omega)))) | (exfalso; omega))
 ·(refine Exists.intro _ (And.intro ?_ ⟨k + 1, rfl, ?_⟩)); rotate_left; (simp (disch := omega) only [go_sem, Nat.reduceBEq, Nat.reduceBeqDiff, Nat.reduceEqDiff, ↓reduceIte, reduceCtorEq, Nat.reduceAdd, Nat.reduceMul, Nat.reduceLeDiff, Nat.reduceLT, Int.reduceLT, Int.reduceLE, Int.reduceEq, q0, q1, q11, q12, q13, true_and, and_true, and_self, Int.natCast_add, Int.natCast_one, Int.natCast_zero, List.flatMap_append, List.flatMap_cons, List.flatMap_nil, List.map_append, List.map_cons, List.map_nil, List.append_nil, List.cons_append, List.nil_append, z0a]); rotate_left
  ·omega
  ·omega
 ·exact z00 rfl
set_option maxHeartbeats 4000000 in
theorem zu2 : PC Tryz.prog 234 [z3b [], z3b []] (.bool true) := by
 refine z1y 1 (by simp only [pureD.pureL, z31, Bool.and_self]) rfl (z1v [] Tryz.func234 rfl (by decide +kernel) z0i (by decide +kernel) (by simp [Tryz.ntmps234]) ?_)
 show awp _ _ (Code.seq _ _) _ _
 repeat' (first | refine zqj ?_ | ((first | refine zqh fun K J => ?_ | refine zqe (by decide +kernel) fun K J => ?_ | refine zqr fun K J => ?_ | refine zqq (by decide +kernel) fun K J => ?_); (simp (disch := omega) only [go_sem, Nat.reduceBEq, Nat.reduceBeqDiff, Nat.reduceEqDiff, ↓reduceIte, reduceCtorEq, Nat.reduceAdd, Nat.reduceMul, Nat.reduceLeDiff, Nat.reduceLT, Int.reduceLT, Int.reduceLE, Int.reduceEq, z3b, List.map_nil, List.length_nil])) | ((first | refine zqd _ rfl (fun hc => ?_) (fun hc => ?_) | refine zqm _ rfl (fun hc => ?_) (fun hc => ?_)) <;> (first | (cases hc; done) | ((try simp only [z01] at hc); (try (exfalso; omega))))) | refine zqa ?_ | refine zqi ?_ | refine zqb ?_ | refine zqg ?_ | refine zqc ?_ | refine zqk ?_ | refine zql ?_ | refine zqn ?_ | refine zqv ?_ | refine zqw ?_ | refine zqx ?_ | refine zqy ?_ | refine zqz ?_ | refine z58 rfl ?_ | refine z23 ?_ | refine zqp ?_ | refine zqo ?_ | refine zqu (by (simp (disch := omega) only [go_sem, Nat.reduceBEq, Nat.reduceBeqDiff, Nat.reduceEqDiff, ↓reduceIte, reduceCtorEq, Nat.reduceAdd, Nat.reduceLeDiff, Nat.reduceLT, z3b, List.map_nil, List.length_nil]); rfl) rfl ?_ | (refine J _ ?_; clear J K) | (refine zqf (fun hb => ?_) (fun hb => ?_) <;> (have hb2 := hb; try simp only [z01] at hb2) <;> ((first | have F : (_ : Bool) = _ := hb2 | have F := eq_false hb2 | have F := eq_true hb2); (simp (disch := omega) only [go_sem, Nat.reduceBEq, Nat.reduceBeqDiff, Nat.reduceEqDiff, ↓reduceIte, reduceCtorEq, Nat.reduceAdd, Nat.reduceMul, Nat.reduceLeDiff, Nat.reduceLT, Int.reduceLT, Int.reduceLE, Int.reduceEq, hb, F, z3b, List.map_nil, List.length_nil]); clear hb F; (try (exfalso; omega)))) | (exfalso; omega))
 (refine z3h (fun U st => U = 0 - 0 /\ st.t 12 = .int .i64 0 /\ st.t 13 = .int .i64 0 /\ (True)) ?_ ?_); rotate_left; (rintro U st ⟨rfl, q12, q13, qp0⟩); rotate_left
 ·(refine ⟨_, rfl, ?_⟩); (simp (disch := omega) only [go_sem, Nat.reduceBEq, Nat.reduceBeqDiff, Nat.reduceEqDiff, ↓reduceIte, reduceCtorEq, Nat.reduceAdd, Nat.reduceMul, Nat.reduceLeDiff, Nat.reduceLT, Int.reduceLT, Int.reduceLE, Int.reduceEq, true_and, and_true, and_self, Int.natCast_add, Int.natCast_one, Int.natCast_zero, List.flatMap_nil, List.map_nil, List.append_nil, List.nil_append])
 repeat' (first | refine zqj ?_ | ((first | refine zqh fun K J => ?_ | refine zqe (by decide +kernel) fun K J => ?_ | refine zqr fun K J => ?_ | refine zqq (by decide +kernel) fun K J => ?_); (simp (disch := omega) only [go_sem, Nat.reduceBEq, Nat.reduceBeqDiff, Nat.reduceEqDiff, ↓reduceIte, reduceCtorEq, Nat.reduceAdd, Nat.reduceMul, Nat.reduceLeDiff, Nat.reduceLT, Int.reduceLT, Int.reduceLE, Int.reduceEq, q12, q13])) | ((first | refine zqd _ rfl (fun hc => ?_) (fun hc => ?_) | refine zqm _ rfl (fun hc => ?_) (fun hc => ?_)) <;> (first | (cases hc; done) | ((try simp only [z01] at hc); (try (exfalso; omega))))) | refine zqa ?_ | refine zqi ?_ | refine zqb ?_ | refine zqg ?_ | refine zqc ?_ | refine zqk ?_ | refine zql ?_ | refine zqn ?_ | refine zqv ?_ | refine zqw ?_ | refine zqx ?_ | refine zqy ?_ | refine zqz ?_ | refine z58 rfl ?_ | refine z23 ?_ | refine zqp ?_ | refine zqo ?_ | refine zqu (by (simp (disch := omega) only [go_sem, Nat.reduceBEq, Nat.reduceBeqDiff, Nat.reduceEqDiff, ↓reduceIte, reduceCtorEq, Nat.reduceAdd, Nat.reduceLeDiff, Nat.reduceLT, q12, q13]); rfl) rfl ?_ | (refine J _ ?_; clear J K) | (refine zqf (fun hb => ?_) (fun hb => ?_) <;> (have hb2 := hb; try simp only [z01] at hb2) <;> ((first | have F : (_ : Bool) = _ := hb2 | have F := eq_false hb2 | have F := eq_true hb2); (simp (disch := omega) only [go_sem, Nat.reduceBEq, Nat.reduceBeqDiff, Nat.reduceEqDiff, ↓reduceIte, reduceCtorEq, Nat.reduceAdd, Nat.reduceMul, Nat.reduceLeDiff, Nat.reduceLT, Int.reduceLT, Int.reduceLE, Int.reduceEq, hb, F, q12, q13]); clear hb F; (try (exfalso; omega)))) | (exfalso; omega))
 exact z00 rfl
set_option maxHeartbeats 4000000 in
theorem pc_EqI0 {g : FuncId} : PC Tryz.prog 236 [z2i [], z2i [], .fn g []] (.bool true) := by
 refine z1y 1 (by simp only [pureD.pureL, zez, pureD, Bool.and_self]) rfl (z1v [] Tryz.func236 rfl (by decide +kernel) z0i (by decide +kernel) (by simp [Tryz.ntmps236]) ?_)
 show awp _ _ (Code.seq _ _) _ _
 repeat' (first | refine zqj ?_ | ((first | refine zqh fun K J => ?_ | refine zqe (by decide +kernel) fun K J => ?_ | refine zqr fun K J => ?_ | refine zqq (by decide +kernel) fun K J => ?_); (simp (disch := omega) only [go_sem, Nat.reduceBEq, Nat.reduceBeqDiff, Nat.reduceEqDiff, ↓reduceIte, reduceCtorEq, Nat.reduceAdd, Nat.reduceMul, Nat.reduceLeDiff, Nat.reduceLT, Int.reduceLT, Int.reduceLE, Int.reduceEq, z2i, List.map_nil, List.length_nil])) | ((first | refine zqd _ rfl (fun hc => ?_) (fun hc => ?_) | refine zqm _ rfl (fun hc => ?_) (fun hc => ?_)) <;> (first | (cases hc; done) | ((try simp only [z01] at hc); (try (exfalso; omega))))) | refine zqa ?_ | refine zqi ?_ | refine zqb ?_ | refine zqg ?_ | refine zqc ?_ | refine zqk ?_ | refine zql ?_ | refine zqn ?_ | refine zqv ?_ | refine zqw ?_ | refine zqx ?_ | refine zqy ?_ | refine zqz ?_ | refine z58 rfl ?_ | refine z23 ?_ | refine zqp ?_ | refine zqo ?_ | refine zqu (by (simp (disch := omega) only [go_sem, Nat.reduceBEq, Nat.reduceBeqDiff, Nat.reduceEqDiff, ↓reduceIte, reduceCtorEq, Nat.reduceAdd, Nat.reduceLeDiff, Nat.reduceLT, z2i, List.map_nil, List.length_nil]); rfl) rfl ?_ | (refine J _ ?_; clear J K) | (refine zqf (fun hb => ?_) (fun hb => ?_) <;> (have hb2 := hb; try simp only [z01] at hb2) <;> ((first | have F : (_ : Bool) = _ := hb2 | have F := eq_false hb2 | have F := eq_true hb2); (simp (disch := omega) only [go_sem, Nat.reduceBEq, Nat.reduceBeqDiff, Nat.reduceEqDiff, ↓reduceIte, reduceCtorEq, Nat.reduceAdd, Nat.reduceMul, Nat.reduceLeDiff, Nat.reduceLT, Int.reduceLT, Int.reduceLE, Int.reduceEq, hb, F, z2i, List.map_nil, List.length_nil]); clear hb F; (try (exfalso; omega)))) | (exfalso; omega))
 (refine z3h (fun U st => U = 0 - 0 /\ st.t 16 = .int .i64 0 /\ st.t 17 = .int .i64 0 /\ (True)) ?_ ?_); rotate_left; (rintro U st ⟨rfl, q16, q17, qp0⟩); rotate_left
 ·(refine ⟨_, rfl, ?_⟩); (simp (disch := omega) only [go_sem, Nat.reduceBEq, Nat.reduceBeqDiff, Nat.reduceEqDiff, ↓reduceIte, reduceCtorEq, Nat.reduceAdd, Nat.reduceMul, Nat.reduceLeDiff, Nat.reduceLT, Int.reduceLT, Int.reduceLE, Int.reduceEq, true_and, and_true, and_self, Int.natCast_add, Int.natCast_one, Int.natCast_zero, List.flatMap_nil, List.map_nil, List.append_nil, List.nil_append])
 repeat' (first | refine zqj ?_ | ((first | refine zqh fun K J => ?_ | refine zqe (by decide +kernel) fun K J => ?_ | refine zqr fun K J => ?_ | refine zqq (by decide +kernel) fun K J => ?_); (simp (disch := omega) only [go_sem, Nat.reduceBEq, Nat.reduceBeqDiff, Nat.reduceEqDiff, ↓reduceIte, reduceCtorEq, Nat.reduceAdd, Nat.reduceMul, Nat.reduceLeDiff, Nat.reduceLT, Int.reduceLT, Int.reduceLE, Int.reduceEq, q16, q17])) | ((first | refine zqd _ rfl (fun hc => ?_) (fun hc => ?_) | refine zqm _ rfl (fun hc => ?_) (fun hc => ?_)) <;> (first | (cases hc; done) | ((try simp only [z01] at hc); (try (exfalso; omega))))) | refine zqa ?_ | refine zqi ?_ | refine zqb ?_ | refine zqg ?_ | refine zqc ?_ | refine zqk ?_ | refine zql ?_ | refine zqn ?_ | refine zqv ?_ | refine zqw ?_ | refine zqx ?_ | refine zqy ?_ | refine zqz ?_ | refine z58 rfl ?_ | refine z23 ?_ | refine zqp ?_ | refine zqo ?_ | refine zqu (by (simp (disch := omega) only [go_sem, Nat.reduceBEq, Nat.reduceBeqDiff, Nat.reduceEqDiff, ↓reduceIte, reduceCtorEq, Nat.reduceAdd, Nat.reduceLeDiff, Nat.reduceLT, q16, q17]); rfl) rfl ?_ | (refine J _ ?_; clear J K) | (refine zqf (fun hb => ?_) (fun hb => ?_) <;> (have hb2 := hb; try simp only [z01] at hb2) <;> ((first | have F : (_ : Bool) = _ := hb2 | have F := eq_false hb2 | have F := eq_true hb2); (simp (disch := omega) only [go_sem, Nat.reduceBEq, Nat.reduceBeqDiff, Nat.reduceEqDiff, ↓reduceIte, reduceCtorEq, Nat.reduceAdd, Nat.reduceMul, Nat.reduceLeDiff, Nat.reduceLT, Int.reduceLT, Int.reduceLE, Int.reduceEq, hb, F, q16, q17]); clear hb F; (try (exfalso; omega)))) | (exfalso; omega))
 exact z00 rfl
theorem zbv {x : It} (hm : zcx x = true) (O : x.kind = 1) : z7c x.at_ = true /\ x.to = [] /\ x.wh = 0 /\ x.nth = 0 /\ x.unit = T.zero /\ x.old = [] /\ x.new = [] /\ x.label = z1c /\ x.act = 0 /\ x.item = 0 /\ x.day = 0 /\ x.event = z1c /\ x.by_ = [] := by
 rw [zsm, mayF] at hm
 simp only [Bool.and_eq_true, Bool.or_eq_true, decide_eq_true_eq] at hm
 obtain ⟨⟨_, e⟩, h2, _⟩ := hm
 have h2 : z7c x.at_ = true := by
  rcases h2 with h2 | h2
  ·omega
  ·exact h2.1
 refine ⟨h2, ?_⟩
 have q0 : ¬ (1 : Int) = 6 := by decide
 have q1 : ¬ ((1 : Int) = 0 \/ (1 : Int) = 6) := by decide
 have q2 : ¬ ((1 : Int) = 2 \/ (1 : Int) = 3) := by decide
 have q3 : ¬ ((1 : Int) = 2 \/ (1 : Int) = 3 \/ (1 : Int) = 4) := by decide
 have q4 : ¬ ((1 : Int) = 7 \/ (1 : Int) = 8 \/ (1 : Int) = 9 \/ (1 : Int) = 11) := by decide
 have q5 : (decide (x.kind <= 6) = true \/ x.kind = 11) := by rw [O]; decide
 refine ⟨(congrArg It.to e).trans ?_, (congrArg It.wh e).trans ?_, (congrArg It.nth e).trans ?_, (congrArg It.unit e).trans ?_, (congrArg It.old e).trans ?_, (congrArg It.new e).trans ?_, (congrArg It.label e).trans ?_, (congrArg It.act e).trans ?_, (congrArg It.item e).trans ?_, (congrArg It.day e).trans ?_, (congrArg It.event e).trans ?_, (congrArg It.by_ e).trans ?_⟩
 ·exact if_neg (O ▸ q0)
 ·exact if_neg (O ▸ q1)
 ·exact if_neg (O ▸ q2)
 ·exact if_neg (by rw [O]; decide)
 ·exact if_neg (O ▸ q2)
 ·exact if_neg (O ▸ q3)
 ·exact if_neg (by rw [O]; decide)
 ·exact if_neg (O ▸ q4)
 ·exact if_neg (O ▸ q4)
 ·exact if_pos q5
 ·exact if_neg (by rw [O]; decide)
 ·exact if_neg (by rw [O]; decide)
theorem zu3 (x : It) (hx : OkI x) (hm : zcx x = true) (O : x.kind = 1) : PC Tryz.prog 127 [z8u x, z8u x] (.bool true) := by
 obtain ⟨-, f1, f2, f3, f4, f5, f6, f7, f8, f9, g1, g2, g3⟩ := zbv hm O
 obtain ⟨b, -⟩ := (za7 x).1 hx
 have c1 := zu1 x.at_ b.at_.1
 have c2 := zu1 x.to b.to.1
 have c3 : PC Tryz.prog 234 [z3b x.old, z3b x.old] (.bool true) := by rw [f5]; exact zu2
 have c4 : PC Tryz.prog 234 [z3b x.new, z3b x.new] (.bool true) := by rw [f6]; exact zu2
 have c5 := zwh x.unit b.unit.1 x.unit b.unit.1
 rw [decide_eq_true rfl] at c5
 have c6 : PC Tryz.prog 236 [z2i x.by_, z2i x.by_, .fn 127 []] (.bool true) := by rw [g3]; exact pc_EqI0
 refine z1y 1 (by simp only [pureD.pureL, z2v, pureD, Bool.and_self]) rfl (z1v [] Tryz.func127 rfl (by decide +kernel) z0i (by decide +kernel) (by simp [Tryz.ntmps127]) ?_)
 show awp _ _ (Code.seq _ _) _ _
 repeat' (first | refine zqj ?_ | ((first | refine zqh fun K J => ?_ | refine zqe (by decide +kernel) fun K J => ?_ | refine zqr fun K J => ?_ | refine zqq (by decide +kernel) fun K J => ?_ | refine zqs (c1) ?_ | refine zqt (c1) ?_ | refine zqs (c2) ?_ | refine zqt (c2) ?_ | refine zqs (c3) ?_ | refine zqt (c3) ?_ | refine zqs (c4) ?_ | refine zqt (c4) ?_ | refine zqs (c5) ?_ | refine zqt (c5) ?_ | refine zqs (c6) ?_ | refine zqt (c6) ?_); (simp (disch := omega) only [go_sem, Nat.reduceBEq, Nat.reduceBeqDiff, Nat.reduceEqDiff, ↓reduceIte, reduceCtorEq, Nat.reduceAdd, Nat.reduceMul, Nat.reduceLeDiff, Nat.reduceLT, Int.reduceLT, Int.reduceLE, Int.reduceEq, List.append_eq, List.cons_append, List.nil_append, List.map_cons, List.map_nil, eq_self, decide_true, Bool.and_self])) | ((first | refine zqd _ rfl (fun hc => ?_) (fun hc => ?_) | refine zqm _ rfl (fun hc => ?_) (fun hc => ?_)) <;> (first | (cases hc; done) | ((try simp only [z01] at hc); (try (exfalso; omega))))) | refine zqa ?_ | refine zqi ?_ | refine zqb ?_ | refine zqg ?_ | refine zqc ?_ | refine zqk ?_ | refine zql ?_ | refine zqn ?_ | refine zqv ?_ | refine zqw ?_ | refine zqx ?_ | refine zqy ?_ | refine zqz ?_ | refine z58 rfl ?_ | refine z23 ?_ | refine zqp ?_ | refine zqo ?_ | refine zqu (by (simp (disch := omega) only [go_sem, Nat.reduceBEq, Nat.reduceBeqDiff, Nat.reduceEqDiff, ↓reduceIte, reduceCtorEq, Nat.reduceAdd, Nat.reduceLeDiff, Nat.reduceLT, List.append_eq, List.cons_append, List.nil_append, List.map_cons, List.map_nil, eq_self, decide_true, Bool.and_self]); rfl) rfl ?_ | (refine J _ ?_; clear J K) | (refine zqf (fun hb => ?_) (fun hb => ?_) <;> (have hb2 := hb; try simp only [z01] at hb2) <;> ((first | have F : (_ : Bool) = _ := hb2 | have F := eq_false hb2 | have F := eq_true hb2); (simp (disch := omega) only [go_sem, Nat.reduceBEq, Nat.reduceBeqDiff, Nat.reduceEqDiff, ↓reduceIte, reduceCtorEq, Nat.reduceAdd, Nat.reduceMul, Nat.reduceLeDiff, Nat.reduceLT, Int.reduceLT, Int.reduceLE, Int.reduceEq, hb, F, List.append_eq, List.cons_append, List.nil_append, List.map_cons, List.map_nil, eq_self, decide_true, Bool.and_self]); clear hb F; (try (exfalso; omega)))) | (exfalso; omega))
 exact z00 rfl
set_option maxHeartbeats 4000000 in
theorem pc_IsAm (k : Int) : PC Tryz.prog 123 [.int .i64 k] (.bool (inB k 0 6)) := by
 refine z1y 1 rfl rfl (z1v [] Tryz.func123 rfl (by decide +kernel) z0i (by decide +kernel) (by simp [Tryz.ntmps123]) ?_)
 show awp _ _ (Code.seq _ _) _ _
 unfold inB
 repeat' (first | refine zqj ?_ | ((first | refine zqh fun K J => ?_ | refine zqe (by decide +kernel) fun K J => ?_ | refine zqr fun K J => ?_ | refine zqq (by decide +kernel) fun K J => ?_); (simp (disch := omega) only [go_sem, Nat.reduceBEq, Nat.reduceBeqDiff, Nat.reduceEqDiff, ↓reduceIte, reduceCtorEq, Nat.reduceAdd, Nat.reduceMul, Nat.reduceLeDiff, Nat.reduceLT, Int.reduceLT, Int.reduceLE, Int.reduceEq])) | ((first | refine zqd _ rfl (fun hc => ?_) (fun hc => ?_) | refine zqm _ rfl (fun hc => ?_) (fun hc => ?_)) <;> (first | (cases hc; done) | ((try simp only [z01] at hc); (try (exfalso; omega))))) | refine zqa ?_ | refine zqi ?_ | refine zqb ?_ | refine zqg ?_ | refine zqc ?_ | refine zqk ?_ | refine zql ?_ | refine zqn ?_ | refine zqv ?_ | refine zqw ?_ | refine zqx ?_ | refine zqy ?_ | refine zqz ?_ | refine z58 rfl ?_ | refine z23 ?_ | refine zqp ?_ | refine zqo ?_ | refine zqu (by (simp (disch := omega) only [go_sem, Nat.reduceBEq, Nat.reduceBeqDiff, Nat.reduceEqDiff, ↓reduceIte, reduceCtorEq, Nat.reduceAdd, Nat.reduceLeDiff, Nat.reduceLT]); rfl) rfl ?_ | (refine J _ ?_; clear J K) | (refine zqf (fun hb => ?_) (fun hb => ?_) <;> (have hb2 := hb; try simp only [z01] at hb2) <;> ((first | have F : (_ : Bool) = _ := hb2 | have F := eq_false hb2 | have F := eq_true hb2); (simp (disch := omega) only [go_sem, Nat.reduceBEq, Nat.reduceBeqDiff, Nat.reduceEqDiff, ↓reduceIte, reduceCtorEq, Nat.reduceAdd, Nat.reduceMul, Nat.reduceLeDiff, Nat.reduceLT, Int.reduceLT, Int.reduceLE, Int.reduceEq, hb, F]); clear hb F; (try (exfalso; omega)))) | (exfalso; omega))
 all_goals refine z00 ?_
 all_goals first
  | exact (decide_eq_false (by omega)).symm
  | exact decide_eq_decide.2 (by omega)
def zcy (k : Int) (at_ : List Stp) (f : ByteArray) (sk sd : Int) (se : ByteArray) : It := .mk k at_ [] 0 0 T.zero [] [] z1c f sk sd se 0 0 0 z1c []
set_option maxHeartbeats 4000000 in
theorem pc_has3 (x : It) : PC Tryz.prog 212 [z8u x] (z8u (zcy 0 [] z1c 0 0 z1c)) := by
 refine z1y 3 (by simp only [pureD.pureL, z2v, pureD, Bool.and_self]) (z2v _) (z1v [] Tryz.func212 rfl (by decide +kernel) z0i (by decide +kernel) (by simp [Tryz.ntmps212]) ?_)
 show awp _ _ (Code.seq _ _) _ _
 rw [show Tryz.f212.results.toList = [.cell 2 43] from rfl]
 have hz : z17 Tryz.prog 43 = some zIt := by kernel_rfl
 have hzl : zIt.length = 25 := rfl
 repeat' (first | refine zqj ?_ | ((first | refine zqh fun K J => ?_ | refine zqe (by decide +kernel) fun K J => ?_ | refine zqr fun K J => ?_ | refine zqq (by decide +kernel) fun K J => ?_); (simp (disch := omega) only [go_sem, Nat.reduceBEq, Nat.reduceBeqDiff, Nat.reduceEqDiff, ↓reduceIte, reduceCtorEq, Nat.reduceAdd, Nat.reduceMul, Nat.reduceLeDiff, Nat.reduceLT, Int.reduceLT, Int.reduceLE, Int.reduceEq, hz, hzl])) | ((first | refine zqd _ rfl (fun hc => ?_) (fun hc => ?_) | refine zqm _ rfl (fun hc => ?_) (fun hc => ?_)) <;> (first | (cases hc; done) | ((try simp only [z01] at hc); (try (exfalso; omega))))) | refine zqa ?_ | refine zqi ?_ | refine zqb ?_ | refine zqg ?_ | refine zqc ?_ | refine zqk ?_ | refine zql ?_ | refine zqn ?_ | refine zqv ?_ | refine zqw ?_ | refine zqx ?_ | refine zqy ?_ | refine zqz ?_ | refine z58 rfl ?_ | refine z23 ?_ | refine zqp ?_ | refine zqo ?_ | refine zqu (by (simp (disch := omega) only [go_sem, Nat.reduceBEq, Nat.reduceBeqDiff, Nat.reduceEqDiff, ↓reduceIte, reduceCtorEq, Nat.reduceAdd, Nat.reduceLeDiff, Nat.reduceLT, hz, hzl]); rfl) rfl ?_ | (refine J _ ?_; clear J K) | (refine zqf (fun hb => ?_) (fun hb => ?_) <;> (have hb2 := hb; try simp only [z01] at hb2) <;> ((first | have F : (_ : Bool) = _ := hb2 | have F := eq_false hb2 | have F := eq_true hb2); (simp (disch := omega) only [go_sem, Nat.reduceBEq, Nat.reduceBeqDiff, Nat.reduceEqDiff, ↓reduceIte, reduceCtorEq, Nat.reduceAdd, Nat.reduceMul, Nat.reduceLeDiff, Nat.reduceLT, Int.reduceLT, Int.reduceLE, Int.reduceEq, hb, F, hz, hzl]); clear hb F; (try (exfalso; omega)))) | (exfalso; omega))
 refine z09 rfl (z4t ?_)
 rw [z0b]
 repeat' (first | exact trivial | exact Le.refl _ | exact Le.nil _ | refine And.intro ?_ ?_)
set_option maxHeartbeats 4000000 in
theorem pc_may4 (x : It) : PC Tryz.prog 213 [z8u x] (.bool true) := by
 refine z1y 1 (by simp only [pureD.pureL, z2v, pureD, Bool.and_self]) rfl (z1v [] Tryz.func213 rfl (by decide +kernel) z0i (by decide +kernel) (by simp [Tryz.ntmps213]) ?_)
 show awp _ _ (Code.seq _ _) _ _
 repeat' (first | refine zqj ?_ | ((first | refine zqh fun K J => ?_ | refine zqe (by decide +kernel) fun K J => ?_ | refine zqr fun K J => ?_ | refine zqq (by decide +kernel) fun K J => ?_); (simp (disch := omega) only [go_sem, Nat.reduceBEq, Nat.reduceBeqDiff, Nat.reduceEqDiff, ↓reduceIte, reduceCtorEq, Nat.reduceAdd, Nat.reduceMul, Nat.reduceLeDiff, Nat.reduceLT, Int.reduceLT, Int.reduceLE, Int.reduceEq])) | ((first | refine zqd _ rfl (fun hc => ?_) (fun hc => ?_) | refine zqm _ rfl (fun hc => ?_) (fun hc => ?_)) <;> (first | (cases hc; done) | ((try simp only [z01] at hc); (try (exfalso; omega))))) | refine zqa ?_ | refine zqi ?_ | refine zqb ?_ | refine zqg ?_ | refine zqc ?_ | refine zqk ?_ | refine zql ?_ | refine zqn ?_ | refine zqv ?_ | refine zqw ?_ | refine zqx ?_ | refine zqy ?_ | refine zqz ?_ | refine z58 rfl ?_ | refine z23 ?_ | refine zqp ?_ | refine zqo ?_ | refine zqu (by (simp (disch := omega) only [go_sem, Nat.reduceBEq, Nat.reduceBeqDiff, Nat.reduceEqDiff, ↓reduceIte, reduceCtorEq, Nat.reduceAdd, Nat.reduceLeDiff, Nat.reduceLT]); rfl) rfl ?_ | (refine J _ ?_; clear J K) | (refine zqf (fun hb => ?_) (fun hb => ?_) <;> (have hb2 := hb; try simp only [z01] at hb2) <;> ((first | have F : (_ : Bool) = _ := hb2 | have F := eq_false hb2 | have F := eq_true hb2); (simp (disch := omega) only [go_sem, Nat.reduceBEq, Nat.reduceBeqDiff, Nat.reduceEqDiff, ↓reduceIte, reduceCtorEq, Nat.reduceAdd, Nat.reduceMul, Nat.reduceLeDiff, Nat.reduceLT, Int.reduceLT, Int.reduceLE, Int.reduceEq, hb, F]); clear hb F; (try (exfalso; omega)))) | (exfalso; omega))
 exact z00 rfl
def z81 : List (D × D) := [(.int .i64 0, .agg [.fn 208 [], .fn 209 []]), (.int .i64 1, .agg [.fn 212 [], .fn 213 []]), (.int .i64 2, .agg [.fn 214 [], .fn 215 []]), (.int .i64 3, .agg [.fn 218 [], .fn 219 []]), (.int .i64 4, .agg [.fn 220 [], .fn 221 []]), (.int .i64 5, .agg [.fn 222 [], .fn 223 []]), (.int .i64 6, .agg [.fn 224 [], .fn 225 []]),
 (.int .i64 7, .agg [.fn 374 [], .fn 375 []]), (.int .i64 8, .agg [.fn 374 [], .fn 375 []]), (.int .i64 9, .agg [.fn 374 [], .fn 375 []]), (.int .i64 10, .agg [.fn 226 [], .fn 227 []]), (.int .i64 11, .agg [.fn 229 [], .fn 230 []])]
theorem zxs : OC Tryz.prog 122 [] [.map z81] (.mp 0) := by
 refine zh9 rfl rfl (by intro o ho; simp at ho; subst ho; rfl) (z1v [] Tryz.func122 rfl (by decide +kernel) z0i (by decide +kernel) (by simp [Tryz.ntmps122]) ?_)
 show awp _ _ (Code.seq _ _) _ _
 repeat' (first | refine zqj ?_ | ((first | refine zqh fun K J => ?_ | refine zqe (by decide +kernel) fun K J => ?_ | refine zqr fun K J => ?_ | refine zqq (by decide +kernel) fun K J => ?_); (simp (disch := omega) only [go_sem, Nat.reduceBEq, Nat.reduceBeqDiff, Nat.reduceEqDiff, ↓reduceIte, reduceCtorEq, Nat.reduceAdd, Nat.reduceMul, Nat.reduceLeDiff, Nat.reduceLT, Int.reduceLT, Int.reduceLE, Int.reduceEq])) | ((first | refine zqd _ rfl (fun hc => ?_) (fun hc => ?_) | refine zqm _ rfl (fun hc => ?_) (fun hc => ?_)) <;> (first | (cases hc; done) | ((try simp only [z01] at hc); (try (exfalso; omega))))) | refine zqa ?_ | refine zqi ?_ | refine zqb ?_ | refine zqg ?_ | refine zqc ?_ | refine zqk ?_ | refine zql ?_ | refine zqn ?_ | refine zqv ?_ | refine zqw ?_ | refine zqx ?_ | refine zqy ?_ | refine zqz ?_ | refine z58 rfl ?_ | refine z23 ?_ | refine zqp ?_ | refine zqo ?_ | refine zqu (by (simp (disch := omega) only [go_sem, Nat.reduceBEq, Nat.reduceBeqDiff, Nat.reduceEqDiff, ↓reduceIte, reduceCtorEq, Nat.reduceAdd, Nat.reduceLeDiff, Nat.reduceLT]); rfl) rfl ?_ | (refine J _ ?_; clear J K) | (refine zqf (fun hb => ?_) (fun hb => ?_) <;> (have hb2 := hb; try simp only [z01] at hb2) <;> ((first | have F : (_ : Bool) = _ := hb2 | have F := eq_false hb2 | have F := eq_true hb2); (simp (disch := omega) only [go_sem, Nat.reduceBEq, Nat.reduceBeqDiff, Nat.reduceEqDiff, ↓reduceIte, reduceCtorEq, Nat.reduceAdd, Nat.reduceMul, Nat.reduceLeDiff, Nat.reduceLT, Int.reduceLT, Int.reduceLE, Int.reduceEq, hb, F]); clear hb F; (try (exfalso; omega)))) | (exfalso; omega))
 refine ⟨fun j => j, fun i j _ _ h => h, ?_, fun j hj => ?_⟩
 ·(simp (disch := omega) only [go_sem, Nat.reduceBEq, Nat.reduceBeqDiff, Nat.reduceEqDiff, ↓reduceIte, reduceCtorEq, Nat.reduceAdd, Nat.reduceMul, Nat.reduceLeDiff, Nat.reduceLT, Int.reduceLT, Int.reduceLE, Int.reduceEq, renD])
 ·match j, hj with
  | 0, _ =>
   (simp (disch := omega) only [go_sem, Nat.reduceBEq, Nat.reduceBeqDiff, Nat.reduceEqDiff, ↓reduceIte, reduceCtorEq, Nat.reduceAdd, Nat.reduceMul, Nat.reduceLeDiff, Nat.reduceLT, Int.reduceLT, Int.reduceLE, Int.reduceEq])
   rfl
def GV (x : It) (st : St) : Prop := st.t 1 = .ptr 0 0 /\ st.H 0 = some (.box 43 (z0f x)) /\ st.nx = 3 /\ st.t 4 = .bool true /\ ∃ b, st.t 3 = .ptr b 0 /\ st.H b = some (.box 160 [.fn 212 [], .fn 213 []]) /\ 0 < b /\ b < 3
theorem zu4 (x : It) (hx : OkI x) (hm : zcx x = true) (O : x.kind = 1) : ∃ b : Bool, PC Tryz.prog 58 [z8u x] (.bool b) := by
 obtain ⟨b, -⟩ := (za7 x).1 hx
 obtain ⟨bn, c1⟩ := zja x.for_ b.strs.2.1
 obtain ⟨bb, c2⟩ := zpg x.sk x.sd x.se b.strs.2.2.1
 have hat := (zbv hm O).1
 have c3 := zl4 x.at_ (by have := b.at_.1; unfold maxLen; omega) (fun s hs => by have := b.at_.2 s hs; unfold maxLen; omega)
 rw [hat] at c3
 have c4 := zu3 x hx hm O
 have c5 := pc_has3 x
 have c6 := pc_may4 x
 have c7 := pc_IsAm x.kind
 rw [O, show inB 1 0 6 = true from rfl] at c7
 have hoc := zxs
 refine ⟨(decide (x.for_ = (⟨#[]⟩ : ByteArray)) || bn) && bb, ?_⟩
 refine z1y 1 (by simp only [pureD.pureL, z2v, pureD, Bool.and_self]) rfl ?_
 refine zrn Tryz.func58 rfl (by decide +kernel) (by simp [Tryz.ntmps58]) ?_
 refine Sem.seq (Sem.walk (own := []) z0i (by decide +kernel) ?_)
 repeat' (first | refine zqj ?_ | ((first | refine zqh fun K J => ?_ | refine zqe (by decide +kernel) fun K J => ?_ | refine zqr fun K J => ?_ | refine zqq (by decide +kernel) fun K J => ?_); (simp (disch := omega) only [go_sem, Nat.reduceBEq, Nat.reduceBeqDiff, Nat.reduceEqDiff, ↓reduceIte, reduceCtorEq, Nat.reduceAdd, Nat.reduceMul, Nat.reduceLeDiff, Nat.reduceLT, Int.reduceLT, Int.reduceLE, Int.reduceEq])) | ((first | refine zqd _ rfl (fun hc => ?_) (fun hc => ?_) | refine zqm _ rfl (fun hc => ?_) (fun hc => ?_)) <;> (first | (cases hc; done) | ((try simp only [z01] at hc); (try (exfalso; omega))))) | refine zqa ?_ | refine zqi ?_ | refine zqb ?_ | refine zqg ?_ | refine zqc ?_ | refine zqk ?_ | refine zql ?_ | refine zqn ?_ | refine zqv ?_ | refine zqw ?_ | refine zqx ?_ | refine zqy ?_ | refine zqz ?_ | refine z58 rfl ?_ | refine z23 ?_ | refine zqp ?_ | refine zqo ?_ | refine zqu (by (simp (disch := omega) only [go_sem, Nat.reduceBEq, Nat.reduceBeqDiff, Nat.reduceEqDiff, ↓reduceIte, reduceCtorEq, Nat.reduceAdd, Nat.reduceLeDiff, Nat.reduceLT]); rfl) rfl ?_ | (refine J _ ?_; clear J K) | (refine zqf (fun hb => ?_) (fun hb => ?_) <;> (have hb2 := hb; try simp only [z01] at hb2) <;> ((first | have F : (_ : Bool) = _ := hb2 | have F := eq_false hb2 | have F := eq_true hb2); (simp (disch := omega) only [go_sem, Nat.reduceBEq, Nat.reduceBeqDiff, Nat.reduceEqDiff, ↓reduceIte, reduceCtorEq, Nat.reduceAdd, Nat.reduceMul, Nat.reduceLeDiff, Nat.reduceLT, Int.reduceLT, Int.reduceLE, Int.reduceEq, hb, F]); clear hb F; (try (exfalso; omega)))) | (exfalso; omega))
 refine Sem.join (GV x) (zwo (own := [3000009, 4000007]) z0i (by decide +kernel) [(1, 0), (0, 1), (1, 7), (7, 1), (4, 7), (7, 4), (5, 7), (7, 5), (6, 7), (7, 6), (5, 6), (6, 5), (6, 8), (8, 6)] (.fork [1] (.fork [2] (.run [7, 0, 3, 4, 5, 6, 8, 9]) (.fork [0] (.run [7, 3, 4, 5, 6, 8, 9]) (.run [3, 7, 4, 5, 6, 8, 9]))) (.fork [] (.fork [0] (.run [7, 2, 3, 4, 5, 6, 8, 9]) (.fork [2] (.run [7, 3, 4, 5, 6, 8, 9]) (.run [3, 7, 4, 5, 6, 8, 9]))) (.fork [7] (.run [0, 2, 3, 4, 5, 6, 8, 9]) (.run [2, 0, 3, 4, 5, 6, 8, 9])))) (by decide +kernel) (by decide +kernel) ?_) fun st hG => ?_
 ·refine z4p ?_ rfl
  (simp (disch := omega) only [go_sem, Nat.reduceBEq, Nat.reduceBeqDiff, Nat.reduceEqDiff, ↓reduceIte, reduceCtorEq, Nat.reduceAdd, Nat.reduceMul, Nat.reduceLeDiff, Nat.reduceLT, Int.reduceLT, Int.reduceLE, Int.reduceEq, z6n, zjp, List.map_cons, List.map_nil, O])
  refine ⟨?_, ?_⟩
  ·refine z4p ?_ rfl
   (simp (disch := omega) only [go_sem, Nat.reduceBEq, Nat.reduceBeqDiff, Nat.reduceEqDiff, ↓reduceIte, reduceCtorEq, Nat.reduceAdd, Nat.reduceMul, Nat.reduceLeDiff, Nat.reduceLT, Int.reduceLT, Int.reduceLE, Int.reduceEq, z6n, zjp, List.map_cons, List.map_nil, O])
   refine ⟨?_, ?_⟩
   ·refine z4z ?_ rfl
    (simp (disch := omega) only [go_sem, Nat.reduceBEq, Nat.reduceBeqDiff, Nat.reduceEqDiff, ↓reduceIte, reduceCtorEq, Nat.reduceAdd, Nat.reduceMul, Nat.reduceLeDiff, Nat.reduceLT, Int.reduceLT, Int.reduceLE, Int.reduceEq, z6n, zjp, List.map_cons, List.map_nil, O, z81])
    refine z5i hoc rfl rfl rfl ?_
    (simp (disch := omega) only [go_sem, Nat.reduceBEq, Nat.reduceBeqDiff, Nat.reduceEqDiff, ↓reduceIte, reduceCtorEq, Nat.reduceAdd, Nat.reduceMul, Nat.reduceLeDiff, Nat.reduceLT, Int.reduceLT, Int.reduceLE, Int.reduceEq, z81, O])
    exact ⟨by (simp (disch := omega) only [go_sem, Nat.reduceBEq, Nat.reduceBeqDiff, Nat.reduceEqDiff, ↓reduceIte, reduceCtorEq, Nat.reduceAdd, Nat.reduceMul, Nat.reduceLeDiff, Nat.reduceLT, Int.reduceLT, Int.reduceLE, Int.reduceEq]), by (simp (disch := omega) only [go_sem, Nat.reduceBEq, Nat.reduceBeqDiff, Nat.reduceEqDiff, ↓reduceIte, reduceCtorEq, Nat.reduceAdd, Nat.reduceMul, Nat.reduceLeDiff, Nat.reduceLT, Int.reduceLT, Int.reduceLE, Int.reduceEq]), by (simp (disch := omega) only [go_sem, Nat.reduceBEq, Nat.reduceBeqDiff, Nat.reduceEqDiff, ↓reduceIte, reduceCtorEq, Nat.reduceAdd, Nat.reduceMul, Nat.reduceLeDiff, Nat.reduceLT, Int.reduceLT, Int.reduceLE, Int.reduceEq]), by (simp (disch := omega) only [go_sem, Nat.reduceBEq, Nat.reduceBeqDiff, Nat.reduceEqDiff, ↓reduceIte, reduceCtorEq, Nat.reduceAdd, Nat.reduceMul, Nat.reduceLeDiff, Nat.reduceLT, Int.reduceLT, Int.reduceLE, Int.reduceEq]), 1, by (simp (disch := omega) only [go_sem, Nat.reduceBEq, Nat.reduceBeqDiff, Nat.reduceEqDiff, ↓reduceIte, reduceCtorEq, Nat.reduceAdd, Nat.reduceMul, Nat.reduceLeDiff, Nat.reduceLT, Int.reduceLT, Int.reduceLE, Int.reduceEq]), by (simp (disch := omega) only [go_sem, Nat.reduceBEq, Nat.reduceBeqDiff, Nat.reduceEqDiff, ↓reduceIte, reduceCtorEq, Nat.reduceAdd, Nat.reduceMul, Nat.reduceLeDiff, Nat.reduceLT, Int.reduceLT, Int.reduceLE, Int.reduceEq]), by decide, by decide⟩
   ·refine z4p ?_ rfl
    (simp (disch := omega) only [go_sem, Nat.reduceBEq, Nat.reduceBeqDiff, Nat.reduceEqDiff, ↓reduceIte, reduceCtorEq, Nat.reduceAdd, Nat.reduceMul, Nat.reduceLeDiff, Nat.reduceLT, Int.reduceLT, Int.reduceLE, Int.reduceEq, z6n, zjp, List.map_cons, List.map_nil, O])
    refine z5i hoc rfl rfl rfl ?_
    (simp (disch := omega) only [go_sem, Nat.reduceBEq, Nat.reduceBeqDiff, Nat.reduceEqDiff, ↓reduceIte, reduceCtorEq, Nat.reduceAdd, Nat.reduceMul, Nat.reduceLeDiff, Nat.reduceLT, Int.reduceLT, Int.reduceLE, Int.reduceEq])
    refine ⟨?_, ?_⟩
    ·refine z4z ?_ rfl
     (simp (disch := omega) only [go_sem, Nat.reduceBEq, Nat.reduceBeqDiff, Nat.reduceEqDiff, ↓reduceIte, reduceCtorEq, Nat.reduceAdd, Nat.reduceMul, Nat.reduceLeDiff, Nat.reduceLT, Int.reduceLT, Int.reduceLE, Int.reduceEq, z6n, zjp, List.map_cons, List.map_nil, O, z81])
     exact ⟨by (simp (disch := omega) only [go_sem, Nat.reduceBEq, Nat.reduceBeqDiff, Nat.reduceEqDiff, ↓reduceIte, reduceCtorEq, Nat.reduceAdd, Nat.reduceMul, Nat.reduceLeDiff, Nat.reduceLT, Int.reduceLT, Int.reduceLE, Int.reduceEq]), by (simp (disch := omega) only [go_sem, Nat.reduceBEq, Nat.reduceBeqDiff, Nat.reduceEqDiff, ↓reduceIte, reduceCtorEq, Nat.reduceAdd, Nat.reduceMul, Nat.reduceLeDiff, Nat.reduceLT, Int.reduceLT, Int.reduceLE, Int.reduceEq]), by (simp (disch := omega) only [go_sem, Nat.reduceBEq, Nat.reduceBeqDiff, Nat.reduceEqDiff, ↓reduceIte, reduceCtorEq, Nat.reduceAdd, Nat.reduceMul, Nat.reduceLeDiff, Nat.reduceLT, Int.reduceLT, Int.reduceLE, Int.reduceEq]), by (simp (disch := omega) only [go_sem, Nat.reduceBEq, Nat.reduceBeqDiff, Nat.reduceEqDiff, ↓reduceIte, reduceCtorEq, Nat.reduceAdd, Nat.reduceMul, Nat.reduceLeDiff, Nat.reduceLT, Int.reduceLT, Int.reduceLE, Int.reduceEq]), 2, by (simp (disch := omega) only [go_sem, Nat.reduceBEq, Nat.reduceBeqDiff, Nat.reduceEqDiff, ↓reduceIte, reduceCtorEq, Nat.reduceAdd, Nat.reduceMul, Nat.reduceLeDiff, Nat.reduceLT, Int.reduceLT, Int.reduceLE, Int.reduceEq]), by (simp (disch := omega) only [go_sem, Nat.reduceBEq, Nat.reduceBeqDiff, Nat.reduceEqDiff, ↓reduceIte, reduceCtorEq, Nat.reduceAdd, Nat.reduceMul, Nat.reduceLeDiff, Nat.reduceLT, Int.reduceLT, Int.reduceLE, Int.reduceEq]), by decide, by decide⟩
    ·refine z4z ?_ rfl
     (simp (disch := omega) only [go_sem, Nat.reduceBEq, Nat.reduceBeqDiff, Nat.reduceEqDiff, ↓reduceIte, reduceCtorEq, Nat.reduceAdd, Nat.reduceMul, Nat.reduceLeDiff, Nat.reduceLT, Int.reduceLT, Int.reduceLE, Int.reduceEq, z6n, zjp, List.map_cons, List.map_nil, O, z81])
     exact ⟨by (simp (disch := omega) only [go_sem, Nat.reduceBEq, Nat.reduceBeqDiff, Nat.reduceEqDiff, ↓reduceIte, reduceCtorEq, Nat.reduceAdd, Nat.reduceMul, Nat.reduceLeDiff, Nat.reduceLT, Int.reduceLT, Int.reduceLE, Int.reduceEq]), by (simp (disch := omega) only [go_sem, Nat.reduceBEq, Nat.reduceBeqDiff, Nat.reduceEqDiff, ↓reduceIte, reduceCtorEq, Nat.reduceAdd, Nat.reduceMul, Nat.reduceLeDiff, Nat.reduceLT, Int.reduceLT, Int.reduceLE, Int.reduceEq]), by (simp (disch := omega) only [go_sem, Nat.reduceBEq, Nat.reduceBeqDiff, Nat.reduceEqDiff, ↓reduceIte, reduceCtorEq, Nat.reduceAdd, Nat.reduceMul, Nat.reduceLeDiff, Nat.reduceLT, Int.reduceLT, Int.reduceLE, Int.reduceEq]), by (simp (disch := omega) only [go_sem, Nat.reduceBEq, Nat.reduceBeqDiff, Nat.reduceEqDiff, ↓reduceIte, reduceCtorEq, Nat.reduceAdd, Nat.reduceMul, Nat.reduceLeDiff, Nat.reduceLT, Int.reduceLT, Int.reduceLE, Int.reduceEq]), 2, by (simp (disch := omega) only [go_sem, Nat.reduceBEq, Nat.reduceBeqDiff, Nat.reduceEqDiff, ↓reduceIte, reduceCtorEq, Nat.reduceAdd, Nat.reduceMul, Nat.reduceLeDiff, Nat.reduceLT, Int.reduceLT, Int.reduceLE, Int.reduceEq]), by (simp (disch := omega) only [go_sem, Nat.reduceBEq, Nat.reduceBeqDiff, Nat.reduceEqDiff, ↓reduceIte, reduceCtorEq, Nat.reduceAdd, Nat.reduceMul, Nat.reduceLeDiff, Nat.reduceLT, Int.reduceLT, Int.reduceLE, Int.reduceEq]), by decide, by decide⟩
  ·refine z4p ?_ rfl
   (simp (disch := omega) only [go_sem, Nat.reduceBEq, Nat.reduceBeqDiff, Nat.reduceEqDiff, ↓reduceIte, reduceCtorEq, Nat.reduceAdd, Nat.reduceMul, Nat.reduceLeDiff, Nat.reduceLT, Int.reduceLT, Int.reduceLE, Int.reduceEq, z6n, zjp, List.map_cons, List.map_nil, O])
   refine ⟨?_, ?_⟩
   ·refine z4p ?_ rfl
    (simp (disch := omega) only [go_sem, Nat.reduceBEq, Nat.reduceBeqDiff, Nat.reduceEqDiff, ↓reduceIte, reduceCtorEq, Nat.reduceAdd, Nat.reduceMul, Nat.reduceLeDiff, Nat.reduceLT, Int.reduceLT, Int.reduceLE, Int.reduceEq, z6n, zjp, List.map_cons, List.map_nil, O])
    refine z5i hoc rfl rfl rfl ?_
    (simp (disch := omega) only [go_sem, Nat.reduceBEq, Nat.reduceBeqDiff, Nat.reduceEqDiff, ↓reduceIte, reduceCtorEq, Nat.reduceAdd, Nat.reduceMul, Nat.reduceLeDiff, Nat.reduceLT, Int.reduceLT, Int.reduceLE, Int.reduceEq])
    refine ⟨?_, ?_⟩
    ·refine z4z ?_ rfl
     (simp (disch := omega) only [go_sem, Nat.reduceBEq, Nat.reduceBeqDiff, Nat.reduceEqDiff, ↓reduceIte, reduceCtorEq, Nat.reduceAdd, Nat.reduceMul, Nat.reduceLeDiff, Nat.reduceLT, Int.reduceLT, Int.reduceLE, Int.reduceEq, z6n, zjp, List.map_cons, List.map_nil, O, z81])
     exact ⟨by (simp (disch := omega) only [go_sem, Nat.reduceBEq, Nat.reduceBeqDiff, Nat.reduceEqDiff, ↓reduceIte, reduceCtorEq, Nat.reduceAdd, Nat.reduceMul, Nat.reduceLeDiff, Nat.reduceLT, Int.reduceLT, Int.reduceLE, Int.reduceEq]), by (simp (disch := omega) only [go_sem, Nat.reduceBEq, Nat.reduceBeqDiff, Nat.reduceEqDiff, ↓reduceIte, reduceCtorEq, Nat.reduceAdd, Nat.reduceMul, Nat.reduceLeDiff, Nat.reduceLT, Int.reduceLT, Int.reduceLE, Int.reduceEq]), by (simp (disch := omega) only [go_sem, Nat.reduceBEq, Nat.reduceBeqDiff, Nat.reduceEqDiff, ↓reduceIte, reduceCtorEq, Nat.reduceAdd, Nat.reduceMul, Nat.reduceLeDiff, Nat.reduceLT, Int.reduceLT, Int.reduceLE, Int.reduceEq]), by (simp (disch := omega) only [go_sem, Nat.reduceBEq, Nat.reduceBeqDiff, Nat.reduceEqDiff, ↓reduceIte, reduceCtorEq, Nat.reduceAdd, Nat.reduceMul, Nat.reduceLeDiff, Nat.reduceLT, Int.reduceLT, Int.reduceLE, Int.reduceEq]), 2, by (simp (disch := omega) only [go_sem, Nat.reduceBEq, Nat.reduceBeqDiff, Nat.reduceEqDiff, ↓reduceIte, reduceCtorEq, Nat.reduceAdd, Nat.reduceMul, Nat.reduceLeDiff, Nat.reduceLT, Int.reduceLT, Int.reduceLE, Int.reduceEq]), by (simp (disch := omega) only [go_sem, Nat.reduceBEq, Nat.reduceBeqDiff, Nat.reduceEqDiff, ↓reduceIte, reduceCtorEq, Nat.reduceAdd, Nat.reduceMul, Nat.reduceLeDiff, Nat.reduceLT, Int.reduceLT, Int.reduceLE, Int.reduceEq]), by decide, by decide⟩
    ·refine z4p ?_ rfl
     (simp (disch := omega) only [go_sem, Nat.reduceBEq, Nat.reduceBeqDiff, Nat.reduceEqDiff, ↓reduceIte, reduceCtorEq, Nat.reduceAdd, Nat.reduceMul, Nat.reduceLeDiff, Nat.reduceLT, Int.reduceLT, Int.reduceLE, Int.reduceEq, z6n, zjp, List.map_cons, List.map_nil, O])
     refine ⟨?_, ?_⟩
     ·refine z4z ?_ rfl
      (simp (disch := omega) only [go_sem, Nat.reduceBEq, Nat.reduceBeqDiff, Nat.reduceEqDiff, ↓reduceIte, reduceCtorEq, Nat.reduceAdd, Nat.reduceMul, Nat.reduceLeDiff, Nat.reduceLT, Int.reduceLT, Int.reduceLE, Int.reduceEq, z6n, zjp, List.map_cons, List.map_nil, O, z81])
      exact ⟨by (simp (disch := omega) only [go_sem, Nat.reduceBEq, Nat.reduceBeqDiff, Nat.reduceEqDiff, ↓reduceIte, reduceCtorEq, Nat.reduceAdd, Nat.reduceMul, Nat.reduceLeDiff, Nat.reduceLT, Int.reduceLT, Int.reduceLE, Int.reduceEq]), by (simp (disch := omega) only [go_sem, Nat.reduceBEq, Nat.reduceBeqDiff, Nat.reduceEqDiff, ↓reduceIte, reduceCtorEq, Nat.reduceAdd, Nat.reduceMul, Nat.reduceLeDiff, Nat.reduceLT, Int.reduceLT, Int.reduceLE, Int.reduceEq]), by (simp (disch := omega) only [go_sem, Nat.reduceBEq, Nat.reduceBeqDiff, Nat.reduceEqDiff, ↓reduceIte, reduceCtorEq, Nat.reduceAdd, Nat.reduceMul, Nat.reduceLeDiff, Nat.reduceLT, Int.reduceLT, Int.reduceLE, Int.reduceEq]), by (simp (disch := omega) only [go_sem, Nat.reduceBEq, Nat.reduceBeqDiff, Nat.reduceEqDiff, ↓reduceIte, reduceCtorEq, Nat.reduceAdd, Nat.reduceMul, Nat.reduceLeDiff, Nat.reduceLT, Int.reduceLT, Int.reduceLE, Int.reduceEq]), 2, by (simp (disch := omega) only [go_sem, Nat.reduceBEq, Nat.reduceBeqDiff, Nat.reduceEqDiff, ↓reduceIte, reduceCtorEq, Nat.reduceAdd, Nat.reduceMul, Nat.reduceLeDiff, Nat.reduceLT, Int.reduceLT, Int.reduceLE, Int.reduceEq]), by (simp (disch := omega) only [go_sem, Nat.reduceBEq, Nat.reduceBeqDiff, Nat.reduceEqDiff, ↓reduceIte, reduceCtorEq, Nat.reduceAdd, Nat.reduceMul, Nat.reduceLeDiff, Nat.reduceLT, Int.reduceLT, Int.reduceLE, Int.reduceEq]), by decide, by decide⟩
     ·refine z4z ?_ rfl
      (simp (disch := omega) only [go_sem, Nat.reduceBEq, Nat.reduceBeqDiff, Nat.reduceEqDiff, ↓reduceIte, reduceCtorEq, Nat.reduceAdd, Nat.reduceMul, Nat.reduceLeDiff, Nat.reduceLT, Int.reduceLT, Int.reduceLE, Int.reduceEq, z6n, zjp, List.map_cons, List.map_nil, O, z81])
      exact ⟨by (simp (disch := omega) only [go_sem, Nat.reduceBEq, Nat.reduceBeqDiff, Nat.reduceEqDiff, ↓reduceIte, reduceCtorEq, Nat.reduceAdd, Nat.reduceMul, Nat.reduceLeDiff, Nat.reduceLT, Int.reduceLT, Int.reduceLE, Int.reduceEq]), by (simp (disch := omega) only [go_sem, Nat.reduceBEq, Nat.reduceBeqDiff, Nat.reduceEqDiff, ↓reduceIte, reduceCtorEq, Nat.reduceAdd, Nat.reduceMul, Nat.reduceLeDiff, Nat.reduceLT, Int.reduceLT, Int.reduceLE, Int.reduceEq]), by (simp (disch := omega) only [go_sem, Nat.reduceBEq, Nat.reduceBeqDiff, Nat.reduceEqDiff, ↓reduceIte, reduceCtorEq, Nat.reduceAdd, Nat.reduceMul, Nat.reduceLeDiff, Nat.reduceLT, Int.reduceLT, Int.reduceLE, Int.reduceEq]), by (simp (disch := omega) only [go_sem, Nat.reduceBEq, Nat.reduceBeqDiff, Nat.reduceEqDiff, ↓reduceIte, reduceCtorEq, Nat.reduceAdd, Nat.reduceMul, Nat.reduceLeDiff, Nat.reduceLT, Int.reduceLT, Int.reduceLE, Int.reduceEq]), 2, by (simp (disch := omega) only [go_sem, Nat.reduceBEq, Nat.reduceBeqDiff, Nat.reduceEqDiff, ↓reduceIte, reduceCtorEq, Nat.reduceAdd, Nat.reduceMul, Nat.reduceLeDiff, Nat.reduceLT, Int.reduceLT, Int.reduceLE, Int.reduceEq]), by (simp (disch := omega) only [go_sem, Nat.reduceBEq, Nat.reduceBeqDiff, Nat.reduceEqDiff, ↓reduceIte, reduceCtorEq, Nat.reduceAdd, Nat.reduceMul, Nat.reduceLeDiff, Nat.reduceLT, Int.reduceLT, Int.reduceLE, Int.reduceEq]), by decide, by decide⟩
   ·refine z4p ?_ rfl
    (simp (disch := omega) only [go_sem, Nat.reduceBEq, Nat.reduceBeqDiff, Nat.reduceEqDiff, ↓reduceIte, reduceCtorEq, Nat.reduceAdd, Nat.reduceMul, Nat.reduceLeDiff, Nat.reduceLT, Int.reduceLT, Int.reduceLE, Int.reduceEq, z6n, zjp, List.map_cons, List.map_nil, O])
    refine ⟨?_, ?_⟩
    ·refine z4z ?_ rfl
     (simp (disch := omega) only [go_sem, Nat.reduceBEq, Nat.reduceBeqDiff, Nat.reduceEqDiff, ↓reduceIte, reduceCtorEq, Nat.reduceAdd, Nat.reduceMul, Nat.reduceLeDiff, Nat.reduceLT, Int.reduceLT, Int.reduceLE, Int.reduceEq, z6n, zjp, List.map_cons, List.map_nil, O, z81])
     refine z5i hoc rfl rfl rfl ?_
     (simp (disch := omega) only [go_sem, Nat.reduceBEq, Nat.reduceBeqDiff, Nat.reduceEqDiff, ↓reduceIte, reduceCtorEq, Nat.reduceAdd, Nat.reduceMul, Nat.reduceLeDiff, Nat.reduceLT, Int.reduceLT, Int.reduceLE, Int.reduceEq, z81, O])
     exact ⟨by (simp (disch := omega) only [go_sem, Nat.reduceBEq, Nat.reduceBeqDiff, Nat.reduceEqDiff, ↓reduceIte, reduceCtorEq, Nat.reduceAdd, Nat.reduceMul, Nat.reduceLeDiff, Nat.reduceLT, Int.reduceLT, Int.reduceLE, Int.reduceEq]), by (simp (disch := omega) only [go_sem, Nat.reduceBEq, Nat.reduceBeqDiff, Nat.reduceEqDiff, ↓reduceIte, reduceCtorEq, Nat.reduceAdd, Nat.reduceMul, Nat.reduceLeDiff, Nat.reduceLT, Int.reduceLT, Int.reduceLE, Int.reduceEq]), by (simp (disch := omega) only [go_sem, Nat.reduceBEq, Nat.reduceBeqDiff, Nat.reduceEqDiff, ↓reduceIte, reduceCtorEq, Nat.reduceAdd, Nat.reduceMul, Nat.reduceLeDiff, Nat.reduceLT, Int.reduceLT, Int.reduceLE, Int.reduceEq]), by (simp (disch := omega) only [go_sem, Nat.reduceBEq, Nat.reduceBeqDiff, Nat.reduceEqDiff, ↓reduceIte, reduceCtorEq, Nat.reduceAdd, Nat.reduceMul, Nat.reduceLeDiff, Nat.reduceLT, Int.reduceLT, Int.reduceLE, Int.reduceEq]), 1, by (simp (disch := omega) only [go_sem, Nat.reduceBEq, Nat.reduceBeqDiff, Nat.reduceEqDiff, ↓reduceIte, reduceCtorEq, Nat.reduceAdd, Nat.reduceMul, Nat.reduceLeDiff, Nat.reduceLT, Int.reduceLT, Int.reduceLE, Int.reduceEq]), by (simp (disch := omega) only [go_sem, Nat.reduceBEq, Nat.reduceBeqDiff, Nat.reduceEqDiff, ↓reduceIte, reduceCtorEq, Nat.reduceAdd, Nat.reduceMul, Nat.reduceLeDiff, Nat.reduceLT, Int.reduceLT, Int.reduceLE, Int.reduceEq]), by decide, by decide⟩
    ·refine z4z ?_ rfl
     (simp (disch := omega) only [go_sem, Nat.reduceBEq, Nat.reduceBeqDiff, Nat.reduceEqDiff, ↓reduceIte, reduceCtorEq, Nat.reduceAdd, Nat.reduceMul, Nat.reduceLeDiff, Nat.reduceLT, Int.reduceLT, Int.reduceLE, Int.reduceEq, z6n, zjp, List.map_cons, List.map_nil, O, z81])
     refine z5i hoc rfl rfl rfl ?_
     (simp (disch := omega) only [go_sem, Nat.reduceBEq, Nat.reduceBeqDiff, Nat.reduceEqDiff, ↓reduceIte, reduceCtorEq, Nat.reduceAdd, Nat.reduceMul, Nat.reduceLeDiff, Nat.reduceLT, Int.reduceLT, Int.reduceLE, Int.reduceEq, z81, O])
     exact ⟨by (simp (disch := omega) only [go_sem, Nat.reduceBEq, Nat.reduceBeqDiff, Nat.reduceEqDiff, ↓reduceIte, reduceCtorEq, Nat.reduceAdd, Nat.reduceMul, Nat.reduceLeDiff, Nat.reduceLT, Int.reduceLT, Int.reduceLE, Int.reduceEq]), by (simp (disch := omega) only [go_sem, Nat.reduceBEq, Nat.reduceBeqDiff, Nat.reduceEqDiff, ↓reduceIte, reduceCtorEq, Nat.reduceAdd, Nat.reduceMul, Nat.reduceLeDiff, Nat.reduceLT, Int.reduceLT, Int.reduceLE, Int.reduceEq]), by (simp (disch := omega) only [go_sem, Nat.reduceBEq, Nat.reduceBeqDiff, Nat.reduceEqDiff, ↓reduceIte, reduceCtorEq, Nat.reduceAdd, Nat.reduceMul, Nat.reduceLeDiff, Nat.reduceLT, Int.reduceLT, Int.reduceLE, Int.reduceEq]), by (simp (disch := omega) only [go_sem, Nat.reduceBEq, Nat.reduceBeqDiff, Nat.reduceEqDiff, ↓reduceIte, reduceCtorEq, Nat.reduceAdd, Nat.reduceMul, Nat.reduceLeDiff, Nat.reduceLT, Int.reduceLT, Int.reduceLE, Int.reduceEq]), 1, by (simp (disch := omega) only [go_sem, Nat.reduceBEq, Nat.reduceBeqDiff, Nat.reduceEqDiff, ↓reduceIte, reduceCtorEq, Nat.reduceAdd, Nat.reduceMul, Nat.reduceLeDiff, Nat.reduceLT, Int.reduceLT, Int.reduceLE, Int.reduceEq]), by (simp (disch := omega) only [go_sem, Nat.reduceBEq, Nat.reduceBeqDiff, Nat.reduceEqDiff, ↓reduceIte, reduceCtorEq, Nat.reduceAdd, Nat.reduceMul, Nat.reduceLeDiff, Nat.reduceLT, Int.reduceLT, Int.reduceLE, Int.reduceEq]), by decide, by decide⟩
 obtain ⟨g1, g0, gn, g4, q, g3, gq, q0, q3⟩ := hG
 have k0 : (q == 0) = false := beq_eq_false_iff_ne.2 (by omega)
 have k3 : (q == 3) = false := beq_eq_false_iff_ne.2 (by omega)
 have k3' : (3 == q) = false := beq_eq_false_iff_ne.2 (by omega)
 have k0' : (0 == q) = false := beq_eq_false_iff_ne.2 (by omega)
 refine Sem.walk (own := [600026, 900000, 600028, 900000, 600030, 900000, 600031, 900003, 600032, 900003, 600033, 900003]) z0i (by decide +kernel) ?_
 have hz : z17 Tryz.prog 43 = some zIt := by kernel_rfl
 have hz1 : z11 zIt 0 (z0f (zcy 0 [] z1c 0 0 z1c)) = z0f (zcy 0 [] z1c 0 0 z1c) := by rw [z0b]; rfl
 have hzl : zIt.length = 25 := rfl
 have u0 : (z0f (zcy 0 [] z1c 0 0 z1c)).set 0 (.int .i64 1) = z0f (zcy 1 [] z1c 0 0 z1c) := by rw [z0b, z0b]; rfl
 have u1 : (z0f (zcy 1 [] z1c 0 0 z1c)).set 1 (z0a x.at_) = z0f (zcy 1 x.at_ z1c 0 0 z1c) := by rw [z0b, z0b]; rfl
 have u2 : (z0f (zcy 1 x.at_ z1c 0 0 z1c)).set 16 (.str x.for_) = z0f (zcy 1 x.at_ x.for_ 0 0 z1c) := by rw [z0b, z0b]; rfl
 have u3 : (((z0f (zcy 1 x.at_ x.for_ 0 0 z1c)).set 17 (.int .i64 x.sk)).set 18 (.int .i64 x.sd)).set 19 (.str x.se) = z0f x := by
  have hxz : x = zcy 1 x.at_ x.for_ x.sk x.sd x.se := by
   obtain ⟨-, f1, f2, f3, f4, f5, f6, f7, f8, f9, q1, q2, q3⟩ := zbv hm O
   exact It.ext O rfl f1 f2 f3 f4 f5 f6 f7 rfl rfl rfl rfl f8 f9 q1 q2 q3
  conv => rhs; rw [hxz]
  rw [z0b, z0b]; rfl
 repeat' (first | refine zqj ?_ | ((first | refine z03 (N := 8) rfl fun K J => ?_ | refine z12 (N := 8) rfl (by decide +kernel) fun K J => ?_ | refine zqs (c5) ?_ | refine zqt (c5) ?_ | refine zqs (c7) ?_ | refine zqt (c7) ?_); (simp (disch := omega) only [go_sem, Nat.reduceBEq, Nat.reduceBeqDiff, Nat.reduceEqDiff, ↓reduceIte, reduceCtorEq, Nat.reduceAdd, Nat.reduceMul, Nat.reduceLeDiff, Nat.reduceLT, Int.reduceLT, Int.reduceLE, Int.reduceEq, hz, hz1, hzl, g1, g0, gn, g4, g3, gq, k0, k3, k3', k0', O, u0, u1, u2, u3])) | ((first | refine zqd _ rfl (fun hc => ?_) (fun hc => ?_) | refine zqm _ rfl (fun hc => ?_) (fun hc => ?_)) <;> (first | (cases hc; done) | ((try simp only [z01] at hc); (try (exfalso; omega))))) | refine zqa ?_ | refine zqi ?_ | refine zqb ?_ | refine zqg ?_ | refine zqc ?_ | refine zqk ?_ | refine zql ?_ | refine zqn ?_ | refine zqv ?_ | refine zqw ?_ | refine zqx ?_ | refine zqy ?_ | refine zqz ?_ | refine z58 rfl ?_ | refine z23 ?_ | refine zqp ?_ | refine zqo ?_ | refine zqu (by (simp (disch := omega) only [go_sem, Nat.reduceBEq, Nat.reduceBeqDiff, Nat.reduceEqDiff, ↓reduceIte, reduceCtorEq, Nat.reduceAdd, Nat.reduceLeDiff, Nat.reduceLT, hz, hz1, hzl, g1, g0, gn, g4, g3, gq, k0, k3, k3', k0', O, u0, u1, u2, u3]); rfl) rfl ?_ | (refine J _ ?_; clear J K) | (refine zqf (fun hb => ?_) (fun hb => ?_) <;> (have hb2 := hb; try simp only [z01] at hb2) <;> ((first | have F : (_ : Bool) = _ := hb2 | have F := eq_false hb2 | have F := eq_true hb2); (simp (disch := omega) only [go_sem, Nat.reduceBEq, Nat.reduceBeqDiff, Nat.reduceEqDiff, ↓reduceIte, reduceCtorEq, Nat.reduceAdd, Nat.reduceMul, Nat.reduceLeDiff, Nat.reduceLT, Int.reduceLT, Int.reduceLE, Int.reduceEq, hb, F, hz, hz1, hzl, g1, g0, gn, g4, g3, gq, k0, k3, k3', k0', O, u0, u1, u2, u3]); clear hb F; (try (exfalso; omega)))) | (exfalso; omega))
 (refine z1o (fun st => st.t 1 = .ptr 0 0 /\ st.t 3 = .ptr q 0 /\ st.t 5 = .ptr 3 0 /\ st.H 0 = some (.box 43 (z0f x)) /\ st.H 3 = some (.box 43 (z0f x)) /\ st.H (q) = some (.box 160 [.fn 212 [], .fn 213 []])) ?_ ?_); rotate_left; (rintro st ⟨p1, p3, p5, pH0, pH3, pHq⟩); rotate_left
 ·(simp (disch := omega) only [go_sem, Nat.reduceBEq, Nat.reduceBeqDiff, Nat.reduceEqDiff, ↓reduceIte, reduceCtorEq, Nat.reduceAdd, Nat.reduceMul, Nat.reduceLeDiff, Nat.reduceLT, Int.reduceLT, Int.reduceLE, Int.reduceEq, true_and, and_true, and_self, g1, g0, gn, g4, g3, gq, k0, k3, k3', k0', u0, u1, u2, u3, zr8])
  have hfin : ((((((z0f (zcy 0 [] z1c 0 0 z1c)).set 0 (.int .i64 1)).set 1 (z0a x.at_)).set 16 (.str x.for_)).set 17 (.int .i64 x.sk)).set 18 (.int .i64 x.sd)).set 19 (.str x.se) = z0f x := by rw [u0, u1, u2, u3]
  exact congrArg (HObj.box 43) hfin
 by_cases hf : x.for_ = (⟨#[]⟩ : ByteArray)
 ·have hfd : decide (x.for_ = (⟨#[]⟩ : ByteArray)) = true := decide_eq_true hf
  rw [hfd, Bool.true_or, Bool.true_and]
  repeat' (first | refine zqj ?_ | ((first | refine zqh fun K J => ?_ | refine zqe (by decide +kernel) fun K J => ?_ | refine zqr fun K J => ?_ | refine zqq (by decide +kernel) fun K J => ?_ | refine zqs (c2) ?_ | refine zqt (c2) ?_ | refine zqs (c3) ?_ | refine zqt (c3) ?_ | refine zqs (c4) ?_ | refine zqt (c4) ?_ | refine zqs (c6) ?_ | refine zqt (c6) ?_); (simp (disch := omega) only [go_sem, Nat.reduceBEq, Nat.reduceBeqDiff, Nat.reduceEqDiff, ↓reduceIte, reduceCtorEq, Nat.reduceAdd, Nat.reduceMul, Nat.reduceLeDiff, Nat.reduceLT, Int.reduceLT, Int.reduceLE, Int.reduceEq, p1, p3, p5, pH0, pH3, pHq, hf, k0, k3, k3', k0', O])) | ((first | refine zqd _ rfl (fun hc => ?_) (fun hc => ?_) | refine zqm _ rfl (fun hc => ?_) (fun hc => ?_)) <;> (first | (cases hc; done) | ((try simp only [z01] at hc); (try (exfalso; omega))))) | refine zqa ?_ | refine zqi ?_ | refine zqb ?_ | refine zqg ?_ | refine zqc ?_ | refine zqk ?_ | refine zql ?_ | refine zqn ?_ | refine zqv ?_ | refine zqw ?_ | refine zqx ?_ | refine zqy ?_ | refine zqz ?_ | refine z58 rfl ?_ | refine z23 ?_ | refine zqp ?_ | refine zqo ?_ | refine zqu (by (simp (disch := omega) only [go_sem, Nat.reduceBEq, Nat.reduceBeqDiff, Nat.reduceEqDiff, ↓reduceIte, reduceCtorEq, Nat.reduceAdd, Nat.reduceLeDiff, Nat.reduceLT, p1, p3, p5, pH0, pH3, pHq, hf, k0, k3, k3', k0', O]); rfl) rfl ?_ | (refine J _ ?_; clear J K) | (refine zqf (fun hb => ?_) (fun hb => ?_) <;> (have hb2 := hb; try simp only [z01] at hb2) <;> ((first | have F : (_ : Bool) = _ := hb2 | have F := eq_false hb2 | have F := eq_true hb2); (simp (disch := omega) only [go_sem, Nat.reduceBEq, Nat.reduceBeqDiff, Nat.reduceEqDiff, ↓reduceIte, reduceCtorEq, Nat.reduceAdd, Nat.reduceMul, Nat.reduceLeDiff, Nat.reduceLT, Int.reduceLT, Int.reduceLE, Int.reduceEq, hb, F, p1, p3, p5, pH0, pH3, pHq, hf, k0, k3, k3', k0', O]); clear hb F; (try (exfalso; omega)))) | (exfalso; omega))
  all_goals first | exact z00 rfl | exact z00 (by simp_all)
 ·have hfd : decide (x.for_ = (⟨#[]⟩ : ByteArray)) = false := decide_eq_false hf
  rw [hfd, Bool.false_or]
  repeat' (first | refine zqj ?_ | ((first | refine zqh fun K J => ?_ | refine zqe (by decide +kernel) fun K J => ?_ | refine zqr fun K J => ?_ | refine zqq (by decide +kernel) fun K J => ?_ | refine zqs (c1) ?_ | refine zqt (c1) ?_ | refine zqs (c2) ?_ | refine zqt (c2) ?_ | refine zqs (c3) ?_ | refine zqt (c3) ?_ | refine zqs (c4) ?_ | refine zqt (c4) ?_ | refine zqs (c6) ?_ | refine zqt (c6) ?_); (simp (disch := omega) only [go_sem, Nat.reduceBEq, Nat.reduceBeqDiff, Nat.reduceEqDiff, ↓reduceIte, reduceCtorEq, Nat.reduceAdd, Nat.reduceMul, Nat.reduceLeDiff, Nat.reduceLT, Int.reduceLT, Int.reduceLE, Int.reduceEq, p1, p3, p5, pH0, pH3, pHq, hf, k0, k3, k3', k0', O])) | ((first | refine zqd _ rfl (fun hc => ?_) (fun hc => ?_) | refine zqm _ rfl (fun hc => ?_) (fun hc => ?_)) <;> (first | (cases hc; done) | ((try simp only [z01] at hc); (try (exfalso; omega))))) | refine zqa ?_ | refine zqi ?_ | refine zqb ?_ | refine zqg ?_ | refine zqc ?_ | refine zqk ?_ | refine zql ?_ | refine zqn ?_ | refine zqv ?_ | refine zqw ?_ | refine zqx ?_ | refine zqy ?_ | refine zqz ?_ | refine z58 rfl ?_ | refine z23 ?_ | refine zqp ?_ | refine zqo ?_ | refine zqu (by (simp (disch := omega) only [go_sem, Nat.reduceBEq, Nat.reduceBeqDiff, Nat.reduceEqDiff, ↓reduceIte, reduceCtorEq, Nat.reduceAdd, Nat.reduceLeDiff, Nat.reduceLT, p1, p3, p5, pH0, pH3, pHq, hf, k0, k3, k3', k0', O]); rfl) rfl ?_ | (refine J _ ?_; clear J K) | (refine zqf (fun hb => ?_) (fun hb => ?_) <;> (have hb2 := hb; try simp only [z01] at hb2) <;> ((first | have F : (_ : Bool) = _ := hb2 | have F := eq_false hb2 | have F := eq_true hb2); (simp (disch := omega) only [go_sem, Nat.reduceBEq, Nat.reduceBeqDiff, Nat.reduceEqDiff, ↓reduceIte, reduceCtorEq, Nat.reduceAdd, Nat.reduceMul, Nat.reduceLeDiff, Nat.reduceLT, Int.reduceLT, Int.reduceLE, Int.reduceEq, hb, F, p1, p3, p5, pH0, pH3, pHq, hf, k0, k3, k3', k0', O]); clear hb F; (try (exfalso; omega)))) | (exfalso; omega))
  all_goals exact z00 (by simp_all)
namespace Tr
theorem z00b (id : Idv) (f : T -> T) (t : T) : (atR id f t).2 = (z0c id t).2 := by
 by_cases h : id ∈ z0e t
 ·obtain ⟨C, h1, h2, h3, h4⟩ := focus id t h
  rw [h4]
  conv => lhs; rw [h1]
  rw [zh5 f h2 C h3]
 ·rw [at_no f t h, z2q, decide_eq_false h]
end Tr
def zg4 (t : T) (r n : Nat) : List D := [.int .i64 t.id.act, .int .i64 t.id.item, .int .i64 t.id.n, .int .i64 t.kind, .str t.label, z0s t.head, z0s t.words, .osl r n]
theorem zlf (q : T) (i : Nat) (hl : q.kids.length <= 1000000) (hi : i < q.kids.length) (H : HM) (h0 : H 0 = some (.box 27 (zg4 q 3 q.kids.length))) (h3 : H 3 = some (.row 27 q.kids.length (q.kids.flatMap z07))) :
  AC Tryz.prog 282 [.ptr 0 0, .rptr (.int .i64 i)] H 4 fun r H' nx' => r = .tup [] /\ H' = z1f (z1f (z1f H 3 none) 4 (some (.row 27 (q.kids.eraseIdx i).length ((q.kids.eraseIdx i).flatMap z07)))) 0 (some (.box 27 (zg4 q 4 (q.kids.eraseIdx i).length))) /\ nx' = 5 := by
 have cd := fun (H : HM) (nx : Nat) (hid : H 3 = some (.row 27 q.kids.length (q.kids.flatMap z07))) => zvp (nx := nx) (i := i) (j := i + 1) hid (by omega) (by omega)
 have hln : i + (q.kids.length - (i + 1)) = (q.kids.eraseIdx i).length := by rw [List.length_eraseIdx_of_lt hi]; omega
 rw [zxn, hln] at cd
 simp only [Int.natCast_add, Int.natCast_one] at cd
 refine (z1v [4000011] Tryz.func282 rfl (by decide +kernel) z0i (by decide +kernel) (by simp [Tryz.ntmps282]) ?_)
 show awp _ _ _ _ _
 unfold zg4 at h0 ⊢
 repeat' (((refine zqq (by decide +kernel) fun K J => ?_); (simp (disch := omega) only [go_sem, Nat.reduceBEq, ↓reduceIte, reduceCtorEq, Nat.reduceAdd, h0])))
 refine zxm (cd _ _ ?_) rfl rfl (zpf (o := .row 27 q.kids.length (q.kids.flatMap z07)) ?_ ?_ (by intro e cs h; cases h) (by intro e cs h; cases h)) ?_
 ·(simp (disch := omega) only [go_sem, h3])
 ·(simp (disch := omega) only [go_sem, h3])
 ·(simp (disch := omega) only [go_sem, Nat.reduceLT])
 (try (simp (disch := omega) only [go_sem, Nat.reduceBEq, ↓reduceIte, reduceCtorEq, Nat.reduceAdd, Nat.reduceLeDiff, Nat.reduceLT, h0, List.set_cons_succ, List.set_cons_zero])); repeat' (first | refine zqu (by (simp (disch := omega) only [go_sem]); rfl) rfl ?_ | (refine J _ ?_; clear J K))
 exact ⟨rfl, rfl, rfl⟩
set_option maxHeartbeats 16000000 in
theorem z00c (id : Idv) (i : Nat) : ∀ t : T, szB t = true -> depT t <= 1000000 -> (∀ x ∈ z0d t, x.id = id -> i < x.kids.length) -> PC Tryz.prog 199 [z25 t, z6x id, .fn 282 [.rptr (.int .i64 i)]] (z25 (atR id (zor i) t).1) := by
 refine z55 fun t ih hs V hg => ?_
 obtain ⟨h0, h1, g1, h2, g2, h3, h4⟩ := (z2e t).1 hs
 have ct := zvl t.kids h3
 refine z1y 5 (by simp only [pureD.pureL, z05, pureD, Bool.and_self]; rfl) (z05 _) (z1v [] Tryz.func199 rfl (by decide +kernel) z0i (by decide +kernel) (by simp [Tryz.ntmps199]) ?_)
 show awp _ _ (Code.seq _ _) _ _
 rw [show Tryz.f199.results.toList = [.cell 6 27] from rfl]
 rw [show z25 t = .agg _ from by rw [z25, z1p]]
 by_cases hid : t.id = id
 ·have hi := hg t (z1j t) hid
  rw [zmz hid]
  have hidd : decide (t.id = id) = true := decide_eq_true hid
  repeat' (first | refine zqj ?_ | ((first | refine zqh fun K J => ?_ | refine zn3 (ct) ?_); (simp (disch := omega) only [go_sem, Nat.reduceBEq, ↓reduceIte, reduceCtorEq, Nat.reduceAdd, Nat.reduceLeDiff, Nat.reduceLT, hidd, zpd])) | ((refine zqd _ rfl (fun hc => ?_) (fun hc => ?_)) <;> (first | (cases hc; done) | ((try simp only [] at hc); (try (exfalso; omega))))) | (refine J _ ?_; clear J K))
  refine zb6 (AC.mono (zlf t i h3 hi _ ?_ ?_) ?_)
  ·(simp (disch := omega) only [go_sem, Nat.reduceBEq, zg4])
  ·(simp (disch := omega) only [go_sem, Nat.reduceBEq])
  rintro r H' nx' ⟨rfl, rfl, rfl⟩
  (simp (disch := omega) only [go_sem, zg4])
  (try (simp (disch := omega) only [go_sem, Nat.reduceBEq, Nat.reduceBeqDiff, Nat.reduceEqDiff, ↓reduceIte, reduceCtorEq, Nat.reduceAdd, Nat.reduceMul, Nat.reduceLeDiff, Nat.reduceLT, Int.reduceLT, Int.reduceLE, Int.reduceEq, zg4, List.set_cons_succ, List.set_cons_zero])); repeat' (first | refine zqj ?_ | ((refine zqh fun K J => ?_); (simp (disch := omega) only [go_sem, Nat.reduceBEq, ↓reduceIte, Nat.reduceAdd, Nat.reduceLeDiff, List.set_cons_succ, List.set_cons_zero])) | refine zqg ?_ | refine zqu (by (simp (disch := omega) only [go_sem, Nat.reduceBEq, ↓reduceIte, Nat.reduceAdd, Nat.reduceLeDiff]); rfl) rfl ?_ | (refine J _ ?_; clear J K))
  refine z6u (zbs 3 (t := zor i t) (z4b (f := z07) (l := t.kids.eraseIdx i) 2 rfl ?_ z7o z6p z0v z1d) rfl)
  (simp (disch := omega) only [go_sem, Nat.reduceBEq])
 ·have hidd : decide (t.id = id) = false := decide_eq_false hid
  have hln := zvn t.kids
  repeat' (first | refine zqj ?_ | ((first | refine zqh fun K J => ?_ | refine zn3 (ct) ?_); (simp (disch := omega) only [go_sem, Nat.reduceBEq, ↓reduceIte, reduceCtorEq, Nat.reduceAdd, Nat.reduceLeDiff, hidd, zpd])) | ((refine zqd _ rfl (fun hc => ?_) (fun hc => ?_)) <;> (first | (cases hc; done) | ((try simp only [] at hc); (try (exfalso; omega))))) | refine zqa ?_ | refine zqb ?_ | (refine J _ ?_; clear J K))
  (refine z3h (fun U st => ∃ (k : _), U = t.kids.length - k /\ st.t 2 = .fn 282 [.rptr (.int .i64 i)] /\ st.t 3 = .ptr 0 0 /\ st.t 4 = .ptr 1 0 /\ st.t 6 = .ptr 2 0 /\ st.t 7 = .osl 3 t.kids.length /\ st.t 26 = .osl 3 t.kids.length /\ st.t 27 = .int .i64 t.kids.length /\ st.t 28 = .int .i64 k /\ st.H 0 = some (.box 27 (zjm t)) /\ st.H 1 = some (.box 23 (z08 id)) /\ st.H 2 = some (.box 27 [.int .i64 0, .int .i64 0, .int .i64 0, .int .i64 0, .str ByteArray.empty, .nil, .nil, .nil]) /\ st.H 3 = some (.row 27 t.kids.length (t.kids.flatMap z07)) /\ (k <= t.kids.length) /\ (4 <= st.nx) /\ (∀ j, (hj : j < k) -> (h : j < t.kids.length) -> (atR id (zor i) t.kids[j]).2 = false)) ?_ ?_); rotate_left; (rintro U st ⟨k, rfl, q2, q3, q4, q6, q7, q26, q27, q28, qH0, qH1, qH2, qH3, qp0, qp1, qp2⟩); rotate_left
  ·(refine ⟨_, 0, rfl, ?_⟩); (simp (disch := omega) only [go_sem, Nat.reduceBEq, Nat.reduceLeDiff, true_and, Int.natCast_zero, zjm, z08, z10])
   intro j hj; omega
  by_cases O : k < t.kids.length
  ·have hin := ih t.kids[k] (List.getElem_mem O) (h4 _ (List.getElem_mem O)) (by have := z4e (List.getElem_mem O); omega) (fun x hx => hg x (z2k (List.getElem_mem O) hx))
   have cf := zeh t.kids[k] (zhf _ (h4 _ (List.getElem_mem O))) (by have := z4e (List.getElem_mem O); omega) id
   have hst : z11 (t.kids.flatMap z07) (k * 8) (z07 (atR id (zor i) t.kids[k]).1) = (t.kids.set k (atR id (zor i) t.kids[k]).1).flatMap z07 := zj7 z0v O
   have hld := zvm t.kids O
   have hfl := z00b id (zor i) t.kids[k]
   cases hf : (z0c id t.kids[k]).2 with
   | true =>
    rw [hf] at cf hfl
    repeat' (first | ((first | refine zqh fun K J => ?_ | refine zqs (cf) ?_ | refine zqs (hin) ?_); (simp (disch := omega) only [go_sem, Nat.reduceBEq, ↓reduceIte, reduceCtorEq, Nat.reduceAdd, Nat.reduceLeDiff, Nat.reduceLT, q2, q3, q4, q6, q7, q26, q27, q28, qH0, qH1, qH2, qH3, zjm, z08, hst, hln, hld, List.set_cons_succ, List.set_cons_zero])) | ((first | refine zqd _ rfl (fun hc => ?_) (fun hc => ?_) | refine zqm _ rfl (fun hc => ?_) (fun hc => ?_)) <;> (first | (cases hc; done) | ((try simp only [z01] at hc); (try (exfalso; omega))))) | refine zqa ?_ | refine zqb ?_ | refine zql ?_ | refine zqn ?_ | refine zqv ?_ | refine zqw ?_ | refine zqz ?_ | refine z58 rfl ?_ | refine zqp ?_ | refine zqu (by (simp (disch := omega) only [go_sem, Nat.reduceBEq, ↓reduceIte, Nat.reduceAdd, Nat.reduceLeDiff, q6, qH2]); rfl) rfl ?_ | (refine J _ ?_; clear J K))
    rw [zsf hid O qp2 hfl]
    refine z6u (zbs 3 (t := t.setKids (t.kids.set k (atR id (zor i) t.kids[k]).1)) (z4b (f := z07) (l := t.kids.set k (atR id (zor i) t.kids[k]).1) 2 (by simp) ?_ z7o z6p z0v z1d) rfl)
    (simp (disch := omega) only [go_sem, Nat.reduceBEq, qH3])
   | false =>
    rw [hf] at cf hfl
    repeat' (first | ((first | refine zqh fun K J => ?_ | refine zqr fun K J => ?_ | refine zqs (cf) ?_); (simp (disch := omega) only [go_sem, Nat.reduceBEq, ↓reduceIte, reduceCtorEq, Nat.reduceAdd, Nat.reduceLeDiff, q4, q26, q27, q28, qH1, qH3, z08, hln, hld])) | ((first | refine zqd _ rfl (fun hc => ?_) (fun hc => ?_) | refine zqm _ rfl (fun hc => ?_) (fun hc => ?_)) <;> (first | (cases hc; done) | ((try simp only [z01] at hc); (try (exfalso; omega))))) | refine zqa ?_ | refine zqb ?_ | refine zqk ?_ | refine zqv ?_ | refine zqy ?_ | (refine J _ ?_; clear J K))
    (refine Exists.intro _ (And.intro ?_ ⟨k + 1, rfl, ?_⟩)); rotate_left; (simp (disch := omega) only [go_sem, Nat.reduceBEq, Nat.reduceLeDiff, q2, q3, q4, q6, q7, q26, q27, q28, qH0, qH1, qH2, qH3, true_and, Int.natCast_add, Int.natCast_one, zjm, z08]); rotate_left
    ·omega
    ·refine ⟨by omega, by omega, fun j hj h => ?_⟩
     by_cases e : j = k
     ·subst e; exact hfl
     ·exact qp2 j (by omega) h
  ·repeat' (first | ((refine zqh fun K J => ?_); (simp (disch := omega) only [go_sem, Nat.reduceBEq, ↓reduceIte, reduceCtorEq, Nat.reduceAdd, Nat.reduceLeDiff, Nat.reduceLT, q3, q6, q7, q27, q28, qH0, qH2, zjm, List.set_cons_succ, List.set_cons_zero])) | ((refine zqd _ rfl (fun hc => ?_) (fun hc => ?_)) <;> (((try simp only [z01] at hc); (try (exfalso; omega))))) | refine zqc ?_ | refine zqn ?_ | refine zqv ?_ | refine zqz ?_ | refine zqp ?_ | refine zqu (by (simp (disch := omega) only [go_sem, Nat.reduceBEq, ↓reduceIte, Nat.reduceAdd, Nat.reduceLeDiff, q6, qH2]); rfl) rfl ?_ | (refine J _ ?_; clear J K))
   rw [zn0 hid fun j h => qp2 j (by omega) h]
   refine z6u (zbs 3 (t := t) (z4b (f := z07) (l := t.kids) 2 rfl ?_ z7o z6p z0v z1d) rfl)
   (simp (disch := omega) only [go_sem, Nat.reduceBEq, qH3])
theorem zlg (u : T) (hu : szB u = true) (V : depT u <= 1000000) (id : Idv) (hs : z15 u = true) (hm : id ∈ z0e u) (h0 : ¬ u.id = id) : PC Tryz.prog 202 [z25 u, z6x id] (z25 (z0l id u)) := by
 obtain ⟨i, hi, _, hw, q, hq, O, hqn⟩ := z00g (z4u hs) h0 hm
 have c1 := zei u (zhf u hu) (by omega) id
 have c2 := z00c (z5e id u).1 i u hu V (fun q' hq' hid => by
  have := z70 (z4u hs) hq' hid
  rw [this] at hq
  simp only [Prod.mk.injEq, and_true] at hq
  rw [hq]; exact O)
 rw [hw] at c2
 rw [hi] at c1
 refine z1y 1 (by simp only [pureD.pureL, z05]; rfl) (z05 _) (z1v [] Tryz.func202 rfl (by decide +kernel) z0i (by decide +kernel) (by simp [Tryz.ntmps202]) ?_)
 show awp _ _ (Code.seq _ _) _ _
 rw [show Tryz.f202.results.toList = [.cell 4 27] from rfl]
 repeat' (first | ((refine z03 (N := 1) rfl fun K J => ?_); (simp (disch := omega) only [go_sem, Nat.reduceBEq, Nat.reduceAdd])) | (refine J _ ?_; clear J K))
 refine z3g fun K J => ?_
 (simp (disch := omega) only [go_sem, Nat.reduceBEq, ↓reduceIte, Nat.reduceAdd, Nat.reduceLeDiff])
 refine zqs c1 ?_
 (simp (disch := omega) only [go_sem, Nat.reduceBEq, ↓reduceIte, Nat.reduceAdd, Nat.reduceLeDiff, Nat.reduceLT])
 refine J _ _ (zzd (b := 4) (j := 6) (e := 3) (cs := [.int .i64 i]) (d := .int .i64 i) (by (simp (disch := omega) only [go_sem, Nat.reduceBEq])) (.inl rfl) rfl (by (simp (disch := omega) only [go_sem, Nat.reduceBEq]))) ?_
 clear J K
 repeat' (first | ((first | refine zqh fun K J => ?_ | refine zqs (c2) ?_); (simp (disch := omega) only [go_sem, Nat.reduceBEq, ↓reduceIte, Nat.reduceAdd, Nat.reduceLeDiff])) | refine zqn ?_ | refine zqu (by (simp (disch := omega) only [go_sem, Nat.reduceBEq, ↓reduceIte, Nat.reduceLeDiff]); rfl) rfl ?_ | (refine J _ ?_; clear J K))
 exact z09 (z05 _) (Le.refl _)
set_option maxHeartbeats 4000000 in
theorem zsd (u : T) (hu : szB u = true) (V : depT u <= 1000000) (x : T) (d : EIt) (hs : z15 u = true) (hm : x.id ∈ z0e u) (h0 : ¬ u.id = x.id) : PC Tryz.prog 116 [z25 u, z25 x, zf0 d] (.tup [z25 (z0l x.id u), .int .i64 0]) := by
 have c1 := zlg u hu V x.id hs hm h0
 refine z1y 1 (by simp only [pureD.pureL, z05, z51, Bool.and_self]) (by simp only [pureD, pureD.pureL, z05, Bool.and_self]) (z1v [] Tryz.func116 rfl (by decide +kernel) z0i (by decide +kernel) (by simp [Tryz.ntmps116]) ?_)
 show awp _ _ (Code.seq _ _) _ _
 rw [show Tryz.f116.results.toList = [.cell 6 27, .tmp 7] from rfl]
 repeat' (first | ((first | refine zqh fun K J => ?_ | refine zqs (c1) ?_); (simp (disch := omega) only [go_sem, Nat.reduceBEq, ↓reduceIte, reduceCtorEq, Nat.reduceAdd, Nat.reduceLeDiff])) | refine zqn ?_ | refine zqu (by (simp (disch := omega) only [go_sem, Nat.reduceBEq, ↓reduceIte, Nat.reduceLeDiff]); rfl) rfl ?_ | (refine J _ ?_; clear J K))
 exact z09 (by simp only [pureD, pureD.pureL, z1d, Bool.and_self]) (Le.refl _)
theorem ztl : OC Tryz.prog 57 [] [.map [(.int .i64 0, .fn 115 []), (.int .i64 1, .fn 116 []), (.int .i64 2, .fn 117 []), (.int .i64 3, .fn 118 []), (.int .i64 4, .fn 119 []), (.int .i64 5, .fn 120 []), (.int .i64 6, .fn 121 [])]] (.mp 0) := by
 refine zh9 rfl rfl (by intro o ho; simp at ho; subst ho; rfl) (z1v [] Tryz.func57 rfl (by decide +kernel) z0i (by decide +kernel) (by simp [Tryz.ntmps57]) ?_)
 show awp _ _ (Code.seq _ _) _ _
 repeat' (first | refine zqj ?_ | ((first | refine zqh fun K J => ?_ | refine zqe (by decide +kernel) fun K J => ?_ | refine zqr fun K J => ?_ | refine zqq (by decide +kernel) fun K J => ?_); (simp (disch := omega) only [go_sem, Nat.reduceBEq, Nat.reduceBeqDiff, Nat.reduceEqDiff, ↓reduceIte, reduceCtorEq, Nat.reduceAdd, Nat.reduceMul, Nat.reduceLeDiff, Nat.reduceLT, Int.reduceLT, Int.reduceLE, Int.reduceEq])) | ((first | refine zqd _ rfl (fun hc => ?_) (fun hc => ?_) | refine zqm _ rfl (fun hc => ?_) (fun hc => ?_)) <;> (first | (cases hc; done) | ((try simp only [z01] at hc); (try (exfalso; omega))))) | refine zqa ?_ | refine zqi ?_ | refine zqb ?_ | refine zqg ?_ | refine zqc ?_ | refine zqk ?_ | refine zql ?_ | refine zqn ?_ | refine zqv ?_ | refine zqw ?_ | refine zqx ?_ | refine zqy ?_ | refine zqz ?_ | refine z58 rfl ?_ | refine z23 ?_ | refine zqp ?_ | refine zqo ?_ | refine zqu (by (simp (disch := omega) only [go_sem, Nat.reduceBEq, Nat.reduceBeqDiff, Nat.reduceEqDiff, ↓reduceIte, reduceCtorEq, Nat.reduceAdd, Nat.reduceLeDiff, Nat.reduceLT]); rfl) rfl ?_ | (refine J _ ?_; clear J K) | (refine zqf (fun hb => ?_) (fun hb => ?_) <;> (have hb2 := hb; try simp only [z01] at hb2) <;> ((first | have F : (_ : Bool) = _ := hb2 | have F := eq_false hb2 | have F := eq_true hb2); (simp (disch := omega) only [go_sem, Nat.reduceBEq, Nat.reduceBeqDiff, Nat.reduceEqDiff, ↓reduceIte, reduceCtorEq, Nat.reduceAdd, Nat.reduceMul, Nat.reduceLeDiff, Nat.reduceLT, Int.reduceLT, Int.reduceLE, Int.reduceEq, hb, F]); clear hb F; (try (exfalso; omega)))) | (exfalso; omega))
 refine ⟨fun j => j, fun i j _ _ h => h, ?_, fun j hj => ?_⟩
 ·(simp (disch := omega) only [go_sem, Nat.reduceBEq, Nat.reduceBeqDiff, Nat.reduceEqDiff, ↓reduceIte, reduceCtorEq, Nat.reduceAdd, Nat.reduceMul, Nat.reduceLeDiff, Nat.reduceLT, Int.reduceLT, Int.reduceLE, Int.reduceEq, renD])
 ·match j, hj with
  | 0, _ => (simp (disch := omega) only [go_sem, Nat.reduceBEq, Nat.reduceBeqDiff, Nat.reduceEqDiff, ↓reduceIte, reduceCtorEq, Nat.reduceAdd, Nat.reduceMul, Nat.reduceLeDiff, Nat.reduceLT, Int.reduceLT, Int.reduceLE, Int.reduceEq])
set_option maxHeartbeats 16000000 in
theorem ztm (u : T) (hs : z15 u = true) (hu : szB u = true) (hc : cntT u <= 1100) (V : depT u <= 1000) (d : EIt) (hx : OkI d.it) (hm : zcx d.it = true) (O : d.it.kind = 1) :
  ∃ (v : T) (f : Int), PC Tryz.prog 15 [z25 u, zf0 d] (.tup [z25 v, .int .i64 f]) /\ ((¬ f = 0 /\ v = u) \/ (f = 0 /\ (zl8 u d.it.at_).2 = 0 /\ (zl8 u d.it.at_).1 ∈ z0e u /\ ¬ u.id = (zl8 u d.it.at_).1 /\ v = z0l (zl8 u d.it.at_).1 u)) := by
 obtain ⟨bx, -⟩ := (za7 d.it).1 hx
 obtain ⟨b, cv⟩ := zu4 d.it hx hm O
 have c1 := zev u hu hc d.it.at_ (by have := bx.at_.1; unfold maxLen; omega) (fun s hs => by have := bx.at_.2 s hs; unfold maxLen; omega)
 have hoc := ztl
 cases b with
 | false =>
  refine ⟨u, 1, ?_, .inl ⟨by decide, rfl⟩⟩
  refine z1y 1 (by simp only [pureD.pureL, z05, z51, pureD, Bool.and_self]) (by simp only [pureD, pureD.pureL, z05, Bool.and_self]) (z1v [4000015, 3000018] Tryz.func15 rfl (by decide +kernel) z0i (by decide +kernel) (by simp [Tryz.ntmps15]) ?_)
  show awp _ _ (Code.seq _ _) _ _
  rw [show Tryz.f15.results.toList = [.cell 4 27, .tmp 5] from rfl]
  repeat' (first | refine zqj ?_ | ((first | refine zqh fun K J => ?_ | refine zqe (by decide +kernel) fun K J => ?_ | refine zqr fun K J => ?_ | refine zqq (by decide +kernel) fun K J => ?_ | refine z5i (hoc) rfl rfl rfl ?_ | refine zqs (cv) ?_ | refine zqt (cv) ?_); (simp (disch := omega) only [go_sem, Nat.reduceBEq, Nat.reduceBeqDiff, Nat.reduceEqDiff, ↓reduceIte, reduceCtorEq, Nat.reduceAdd, Nat.reduceMul, Nat.reduceLeDiff, Nat.reduceLT, Int.reduceLT, Int.reduceLE, Int.reduceEq, O])) | ((first | refine zqd _ rfl (fun hc => ?_) (fun hc => ?_) | refine zqm _ rfl (fun hc => ?_) (fun hc => ?_)) <;> (first | (cases hc; done) | ((try simp only [z01] at hc); (try (exfalso; omega))))) | refine zqa ?_ | refine zqi ?_ | refine zqb ?_ | refine zqg ?_ | refine zqc ?_ | refine zqk ?_ | refine zql ?_ | refine zqn ?_ | refine zqv ?_ | refine zqw ?_ | refine zqx ?_ | refine zqy ?_ | refine zqz ?_ | refine z58 rfl ?_ | refine z23 ?_ | refine zqp ?_ | refine zqo ?_ | refine zqu (by (simp (disch := omega) only [go_sem, Nat.reduceBEq, Nat.reduceBeqDiff, Nat.reduceEqDiff, ↓reduceIte, reduceCtorEq, Nat.reduceAdd, Nat.reduceLeDiff, Nat.reduceLT, O]); rfl) rfl ?_ | (refine J _ ?_; clear J K) | (refine zqf (fun hb => ?_) (fun hb => ?_) <;> (have hb2 := hb; try simp only [z01] at hb2) <;> ((first | have F : (_ : Bool) = _ := hb2 | have F := eq_false hb2 | have F := eq_true hb2); (simp (disch := omega) only [go_sem, Nat.reduceBEq, Nat.reduceBeqDiff, Nat.reduceEqDiff, ↓reduceIte, reduceCtorEq, Nat.reduceAdd, Nat.reduceMul, Nat.reduceLeDiff, Nat.reduceLT, Int.reduceLT, Int.reduceLE, Int.reduceEq, hb, F, O]); clear hb F; (try (exfalso; omega)))) | (exfalso; omega))
  exact z09 (by simp only [pureD, pureD.pureL, z1d, Bool.and_self]) (Le.refl _)
 | true =>
  obtain ⟨id, hid⟩ : ∃ id, id = (zl8 u d.it.at_).1 := ⟨_, rfl⟩
  obtain ⟨e, he⟩ : ∃ e, e = (zl8 u d.it.at_).2 := ⟨_, rfl⟩
  rw [<- hid, <- he] at c1
  by_cases he0 : e = 0
  case neg =>
   refine ⟨u, e, ?_, .inl ⟨he0, rfl⟩⟩
   refine z1y 1 (by simp only [pureD.pureL, z05, z51, pureD, Bool.and_self]) (by simp only [pureD, pureD.pureL, z05, Bool.and_self]) (z1v [4000015, 3000018] Tryz.func15 rfl (by decide +kernel) z0i (by decide +kernel) (by simp [Tryz.ntmps15]) ?_)
   show awp _ _ (Code.seq _ _) _ _
   rw [show Tryz.f15.results.toList = [.cell 4 27, .tmp 5] from rfl]
   repeat' (first | refine zqj ?_ | ((first | refine zqh fun K J => ?_ | refine zqe (by decide +kernel) fun K J => ?_ | refine zqr fun K J => ?_ | refine zqq (by decide +kernel) fun K J => ?_ | refine z5i (hoc) rfl rfl rfl ?_ | refine zqs (cv) ?_ | refine zqt (cv) ?_ | refine zqs (c1) ?_ | refine zqt (c1) ?_); (simp (disch := omega) only [go_sem, Nat.reduceBEq, Nat.reduceBeqDiff, Nat.reduceEqDiff, ↓reduceIte, reduceCtorEq, Nat.reduceAdd, Nat.reduceMul, Nat.reduceLeDiff, Nat.reduceLT, Int.reduceLT, Int.reduceLE, Int.reduceEq, O, z08, he0])) | ((first | refine zqd _ rfl (fun hc => ?_) (fun hc => ?_) | refine zqm _ rfl (fun hc => ?_) (fun hc => ?_)) <;> (first | (cases hc; done) | ((try simp only [z01] at hc); (try (exfalso; omega))))) | refine zqa ?_ | refine zqi ?_ | refine zqb ?_ | refine zqg ?_ | refine zqc ?_ | refine zqk ?_ | refine zql ?_ | refine zqn ?_ | refine zqv ?_ | refine zqw ?_ | refine zqx ?_ | refine zqy ?_ | refine zqz ?_ | refine z58 rfl ?_ | refine z23 ?_ | refine zqp ?_ | refine zqo ?_ | refine zqu (by (simp (disch := omega) only [go_sem, Nat.reduceBEq, Nat.reduceBeqDiff, Nat.reduceEqDiff, ↓reduceIte, reduceCtorEq, Nat.reduceAdd, Nat.reduceLeDiff, Nat.reduceLT, O, z08, he0]); rfl) rfl ?_ | (refine J _ ?_; clear J K) | (refine zqf (fun hb => ?_) (fun hb => ?_) <;> (have hb2 := hb; try simp only [z01] at hb2) <;> ((first | have F : (_ : Bool) = _ := hb2 | have F := eq_false hb2 | have F := eq_true hb2); (simp (disch := omega) only [go_sem, Nat.reduceBEq, Nat.reduceBeqDiff, Nat.reduceEqDiff, ↓reduceIte, reduceCtorEq, Nat.reduceAdd, Nat.reduceMul, Nat.reduceLeDiff, Nat.reduceLT, Int.reduceLT, Int.reduceLE, Int.reduceEq, hb, F, O, z08, he0]); clear hb F; (try (exfalso; omega)))) | (exfalso; omega))
   exact z09 (by simp only [pureD, pureD.pureL, z1d, Bool.and_self]) (Le.refl _)
  rw [he0] at c1 he
  have hin : id ∈ z0e u := one_in (id := id) (e := 0) (by rw [hid, he]) rfl
  have c2 := zeh u (zhf u hu) (by omega) id
  by_cases h0 : u.id = id
  ·refine ⟨u, 9, ?_, .inl ⟨by decide, rfl⟩⟩
   have hdd : decide (¬ id = u.id) = false := decide_eq_false (fun h => h h0.symm)
   refine z1y 1 (by simp only [pureD.pureL, z05, z51, pureD, Bool.and_self]) (by simp only [pureD, pureD.pureL, z05, Bool.and_self]) (z1v [4000015, 3000018] Tryz.func15 rfl (by decide +kernel) z0i (by decide +kernel) (by simp [Tryz.ntmps15]) ?_)
   show awp _ _ (Code.seq _ _) _ _
   rw [show Tryz.f15.results.toList = [.cell 4 27, .tmp 5] from rfl]
   repeat' (first | refine zqj ?_ | ((first | refine zqh fun K J => ?_ | refine zqe (by decide +kernel) fun K J => ?_ | refine zqr fun K J => ?_ | refine zqq (by decide +kernel) fun K J => ?_ | refine z5i (hoc) rfl rfl rfl ?_ | refine zqs (cv) ?_ | refine zqt (cv) ?_ | refine zqs (c1) ?_ | refine zqt (c1) ?_ | refine zqs (c2) ?_ | refine zqt (c2) ?_); (simp (disch := omega) only [go_sem, Nat.reduceBEq, Nat.reduceBeqDiff, Nat.reduceEqDiff, ↓reduceIte, reduceCtorEq, Nat.reduceAdd, Nat.reduceMul, Nat.reduceLeDiff, Nat.reduceLT, Int.reduceLT, Int.reduceLE, Int.reduceEq, O, z08, h0])) | ((first | refine zqd _ rfl (fun hc => ?_) (fun hc => ?_) | refine zqm _ rfl (fun hc => ?_) (fun hc => ?_)) <;> (first | (cases hc; done) | ((try simp only [z01] at hc); (try (exfalso; omega))))) | refine zqa ?_ | refine zqi ?_ | refine zqb ?_ | refine zqg ?_ | refine zqc ?_ | refine zqk ?_ | refine zql ?_ | refine zqn ?_ | refine zqv ?_ | refine zqw ?_ | refine zqx ?_ | refine zqy ?_ | refine zqz ?_ | refine z58 rfl ?_ | refine z23 ?_ | refine zqp ?_ | refine zqo ?_ | refine zqu (by (simp (disch := omega) only [go_sem, Nat.reduceBEq, Nat.reduceBeqDiff, Nat.reduceEqDiff, ↓reduceIte, reduceCtorEq, Nat.reduceAdd, Nat.reduceLeDiff, Nat.reduceLT, O, z08, h0]); rfl) rfl ?_ | (refine J _ ?_; clear J K) | (refine zqf (fun hb => ?_) (fun hb => ?_) <;> (have hb2 := hb; try simp only [z01] at hb2) <;> ((first | have F : (_ : Bool) = _ := hb2 | have F := eq_false hb2 | have F := eq_true hb2); (simp (disch := omega) only [go_sem, Nat.reduceBEq, Nat.reduceBeqDiff, Nat.reduceEqDiff, ↓reduceIte, reduceCtorEq, Nat.reduceAdd, Nat.reduceMul, Nat.reduceLeDiff, Nat.reduceLT, Int.reduceLT, Int.reduceLE, Int.reduceEq, hb, F, O, z08, h0]); clear hb F; (try (exfalso; omega)))) | (exfalso; omega))
   all_goals exact z09 (by simp only [pureD, pureD.pureL, z1d, z05, Bool.and_self]) (Le.refl _)
  ·refine ⟨z0l id u, 0, ?_, .inr ⟨rfl, he.symm, hid ▸ hin, hid ▸ h0, by rw [hid]⟩⟩
   obtain ⟨C, -, k2, -, k4⟩ := focus id u hin
   have c3 := zsd u hu (by omega) (z0c id u).1 d hs (by rw [k2]; exact hin) (by rw [k2]; exact h0)
   rw [k2] at c3
   refine z1y 1 (by simp only [pureD.pureL, z05, z51, pureD, Bool.and_self]) (by simp only [pureD, pureD.pureL, z05, Bool.and_self]) (z1v [4000015, 3000018] Tryz.func15 rfl (by decide +kernel) z0i (by decide +kernel) (by simp [Tryz.ntmps15]) ?_)
   show awp _ _ (Code.seq _ _) _ _
   rw [show Tryz.f15.results.toList = [.cell 4 27, .tmp 5] from rfl]
   repeat' (first | refine zqj ?_ | ((first | refine zqh fun K J => ?_ | refine zqe (by decide +kernel) fun K J => ?_ | refine zqr fun K J => ?_ | refine zqq (by decide +kernel) fun K J => ?_ | refine z5i (hoc) rfl rfl rfl ?_ | refine zqs (cv) ?_ | refine zqt (cv) ?_ | refine zqs (c1) ?_ | refine zqt (c1) ?_ | refine zqs (c2) ?_ | refine zqt (c2) ?_ | refine zqs (c3) ?_ | refine zqt (c3) ?_); (simp (disch := omega) only [go_sem, Nat.reduceBEq, Nat.reduceBeqDiff, Nat.reduceEqDiff, ↓reduceIte, reduceCtorEq, Nat.reduceAdd, Nat.reduceMul, Nat.reduceLeDiff, Nat.reduceLT, Int.reduceLT, Int.reduceLE, Int.reduceEq, O, z08])) | ((first | refine zqd _ rfl (fun hc => ?_) (fun hc => ?_) | refine zqm _ rfl (fun hc => ?_) (fun hc => ?_)) <;> (first | (cases hc; done) | ((try simp only [z01] at hc); (try (exfalso; omega))))) | refine zqa ?_ | refine zqi ?_ | refine zqb ?_ | refine zqg ?_ | refine zqc ?_ | refine zqk ?_ | refine zql ?_ | refine zqn ?_ | refine zqv ?_ | refine zqw ?_ | refine zqx ?_ | refine zqy ?_ | refine zqz ?_ | refine z58 rfl ?_ | refine z23 ?_ | refine zqp ?_ | refine zqo ?_ | refine zqu (by (simp (disch := omega) only [go_sem, Nat.reduceBEq, Nat.reduceBeqDiff, Nat.reduceEqDiff, ↓reduceIte, reduceCtorEq, Nat.reduceAdd, Nat.reduceLeDiff, Nat.reduceLT, O, z08]); rfl) rfl ?_ | (refine J _ ?_; clear J K) | (refine zqf (fun hb => ?_) (fun hb => ?_) <;> (have hb2 := hb; try simp only [z01] at hb2) <;> ((first | have F : (_ : Bool) = _ := hb2 | have F := eq_false hb2 | have F := eq_true hb2); (simp (disch := omega) only [go_sem, Nat.reduceBEq, Nat.reduceBeqDiff, Nat.reduceEqDiff, ↓reduceIte, reduceCtorEq, Nat.reduceAdd, Nat.reduceMul, Nat.reduceLeDiff, Nat.reduceLT, Int.reduceLT, Int.reduceLE, Int.reduceEq, hb, F, O, z08]); clear hb F; (try (exfalso; omega)))) | (exfalso; omega))
   all_goals first
    | exact z09 (by simp only [pureD, pureD.pureL, z1d, z05, Bool.and_self]) (Le.refl _)
    | exact absurd (Eq.symm ‹id = u.id›) h0
    | (exfalso; simp_all)
theorem pc_wayS (id : Idv) : ∀ t : T, szB t = true -> depT t <= 1000000 -> PC Tryz.prog 61 [z25 t, z6x id] (zz6 id t) := by
 refine z55 fun t ih hs V => ?_
 obtain ⟨h0, h1, g1, h2, g2, h3, h4⟩ := (z2e t).1 hs
 refine z1y 3 (by simp only [pureD.pureL, z05, pureD, Bool.and_self]; rfl) (zs1 _ _) (z1v [33] Tryz.func61 rfl (by decide +kernel) z0i (by decide +kernel) (by simp [Tryz.ntmps61]) ?_)
 show awp _ _ (Code.seq _ _) _ _
 rw [show Tryz.f61.results.toList = [.tmp 4, .tmp 5] from rfl]
 repeat' (first | refine zqj ?_ | ((first | refine zqh fun K J => ?_ | refine zqe (by decide +kernel) fun K J => ?_ | refine zqr fun K J => ?_ | refine zqq (by decide +kernel) fun K J => ?_); (simp (disch := omega) only [go_sem, Nat.reduceBEq, Nat.reduceBeqDiff, Nat.reduceEqDiff, ↓reduceIte, reduceCtorEq, Nat.reduceAdd, Nat.reduceMul, Nat.reduceLeDiff, Nat.reduceLT, Int.reduceLT, Int.reduceLE, Int.reduceEq, z08])) | ((first | refine zqd _ rfl (fun hc => ?_) (fun hc => ?_) | refine zqm _ rfl (fun hc => ?_) (fun hc => ?_)) <;> (first | (cases hc; done) | ((try simp only [z01] at hc); (try (exfalso; omega))))) | refine zqa ?_ | refine zqi ?_ | refine zqb ?_ | refine zqg ?_ | refine zqc ?_ | refine zqk ?_ | refine zql ?_ | refine zqn ?_ | refine zqv ?_ | refine zqw ?_ | refine zqx ?_ | refine zqy ?_ | refine zqz ?_ | refine z58 rfl ?_ | refine z23 ?_ | refine zqp ?_ | refine zqo ?_ | refine zqu (by (simp (disch := omega) only [go_sem, Nat.reduceBEq, Nat.reduceBeqDiff, Nat.reduceEqDiff, ↓reduceIte, reduceCtorEq, Nat.reduceAdd, Nat.reduceLeDiff, Nat.reduceLT, z08]); rfl) rfl ?_ | (refine J _ ?_; clear J K) | (refine zqf (fun hb => ?_) (fun hb => ?_) <;> (have hb2 := hb; try simp only [z01] at hb2) <;> ((first | have F : (_ : Bool) = _ := hb2 | have F := eq_false hb2 | have F := eq_true hb2); (simp (disch := omega) only [go_sem, Nat.reduceBEq, Nat.reduceBeqDiff, Nat.reduceEqDiff, ↓reduceIte, reduceCtorEq, Nat.reduceAdd, Nat.reduceMul, Nat.reduceLeDiff, Nat.reduceLT, Int.reduceLT, Int.reduceLE, Int.reduceEq, hb, F, z08]); clear hb F; (try (exfalso; omega)))) | (exfalso; omega))
 ·have hf := z2j ‹t.id = id›
  unfold zz6
  rw [hf, zol (by assumption)]
  exact z09 rfl (Le.tup ⟨Le.nil 2, Le.refl _, trivial⟩)
 ·have hne : ¬ t.id = id := by assumption
  (refine z3h (fun U st => ∃ (i : _), U = t.kids.length - i /\ st.t 2 = .ptr 0 0 /\ st.t 3 = .ptr 1 0 /\ st.t 15 = z10 t.kids /\ st.t 16 = .int .i64 t.kids.length /\ st.t 17 = .int .i64 i /\ st.H 0 = some (.box 27 (z07 t)) /\ st.H 1 = some (.box 23 (z08 id)) /\ (i <= t.kids.length) /\ (2 <= st.nx) /\ (∀ j, (hj : j < i) -> (h : j < t.kids.length) -> z26 id t.kids[j] = [])) ?_ ?_); rotate_left; (rintro U st ⟨i, rfl, q2, q3, q15, q16, q17, qH0, qH1, qp0, qp1, qp2⟩); rotate_left
  ·(refine ⟨_, 0, rfl, ?_⟩); (simp (disch := omega) only [go_sem, Nat.reduceBEq, Nat.reduceBeqDiff, Nat.reduceEqDiff, ↓reduceIte, reduceCtorEq, Nat.reduceAdd, Nat.reduceMul, Nat.reduceLeDiff, Nat.reduceLT, Int.reduceLT, Int.reduceLE, Int.reduceEq, true_and, and_true, and_self, Int.natCast_add, Int.natCast_one, Int.natCast_zero, List.flatMap_nil, List.map_nil, List.append_nil, List.nil_append, z08, z10])
   (repeat' (first | omega | assumption | exact rfl | refine And.intro ?_ ?_))
   all_goals first | omega | (intro j hj; omega)
  by_cases hi : i < t.kids.length
  ·have hdk := z4e (List.getElem_mem hi)
   have hin := ih t.kids[i] (List.getElem_mem hi) (h4 _ (List.getElem_mem hi)) (by omega)
   unfold zz6 at hin
   have hbl := zih id t.kids[i]
   repeat' (first | refine zqj ?_ | ((first | refine zqh fun K J => ?_ | refine zqe (by decide +kernel) fun K J => ?_ | refine zqr fun K J => ?_ | refine zqq (by decide +kernel) fun K J => ?_ | refine zqs (hin) ?_ | refine zqt (hin) ?_); (simp (disch := omega) only [go_sem, Nat.reduceBEq, Nat.reduceBeqDiff, Nat.reduceEqDiff, ↓reduceIte, reduceCtorEq, Nat.reduceAdd, Nat.reduceMul, Nat.reduceLeDiff, Nat.reduceLT, Int.reduceLT, Int.reduceLE, Int.reduceEq, q2, q3, q15, q16, q17, qH0, qH1, z10, z08, z0a, z2o])) | ((first | refine zqd _ rfl (fun hc => ?_) (fun hc => ?_) | refine zqm _ rfl (fun hc => ?_) (fun hc => ?_)) <;> (first | (cases hc; done) | ((try simp only [z01] at hc); (try (exfalso; omega))))) | refine zqa ?_ | refine zqi ?_ | refine zqb ?_ | refine zqg ?_ | refine zqc ?_ | refine zqk ?_ | refine zql ?_ | refine zqn ?_ | refine zqv ?_ | refine zqw ?_ | refine zqx ?_ | refine zqy ?_ | refine zqz ?_ | refine z58 rfl ?_ | refine z23 ?_ | refine zqp ?_ | refine zqo ?_ | refine zqu (by (simp (disch := omega) only [go_sem, Nat.reduceBEq, Nat.reduceBeqDiff, Nat.reduceEqDiff, ↓reduceIte, reduceCtorEq, Nat.reduceAdd, Nat.reduceLeDiff, Nat.reduceLT, q2, q3, q15, q16, q17, qH0, qH1, z10, z08, z0a, z2o]); rfl) rfl ?_ | (refine J _ ?_; clear J K) | (refine zqf (fun hb => ?_) (fun hb => ?_) <;> (have hb2 := hb; try simp only [z01] at hb2) <;> ((first | have F : (_ : Bool) = _ := hb2 | have F := eq_false hb2 | have F := eq_true hb2); (simp (disch := omega) only [go_sem, Nat.reduceBEq, Nat.reduceBeqDiff, Nat.reduceEqDiff, ↓reduceIte, reduceCtorEq, Nat.reduceAdd, Nat.reduceMul, Nat.reduceLeDiff, Nat.reduceLT, Int.reduceLT, Int.reduceLE, Int.reduceEq, hb, F, q2, q3, q15, q16, q17, qH0, qH1, z10, z08, z0a, z2o]); clear hb F; (try (exfalso; omega)))) | (exfalso; omega))
   ·have hf := z9a.1 ‹(z0c id t.kids[i]).2 = true›
    have hw := z48 hne hi qp2 hf
    have hbk := zs0 hw hf
    have hfk : (z0c id t).2 = true := by rw [z35 hw hf]; assumption
    unfold zz6
    rw [hfk, hbk]
    have hlen : 1 + (z32 id t.kids[i]).length = (zfn t.kids[i] :: z32 id t.kids[i]).length := by rw [List.length_cons]; omega
    refine z6u (ziw 2 (by simp only [pureD.pureL, pureD, Bool.and_false, Bool.false_and]) (z0u (z4b (f := z3o) (l := zfn t.kids[i] :: z32 id t.kids[i]) 0 hlen.symm ?_ zem zhk (fun _ => rfl) (fun _ => rfl)) (z0u (z0w _ rfl) z7e)))
    (simp (disch := omega) only [go_sem, Nat.reduceBEq, Nat.reduceBeqDiff, Nat.reduceEqDiff, ↓reduceIte, reduceCtorEq, Nat.reduceAdd, Nat.reduceMul, Nat.reduceLeDiff, Nat.reduceLT, Int.reduceLT, Int.reduceLE, Int.reduceEq, q2, q3, q15, q16, q17, qH0, qH1, zfn, z3o, List.flatMap_cons, List.cons_append, List.nil_append])
   ·have hf := zil.1 ‹(z0c id t.kids[i]).2 = false›
    (refine Exists.intro _ (And.intro ?_ ⟨i + 1, rfl, ?_⟩)); rotate_left; (simp (disch := omega) only [go_sem, Nat.reduceBEq, Nat.reduceBeqDiff, Nat.reduceEqDiff, ↓reduceIte, reduceCtorEq, Nat.reduceAdd, Nat.reduceMul, Nat.reduceLeDiff, Nat.reduceLT, Int.reduceLT, Int.reduceLE, Int.reduceEq, q2, q3, q15, q16, q17, qH0, qH1, true_and, and_true, and_self, Int.natCast_add, Int.natCast_one, Int.natCast_zero, List.flatMap_append, List.flatMap_cons, List.flatMap_nil, List.map_append, List.map_cons, List.map_nil, List.append_nil, List.cons_append, List.nil_append, z08, z10]); rotate_left
    ·omega
    ·refine ⟨by omega, by omega, fun j hj h => ?_⟩
     by_cases e : j = i
     ·subst e; exact hf
     ·exact qp2 j (by omega) h
  ·repeat' (first | refine zqj ?_ | ((first | refine zqh fun K J => ?_ | refine zqe (by decide +kernel) fun K J => ?_ | refine zqr fun K J => ?_ | refine zqq (by decide +kernel) fun K J => ?_); (simp (disch := omega) only [go_sem, Nat.reduceBEq, Nat.reduceBeqDiff, Nat.reduceEqDiff, ↓reduceIte, reduceCtorEq, Nat.reduceAdd, Nat.reduceMul, Nat.reduceLeDiff, Nat.reduceLT, Int.reduceLT, Int.reduceLE, Int.reduceEq, q2, q3, q15, q16, q17, qH0, qH1, z10, z08])) | ((first | refine zqd _ rfl (fun hc => ?_) (fun hc => ?_) | refine zqm _ rfl (fun hc => ?_) (fun hc => ?_)) <;> (first | (cases hc; done) | ((try simp only [z01] at hc); (try (exfalso; omega))))) | refine zqa ?_ | refine zqi ?_ | refine zqb ?_ | refine zqg ?_ | refine zqc ?_ | refine zqk ?_ | refine zql ?_ | refine zqn ?_ | refine zqv ?_ | refine zqw ?_ | refine zqx ?_ | refine zqy ?_ | refine zqz ?_ | refine z58 rfl ?_ | refine z23 ?_ | refine zqp ?_ | refine zqo ?_ | refine zqu (by (simp (disch := omega) only [go_sem, Nat.reduceBEq, Nat.reduceBeqDiff, Nat.reduceEqDiff, ↓reduceIte, reduceCtorEq, Nat.reduceAdd, Nat.reduceLeDiff, Nat.reduceLT, q2, q3, q15, q16, q17, qH0, qH1, z10, z08]); rfl) rfl ?_ | (refine J _ ?_; clear J K) | (refine zqf (fun hb => ?_) (fun hb => ?_) <;> (have hb2 := hb; try simp only [z01] at hb2) <;> ((first | have F : (_ : Bool) = _ := hb2 | have F := eq_false hb2 | have F := eq_true hb2); (simp (disch := omega) only [go_sem, Nat.reduceBEq, Nat.reduceBeqDiff, Nat.reduceEqDiff, ↓reduceIte, reduceCtorEq, Nat.reduceAdd, Nat.reduceMul, Nat.reduceLeDiff, Nat.reduceLT, Int.reduceLT, Int.reduceLE, Int.reduceEq, hb, F, q2, q3, q15, q16, q17, qH0, qH1, z10, z08]); clear hb F; (try (exfalso; omega)))) | (exfalso; omega))
   unfold zz6
   rw [zd6 (ze1 hne (by omega) qp2), zom (ze1 hne (by omega) qp2)]
   exact z09 rfl (Le.tup ⟨Le.nil 2, Le.refl _, trivial⟩)
theorem zyi (id : Idv) (u : T) (hs : szB u = true) (V : depT u <= 1000000) (hm : id ∈ z0e u) : PC Tryz.prog 17 [z25 u, z6x id] (.tup [z0a (z5w id u), .bool true]) := by
 have c1 := pc_wayS id u hs V
 unfold zz6 at c1
 have hf : (z0c id u).2 = true := by rw [z2q, decide_eq_true hm]
 rw [hf] at c1
 have hbl := zih id u
 refine z1y 3 (by simp only [pureD.pureL, z05, pureD, Bool.and_self]; rfl) (by simp only [pureD, pureD.pureL, z1e, Bool.and_self]) (z1v [17] Tryz.func17 rfl (by decide +kernel) z0i (by decide +kernel) (by simp [Tryz.ntmps17]) ?_)
 show awp _ _ (Code.seq _ _) _ _
 rw [show Tryz.f17.results.toList = [.tmp 4, .tmp 5] from rfl]
 repeat' (first | refine zqj ?_ | ((first | refine zqh fun K J => ?_ | refine zqe (by decide +kernel) fun K J => ?_ | refine zqr fun K J => ?_ | refine zqq (by decide +kernel) fun K J => ?_ | refine zqs (c1) ?_ | refine zqt (c1) ?_); (simp (disch := omega) only [go_sem, Nat.reduceBEq, Nat.reduceBeqDiff, Nat.reduceEqDiff, ↓reduceIte, reduceCtorEq, Nat.reduceAdd, Nat.reduceMul, Nat.reduceLeDiff, Nat.reduceLT, Int.reduceLT, Int.reduceLE, Int.reduceEq, z08, z0a, z2o])) | ((first | refine zqd _ rfl (fun hc => ?_) (fun hc => ?_) | refine zqm _ rfl (fun hc => ?_) (fun hc => ?_)) <;> (first | (cases hc; done) | ((try simp only [z01] at hc); (try (exfalso; omega))))) | refine zqa ?_ | refine zqi ?_ | refine zqb ?_ | refine zqg ?_ | refine zqc ?_ | refine zqk ?_ | refine zql ?_ | refine zqn ?_ | refine zqv ?_ | refine zqw ?_ | refine zqx ?_ | refine zqy ?_ | refine zqz ?_ | refine z58 rfl ?_ | refine z23 ?_ | refine zqp ?_ | refine zqo ?_ | refine zqu (by (simp (disch := omega) only [go_sem, Nat.reduceBEq, Nat.reduceBeqDiff, Nat.reduceEqDiff, ↓reduceIte, reduceCtorEq, Nat.reduceAdd, Nat.reduceLeDiff, Nat.reduceLT, z08, z0a, z2o]); rfl) rfl ?_ | (refine J _ ?_; clear J K) | (refine zqf (fun hb => ?_) (fun hb => ?_) <;> (have hb2 := hb; try simp only [z01] at hb2) <;> ((first | have F : (_ : Bool) = _ := hb2 | have F := eq_false hb2 | have F := eq_true hb2); (simp (disch := omega) only [go_sem, Nat.reduceBEq, Nat.reduceBeqDiff, Nat.reduceEqDiff, ↓reduceIte, reduceCtorEq, Nat.reduceAdd, Nat.reduceMul, Nat.reduceLeDiff, Nat.reduceLT, Int.reduceLT, Int.reduceLE, Int.reduceEq, hb, F, z08, z0a, z2o]); clear hb F; (try (exfalso; omega)))) | (exfalso; omega))
 have hlen : 1 + (z32 id u).length = (z5w id u).length := by unfold z5w; rw [List.length_cons]; omega
 refine z6u (ziw 2 (by simp only [pureD.pureL, pureD, Bool.and_false, Bool.false_and]) (z0u (z4b (f := z3o) (l := z5w id u) 0 hlen.symm ?_ zem zhk (fun _ => rfl) (fun _ => rfl)) (z0u (z0w _ rfl) z7e)))
 (simp (disch := omega) only [go_sem, Nat.reduceBEq, Nat.reduceBeqDiff, Nat.reduceEqDiff, ↓reduceIte, reduceCtorEq, Nat.reduceAdd, Nat.reduceMul, Nat.reduceLeDiff, Nat.reduceLT, Int.reduceLT, Int.reduceLE, Int.reduceEq, z5w, z3o, List.flatMap_cons, List.cons_append, List.nil_append])
 rfl
set_option maxHeartbeats 4000000 in
theorem zvi (a : List Idv) (ha : a.length <= 1000000) : PC Tryz.prog 20 [z0o a, z0o a] (.bool true) := by
  refine z1y 1 (by simp only [pureD.pureL, z7g, Bool.and_self]) rfl (z1v [] Tryz.func20 rfl (by decide +kernel) z0i (by decide +kernel) (by simp [Tryz.ntmps20]) ?_)
  show awp _ _ (Code.seq _ _) _ _
  repeat' (first | refine zqj ?_ | ((first | refine zqh fun K J => ?_ | refine zqe (by decide +kernel) fun K J => ?_ | refine zqr fun K J => ?_ | refine zqq (by decide +kernel) fun K J => ?_); (simp (disch := omega) only [go_sem, Nat.reduceBEq, Nat.reduceBeqDiff, Nat.reduceEqDiff, ↓reduceIte, reduceCtorEq, Nat.reduceAdd, Nat.reduceMul, Nat.reduceLeDiff, Nat.reduceLT, Int.reduceLT, Int.reduceLE, Int.reduceEq, z0o])) | ((first | refine zqd _ rfl (fun hc => ?_) (fun hc => ?_) | refine zqm _ rfl (fun hc => ?_) (fun hc => ?_)) <;> (first | (cases hc; done) | ((try simp only [z01] at hc); (try (exfalso; omega))))) | refine zqa ?_ | refine zqi ?_ | refine zqb ?_ | refine zqg ?_ | refine zqc ?_ | refine zqk ?_ | refine zql ?_ | refine zqn ?_ | refine zqv ?_ | refine zqw ?_ | refine zqx ?_ | refine zqy ?_ | refine zqz ?_ | refine z58 rfl ?_ | refine z23 ?_ | refine zqp ?_ | refine zqo ?_ | refine zqu (by (simp (disch := omega) only [go_sem, Nat.reduceBEq, Nat.reduceBeqDiff, Nat.reduceEqDiff, ↓reduceIte, reduceCtorEq, Nat.reduceAdd, Nat.reduceLeDiff, Nat.reduceLT, z0o]); rfl) rfl ?_ | (refine J _ ?_; clear J K) | (refine zqf (fun hb => ?_) (fun hb => ?_) <;> (have hb2 := hb; try simp only [z01] at hb2) <;> ((first | have F : (_ : Bool) = _ := hb2 | have F := eq_false hb2 | have F := eq_true hb2); (simp (disch := omega) only [go_sem, Nat.reduceBEq, Nat.reduceBeqDiff, Nat.reduceEqDiff, ↓reduceIte, reduceCtorEq, Nat.reduceAdd, Nat.reduceMul, Nat.reduceLeDiff, Nat.reduceLT, Int.reduceLT, Int.reduceLE, Int.reduceEq, hb, F, z0o]); clear hb F; (try (exfalso; omega)))) | (exfalso; omega))
  (refine z3h (fun U st => ∃ (k : _), U = a.length - k /\ st.t 0 = z0o a /\ st.t 1 = z0o a /\ st.t 5 = .int .i64 k /\ (k <= a.length)) ?_ ?_); rotate_left; (rintro U st ⟨k, rfl, q0, q1, q5, qp0⟩); rotate_left
  · (refine ⟨_, 0, rfl, ?_⟩); (simp (disch := omega) only [go_sem, Nat.reduceBEq, Nat.reduceBeqDiff, Nat.reduceEqDiff, ↓reduceIte, reduceCtorEq, Nat.reduceAdd, Nat.reduceMul, Nat.reduceLeDiff, Nat.reduceLT, Int.reduceLT, Int.reduceLE, Int.reduceEq, true_and, and_true, and_self, Int.natCast_add, Int.natCast_one, Int.natCast_zero, List.flatMap_nil, List.map_nil, List.append_nil, List.nil_append, z0o])
  repeat' (first | refine zqj ?_ | ((first | refine zqh fun K J => ?_ | refine zqe (by decide +kernel) fun K J => ?_ | refine zqr fun K J => ?_ | refine zqq (by decide +kernel) fun K J => ?_); (simp (disch := omega) only [go_sem, Nat.reduceBEq, Nat.reduceBeqDiff, Nat.reduceEqDiff, ↓reduceIte, reduceCtorEq, Nat.reduceAdd, Nat.reduceMul, Nat.reduceLeDiff, Nat.reduceLT, Int.reduceLT, Int.reduceLE, Int.reduceEq, q0, q1, q5, z0o, z08, eq_self, decide_true, Bool.and_self])) | ((first | refine zqd _ rfl (fun hc => ?_) (fun hc => ?_) | refine zqm _ rfl (fun hc => ?_) (fun hc => ?_)) <;> (first | (cases hc; done) | ((try simp only [z01] at hc); (try (exfalso; omega))))) | refine zqa ?_ | refine zqi ?_ | refine zqb ?_ | refine zqg ?_ | refine zqc ?_ | refine zqk ?_ | refine zql ?_ | refine zqn ?_ | refine zqv ?_ | refine zqw ?_ | refine zqx ?_ | refine zqy ?_ | refine zqz ?_ | refine z58 rfl ?_ | refine z23 ?_ | refine zqp ?_ | refine zqo ?_ | refine zqu (by (simp (disch := omega) only [go_sem, Nat.reduceBEq, Nat.reduceBeqDiff, Nat.reduceEqDiff, ↓reduceIte, reduceCtorEq, Nat.reduceAdd, Nat.reduceLeDiff, Nat.reduceLT, q0, q1, q5, z0o, z08, eq_self, decide_true, Bool.and_self]); rfl) rfl ?_ | (refine J _ ?_; clear J K) | (refine zqf (fun hb => ?_) (fun hb => ?_) <;> (have hb2 := hb; try simp only [z01] at hb2) <;> ((first | have F : (_ : Bool) = _ := hb2 | have F := eq_false hb2 | have F := eq_true hb2); (simp (disch := omega) only [go_sem, Nat.reduceBEq, Nat.reduceBeqDiff, Nat.reduceEqDiff, ↓reduceIte, reduceCtorEq, Nat.reduceAdd, Nat.reduceMul, Nat.reduceLeDiff, Nat.reduceLT, Int.reduceLT, Int.reduceLE, Int.reduceEq, hb, F, q0, q1, q5, z0o, z08, eq_self, decide_true, Bool.and_self]); clear hb F; (try (exfalso; omega)))) | (exfalso; omega))
  all_goals first
    | exact z00 rfl
    | ((refine Exists.intro _ (And.intro ?_ ⟨k + 1, rfl, ?_⟩)); rotate_left; (simp (disch := omega) only [go_sem, Nat.reduceBEq, Nat.reduceBeqDiff, Nat.reduceEqDiff, ↓reduceIte, reduceCtorEq, Nat.reduceAdd, Nat.reduceMul, Nat.reduceLeDiff, Nat.reduceLT, Int.reduceLT, Int.reduceLE, Int.reduceEq, q0, q1, q5, true_and, and_true, and_self, Int.natCast_add, Int.natCast_one, Int.natCast_zero, List.flatMap_append, List.flatMap_cons, List.flatMap_nil, List.map_append, List.map_cons, List.map_nil, List.append_nil, List.cons_append, List.nil_append, z0o]); rotate_left
       · omega
       · omega)
end
section
open Abs Facts Tr
namespace Tr
theorem zj8 {id : Idv} : ∀ (r : List Stp) (now now' : List T), (∀ x ∈ now', ∃ y ∈ now, x = z0l id y) -> ∀ x ∈ r.foldl z2r now', ∃ y ∈ r.foldl z2r now, x = z0l id y
 | [], _, _, h => h
 | s :: r, now, now', h => by
  refine zj8 r (z2r now s) (z2r now' s) fun x hx => ?_
  unfold z2r at hx ⊢
  obtain ⟨x', hx', hx⟩ := List.mem_flatMap.1 hx
  obtain ⟨y', hy', rfl⟩ := h x' hx'
  obtain ⟨hx1, hx2⟩ := List.mem_filter.1 hx
  rw [z3s] at hx1
  obtain ⟨k, O, rfl⟩ := List.mem_map.1 (show x ∈ (y'.kids.filter (z67 id)).map (z0l id) from hx1)
  refine ⟨k, List.mem_flatMap.2 ⟨y', hy', List.mem_filter.2 ⟨(List.mem_filter.1 O).1, ?_⟩⟩, rfl⟩
  obtain ⟨_, w1, w2, _⟩ := z4s id k
  unfold atB at hx2 ⊢
  rw [w1, w2] at hx2
  exact hx2
theorem zoz {u : T} {id : Idv} (hs : z15 u = true) (h0 : ¬ u.id = id) (hm : id ∈ z0e u) : z5d (z0l id u) (z5w id u) = [] := by
 obtain ⟨hr, _⟩ := (z28 u).1 hs
 obtain ⟨_, _, x, _, d2, d3, _, _, _, _, _, d9, _⟩ := z52 hs h0 hm
 have hno : z47 (z0l id u) (z5w id u) = [] := by
  unfold z47
  rw [if_pos (zx9 hs hm)]
  rw [List.eq_nil_iff_forall_not_mem]
  intro z hz
  have hz : z ∈ (z32 id u).foldl z2r (z3a (z0l id u) ⟨0, z1c⟩) := hz
  have e1 : z3a (z0l id u) ⟨0, z1c⟩ = [z0l id u] := if_pos rfl
  rw [e1] at hz
  have hzn := zan (u := z0l id u) (z32 id u) [z0l id u] (fun y hy => by rw [List.mem_singleton.1 hy]; exact z1j _) z hz
  obtain ⟨y, hy, e⟩ := zj8 (id := id) (z32 id u) [u] [z0l id u] (fun y hy => ⟨u, by simp, List.mem_singleton.1 hy⟩) z hz
  rw [zow u hr hm, List.mem_singleton, d2] at hy
  have hzi : z.id = id := by rw [e, (z4s id y).1, hy]; exact d3
  exact d9 id (d3 ▸ z1s x) (List.mem_map.2 ⟨z, hzn, hzi⟩)
 unfold z5d
 rw [hno]; rfl
theorem zxb {u : T} {id : Idv} (hs : z15 u = true) (h0 : ¬ u.id = id) (hm : id ∈ z0e u) : z0e (z0l id u) = (z0e u).filter fun i => !decide (i ∈ z0e (z0c id u).1) := by
 have hnd := z4u hs
 obtain ⟨C, q, l, x, r, e, hx, hq, n1, n2, hf, hp⟩ := zjg h0 hm
 rw [hf]
 subst e
 have hxm : id ∈ z0e (q.setKids (l ++ x :: r)) := by rw [z2c]; exact List.mem_cons_of_mem _ (zef.2 (.inr (.inl (hx ▸ z1s x))))
 obtain ⟨k1, k2⟩ := z3z hnd hxm
 have ns := (zap (z9b hnd)).1 id (hx ▸ z1s x)
 have hw := z8j hq hx n2 ns.2.2 C k1 k2
 rw [hw]
 have e1 : z0e (z2p C (q.setKids (l ++ x :: r))) = (z6k C ++ q.id :: l.flatMap z0e) ++ (z0e x ++ (r.flatMap z0e ++ z4c C)) := by
  rw [z2g, z2c, List.flatMap_append, List.flatMap_cons]; simp
 have e2 : z0e (z2p C (q.setKids (l ++ r))) = (z6k C ++ q.id :: l.flatMap z0e) ++ (r.flatMap z0e ++ z4c C) := by
  rw [z2g, z2c, List.flatMap_append]; simp
 rw [e1] at hnd ⊢
 rw [e2]
 generalize z6k C ++ q.id :: l.flatMap z0e = A at *
 generalize r.flatMap z0e ++ z4c C = B at *
 rw [List.nodup_append, List.nodup_append] at hnd
 obtain ⟨_, ⟨_, _, h3⟩, h4⟩ := hnd
 rw [List.filter_append, List.filter_append]
 have f1 : A.filter (fun i => !decide (i ∈ z0e x)) = A := List.filter_eq_self.2 fun i hi => by
  simp only [Bool.not_eq_true', decide_eq_false_iff_not]
  exact fun h => h4 i hi i (List.mem_append_left _ h) rfl
 have f2 : (z0e x).filter (fun i => !decide (i ∈ z0e x)) = [] := List.filter_eq_nil_iff.2 fun i hi => by simp [hi]
 have f3 : B.filter (fun i => !decide (i ∈ z0e x)) = B := List.filter_eq_self.2 fun i hi => by
  simp only [Bool.not_eq_true', decide_eq_false_iff_not]
  exact fun h => h3 i h i hi rfl
 rw [f1, f2, f3]; rfl
theorem ztb {u : T} {id k : Idv} (hs : z15 u = true) (h0 : ¬ u.id = id) (hm : id ∈ z0e u) (O : k ∈ z0e (z0l id u)) : k ∈ z0e u /\ z6t (z0c k u).1 = z6t (z0c k (z0l id u)).1 /\ (z5e k u).1 = (z5e k (z0l id u)).1 := by
 have ht : zlt u id = 0 := by
  unfold zlt
  rw [if_neg (by rw [hs]; simp), if_neg (by rw [z2q, decide_eq_true hm]; simp), if_neg h0]
 obtain ⟨_, _, _, h⟩ := zo7 ht
 have hku := zdf id u k O
 obtain ⟨h1, h2⟩ := h k hku
 have h3 : (z0c k (z0l id u)).2 = true := by rw [z2q, decide_eq_true O]
 have hne : k ≠ id := fun e => by
  obtain ⟨_, _, x, _, d2, d3, _, _, _, _, _, d9, _⟩ := z52 hs h0 hm
  exact d9 id (d3 ▸ z1s x) (e ▸ O)
 exact ⟨hku, h2 h3 hne⟩
end Tr
end
end Go.Proofs.YtppebcifiejplaaGreatDoor
namespace Go.Proofs.YtppebcifiejplaaGreatDoor.Abs
theorem row_to {P : Program} {st : St} {id j n : Nat} {e : TypeId} {cs : List D} (hH : st.H id = some (.row e n cs)) (ho : zky P e = true) (hp : pureD.pureL cs = true) (hj : st.t j = .osl id n) :
  SealTo P st ((st.withH (z1f st.H id none) st.nx).put (some j) (.rsl false (z02 P e) (z1m (z04 P e) (z02 P e) n cs))) := by
 intro N s a w hf
 have hid : s.H id = some (.row e n cs) := by rw [hf.H]; exact hH
 obtain ⟨g1, g2⟩ := z7a hf.heap (id := id) (by rw [hid]; simp)
 refine ⟨s.shut1 w id, ⟨?_, hf.nx, hf.size, hf.defers, fun i => ?_, g2⟩, g1⟩
 ·show z1f s.H id none = _
  rw [hf.H]; rfl
 ·by_cases hij : i = j
  ·subst hij
   have ht := hf.tmps i
   rw [hj] at ht
   have hs : zc6 P (.osl id n, s.H, s.nx) = some (.rsl false (z02 P e) (z1m (z04 P e) (z02 P e) n cs), z1f s.H id none, s.nx) := by
    unfold zc6
    simp only [hid]
    rw [if_pos ⟨trivial, ho, hp⟩]
   obtain ⟨s2, _, _, _, _, hr2, he2⟩ := z9u hf.heap rfl rfl ht hs
   have he3 := he2 id n rfl
   subst he3
   show rel _ (zr9 st.t i _ i) _
   rw [show zr9 st.t i (.rsl false (z02 P e) (z1m (z04 P e) (z02 P e) n cs)) i = _ from if_pos rfl]
   exact hr2
  ·show rel _ (zr9 st.t j _ i) _
   rw [show zr9 st.t j (.rsl false (z02 P e) (z1m (z04 P e) (z02 P e) n cs)) i = st.t i from if_neg hij]
   exact rel.later g1.later _ _ (hf.tmps i)
end Go.Proofs.YtppebcifiejplaaGreatDoor.Abs
