/-
  The walks of alone, ids, Valid, IsBare. No condition but lengths.
-/
import Derived.Test.YtkhjpcmpljpmjaaGreatDoorMaps
set_option maxRecDepth 100000
set_option maxHeartbeats 8000000
set_option linter.unusedSimpArgs false
set_option linter.unusedVariables false
namespace Go.Proofs.YtkhjpcmpljpmjaaGreatDoor
open Abs Facts Tr
attribute [local irreducible] awp
def encC (c : Int × ByteArray) : D := .agg [.int .i64 c.1, .str c.2]
def setC (l : List (Int × ByteArray)) : List (D × D) := l.map fun c => (encC c, .bool true)
def setI (l : List Idv) : List (D × D) := l.map fun c => (encId c, .bool true)
theorem eqK_C (a b : Int × ByteArray) : eqK Tryz.prog 123 (encC a) (encC b) = some (decide (a = b)) := by
  have h : ∀ c, fitsD Tryz.prog 123 (encC c) = true := fun c => by simp only [encC, fitsD, isAggT123, sizeT123]; rfl
  unfold eqK
  rw [if_pos ⟨h a, h b⟩]
  refine (eqU123 a.1 b.1 a.2 b.2).trans ?_
  obtain ⟨a1, a2⟩ := a; obtain ⟨b1, b2⟩ := b
  simp [Prod.mk.injEq]
theorem eqK_I (a b : Idv) : eqK Tryz.prog 23 (encId a) (encId b) = some (decide (a = b)) := by
  have h : ∀ c, fitsD Tryz.prog 23 (encId c) = true := fun c => by simp only [encId, cellsId, fitsD, isAggT23, sizeT23]; rfl
  unfold eqK
  rw [if_pos ⟨h a, h b⟩]
  refine (eqU23 a.act b.act a.item b.item a.n b.n).trans ?_
  rw [idEq']
theorem find_C (c : Int × ByteArray) (l : List (Int × ByteArray)) : (c ∈ l → ∃ n, findD Tryz.prog 123 (.agg [.int .i64 c.1, .str c.2]) (setC l) = some (some (n, .bool true))) ∧ (c ∉ l → findD Tryz.prog 123 (.agg [.int .i64 c.1, .str c.2]) (setC l) = some none) := by
  haveI : DecidableEq (Int × ByteArray) := fun a b => decidable_of_iff (a.1 = b.1 ∧ a.2 = b.2) ⟨fun h => Prod.ext h.1 h.2, fun h => by subst h; exact ⟨rfl, rfl⟩⟩
  have h := findD_keys encC (fun a b => (eqK_C a b).trans (by congr 1; exact decide_eq_decide.2 Iff.rfl)) (fun _ => .bool true) c l
  refine ⟨fun hm => ?_, fun hm => ?_⟩
  · rw [if_pos hm] at h; exact ⟨_, h⟩
  · rw [if_neg hm] at h; exact h
theorem find_I (c : Idv) (l : List Idv) : findD Tryz.prog 23 (.agg [.int .i64 c.act, .int .i64 c.item, .int .i64 c.n]) (setI l) = some (if c ∈ l then some (l.idxOf c, .bool true) else none) := findD_keys encId eqK_I (fun _ => .bool true) c l
theorem setC_snoc (l : List (Int × ByteArray)) (c : Int × ByteArray) : setC l ++ [(.agg [.int .i64 c.1, .str c.2], .bool true)] = setC (l ++ [c]) := by unfold setC; rw [List.map_append]; rfl
theorem setI_snoc (l : List Idv) (c : Idv) : setI l ++ [(.agg [.int .i64 c.act, .int .i64 c.item, .int .i64 c.n], .bool true)] = setI (l ++ [c]) := by unfold setI; rw [List.map_append]; rfl
theorem setI_again {l : List Idv} {c : Idv} (hn : l.Nodup) (h : c ∈ l) : setVal (setI l) (l.idxOf c) (.bool true) = setI l := by
  unfold setI
  rw [setVal_keys encId (fun _ => .bool true) c (.bool true) l hn h]
  refine List.map_congr_left fun a _ => ?_
  simp
namespace Tr
theorem sz_nodes : ∀ t : T, szB t = true → ∀ x ∈ nodesT t, szB x = true := by
  refine ind1 fun t ih h x hx => ?_
  rw [nodesT_eq] at hx
  rcases List.mem_cons.1 hx with rfl | hx
  · exact h
  · obtain ⟨k, hk, hx⟩ := List.mem_flatMap.1 hx
    obtain ⟨_, _, _, _, _, _, h4⟩ := (sz_iff t).1 h
    exact ih k hk (h4 k hk) x hx
theorem allz_iff {l : List Idv} (hne : l ≠ []) : (l.all fun i => decide (i = Idv.zero)) = (decide (Idv.zero ∈ onceL l) && decide ((onceL l).length = 1)) := by
  obtain ⟨h1, h2, _, _⟩ := onceL_spec l
  rw [Bool.eq_iff_iff]
  simp only [List.all_eq_true, Bool.and_eq_true, decide_eq_true_eq]
  constructor
  · intro h
    obtain ⟨x, hx⟩ := List.exists_mem_of_ne_nil l hne
    have hz : Idv.zero ∈ onceL l := by rw [← h x hx]; exact (h2 x).2 hx
    refine ⟨hz, ?_⟩
    have ha : ∀ y ∈ onceL l, y = Idv.zero := fun y hy => h y ((h2 y).1 hy)
    generalize onceL l = o at h1 hz ha
    match o, h1, hz, ha with
    | [], _, hz, _ => cases hz
    | [a], _, _, _ => rfl
    | a :: b :: r, h1, _, ha =>
      have e1 := ha a (by simp)
      have e2 := ha b (by simp)
      rw [e1, e2] at h1
      simp at h1
  · rintro ⟨hz, hl⟩ x hx
    have hm := (h2 x).2 hx
    generalize onceL l = o at hz hl hm
    match o, hl, hz, hm with
    | [a], _, hz, hm =>
      rw [List.mem_singleton] at hz hm
      rw [hm, ← hz]
theorem beq_dec {p q : Prop} [Decidable p] [Decidable q] : (decide p == decide q) = decide (q ↔ p) := by
  by_cases hp : p <;> by_cases hq : q <;> simp [hp, hq]
def ownB (t : T) : Bool := (if t.kind = 0 then decide (t.label = emptyB) && decide (t.head.length + t.words.length = 0) else decide (nameK t.kind ≠ emptyB) && (labelB t.label && (rowB t.head && rowB t.words)))
def aloneP (t : T) : Bool := ownB t && ((t.kids.all fun k => nestsB t.kind k.kind) && (decide ((t.kids.map keyK).Nodup) && decide (t.kids.length ≤ 64)))
end Tr
theorem pc_alone (t : T) (hs : szB t = true) : PC Tryz.prog 127 [encU t] (.bool (aloneP t)) := by
  obtain ⟨h0, h1, g1, h2, g2, h3, h4⟩ := (sz_iff t).1 hs
  have k1 := pc_KindName t.kind
  have k2 := pc_labelValid t.label (by unfold maxLen; omega)
  have k3 := pc_rowP t.head h1 (fun w hw => by have := g1 w hw; unfold maxLen; omega)
  have k4 := pc_rowP t.words h2 (fun w hw => by have := g2 w hw; unfold maxLen; omega)
  refine zqzd 1 (by simp only [pureD.pureL, pure_encU, pureD, Bool.and_self]) rfl (zqze [] Tryz.func127 rfl (by decide +kernel) mixed (by decide +kernel) (by simp [Tryz.ntmps127]) ?_)
  show awp _ _ (Code.seq _ _) _ _
  skip
  repeat' (first | refine zqj ?_ | ((first | refine zqh fun K hK => ?_ | refine zqe (by decide +kernel) fun K hK => ?_ | refine zqr fun K hK => ?_ | refine zqq (by decide +kernel) fun K hK => ?_ | refine zqs (k1) ?_ | refine zqt (k1) ?_ | refine zqs (k2) ?_ | refine zqt (k2) ?_ | refine zqs (k3) ?_ | refine zqt (k3) ?_ | refine zqs (k4) ?_ | refine zqt (k4) ?_); (simp (disch := omega) only [go_sem, Nat.reduceBEq, Nat.reduceBeqDiff, Nat.reduceEqDiff, ↓reduceIte, reduceCtorEq, Nat.reduceAdd, Nat.reduceMul, Nat.reduceLeDiff, Nat.reduceLT, Int.reduceLT, Int.reduceLE, Int.reduceEq, encWs, encUs])) | ((first | refine zqd _ rfl (fun hc => ?_) (fun hc => ?_) | refine zqm _ rfl (fun hc => ?_) (fun hc => ?_)) <;> (first | (cases hc; done) | ((try simp only [boolS] at hc); (try (exfalso; omega))))) | refine zqa ?_ | refine zqi ?_ | refine zqb ?_ | refine zqg ?_ | refine zqc ?_ | refine zqk ?_ | refine zql ?_ | refine zqn ?_ | refine zqv ?_ | refine zqw ?_ | refine zqx ?_ | refine zqy ?_ | refine zqz ?_ | refine zqza rfl ?_ | refine zqzb ?_ | refine zqp ?_ | refine zqo ?_ | refine zqu (by (simp (disch := omega) only [go_sem, Nat.reduceBEq, Nat.reduceBeqDiff, Nat.reduceEqDiff, ↓reduceIte, reduceCtorEq, Nat.reduceAdd, Nat.reduceLeDiff, Nat.reduceLT, encWs, encUs]); rfl) rfl ?_ | (refine hK _ ?_; clear hK K) | (refine zqf (fun hb => ?_) (fun hb => ?_) <;> (have hb2 := hb; try simp only [boolS] at hb2) <;> ((first | have hb3 : (_ : Bool) = _ := hb2 | have hb3 := eq_false hb2 | have hb3 := eq_true hb2); (simp (disch := omega) only [go_sem, Nat.reduceBEq, Nat.reduceBeqDiff, Nat.reduceEqDiff, ↓reduceIte, reduceCtorEq, Nat.reduceAdd, Nat.reduceMul, Nat.reduceLeDiff, Nat.reduceLT, Int.reduceLT, Int.reduceLE, Int.reduceEq, hb, hb3, encWs, encUs]); clear hb hb3; (try (exfalso; omega)))) | (exfalso; omega))
  all_goals first
    | (refine fin_bool ?_
       unfold aloneP ownB
       have hemp : ByteArray.empty = emptyB := rfl
       first
         | ((simp (disch := omega) only [decide_eq_true, decide_eq_false, Bool.true_and, Bool.false_and, Bool.and_true, Bool.and_false, Bool.or_true, Bool.or_false, Bool.true_or, Bool.false_or, Bool.not_true, Bool.not_false, if_true, if_false, Bool.false_eq_true, Bool.and_self, *]); done)
         | (simp_all [emptyB]; done)
         | (simp_all [emptyB]; omega))
    | skip
  all_goals
    have hown : ownB t = true := by
      unfold ownB
      first
        | (simp_all [emptyB]; done)
        | (have e1 : t.head = [] := List.eq_nil_of_length_eq_zero (by omega)
           have e2 : t.words = [] := List.eq_nil_of_length_eq_zero (by omega)
           simp_all [emptyB])
    unfold aloneP
    rw [hown, Bool.true_and]
    (refine zqzc (fun mz st => ∃ (i : _), mz = t.kids.length - i ∧ st.t 1 = .ptr 0 0 ∧ st.t 3 = .mp 1 ∧ st.t 47 = encUs t.kids ∧ st.t 48 = .int .i64 t.kids.length ∧ st.t 49 = .int .i64 i ∧ st.H 0 = some (.box 27 (cellsU t)) ∧ st.H 1 = some (.map (setC ((t.kids.take i).map keyK))) ∧ (i ≤ t.kids.length) ∧ (2 ≤ st.nx) ∧ ((t.kids.take i).all (fun k => nestsB t.kind k.kind) = true) ∧ (((t.kids.take i).map keyK).Nodup)) ?_ ?_); rotate_left; (rintro mz st ⟨i, rfl, q1, q3, q47, q48, q49, qH0, qH1, qp0, qp1, qp2, qp3⟩); rotate_left
    · (refine ⟨_, 0, rfl, ?_⟩); (simp (disch := omega) only [go_sem, Nat.reduceBEq, Nat.reduceBeqDiff, Nat.reduceEqDiff, ↓reduceIte, reduceCtorEq, Nat.reduceAdd, Nat.reduceMul, Nat.reduceLeDiff, Nat.reduceLT, Int.reduceLT, Int.reduceLE, Int.reduceEq, true_and, and_true, and_self, Int.natCast_add, Int.natCast_one, Int.natCast_zero, List.flatMap_nil, List.map_nil, List.append_nil, List.nil_append, encUs, setC])
      try simp
    by_cases hi : i < t.kids.length
    · have hcc := pc_CanContain t.kind t.kids[i].kind
      by_cases hm : keyK t.kids[i] ∈ (t.kids.take i).map keyK
      · obtain ⟨n, hfd⟩ := (find_C (keyK t.kids[i]) ((t.kids.take i).map keyK)).1 hm
        have hno : ¬ (t.kids.map keyK).Nodup := fun hn => by
          obtain ⟨x, hx, he⟩ := List.mem_map.1 hm
          obtain ⟨j, hj, rfl⟩ := List.getElem_of_mem hx
          rw [List.length_take] at hj
          rw [List.getElem_take] at he
          exact nodup_no (f := keyK) (j := j) (k := i) (by omega) hi he hn
        simp only [keyK] at hfd
        repeat' (first | refine zqj ?_ | ((first | refine zqh fun K hK => ?_ | refine zqe (by decide +kernel) fun K hK => ?_ | refine zqr fun K hK => ?_ | refine zqq (by decide +kernel) fun K hK => ?_ | refine zqs (hcc) ?_ | refine zqt (hcc) ?_); (simp (disch := omega) only [go_sem, Nat.reduceBEq, Nat.reduceBeqDiff, Nat.reduceEqDiff, ↓reduceIte, reduceCtorEq, Nat.reduceAdd, Nat.reduceMul, Nat.reduceLeDiff, Nat.reduceLT, Int.reduceLT, Int.reduceLE, Int.reduceEq, q1, q3, q47, q48, q49, qH0, qH1, encUs, hfd])) | ((first | refine zqd _ rfl (fun hc => ?_) (fun hc => ?_) | refine zqm _ rfl (fun hc => ?_) (fun hc => ?_)) <;> (first | (cases hc; done) | ((try simp only [boolS] at hc); (try (exfalso; omega))))) | refine zqa ?_ | refine zqi ?_ | refine zqb ?_ | refine zqg ?_ | refine zqc ?_ | refine zqk ?_ | refine zql ?_ | refine zqn ?_ | refine zqv ?_ | refine zqw ?_ | refine zqx ?_ | refine zqy ?_ | refine zqz ?_ | refine zqza rfl ?_ | refine zqzb ?_ | refine zqp ?_ | refine zqo ?_ | refine zqu (by (simp (disch := omega) only [go_sem, Nat.reduceBEq, Nat.reduceBeqDiff, Nat.reduceEqDiff, ↓reduceIte, reduceCtorEq, Nat.reduceAdd, Nat.reduceLeDiff, Nat.reduceLT, q1, q3, q47, q48, q49, qH0, qH1, encUs, hfd]); rfl) rfl ?_ | (refine hK _ ?_; clear hK K) | (refine zqf (fun hb => ?_) (fun hb => ?_) <;> (have hb2 := hb; try simp only [boolS] at hb2) <;> ((first | have hb3 : (_ : Bool) = _ := hb2 | have hb3 := eq_false hb2 | have hb3 := eq_true hb2); (simp (disch := omega) only [go_sem, Nat.reduceBEq, Nat.reduceBeqDiff, Nat.reduceEqDiff, ↓reduceIte, reduceCtorEq, Nat.reduceAdd, Nat.reduceMul, Nat.reduceLeDiff, Nat.reduceLT, Int.reduceLT, Int.reduceLE, Int.reduceEq, hb, hb3, q1, q3, q47, q48, q49, qH0, qH1, encUs, hfd]); clear hb hb3; (try (exfalso; omega)))) | (exfalso; omega))
        all_goals exact fin_bool (by rw [decide_eq_false hno, Bool.false_and, Bool.and_false])
      · have hfd := (find_C (keyK t.kids[i]) ((t.kids.take i).map keyK)).2 hm
        have hsn : setC ((t.kids.take i).map keyK) ++ [(.agg [.int .i64 t.kids[i].kind, .str t.kids[i].label], .bool true)] = setC ((t.kids.take i).map keyK ++ [keyK t.kids[i]]) := setC_snoc ((t.kids.take i).map keyK) (keyK t.kids[i])
        have htk : (t.kids.take (i + 1)).map keyK = (t.kids.take i).map keyK ++ [keyK t.kids[i]] := by rw [List.take_succ_eq_append_getElem hi, List.map_append]; rfl
        simp only [show keyK t.kids[i] = (t.kids[i].kind, t.kids[i].label) from rfl] at hfd
        repeat' (first | refine zqj ?_ | ((first | refine zqh fun K hK => ?_ | refine zqe (by decide +kernel) fun K hK => ?_ | refine zqr fun K hK => ?_ | refine zqq (by decide +kernel) fun K hK => ?_ | refine zqs (hcc) ?_ | refine zqt (hcc) ?_); (simp (disch := omega) only [go_sem, Nat.reduceBEq, Nat.reduceBeqDiff, Nat.reduceEqDiff, ↓reduceIte, reduceCtorEq, Nat.reduceAdd, Nat.reduceMul, Nat.reduceLeDiff, Nat.reduceLT, Int.reduceLT, Int.reduceLE, Int.reduceEq, q1, q3, q47, q48, q49, qH0, qH1, encUs, hfd])) | ((first | refine zqd _ rfl (fun hc => ?_) (fun hc => ?_) | refine zqm _ rfl (fun hc => ?_) (fun hc => ?_)) <;> (first | (cases hc; done) | ((try simp only [boolS] at hc); (try (exfalso; omega))))) | refine zqa ?_ | refine zqi ?_ | refine zqb ?_ | refine zqg ?_ | refine zqc ?_ | refine zqk ?_ | refine zql ?_ | refine zqn ?_ | refine zqv ?_ | refine zqw ?_ | refine zqx ?_ | refine zqy ?_ | refine zqz ?_ | refine zqza rfl ?_ | refine zqzb ?_ | refine zqp ?_ | refine zqo ?_ | refine zqu (by (simp (disch := omega) only [go_sem, Nat.reduceBEq, Nat.reduceBeqDiff, Nat.reduceEqDiff, ↓reduceIte, reduceCtorEq, Nat.reduceAdd, Nat.reduceLeDiff, Nat.reduceLT, q1, q3, q47, q48, q49, qH0, qH1, encUs, hfd]); rfl) rfl ?_ | (refine hK _ ?_; clear hK K) | (refine zqf (fun hb => ?_) (fun hb => ?_) <;> (have hb2 := hb; try simp only [boolS] at hb2) <;> ((first | have hb3 : (_ : Bool) = _ := hb2 | have hb3 := eq_false hb2 | have hb3 := eq_true hb2); (simp (disch := omega) only [go_sem, Nat.reduceBEq, Nat.reduceBeqDiff, Nat.reduceEqDiff, ↓reduceIte, reduceCtorEq, Nat.reduceAdd, Nat.reduceMul, Nat.reduceLeDiff, Nat.reduceLT, Int.reduceLT, Int.reduceLE, Int.reduceEq, hb, hb3, q1, q3, q47, q48, q49, qH0, qH1, encUs, hfd]); clear hb hb3; (try (exfalso; omega)))) | (exfalso; omega))
        · (refine Exists.intro _ (And.intro ?_ ⟨i + 1, rfl, ?_⟩)); rotate_left; (simp (disch := omega) only [go_sem, Nat.reduceBEq, Nat.reduceBeqDiff, Nat.reduceEqDiff, ↓reduceIte, reduceCtorEq, Nat.reduceAdd, Nat.reduceMul, Nat.reduceLeDiff, Nat.reduceLT, Int.reduceLT, Int.reduceLE, Int.reduceEq, q1, q3, q47, q48, q49, qH0, qH1, true_and, and_true, and_self, Int.natCast_add, Int.natCast_one, Int.natCast_zero, List.flatMap_append, List.flatMap_cons, List.flatMap_nil, List.map_append, List.map_cons, List.map_nil, List.append_nil, List.cons_append, List.nil_append, hsn, htk]); rotate_left
          · omega
          · (repeat' (first | omega | assumption | exact rfl | refine And.intro ?_ ?_))
            · exact all_step hi qp2 (by assumption)
            rw [← htk]
            exact nodup_take hi qp3 (fun j hj e => hm (by rw [← e]; exact List.mem_map.2 ⟨_, List.mem_iff_getElem.2 ⟨j, by rw [List.length_take]; omega, List.getElem_take⟩, rfl⟩))
        · exact fin_bool (by rw [all_no (f := fun k : T => nestsB t.kind k.kind) (k := i) hi (by assumption), Bool.false_and])
    · repeat' (first | refine zqj ?_ | ((first | refine zqh fun K hK => ?_ | refine zqe (by decide +kernel) fun K hK => ?_ | refine zqr fun K hK => ?_ | refine zqq (by decide +kernel) fun K hK => ?_); (simp (disch := omega) only [go_sem, Nat.reduceBEq, Nat.reduceBeqDiff, Nat.reduceEqDiff, ↓reduceIte, reduceCtorEq, Nat.reduceAdd, Nat.reduceMul, Nat.reduceLeDiff, Nat.reduceLT, Int.reduceLT, Int.reduceLE, Int.reduceEq, q1, q3, q47, q48, q49, qH0, qH1, encUs])) | ((first | refine zqd _ rfl (fun hc => ?_) (fun hc => ?_) | refine zqm _ rfl (fun hc => ?_) (fun hc => ?_)) <;> (first | (cases hc; done) | ((try simp only [boolS] at hc); (try (exfalso; omega))))) | refine zqa ?_ | refine zqi ?_ | refine zqb ?_ | refine zqg ?_ | refine zqc ?_ | refine zqk ?_ | refine zql ?_ | refine zqn ?_ | refine zqv ?_ | refine zqw ?_ | refine zqx ?_ | refine zqy ?_ | refine zqz ?_ | refine zqza rfl ?_ | refine zqzb ?_ | refine zqp ?_ | refine zqo ?_ | refine zqu (by (simp (disch := omega) only [go_sem, Nat.reduceBEq, Nat.reduceBeqDiff, Nat.reduceEqDiff, ↓reduceIte, reduceCtorEq, Nat.reduceAdd, Nat.reduceLeDiff, Nat.reduceLT, q1, q3, q47, q48, q49, qH0, qH1, encUs]); rfl) rfl ?_ | (refine hK _ ?_; clear hK K) | (refine zqf (fun hb => ?_) (fun hb => ?_) <;> (have hb2 := hb; try simp only [boolS] at hb2) <;> ((first | have hb3 : (_ : Bool) = _ := hb2 | have hb3 := eq_false hb2 | have hb3 := eq_true hb2); (simp (disch := omega) only [go_sem, Nat.reduceBEq, Nat.reduceBeqDiff, Nat.reduceEqDiff, ↓reduceIte, reduceCtorEq, Nat.reduceAdd, Nat.reduceMul, Nat.reduceLeDiff, Nat.reduceLT, Int.reduceLT, Int.reduceLE, Int.reduceEq, hb, hb3, q1, q3, q47, q48, q49, qH0, qH1, encUs]); clear hb hb3; (try (exfalso; omega)))) | (exfalso; omega))
      rw [List.take_of_length_le (by omega)] at qp3
      refine fin_bool ?_
      rw [all_done (by omega) qp2, decide_eq_true qp3, Bool.true_and, Bool.true_and]
      exact decide_eq_decide.2 (by omega)
theorem pc_ids (t : T) (hs : szB t = true) (hc : cntT t ≤ 1000000000) : PC Tryz.prog 128 [encU t] (.bool (idsB t)) := by
  have ha := pc_IDs t (sz_fit t hs) (by omega)
  have hl := idsT_len t
  refine zqzd 1 (by simp only [pureD.pureL, pure_encU, pureD, Bool.and_self]) rfl (zqze [] Tryz.func128 rfl (by decide +kernel) mixed (by decide +kernel) (by simp [Tryz.ntmps128]) ?_)
  show awp _ _ (Code.seq _ _) _ _
  skip
  repeat' (first | refine zqj ?_ | ((first | refine zqh fun K hK => ?_ | refine zqe (by decide +kernel) fun K hK => ?_ | refine zqr fun K hK => ?_ | refine zqq (by decide +kernel) fun K hK => ?_ | refine zqs (ha) ?_ | refine zqt (ha) ?_); (simp (disch := omega) only [go_sem, Nat.reduceBEq, Nat.reduceBeqDiff, Nat.reduceEqDiff, ↓reduceIte, reduceCtorEq, Nat.reduceAdd, Nat.reduceMul, Nat.reduceLeDiff, Nat.reduceLT, Int.reduceLT, Int.reduceLE, Int.reduceEq])) | ((first | refine zqd _ rfl (fun hc => ?_) (fun hc => ?_) | refine zqm _ rfl (fun hc => ?_) (fun hc => ?_)) <;> (first | (cases hc; done) | ((try simp only [boolS] at hc); (try (exfalso; omega))))) | refine zqa ?_ | refine zqi ?_ | refine zqb ?_ | refine zqg ?_ | refine zqc ?_ | refine zqk ?_ | refine zql ?_ | refine zqn ?_ | refine zqv ?_ | refine zqw ?_ | refine zqx ?_ | refine zqy ?_ | refine zqz ?_ | refine zqza rfl ?_ | refine zqzb ?_ | refine zqp ?_ | refine zqo ?_ | refine zqu (by (simp (disch := omega) only [go_sem, Nat.reduceBEq, Nat.reduceBeqDiff, Nat.reduceEqDiff, ↓reduceIte, reduceCtorEq, Nat.reduceAdd, Nat.reduceLeDiff, Nat.reduceLT]); rfl) rfl ?_ | (refine hK _ ?_; clear hK K) | (refine zqf (fun hb => ?_) (fun hb => ?_) <;> (have hb2 := hb; try simp only [boolS] at hb2) <;> ((first | have hb3 : (_ : Bool) = _ := hb2 | have hb3 := eq_false hb2 | have hb3 := eq_true hb2); (simp (disch := omega) only [go_sem, Nat.reduceBEq, Nat.reduceBeqDiff, Nat.reduceEqDiff, ↓reduceIte, reduceCtorEq, Nat.reduceAdd, Nat.reduceMul, Nat.reduceLeDiff, Nat.reduceLT, Int.reduceLT, Int.reduceLE, Int.reduceEq, hb, hb3]); clear hb hb3; (try (exfalso; omega)))) | (exfalso; omega))
  (refine zqzc (fun mz st => ∃ (i : _), mz = (idsT t).length - i ∧ st.t 1 = .ptr 0 0 ∧ st.t 3 = encIds (idsT t) ∧ st.t 4 = .mp 1 ∧ st.t 11 = encIds (idsT t) ∧ st.t 12 = .int .i64 (idsT t).length ∧ st.t 13 = .int .i64 i ∧ st.H 0 = some (.box 27 (cellsU t)) ∧ st.H 1 = some (.map (setI (onceL ((idsT t).take i)))) ∧ (i ≤ (idsT t).length) ∧ (2 ≤ st.nx)) ?_ ?_); rotate_left; (rintro mz st ⟨i, rfl, q1, q3, q4, q11, q12, q13, qH0, qH1, qp0, qp1⟩); rotate_left
  · (refine ⟨_, 0, rfl, ?_⟩); (simp (disch := omega) only [go_sem, Nat.reduceBEq, Nat.reduceBeqDiff, Nat.reduceEqDiff, ↓reduceIte, reduceCtorEq, Nat.reduceAdd, Nat.reduceMul, Nat.reduceLeDiff, Nat.reduceLT, Int.reduceLT, Int.reduceLE, Int.reduceEq, true_and, and_true, and_self, Int.natCast_add, Int.natCast_one, Int.natCast_zero, List.flatMap_nil, List.map_nil, List.append_nil, List.nil_append, encIds, setI])
    rfl
  obtain ⟨on1, on2, on3, on4⟩ := onceL_spec ((idsT t).take i)
  by_cases hi : i < (idsT t).length
  · have hfd := find_I (idsT t)[i] (onceL ((idsT t).take i))
    have hot := onceL_take hi
    by_cases hm : (idsT t)[i] ∈ onceL ((idsT t).take i)
    · rw [if_pos hm] at hfd hot
      have hsv := setI_again on1 hm
      repeat' (first | refine zqj ?_ | ((first | refine zqh fun K hK => ?_ | refine zqe (by decide +kernel) fun K hK => ?_ | refine zqr fun K hK => ?_ | refine zqq (by decide +kernel) fun K hK => ?_); (simp (disch := omega) only [go_sem, Nat.reduceBEq, Nat.reduceBeqDiff, Nat.reduceEqDiff, ↓reduceIte, reduceCtorEq, Nat.reduceAdd, Nat.reduceMul, Nat.reduceLeDiff, Nat.reduceLT, Int.reduceLT, Int.reduceLE, Int.reduceEq, q1, q3, q4, q11, q12, q13, qH0, qH1, encIds, hfd, hsv])) | ((first | refine zqd _ rfl (fun hc => ?_) (fun hc => ?_) | refine zqm _ rfl (fun hc => ?_) (fun hc => ?_)) <;> (first | (cases hc; done) | ((try simp only [boolS] at hc); (try (exfalso; omega))))) | refine zqa ?_ | refine zqi ?_ | refine zqb ?_ | refine zqg ?_ | refine zqc ?_ | refine zqk ?_ | refine zql ?_ | refine zqn ?_ | refine zqv ?_ | refine zqw ?_ | refine zqx ?_ | refine zqy ?_ | refine zqz ?_ | refine zqza rfl ?_ | refine zqzb ?_ | refine zqp ?_ | refine zqo ?_ | refine zqu (by (simp (disch := omega) only [go_sem, Nat.reduceBEq, Nat.reduceBeqDiff, Nat.reduceEqDiff, ↓reduceIte, reduceCtorEq, Nat.reduceAdd, Nat.reduceLeDiff, Nat.reduceLT, q1, q3, q4, q11, q12, q13, qH0, qH1, encIds, hfd, hsv]); rfl) rfl ?_ | (refine hK _ ?_; clear hK K) | (refine zqf (fun hb => ?_) (fun hb => ?_) <;> (have hb2 := hb; try simp only [boolS] at hb2) <;> ((first | have hb3 : (_ : Bool) = _ := hb2 | have hb3 := eq_false hb2 | have hb3 := eq_true hb2); (simp (disch := omega) only [go_sem, Nat.reduceBEq, Nat.reduceBeqDiff, Nat.reduceEqDiff, ↓reduceIte, reduceCtorEq, Nat.reduceAdd, Nat.reduceMul, Nat.reduceLeDiff, Nat.reduceLT, Int.reduceLT, Int.reduceLE, Int.reduceEq, hb, hb3, q1, q3, q4, q11, q12, q13, qH0, qH1, encIds, hfd, hsv]); clear hb hb3; (try (exfalso; omega)))) | (exfalso; omega))
      (refine Exists.intro _ (And.intro ?_ ⟨i + 1, rfl, ?_⟩)); rotate_left; (simp (disch := omega) only [go_sem, Nat.reduceBEq, Nat.reduceBeqDiff, Nat.reduceEqDiff, ↓reduceIte, reduceCtorEq, Nat.reduceAdd, Nat.reduceMul, Nat.reduceLeDiff, Nat.reduceLT, Int.reduceLT, Int.reduceLE, Int.reduceEq, q1, q3, q4, q11, q12, q13, qH0, qH1, true_and, and_true, and_self, Int.natCast_add, Int.natCast_one, Int.natCast_zero, List.flatMap_append, List.flatMap_cons, List.flatMap_nil, List.map_append, List.map_cons, List.map_nil, List.append_nil, List.cons_append, List.nil_append, hot, hsv]); rotate_left
      · omega
      · omega
    · rw [if_neg hm] at hfd hot
      have hsn := setI_snoc (onceL ((idsT t).take i)) (idsT t)[i]
      repeat' (first | refine zqj ?_ | ((first | refine zqh fun K hK => ?_ | refine zqe (by decide +kernel) fun K hK => ?_ | refine zqr fun K hK => ?_ | refine zqq (by decide +kernel) fun K hK => ?_); (simp (disch := omega) only [go_sem, Nat.reduceBEq, Nat.reduceBeqDiff, Nat.reduceEqDiff, ↓reduceIte, reduceCtorEq, Nat.reduceAdd, Nat.reduceMul, Nat.reduceLeDiff, Nat.reduceLT, Int.reduceLT, Int.reduceLE, Int.reduceEq, q1, q3, q4, q11, q12, q13, qH0, qH1, encIds, hfd])) | ((first | refine zqd _ rfl (fun hc => ?_) (fun hc => ?_) | refine zqm _ rfl (fun hc => ?_) (fun hc => ?_)) <;> (first | (cases hc; done) | ((try simp only [boolS] at hc); (try (exfalso; omega))))) | refine zqa ?_ | refine zqi ?_ | refine zqb ?_ | refine zqg ?_ | refine zqc ?_ | refine zqk ?_ | refine zql ?_ | refine zqn ?_ | refine zqv ?_ | refine zqw ?_ | refine zqx ?_ | refine zqy ?_ | refine zqz ?_ | refine zqza rfl ?_ | refine zqzb ?_ | refine zqp ?_ | refine zqo ?_ | refine zqu (by (simp (disch := omega) only [go_sem, Nat.reduceBEq, Nat.reduceBeqDiff, Nat.reduceEqDiff, ↓reduceIte, reduceCtorEq, Nat.reduceAdd, Nat.reduceLeDiff, Nat.reduceLT, q1, q3, q4, q11, q12, q13, qH0, qH1, encIds, hfd]); rfl) rfl ?_ | (refine hK _ ?_; clear hK K) | (refine zqf (fun hb => ?_) (fun hb => ?_) <;> (have hb2 := hb; try simp only [boolS] at hb2) <;> ((first | have hb3 : (_ : Bool) = _ := hb2 | have hb3 := eq_false hb2 | have hb3 := eq_true hb2); (simp (disch := omega) only [go_sem, Nat.reduceBEq, Nat.reduceBeqDiff, Nat.reduceEqDiff, ↓reduceIte, reduceCtorEq, Nat.reduceAdd, Nat.reduceMul, Nat.reduceLeDiff, Nat.reduceLT, Int.reduceLT, Int.reduceLE, Int.reduceEq, hb, hb3, q1, q3, q4, q11, q12, q13, qH0, qH1, encIds, hfd]); clear hb hb3; (try (exfalso; omega)))) | (exfalso; omega))
      (refine Exists.intro _ (And.intro ?_ ⟨i + 1, rfl, ?_⟩)); rotate_left; (simp (disch := omega) only [go_sem, Nat.reduceBEq, Nat.reduceBeqDiff, Nat.reduceEqDiff, ↓reduceIte, reduceCtorEq, Nat.reduceAdd, Nat.reduceMul, Nat.reduceLeDiff, Nat.reduceLT, Int.reduceLT, Int.reduceLE, Int.reduceEq, q1, q3, q4, q11, q12, q13, qH0, qH1, true_and, and_true, and_self, Int.natCast_add, Int.natCast_one, Int.natCast_zero, List.flatMap_append, List.flatMap_cons, List.flatMap_nil, List.map_append, List.map_cons, List.map_nil, List.append_nil, List.cons_append, List.nil_append, hot, hsn]); rotate_left
      · omega
      · omega
  · rw [List.take_of_length_le (by omega)] at qH1 on1 on2 on3 on4
    have hfd : findD Tryz.prog 23 (.agg [.int .i64 0, .int .i64 0, .int .i64 0]) (setI (onceL (idsT t))) = some (if Idv.zero ∈ onceL (idsT t) then some ((onceL (idsT t)).idxOf Idv.zero, .bool true) else none) := find_I Idv.zero (onceL (idsT t))
    have hsl : (setI (onceL (idsT t))).length = (onceL (idsT t)).length := by unfold setI; simp
    have hne : idsT t ≠ [] := by rw [idsT_eq]; simp
    have hz := allz_iff hne
    have hb : idsB t = ((idsT t).all (fun i => decide (i = Idv.zero)) || (decide ((t.id = Idv.zero) ↔ (t.kind = 0)) && decide ((idsT t).Nodup))) := rfl
    by_cases hm : Idv.zero ∈ onceL (idsT t)
    · rw [if_pos hm] at hfd
      rw [decide_eq_true hm, Bool.true_and] at hz
      repeat' (first | refine zqj ?_ | ((first | refine zqh fun K hK => ?_ | refine zqe (by decide +kernel) fun K hK => ?_ | refine zqr fun K hK => ?_ | refine zqq (by decide +kernel) fun K hK => ?_); (simp (disch := omega) only [go_sem, Nat.reduceBEq, Nat.reduceBeqDiff, Nat.reduceEqDiff, ↓reduceIte, reduceCtorEq, Nat.reduceAdd, Nat.reduceMul, Nat.reduceLeDiff, Nat.reduceLT, Int.reduceLT, Int.reduceLE, Int.reduceEq, q1, q3, q4, q11, q12, q13, qH0, qH1, encIds, hfd, hsl])) | ((first | refine zqd _ rfl (fun hc => ?_) (fun hc => ?_) | refine zqm _ rfl (fun hc => ?_) (fun hc => ?_)) <;> (first | (cases hc; done) | ((try simp only [boolS] at hc); (try (exfalso; omega))))) | refine zqa ?_ | refine zqi ?_ | refine zqb ?_ | refine zqg ?_ | refine zqc ?_ | refine zqk ?_ | refine zql ?_ | refine zqn ?_ | refine zqv ?_ | refine zqw ?_ | refine zqx ?_ | refine zqy ?_ | refine zqz ?_ | refine zqza rfl ?_ | refine zqzb ?_ | refine zqp ?_ | refine zqo ?_ | refine zqu (by (simp (disch := omega) only [go_sem, Nat.reduceBEq, Nat.reduceBeqDiff, Nat.reduceEqDiff, ↓reduceIte, reduceCtorEq, Nat.reduceAdd, Nat.reduceLeDiff, Nat.reduceLT, q1, q3, q4, q11, q12, q13, qH0, qH1, encIds, hfd, hsl]); rfl) rfl ?_ | (refine hK _ ?_; clear hK K) | (refine zqf (fun hb => ?_) (fun hb => ?_) <;> (have hb2 := hb; try simp only [boolS] at hb2) <;> ((first | have hb3 : (_ : Bool) = _ := hb2 | have hb3 := eq_false hb2 | have hb3 := eq_true hb2); (simp (disch := omega) only [go_sem, Nat.reduceBEq, Nat.reduceBeqDiff, Nat.reduceEqDiff, ↓reduceIte, reduceCtorEq, Nat.reduceAdd, Nat.reduceMul, Nat.reduceLeDiff, Nat.reduceLT, Int.reduceLT, Int.reduceLE, Int.reduceEq, hb, hb3, q1, q3, q4, q11, q12, q13, qH0, qH1, encIds, hfd, hsl]); clear hb hb3; (try (exfalso; omega)))) | (exfalso; omega))
      · have hn : (idsT t).Nodup := on4.1 (by omega)
        refine fin_bool ?_
        rw [hb, hz, decide_eq_false (show ¬ (onceL (idsT t)).length = 1 by omega), decide_eq_true hn, Bool.false_or, Bool.and_true, ← beq_dec]
      · have hn : ¬ (idsT t).Nodup := fun h => by have := on4.2 h; omega
        exact fin_bool (by rw [hb, hz, decide_eq_false (show ¬ (onceL (idsT t)).length = 1 by omega), decide_eq_false hn, Bool.false_or, Bool.and_false])
      · exact fin_bool (by rw [hb, hz, decide_eq_true (by omega), Bool.true_or])
    · rw [if_neg hm] at hfd
      rw [decide_eq_false hm, Bool.false_and] at hz
      repeat' (first | refine zqj ?_ | ((first | refine zqh fun K hK => ?_ | refine zqe (by decide +kernel) fun K hK => ?_ | refine zqr fun K hK => ?_ | refine zqq (by decide +kernel) fun K hK => ?_); (simp (disch := omega) only [go_sem, Nat.reduceBEq, Nat.reduceBeqDiff, Nat.reduceEqDiff, ↓reduceIte, reduceCtorEq, Nat.reduceAdd, Nat.reduceMul, Nat.reduceLeDiff, Nat.reduceLT, Int.reduceLT, Int.reduceLE, Int.reduceEq, q1, q3, q4, q11, q12, q13, qH0, qH1, encIds, hfd, hsl])) | ((first | refine zqd _ rfl (fun hc => ?_) (fun hc => ?_) | refine zqm _ rfl (fun hc => ?_) (fun hc => ?_)) <;> (first | (cases hc; done) | ((try simp only [boolS] at hc); (try (exfalso; omega))))) | refine zqa ?_ | refine zqi ?_ | refine zqb ?_ | refine zqg ?_ | refine zqc ?_ | refine zqk ?_ | refine zql ?_ | refine zqn ?_ | refine zqv ?_ | refine zqw ?_ | refine zqx ?_ | refine zqy ?_ | refine zqz ?_ | refine zqza rfl ?_ | refine zqzb ?_ | refine zqp ?_ | refine zqo ?_ | refine zqu (by (simp (disch := omega) only [go_sem, Nat.reduceBEq, Nat.reduceBeqDiff, Nat.reduceEqDiff, ↓reduceIte, reduceCtorEq, Nat.reduceAdd, Nat.reduceLeDiff, Nat.reduceLT, q1, q3, q4, q11, q12, q13, qH0, qH1, encIds, hfd, hsl]); rfl) rfl ?_ | (refine hK _ ?_; clear hK K) | (refine zqf (fun hb => ?_) (fun hb => ?_) <;> (have hb2 := hb; try simp only [boolS] at hb2) <;> ((first | have hb3 : (_ : Bool) = _ := hb2 | have hb3 := eq_false hb2 | have hb3 := eq_true hb2); (simp (disch := omega) only [go_sem, Nat.reduceBEq, Nat.reduceBeqDiff, Nat.reduceEqDiff, ↓reduceIte, reduceCtorEq, Nat.reduceAdd, Nat.reduceMul, Nat.reduceLeDiff, Nat.reduceLT, Int.reduceLT, Int.reduceLE, Int.reduceEq, hb, hb3, q1, q3, q4, q11, q12, q13, qH0, qH1, encIds, hfd, hsl]); clear hb hb3; (try (exfalso; omega)))) | (exfalso; omega))
      · have hn : (idsT t).Nodup := on4.1 (by omega)
        refine fin_bool ?_
        rw [hb, hz, decide_eq_true hn, Bool.false_or, Bool.and_true, ← beq_dec]
      · have hn : ¬ (idsT t).Nodup := fun h => by have := on4.2 h; omega
        exact fin_bool (by rw [hb, hz, decide_eq_false hn, Bool.false_or, Bool.and_false])
theorem pc_Valid0 (t : T) (hs : szB t = true) (hc : cntT t ≤ 1000000000) (hd : depT t ≤ 1000000000) : PC Tryz.prog 97 [encU t] (.bool ((nodesT t).all aloneP && (decide (depT t ≤ 8) && (decide (cntT t ≤ 1024) && idsB t)))) := by
  have h1 := pc_every (g := 127) (cap := []) aloneP rfl t (sz_fit t hs) (fun x hx => pc_alone x (sz_nodes t hs x hx))
  have h2 := pc_Depth t (sz_fit t hs) hd
  have h3 := pc_Count t (sz_fit t hs) hc
  have h4 := pc_ids t hs hc
  refine zqzd 1 (by simp only [pureD.pureL, pure_encU, pureD, Bool.and_self]) rfl (zqze [] Tryz.func97 rfl (by decide +kernel) mixed (by decide +kernel) (by simp [Tryz.ntmps97]) ?_)
  show awp _ _ (Code.seq _ _) _ _
  skip
  repeat' (first | refine zqj ?_ | ((first | refine zqh fun K hK => ?_ | refine zqe (by decide +kernel) fun K hK => ?_ | refine zqr fun K hK => ?_ | refine zqq (by decide +kernel) fun K hK => ?_ | refine zqs (h1) ?_ | refine zqt (h1) ?_ | refine zqs (h2) ?_ | refine zqt (h2) ?_ | refine zqs (h3) ?_ | refine zqt (h3) ?_ | refine zqs (h4) ?_ | refine zqt (h4) ?_); (simp (disch := omega) only [go_sem, Nat.reduceBEq, Nat.reduceBeqDiff, Nat.reduceEqDiff, ↓reduceIte, reduceCtorEq, Nat.reduceAdd, Nat.reduceMul, Nat.reduceLeDiff, Nat.reduceLT, Int.reduceLT, Int.reduceLE, Int.reduceEq])) | ((first | refine zqd _ rfl (fun hc => ?_) (fun hc => ?_) | refine zqm _ rfl (fun hc => ?_) (fun hc => ?_)) <;> (first | (cases hc; done) | ((try simp only [boolS] at hc); (try (exfalso; omega))))) | refine zqa ?_ | refine zqi ?_ | refine zqb ?_ | refine zqg ?_ | refine zqc ?_ | refine zqk ?_ | refine zql ?_ | refine zqn ?_ | refine zqv ?_ | refine zqw ?_ | refine zqx ?_ | refine zqy ?_ | refine zqz ?_ | refine zqza rfl ?_ | refine zqzb ?_ | refine zqp ?_ | refine zqo ?_ | refine zqu (by (simp (disch := omega) only [go_sem, Nat.reduceBEq, Nat.reduceBeqDiff, Nat.reduceEqDiff, ↓reduceIte, reduceCtorEq, Nat.reduceAdd, Nat.reduceLeDiff, Nat.reduceLT]); rfl) rfl ?_ | (refine hK _ ?_; clear hK K) | (refine zqf (fun hb => ?_) (fun hb => ?_) <;> (have hb2 := hb; try simp only [boolS] at hb2) <;> ((first | have hb3 : (_ : Bool) = _ := hb2 | have hb3 := eq_false hb2 | have hb3 := eq_true hb2); (simp (disch := omega) only [go_sem, Nat.reduceBEq, Nat.reduceBeqDiff, Nat.reduceEqDiff, ↓reduceIte, reduceCtorEq, Nat.reduceAdd, Nat.reduceMul, Nat.reduceLeDiff, Nat.reduceLT, Int.reduceLT, Int.reduceLE, Int.reduceEq, hb, hb3]); clear hb hb3; (try (exfalso; omega)))) | (exfalso; omega))
  all_goals refine fin_bool ?_
  all_goals (simp (disch := omega) only [decide_eq_true, decide_eq_false, Bool.true_and, Bool.false_and, Bool.and_true, Bool.and_false, Bool.or_true, Bool.or_false, Bool.true_or, Bool.false_or, Bool.not_true, Bool.not_false, if_true, if_false, Bool.false_eq_true, Bool.and_self, *])
end Go.Proofs.YtkhjpcmpljpmjaaGreatDoor
