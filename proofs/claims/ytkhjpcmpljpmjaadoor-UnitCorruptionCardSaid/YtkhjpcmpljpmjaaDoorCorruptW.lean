/-
  The walk of UnitCorruption. No condition but lengths.
-/
import Derived.Test.YtkhjpcmpljpmjaaDoorLaws6
import Derived.Test.YtkhjpcmpljpmjaaDoorFlat
import Derived.Test.YtkhjpcmpljpmjaaDoorLimitsW
set_option maxRecDepth 100000
set_option maxHeartbeats 8000000
set_option linter.unusedSimpArgs false
set_option linter.unusedVariables false
namespace Go.Proofs.YtkhjpcmpljpmjaaDoor
open Abs Facts Tr
attribute [local irreducible] awp
namespace Tr
def T.setKids (t : T) (l : List T) : T := .mk t.id t.kind t.label t.head t.words l
def T.setLabel (t : T) (s : ByteArray) : T := .mk t.id t.kind s t.head t.words t.kids
def T.setKind (t : T) (k : Int) : T := .mk t.id k t.label t.head t.words t.kids
def T.setWords (t : T) (l : List Wd) : T := .mk t.id t.kind t.label t.head l t.kids
def zero1 : ByteArray := ⟨#[48]⟩
def two : Wd := ⟨⟨#[116, 119, 111, 32, 119, 111, 114, 100, 115]⟩, Idv.zero⟩
theorem right_parts {t : T} (h : validT t = true) : aloneR t = true ∧ (t.kids.all fun k => nestsB t.kind k.kind) = true ∧ t.kids.all rightT = true ∧ (t.kids.map keyK).Nodup := by
  unfold validT at h
  rw [rightT_eq] at h
  simp only [Bool.and_eq_true, decide_eq_true_eq] at h
  exact ⟨h.1.1, h.1.2.1, h.1.2.2.1, h.1.2.2.2⟩
theorem not_right {t : T} (h : rightT t = false) : validT t = false := by unfold validT; rw [h]; rfl
theorem right_kids (t : T) (l : List T) : rightT (t.setKids l) = (aloneR (t.setKids l) && ((l.all fun k => nestsB t.kind k.kind) && (l.all rightT && decide ((l.map keyK).Nodup)))) := rightT_eq _
theorem bad_dup (t : T) {i : Nat} (hi : i < t.kids.length) : validT (t.setKids (t.kids ++ [t.kids[i]])) = false := by
  refine not_right ?_
  rw [right_kids]
  have : ¬ ((t.kids ++ [t.kids[i]]).map keyK).Nodup := fun hn => by
    rw [List.map_append, List.nodup_append] at hn
    exact hn.2.2 _ (List.mem_map.2 ⟨_, List.getElem_mem hi, rfl⟩) _ (by simp) rfl
  rw [decide_eq_false this]; simp
theorem bad_kid (t : T) {i : Nat} {k : T} (hi : i < t.kids.length) (h : rightT k = false) : validT (t.setKids (t.kids.set i k)) = false := by
  refine not_right ?_
  rw [right_kids]
  have : (t.kids.set i k).all rightT = false := List.all_eq_false.2 ⟨k, List.mem_set hi k, by simp [h]⟩
  rw [this]; simp
theorem bad_nest (t : T) {i : Nat} {k : T} (hi : i < t.kids.length) (h : nestsB t.kind k.kind = false) : validT (t.setKids (t.kids.set i k)) = false := by
  refine not_right ?_
  rw [right_kids]
  have : ((t.kids.set i k).all fun k => nestsB t.kind k.kind) = false := List.all_eq_false.2 ⟨k, List.mem_set hi k, by simp [h]⟩
  rw [this]; simp
theorem nests_zero (p : Int) : nestsB p 0 = false := by
  by_cases h : 0 ≤ p ∧ p < 8
  · rcases kind8 h with rfl | rfl | rfl | rfl | rfl | rfl | rfl | rfl <;> decide
  · exact if_neg h
theorem nests_self (p : Int) (h : nestsB p p = true) : p = 3 := by
  by_cases h2 : 0 ≤ p ∧ p < 8
  · rcases kind8 h2 with rfl | rfl | rfl | rfl | rfl | rfl | rfl | rfl <;> first | rfl | (revert h; decide)
  · rw [show nestsB p p = false from if_neg h2] at h; cases h
theorem kid_kind {t : T} (h : validT t = true) {i : Nat} (hi : i < t.kids.length) : t.kids[i].kind ≠ 0 := fun e => by
  have := List.all_eq_true.1 (right_parts h).2.1 _ (List.getElem_mem hi)
  rw [e, nests_zero] at this; cases this
theorem label_zero (s : ByteArray) : labelB (zero1 ++ s) = false := by
  have hb : bl (zero1 ++ s) = 48 :: bl s := by
    unfold bl
    rw [ByteArray.data_append, Array.toList_append]; rfl
  unfold labelB
  have : ((bl (zero1 ++ s)).headD 0).toNat = 48 := by rw [hb]; rfl
  rw [decide_eq_false (by rw [this]; omega)]; rfl
theorem bad_label (t : T) (h0 : t.kind ≠ 0) : rightT (t.setLabel (zero1 ++ t.label)) = false := by
  rw [rightT_eq]
  have : aloneR (t.setLabel (zero1 ++ t.label)) = false := by
    unfold aloneR
    show (decide (0 ≤ t.kind ∧ t.kind ≤ 7) && (decide (t.kids.length ≤ 64) && (rowB t.head && (rowB t.words && (if t.kind = 0 then _ else labelB (zero1 ++ t.label)))))) = false
    rw [if_neg h0, label_zero]; simp
  rw [this]; rfl
theorem bad_words (t : T) : rightT (t.setWords (t.words ++ [two])) = false := by
  rw [rightT_eq]
  have : rowB (t.words ++ [two]) = false := by
    unfold rowB
    rw [List.all_append]
    have : wordB two.text = false := by decide +kernel
    simp [this]
  have : aloneR (t.setWords (t.words ++ [two])) = false := by
    unfold aloneR
    show (decide (0 ≤ t.kind ∧ t.kind ≤ 7) && (decide (t.kids.length ≤ 64) && (rowB t.head && (rowB (t.words ++ [two]) && _)))) = false
    rw [this]; simp
  rw [this]; rfl
theorem bad_zero (t : T) {i : Nat} (hi : i < t.kids.length) : validT (t.setKids (t.kids.set i T.zero)) = false := bad_nest t hi (nests_zero _)
theorem dep_cnt : ∀ t : T, depT t + 1 ≤ cntT t := by
  refine ind1 fun t ih => ?_
  have h := depF_bound t.kids 0 (cntT t - 1 : Nat) (by omega) (fun k hk => by have := ih k hk; have := cnt_kid hk; omega) 0 (by omega)
  rw [depT_eq]
  have hp := cnt_pos t
  unfold depF
  omega
theorem cnt_setKids (t : T) (l : List T) : cntT (t.setKids l) = 1 + (l.flatMap nodesT).length := cntT_eq _
theorem flat_set (l : List T) : ∀ (i : Nat) (k : T), ((l.set i k).flatMap nodesT).length ≤ (l.flatMap nodesT).length + cntT k := by
  induction l with
  | nil => intro i k; simp
  | cons x l ih =>
    intro i k
    cases i with
    | zero => rw [List.set_cons_zero, List.flatMap_cons, List.flatMap_cons, List.length_append, List.length_append]; unfold cntT; omega
    | succ i => rw [List.set_cons_succ, List.flatMap_cons, List.flatMap_cons, List.length_append, List.length_append]; have := ih i k; omega
theorem sz_setKids {t : T} (h : szB t = true) {l : List T} (hl : l.length ≤ 1000000) (hk : ∀ k ∈ l, szB k = true) : szB (t.setKids l) = true := by
  obtain ⟨h0, h1, h2, h3, h4, _, _⟩ := (sz_iff t).1 h
  exact (sz_iff _).2 ⟨h0, h1, h2, h3, h4, hl, hk⟩
theorem sz_set {t : T} (h : szB t = true) {i : Nat} {k : T} (hk : szB k = true) : szB (t.setKids (t.kids.set i k)) = true := by
  obtain ⟨_, _, _, _, _, h5, h6⟩ := (sz_iff t).1 h
  exact sz_setKids h (by rw [List.length_set]; exact h5) fun x hx => by
    rcases List.mem_or_eq_of_mem_set hx with hx | rfl
    · exact h6 x hx
    · exact hk
theorem cnt_set {t : T} {i : Nat} {k : T} (hc : cntT t ≤ 60) (hk : cntT k ≤ 60) : cntT (t.setKids (t.kids.set i k)) ≤ 1000 := by
  rw [cnt_setKids]
  have h1 := flat_set t.kids i k
  have h2 := cntT_eq t
  omega
end Tr
/-- The contract of Valid at a tree with other kids. -/
theorem pc_ValidK (u : T) (l : List T) (hs : szB (u.setKids l) = true) (hc : cntT (u.setKids l) ≤ 1000) :
    PC Tryd.prog 13 [.agg [.int .i64 u.id.act, .int .i64 u.id.item, .int .i64 u.id.n, .int .i64 u.kind, .str u.label, encWs u.head, encWs u.words, .rsl false 8 (l.map encU)]] (.bool (validT (u.setKids l))) := by
  have h := pc_Valid (u.setKids l) hs (by omega) (by have := dep_cnt (u.setKids l); omega)
  rw [encU, cellsU_eq] at h
  exact h
def cellsO : Option T → List D
  | some t => cellsU t
  | none => [.int .i64 0, .int .i64 0, .int .i64 0, .int .i64 0, .str ByteArray.empty, .nil, .nil, .nil]
theorem cellsO_len (o : Option T) : (cellsO o).length = 8 := by cases o with
  | none => rfl
  | some t => exact cellsU_length t
theorem cellsO_pure (o : Option T) : pureD.pureL (cellsO o) = true := by cases o with
  | none => rfl
  | some t => exact pure_cellsU t
theorem flat_some (l : List T) : l.flatMap cellsU = (l.map some).flatMap cellsO := by rw [List.flatMap_map]; rfl
theorem le_opt (l : List T) (i : Nat) : LeL (((l.map some).set i none).map fun o => D.agg (cellsO o)) ((l.set i T.zero).map encU) := by
  induction l generalizing i with
  | nil => simp only [List.map_nil, List.set_nil]; trivial
  | cons x l ih =>
    cases i with
    | zero =>
      simp only [List.map_cons, List.set_cons_zero]
      refine ⟨le_zeroU, ?_⟩
      rw [List.map_map]
      exact LeL_map (fun _ => Le.refl _) l
    | succ i =>
      simp only [List.map_cons, List.set_cons_succ]
      exact ⟨Le.refl _, ih i⟩
theorem pc_LawCorruption (u : T) (hfit : fitB u = true) (a how : Int) : PC Tryd.prog 4 [encU u, .int .i64 a, .int .i64 how] (.bool true) := by
  have ha := pc_awake6
  have hf := pc_Few u hfit 60 (by omega) (by omega)
  refine PC_intro 1 (by simp only [pureD.pureL, pure_encU, pureD, Bool.and_self]) rfl (AC_intro [30, 93, 7000093, 7000100, 2000103, 7000103, 6000097, 6000099, 6000104, 3000091, 3000095, 8000003] Tryd.func4 rfl (by decide +kernel) mixed (by decide +kernel) (by simp [Tryd.ntmps4]) ?_)
  show awp _ _ (Code.seq _ _) _ _
  rw [show encU u = .agg _ from by rw [encU, cellsU_eq]]
  rw [encU, cellsU_eq] at hf
  skip
  by_cases hb : fewB u 60 = true
  · obtain ⟨hs, hc2, hd⟩ := few_sz (by omega) (by omega) hb
    rw [hb] at hf
    have c1 := pc_Valid u hs (by omega) (by omega)
    rw [encU, cellsU_eq] at c1
    by_cases hv : validT u = true
    · rw [hv] at c1
      by_cases hr : 0 ≤ a ∧ a < u.kids.length
      · obtain ⟨k, rfl⟩ := Int.eq_ofNat_of_zero_le hr.1
        have hk : k < u.kids.length := by omega
        have hld := take_flat cellsU_length hk
        have hln := flat_len cellsU_length u.kids
        obtain ⟨_, _, _, _, _, hl6, hsk⟩ := (sz_iff u).1 hs
        have hkz := hsk _ (List.getElem_mem hk)
        have hzl := (sz_iff _).1 hkz
        have hkc := cnt_kid (List.getElem_mem hk)
        have hlab : (u.kids.flatMap cellsU)[k * 8 + 4]? = some (.str u.kids[k].label) := by
          have h1 : (u.kids.flatMap cellsU)[k * 8 + 4]? = (((u.kids.flatMap cellsU).drop (k * 8)).take 8)[4]? := by rw [List.getElem?_take, if_pos (by omega), List.getElem?_drop]
          rw [h1, hld, cellsU_label]
        have hwds : (u.kids.flatMap cellsU)[k * 8 + 6]? = some (encWs u.kids[k].words) := by
          have h1 : (u.kids.flatMap cellsU)[k * 8 + 6]? = (((u.kids.flatMap cellsU).drop (k * 8)).take 8)[6]? := by rw [List.getElem?_take, if_pos (by omega), List.getElem?_drop]
          rw [h1, hld, cellsU_words]
        have hkid : k < u.kids.length := hk
        have hkl := kids_cnt u
        have hcu : cntT u ≤ 60 := by omega
        have hck : ∀ q : T, q.kids = u.kids[k].kids → cntT q ≤ 60 := fun q hq => by
          rw [cntT_eq, hq]; have := cntT_eq u.kids[k]; omega
        have hsl : u.kids[k].label.size ≤ 1000000 := hzl.1
        have hll : u.kids[k].label.size ≤ 30 := by
          have := hb
          unfold fewB at this
          simp only [Bool.and_eq_true] at this
          have h2 := this.2
          rw [wordsB_eq] at h2
          simp only [Bool.and_eq_true, List.all_eq_true] at h2
          have h3 := h2.2.2.2 _ (List.getElem_mem hk)
          rw [wordsB_eq] at h3
          simp only [Bool.and_eq_true, decide_eq_true_eq] at h3
          exact h3.1
        have hq : (if (k : Int) < 0 then true else decide (((u.kids.map encU).length : Int) ≤ (k : Int))) = false := by rw [if_neg (by omega)]; exact decide_eq_false (by rw [List.length_map]; omega)
        rcases (by omega : how = 0 ∨ how = 1 ∨ how = 2 ∨ how = 3 ∨ how = 4 ∨ (¬ how = 0 ∧ ¬ how = 1 ∧ ¬ how = 2 ∧ ¬ how = 3 ∧ ¬ how = 4)) with rfl | rfl | rfl | rfl | rfl | ⟨n0, n1, n2, n3, n4⟩
        · have c2 := pc_ValidK u (u.kids ++ [u.kids[k]]) (sz_setKids hs (by simp; omega) (fun x hx => by
            rcases List.mem_append.1 hx with hx | hx
            · exact hsk x hx
            · simp at hx; subst hx; exact hsk _ (List.getElem_mem hk))) (by
            rw [cnt_setKids, List.flatMap_append, List.length_append]
            have h1 := cntT_eq u
            have h2 := cnt_kid (List.getElem_mem hk)
            simp only [List.flatMap_cons, List.flatMap_nil, List.append_nil]
            have h3 : (nodesT u.kids[k]).length = cntT u.kids[k] := rfl
            omega)
          rw [bad_dup u hk] at c2
          repeat' (first | refine awp_assoc ?_ | ((first | refine awp_seq_reg fun K hK => ?_ | refine awp_seq_draw (by decide +kernel) fun K hK => ?_ | refine awp_reg' fun K hK => ?_ | refine awp_draw' (by decide +kernel) fun K hK => ?_ | refine callW_pc (ha) ?_ | refine callD_pc (ha) ?_ | refine callW_pc (hf) ?_ | refine callD_pc (hf) ?_ | refine callW_pc (c1) ?_ | refine callD_pc (c1) ?_); (simp (disch := omega) only [go_sem, Nat.reduceBEq, Nat.reduceBeqDiff, Nat.reduceEqDiff, ↓reduceIte, reduceCtorEq, Nat.reduceAdd, Nat.reduceMul, Nat.reduceLeDiff, Nat.reduceLT, Int.reduceLT, Int.reduceLE, Int.reduceEq, encUs, cellsAll_encU, hld, hln, hkid, List.set_cons_succ, List.set_cons_zero])) | ((first | refine awp_seq_cond _ rfl (fun hc => ?_) (fun hc => ?_) | refine awp_cond _ rfl (fun hc => ?_) (fun hc => ?_)) <;> (first | (cases hc; done) | ((try simp only [boolS] at hc); (try (exfalso; omega))))) | refine awp_seq_block ?_ | refine awp_block ?_ | refine awp_seq_skip ?_ | refine awp_seq_ret ?_ | refine awp_seq_exit ?_ | refine awp_skip ?_ | refine awp_exit ?_ | refine awp_ret ?_ | refine seqK_n ?_ | refine seqK_e ?_ | refine seqK_r ?_ | refine blkK_n ?_ | refine blkK_e ?_ | refine blkK_o rfl ?_ | refine blkK_r ?_ | refine loopK_e ?_ | refine loopK_r ?_ | refine retQ_E (by (simp (disch := omega) only [go_sem, Nat.reduceBEq, Nat.reduceBeqDiff, Nat.reduceEqDiff, ↓reduceIte, reduceCtorEq, Nat.reduceAdd, Nat.reduceMul, Nat.reduceLeDiff, Nat.reduceLT, Int.reduceLT, Int.reduceLE, Int.reduceEq, encUs, cellsAll_encU, hld, hln, hkid, List.set_cons_succ, List.set_cons_zero]); rfl) rfl ?_ | (refine hK _ ?_; clear hK K) | (refine stepG_split (fun hb => ?_) (fun hb => ?_) <;> (have hb2 := hb; try simp only [boolS] at hb2) <;> ((first | have hb3 : (_ : Bool) = _ := hb2 | have hb3 := eq_false hb2 | have hb3 := eq_true hb2); (simp (disch := omega) only [go_sem, Nat.reduceBEq, Nat.reduceBeqDiff, Nat.reduceEqDiff, ↓reduceIte, reduceCtorEq, Nat.reduceAdd, Nat.reduceMul, Nat.reduceLeDiff, Nat.reduceLT, Int.reduceLT, Int.reduceLE, Int.reduceEq, hb, hb3, encUs, cellsAll_encU, hld, hln, hkid, List.set_cons_succ, List.set_cons_zero]); clear hb hb3; (try (exfalso; omega)))) | (exfalso; omega))
          all_goals first | (rw [hq] at hc; cases hc; done) | skip
          refine callW_rc (PC.borrow c2 rfl 4 (optL_cons (sealD_agg (k := 3) (by simp [pureD.pureL, pureD]) (optL_cons (sealD_pure 2 rfl) (optL_cons (sealD_pure 2 rfl) (optL_cons (sealD_pure 2 rfl) (optL_cons (sealD_pure 2 rfl) (optL_cons (sealD_pure 2 rfl) (optL_cons (sealD_pure 2 (pure_encWs _)) (optL_cons (sealD_pure 2 (pure_encWs _)) (optL_cons (sealD_rowAggN (f := cellsU) (l := u.kids ++ [u.kids[k]]) 1 ?_ ?_ isAggT27 sizeT27 cellsU_length pure_cellsU) optL_nil))))))))) optL_nil)) ?_
          · simp
          · (simp (disch := omega) only [go_sem, Nat.reduceBEq, Nat.reduceBeqDiff, Nat.reduceEqDiff, ↓reduceIte, reduceCtorEq, Nat.reduceAdd, Nat.reduceMul, Nat.reduceLeDiff, Nat.reduceLT, Int.reduceLT, Int.reduceLE, Int.reduceEq, List.flatMap_append, List.flatMap_cons, List.flatMap_nil, List.append_nil])
          (try (simp (disch := omega) only [go_sem, Nat.reduceBEq, Nat.reduceBeqDiff, Nat.reduceEqDiff, ↓reduceIte, reduceCtorEq, Nat.reduceAdd, Nat.reduceMul, Nat.reduceLeDiff, Nat.reduceLT, Int.reduceLT, Int.reduceLE, Int.reduceEq])); repeat' (first | refine awp_assoc ?_ | ((first | refine awp_seq_reg fun K hK => ?_ | refine awp_seq_draw (by decide +kernel) fun K hK => ?_ | refine awp_reg' fun K hK => ?_ | refine awp_draw' (by decide +kernel) fun K hK => ?_ | refine callW_pc (c1) ?_ | refine callD_pc (c1) ?_); (simp (disch := omega) only [go_sem, Nat.reduceBEq, Nat.reduceBeqDiff, Nat.reduceEqDiff, ↓reduceIte, reduceCtorEq, Nat.reduceAdd, Nat.reduceMul, Nat.reduceLeDiff, Nat.reduceLT, Int.reduceLT, Int.reduceLE, Int.reduceEq])) | ((first | refine awp_seq_cond _ rfl (fun hc => ?_) (fun hc => ?_) | refine awp_cond _ rfl (fun hc => ?_) (fun hc => ?_)) <;> (first | (cases hc; done) | ((try simp only [boolS] at hc); (try (exfalso; omega))))) | refine awp_seq_block ?_ | refine awp_block ?_ | refine awp_seq_skip ?_ | refine awp_seq_ret ?_ | refine awp_seq_exit ?_ | refine awp_skip ?_ | refine awp_exit ?_ | refine awp_ret ?_ | refine seqK_n ?_ | refine seqK_e ?_ | refine seqK_r ?_ | refine blkK_n ?_ | refine blkK_e ?_ | refine blkK_o rfl ?_ | refine blkK_r ?_ | refine loopK_e ?_ | refine loopK_r ?_ | refine retQ_E (by (simp (disch := omega) only [go_sem, Nat.reduceBEq, Nat.reduceBeqDiff, Nat.reduceEqDiff, ↓reduceIte, reduceCtorEq, Nat.reduceAdd, Nat.reduceMul, Nat.reduceLeDiff, Nat.reduceLT, Int.reduceLT, Int.reduceLE, Int.reduceEq]); rfl) rfl ?_ | (refine hK _ ?_; clear hK K) | (refine stepG_split (fun hb => ?_) (fun hb => ?_) <;> (have hb2 := hb; try simp only [boolS] at hb2) <;> ((first | have hb3 : (_ : Bool) = _ := hb2 | have hb3 := eq_false hb2 | have hb3 := eq_true hb2); (simp (disch := omega) only [go_sem, Nat.reduceBEq, Nat.reduceBeqDiff, Nat.reduceEqDiff, ↓reduceIte, reduceCtorEq, Nat.reduceAdd, Nat.reduceMul, Nat.reduceLeDiff, Nat.reduceLT, Int.reduceLT, Int.reduceLE, Int.reduceEq, hb, hb3]); clear hb hb3; (try (exfalso; omega)))) | (exfalso; omega))
          exact fin_bool rfl
        · have e1 : (u.kids.flatMap cellsU).set (k * 8 + 4) (.str (zero1 ++ u.kids[k].label)) = (u.kids.set k (u.kids[k].setLabel (zero1 ++ u.kids[k].label))).flatMap cellsU :=
            splice_flat (f := cellsU) (sz := 8) cellsU_length (y := u.kids[k].setLabel (zero1 ++ u.kids[k].label)) (vs := [.str (zero1 ++ u.kids[k].label)]) (o := 4) hk (by simp) (by rw [cellsU_eq, cellsU_eq]; rfl)
          have zl : szB (u.kids[k].setLabel (zero1 ++ u.kids[k].label)) = true := by
            obtain ⟨g0, g1, g2, g3, g4, g5, g6⟩ := (sz_iff _).1 hkz
            refine (sz_iff _).2 ⟨?_, g1, g2, g3, g4, g5, g6⟩
            show (zero1 ++ u.kids[k].label).size ≤ 1000000
            rw [ByteArray.size_append, show zero1.size = 1 from rfl]; omega
          have c2 := pc_ValidK u (u.kids.set k (u.kids[k].setLabel (zero1 ++ u.kids[k].label))) (sz_set hs zl) (cnt_set hcu (hck _ rfl))
          rw [bad_kid u hk (bad_label u.kids[k] (kid_kind hv hk))] at c2
          have e0 : (⟨#[48]⟩ : ByteArray) = zero1 := rfl
          have hz1 : zero1.size = 1 := rfl
          repeat' (first | refine awp_assoc ?_ | ((first | refine awp_seq_reg fun K hK => ?_ | refine awp_seq_draw (by decide +kernel) fun K hK => ?_ | refine awp_reg' fun K hK => ?_ | refine awp_draw' (by decide +kernel) fun K hK => ?_ | refine callW_pc (ha) ?_ | refine callD_pc (ha) ?_ | refine callW_pc (hf) ?_ | refine callD_pc (hf) ?_ | refine callW_pc (c1) ?_ | refine callD_pc (c1) ?_); (simp (disch := omega) only [go_sem, Nat.reduceBEq, Nat.reduceBeqDiff, Nat.reduceEqDiff, ↓reduceIte, reduceCtorEq, Nat.reduceAdd, Nat.reduceMul, Nat.reduceLeDiff, Nat.reduceLT, Int.reduceLT, Int.reduceLE, Int.reduceEq, encUs, cellsAll_encU, hld, hln, hkid, e0, hz1, e1, hlab, List.set_cons_succ, List.set_cons_zero])) | ((first | refine awp_seq_cond _ rfl (fun hc => ?_) (fun hc => ?_) | refine awp_cond _ rfl (fun hc => ?_) (fun hc => ?_)) <;> (first | (cases hc; done) | ((try simp only [boolS] at hc); (try (exfalso; omega))))) | refine awp_seq_block ?_ | refine awp_block ?_ | refine awp_seq_skip ?_ | refine awp_seq_ret ?_ | refine awp_seq_exit ?_ | refine awp_skip ?_ | refine awp_exit ?_ | refine awp_ret ?_ | refine seqK_n ?_ | refine seqK_e ?_ | refine seqK_r ?_ | refine blkK_n ?_ | refine blkK_e ?_ | refine blkK_o rfl ?_ | refine blkK_r ?_ | refine loopK_e ?_ | refine loopK_r ?_ | refine retQ_E (by (simp (disch := omega) only [go_sem, Nat.reduceBEq, Nat.reduceBeqDiff, Nat.reduceEqDiff, ↓reduceIte, reduceCtorEq, Nat.reduceAdd, Nat.reduceMul, Nat.reduceLeDiff, Nat.reduceLT, Int.reduceLT, Int.reduceLE, Int.reduceEq, encUs, cellsAll_encU, hld, hln, hkid, e0, hz1, e1, hlab, List.set_cons_succ, List.set_cons_zero]); rfl) rfl ?_ | (refine hK _ ?_; clear hK K) | (refine stepG_split (fun hb => ?_) (fun hb => ?_) <;> (have hb2 := hb; try simp only [boolS] at hb2) <;> ((first | have hb3 : (_ : Bool) = _ := hb2 | have hb3 := eq_false hb2 | have hb3 := eq_true hb2); (simp (disch := omega) only [go_sem, Nat.reduceBEq, Nat.reduceBeqDiff, Nat.reduceEqDiff, ↓reduceIte, reduceCtorEq, Nat.reduceAdd, Nat.reduceMul, Nat.reduceLeDiff, Nat.reduceLT, Int.reduceLT, Int.reduceLE, Int.reduceEq, hb, hb3, encUs, cellsAll_encU, hld, hln, hkid, e0, hz1, e1, hlab, List.set_cons_succ, List.set_cons_zero]); clear hb hb3; (try (exfalso; omega)))) | (exfalso; omega))
          all_goals first | (rw [hq] at hc; cases hc; done) | skip
          refine callW_rc (PC.borrow c2 rfl 4 (optL_cons (sealD_agg (k := 3) (by simp [pureD.pureL, pureD]) (optL_cons (sealD_pure 2 rfl) (optL_cons (sealD_pure 2 rfl) (optL_cons (sealD_pure 2 rfl) (optL_cons (sealD_pure 2 rfl) (optL_cons (sealD_pure 2 rfl) (optL_cons (sealD_pure 2 (pure_encWs _)) (optL_cons (sealD_pure 2 (pure_encWs _)) (optL_cons (sealD_rowAggN (f := cellsU) (l := u.kids.set k (u.kids[k].setLabel (zero1 ++ u.kids[k].label))) 1 ?_ ?_ isAggT27 sizeT27 cellsU_length pure_cellsU) optL_nil))))))))) optL_nil)) ?_
          · simp
          · (simp (disch := omega) only [go_sem, Nat.reduceBEq, Nat.reduceBeqDiff, Nat.reduceEqDiff, ↓reduceIte, reduceCtorEq, Nat.reduceAdd, Nat.reduceMul, Nat.reduceLeDiff, Nat.reduceLT, Int.reduceLT, Int.reduceLE, Int.reduceEq, List.flatMap_append, List.flatMap_cons, List.flatMap_nil, List.append_nil])
          (try (simp (disch := omega) only [go_sem, Nat.reduceBEq, Nat.reduceBeqDiff, Nat.reduceEqDiff, ↓reduceIte, reduceCtorEq, Nat.reduceAdd, Nat.reduceMul, Nat.reduceLeDiff, Nat.reduceLT, Int.reduceLT, Int.reduceLE, Int.reduceEq])); repeat' (first | refine awp_assoc ?_ | ((first | refine awp_seq_reg fun K hK => ?_ | refine awp_seq_draw (by decide +kernel) fun K hK => ?_ | refine awp_reg' fun K hK => ?_ | refine awp_draw' (by decide +kernel) fun K hK => ?_ | refine callW_pc (c1) ?_ | refine callD_pc (c1) ?_); (simp (disch := omega) only [go_sem, Nat.reduceBEq, Nat.reduceBeqDiff, Nat.reduceEqDiff, ↓reduceIte, reduceCtorEq, Nat.reduceAdd, Nat.reduceMul, Nat.reduceLeDiff, Nat.reduceLT, Int.reduceLT, Int.reduceLE, Int.reduceEq])) | ((first | refine awp_seq_cond _ rfl (fun hc => ?_) (fun hc => ?_) | refine awp_cond _ rfl (fun hc => ?_) (fun hc => ?_)) <;> (first | (cases hc; done) | ((try simp only [boolS] at hc); (try (exfalso; omega))))) | refine awp_seq_block ?_ | refine awp_block ?_ | refine awp_seq_skip ?_ | refine awp_seq_ret ?_ | refine awp_seq_exit ?_ | refine awp_skip ?_ | refine awp_exit ?_ | refine awp_ret ?_ | refine seqK_n ?_ | refine seqK_e ?_ | refine seqK_r ?_ | refine blkK_n ?_ | refine blkK_e ?_ | refine blkK_o rfl ?_ | refine blkK_r ?_ | refine loopK_e ?_ | refine loopK_r ?_ | refine retQ_E (by (simp (disch := omega) only [go_sem, Nat.reduceBEq, Nat.reduceBeqDiff, Nat.reduceEqDiff, ↓reduceIte, reduceCtorEq, Nat.reduceAdd, Nat.reduceMul, Nat.reduceLeDiff, Nat.reduceLT, Int.reduceLT, Int.reduceLE, Int.reduceEq]); rfl) rfl ?_ | (refine hK _ ?_; clear hK K) | (refine stepG_split (fun hb => ?_) (fun hb => ?_) <;> (have hb2 := hb; try simp only [boolS] at hb2) <;> ((first | have hb3 : (_ : Bool) = _ := hb2 | have hb3 := eq_false hb2 | have hb3 := eq_true hb2); (simp (disch := omega) only [go_sem, Nat.reduceBEq, Nat.reduceBeqDiff, Nat.reduceEqDiff, ↓reduceIte, reduceCtorEq, Nat.reduceAdd, Nat.reduceMul, Nat.reduceLeDiff, Nat.reduceLT, Int.reduceLT, Int.reduceLE, Int.reduceEq, hb, hb3]); clear hb hb3; (try (exfalso; omega)))) | (exfalso; omega))
          exact fin_bool rfl
        · have e1 : (u.kids.flatMap cellsU).set (k * 8 + 3) (.int .i64 u.kind) = (u.kids.set k (u.kids[k].setKind u.kind)).flatMap cellsU :=
            splice_flat (f := cellsU) (sz := 8) cellsU_length (y := u.kids[k].setKind u.kind) (vs := [.int .i64 u.kind]) (o := 3) hk (by simp) (by rw [cellsU_eq, cellsU_eq]; rfl)
          have zl : szB (u.kids[k].setKind u.kind) = true := by
            obtain ⟨g0, g1, g2, g3, g4, g5, g6⟩ := (sz_iff _).1 hkz
            exact (sz_iff _).2 ⟨g0, g1, g2, g3, g4, g5, g6⟩
          have c2 := pc_ValidK u (u.kids.set k (u.kids[k].setKind u.kind)) (sz_set hs zl) (cnt_set hcu (hck _ rfl))
          have hb3 : ¬ u.kind = 3 → validT (u.setKids (u.kids.set k (u.kids[k].setKind u.kind))) = false := fun h3 => bad_nest u hk (by
            cases hn : nestsB u.kind (u.kids[k].setKind u.kind).kind
            · rfl
            · exact (h3 (nests_self u.kind hn)).elim)
          generalize validT (u.setKids (u.kids.set k (u.kids[k].setKind u.kind))) = b at c2 hb3
          by_cases h3 : u.kind = 3
          · have h3d : decide (u.kind = 3) = true := decide_eq_true h3
            repeat' (first | refine awp_assoc ?_ | ((first | refine awp_seq_reg fun K hK => ?_ | refine awp_seq_draw (by decide +kernel) fun K hK => ?_ | refine awp_reg' fun K hK => ?_ | refine awp_draw' (by decide +kernel) fun K hK => ?_ | refine callW_pc (ha) ?_ | refine callD_pc (ha) ?_ | refine callW_pc (hf) ?_ | refine callD_pc (hf) ?_ | refine callW_pc (c1) ?_ | refine callD_pc (c1) ?_); (simp (disch := omega) only [go_sem, Nat.reduceBEq, Nat.reduceBeqDiff, Nat.reduceEqDiff, ↓reduceIte, reduceCtorEq, Nat.reduceAdd, Nat.reduceMul, Nat.reduceLeDiff, Nat.reduceLT, Int.reduceLT, Int.reduceLE, Int.reduceEq, encUs, cellsAll_encU, hld, hln, hkid, e1, h3d, List.set_cons_succ, List.set_cons_zero])) | ((first | refine awp_seq_cond _ rfl (fun hc => ?_) (fun hc => ?_) | refine awp_cond _ rfl (fun hc => ?_) (fun hc => ?_)) <;> (first | (cases hc; done) | ((try simp only [boolS] at hc); (try (exfalso; omega))))) | refine awp_seq_block ?_ | refine awp_block ?_ | refine awp_seq_skip ?_ | refine awp_seq_ret ?_ | refine awp_seq_exit ?_ | refine awp_skip ?_ | refine awp_exit ?_ | refine awp_ret ?_ | refine seqK_n ?_ | refine seqK_e ?_ | refine seqK_r ?_ | refine blkK_n ?_ | refine blkK_e ?_ | refine blkK_o rfl ?_ | refine blkK_r ?_ | refine loopK_e ?_ | refine loopK_r ?_ | refine retQ_E (by (simp (disch := omega) only [go_sem, Nat.reduceBEq, Nat.reduceBeqDiff, Nat.reduceEqDiff, ↓reduceIte, reduceCtorEq, Nat.reduceAdd, Nat.reduceMul, Nat.reduceLeDiff, Nat.reduceLT, Int.reduceLT, Int.reduceLE, Int.reduceEq, encUs, cellsAll_encU, hld, hln, hkid, e1, h3d, List.set_cons_succ, List.set_cons_zero]); rfl) rfl ?_ | (refine hK _ ?_; clear hK K) | (refine stepG_split (fun hb => ?_) (fun hb => ?_) <;> (have hb2 := hb; try simp only [boolS] at hb2) <;> ((first | have hb3 : (_ : Bool) = _ := hb2 | have hb3 := eq_false hb2 | have hb3 := eq_true hb2); (simp (disch := omega) only [go_sem, Nat.reduceBEq, Nat.reduceBeqDiff, Nat.reduceEqDiff, ↓reduceIte, reduceCtorEq, Nat.reduceAdd, Nat.reduceMul, Nat.reduceLeDiff, Nat.reduceLT, Int.reduceLT, Int.reduceLE, Int.reduceEq, hb, hb3, encUs, cellsAll_encU, hld, hln, hkid, e1, h3d, List.set_cons_succ, List.set_cons_zero]); clear hb hb3; (try (exfalso; omega)))) | (exfalso; omega))
            all_goals first | (rw [hq] at hc; cases hc; done) | skip
            refine callD_rc (PC.borrow c2 rfl 4 (optL_cons (sealD_agg (k := 3) (by simp [pureD.pureL, pureD]) (optL_cons (sealD_pure 2 rfl) (optL_cons (sealD_pure 2 rfl) (optL_cons (sealD_pure 2 rfl) (optL_cons (sealD_pure 2 rfl) (optL_cons (sealD_pure 2 rfl) (optL_cons (sealD_pure 2 (pure_encWs _)) (optL_cons (sealD_pure 2 (pure_encWs _)) (optL_cons (sealD_rowAggN (f := cellsU) (l := u.kids.set k (u.kids[k].setKind u.kind)) 1 ?_ ?_ isAggT27 sizeT27 cellsU_length pure_cellsU) optL_nil))))))))) optL_nil)) rfl ?_
            · simp
            · (simp (disch := omega) only [go_sem, Nat.reduceBEq, Nat.reduceBeqDiff, Nat.reduceEqDiff, ↓reduceIte, reduceCtorEq, Nat.reduceAdd, Nat.reduceMul, Nat.reduceLeDiff, Nat.reduceLT, Int.reduceLT, Int.reduceLE, Int.reduceEq])
            (try (simp (disch := omega) only [go_sem, Nat.reduceBEq, Nat.reduceBeqDiff, Nat.reduceEqDiff, ↓reduceIte, reduceCtorEq, Nat.reduceAdd, Nat.reduceMul, Nat.reduceLeDiff, Nat.reduceLT, Int.reduceLT, Int.reduceLE, Int.reduceEq, h3d])); repeat' (first | refine awp_assoc ?_ | ((first | refine awp_seq_reg fun K hK => ?_ | refine awp_seq_draw (by decide +kernel) fun K hK => ?_ | refine awp_reg' fun K hK => ?_ | refine awp_draw' (by decide +kernel) fun K hK => ?_); (simp (disch := omega) only [go_sem, Nat.reduceBEq, Nat.reduceBeqDiff, Nat.reduceEqDiff, ↓reduceIte, reduceCtorEq, Nat.reduceAdd, Nat.reduceMul, Nat.reduceLeDiff, Nat.reduceLT, Int.reduceLT, Int.reduceLE, Int.reduceEq, h3d])) | ((first | refine awp_seq_cond _ rfl (fun hc => ?_) (fun hc => ?_) | refine awp_cond _ rfl (fun hc => ?_) (fun hc => ?_)) <;> (first | (cases hc; done) | ((try simp only [boolS] at hc); (try (exfalso; omega))))) | refine awp_seq_block ?_ | refine awp_block ?_ | refine awp_seq_skip ?_ | refine awp_seq_ret ?_ | refine awp_seq_exit ?_ | refine awp_skip ?_ | refine awp_exit ?_ | refine awp_ret ?_ | refine seqK_n ?_ | refine seqK_e ?_ | refine seqK_r ?_ | refine blkK_n ?_ | refine blkK_e ?_ | refine blkK_o rfl ?_ | refine blkK_r ?_ | refine loopK_e ?_ | refine loopK_r ?_ | refine retQ_E (by (simp (disch := omega) only [go_sem, Nat.reduceBEq, Nat.reduceBeqDiff, Nat.reduceEqDiff, ↓reduceIte, reduceCtorEq, Nat.reduceAdd, Nat.reduceMul, Nat.reduceLeDiff, Nat.reduceLT, Int.reduceLT, Int.reduceLE, Int.reduceEq, h3d]); rfl) rfl ?_ | (refine hK _ ?_; clear hK K) | (refine stepG_split (fun hb => ?_) (fun hb => ?_) <;> (have hb2 := hb; try simp only [boolS] at hb2) <;> ((first | have hb3 : (_ : Bool) = _ := hb2 | have hb3 := eq_false hb2 | have hb3 := eq_true hb2); (simp (disch := omega) only [go_sem, Nat.reduceBEq, Nat.reduceBeqDiff, Nat.reduceEqDiff, ↓reduceIte, reduceCtorEq, Nat.reduceAdd, Nat.reduceMul, Nat.reduceLeDiff, Nat.reduceLT, Int.reduceLT, Int.reduceLE, Int.reduceEq, hb, hb3, h3d]); clear hb hb3; (try (exfalso; omega)))) | (exfalso; omega))
            refine callD_rc (PC.borrow c2 rfl 4 (optL_cons (sealD_agg (k := 3) (by simp [pureD.pureL, pureD]) (optL_cons (sealD_pure 2 rfl) (optL_cons (sealD_pure 2 rfl) (optL_cons (sealD_pure 2 rfl) (optL_cons (sealD_pure 2 rfl) (optL_cons (sealD_pure 2 rfl) (optL_cons (sealD_pure 2 (pure_encWs _)) (optL_cons (sealD_pure 2 (pure_encWs _)) (optL_cons (sealD_rowAggN (f := cellsU) (l := u.kids.set k (u.kids[k].setKind u.kind)) 1 ?_ ?_ isAggT27 sizeT27 cellsU_length pure_cellsU) optL_nil))))))))) optL_nil)) rfl ?_
            · simp
            · (simp (disch := omega) only [go_sem, Nat.reduceBEq, Nat.reduceBeqDiff, Nat.reduceEqDiff, ↓reduceIte, reduceCtorEq, Nat.reduceAdd, Nat.reduceMul, Nat.reduceLeDiff, Nat.reduceLT, Int.reduceLT, Int.reduceLE, Int.reduceEq])
            (try (simp (disch := omega) only [go_sem, Nat.reduceBEq, Nat.reduceBeqDiff, Nat.reduceEqDiff, ↓reduceIte, reduceCtorEq, Nat.reduceAdd, Nat.reduceMul, Nat.reduceLeDiff, Nat.reduceLT, Int.reduceLT, Int.reduceLE, Int.reduceEq, h3d])); repeat' (first | refine awp_assoc ?_ | ((first | refine awp_seq_reg fun K hK => ?_ | refine awp_seq_draw (by decide +kernel) fun K hK => ?_ | refine awp_reg' fun K hK => ?_ | refine awp_draw' (by decide +kernel) fun K hK => ?_); (simp (disch := omega) only [go_sem, Nat.reduceBEq, Nat.reduceBeqDiff, Nat.reduceEqDiff, ↓reduceIte, reduceCtorEq, Nat.reduceAdd, Nat.reduceMul, Nat.reduceLeDiff, Nat.reduceLT, Int.reduceLT, Int.reduceLE, Int.reduceEq, h3d])) | ((first | refine awp_seq_cond _ rfl (fun hc => ?_) (fun hc => ?_) | refine awp_cond _ rfl (fun hc => ?_) (fun hc => ?_)) <;> (first | (cases hc; done) | ((try simp only [boolS] at hc); (try (exfalso; omega))))) | refine awp_seq_block ?_ | refine awp_block ?_ | refine awp_seq_skip ?_ | refine awp_seq_ret ?_ | refine awp_seq_exit ?_ | refine awp_skip ?_ | refine awp_exit ?_ | refine awp_ret ?_ | refine seqK_n ?_ | refine seqK_e ?_ | refine seqK_r ?_ | refine blkK_n ?_ | refine blkK_e ?_ | refine blkK_o rfl ?_ | refine blkK_r ?_ | refine loopK_e ?_ | refine loopK_r ?_ | refine retQ_E (by (simp (disch := omega) only [go_sem, Nat.reduceBEq, Nat.reduceBeqDiff, Nat.reduceEqDiff, ↓reduceIte, reduceCtorEq, Nat.reduceAdd, Nat.reduceMul, Nat.reduceLeDiff, Nat.reduceLT, Int.reduceLT, Int.reduceLE, Int.reduceEq, h3d]); rfl) rfl ?_ | (refine hK _ ?_; clear hK K) | (refine stepG_split (fun hb => ?_) (fun hb => ?_) <;> (have hb2 := hb; try simp only [boolS] at hb2) <;> ((first | have hb3 : (_ : Bool) = _ := hb2 | have hb3 := eq_false hb2 | have hb3 := eq_true hb2); (simp (disch := omega) only [go_sem, Nat.reduceBEq, Nat.reduceBeqDiff, Nat.reduceEqDiff, ↓reduceIte, reduceCtorEq, Nat.reduceAdd, Nat.reduceMul, Nat.reduceLeDiff, Nat.reduceLT, Int.reduceLT, Int.reduceLE, Int.reduceEq, hb, hb3, h3d]); clear hb hb3; (try (exfalso; omega)))) | (exfalso; omega))
            exact fin_bool (by cases b <;> rfl)
          · have h3d : decide (u.kind = 3) = false := decide_eq_false h3
            rw [hb3 h3] at c2
            repeat' (first | refine awp_assoc ?_ | ((first | refine awp_seq_reg fun K hK => ?_ | refine awp_seq_draw (by decide +kernel) fun K hK => ?_ | refine awp_reg' fun K hK => ?_ | refine awp_draw' (by decide +kernel) fun K hK => ?_ | refine callW_pc (ha) ?_ | refine callD_pc (ha) ?_ | refine callW_pc (hf) ?_ | refine callD_pc (hf) ?_ | refine callW_pc (c1) ?_ | refine callD_pc (c1) ?_); (simp (disch := omega) only [go_sem, Nat.reduceBEq, Nat.reduceBeqDiff, Nat.reduceEqDiff, ↓reduceIte, reduceCtorEq, Nat.reduceAdd, Nat.reduceMul, Nat.reduceLeDiff, Nat.reduceLT, Int.reduceLT, Int.reduceLE, Int.reduceEq, encUs, cellsAll_encU, hld, hln, hkid, e1, h3d, List.set_cons_succ, List.set_cons_zero])) | ((first | refine awp_seq_cond _ rfl (fun hc => ?_) (fun hc => ?_) | refine awp_cond _ rfl (fun hc => ?_) (fun hc => ?_)) <;> (first | (cases hc; done) | ((try simp only [boolS] at hc); (try (exfalso; omega))))) | refine awp_seq_block ?_ | refine awp_block ?_ | refine awp_seq_skip ?_ | refine awp_seq_ret ?_ | refine awp_seq_exit ?_ | refine awp_skip ?_ | refine awp_exit ?_ | refine awp_ret ?_ | refine seqK_n ?_ | refine seqK_e ?_ | refine seqK_r ?_ | refine blkK_n ?_ | refine blkK_e ?_ | refine blkK_o rfl ?_ | refine blkK_r ?_ | refine loopK_e ?_ | refine loopK_r ?_ | refine retQ_E (by (simp (disch := omega) only [go_sem, Nat.reduceBEq, Nat.reduceBeqDiff, Nat.reduceEqDiff, ↓reduceIte, reduceCtorEq, Nat.reduceAdd, Nat.reduceMul, Nat.reduceLeDiff, Nat.reduceLT, Int.reduceLT, Int.reduceLE, Int.reduceEq, encUs, cellsAll_encU, hld, hln, hkid, e1, h3d, List.set_cons_succ, List.set_cons_zero]); rfl) rfl ?_ | (refine hK _ ?_; clear hK K) | (refine stepG_split (fun hb => ?_) (fun hb => ?_) <;> (have hb2 := hb; try simp only [boolS] at hb2) <;> ((first | have hb3 : (_ : Bool) = _ := hb2 | have hb3 := eq_false hb2 | have hb3 := eq_true hb2); (simp (disch := omega) only [go_sem, Nat.reduceBEq, Nat.reduceBeqDiff, Nat.reduceEqDiff, ↓reduceIte, reduceCtorEq, Nat.reduceAdd, Nat.reduceMul, Nat.reduceLeDiff, Nat.reduceLT, Int.reduceLT, Int.reduceLE, Int.reduceEq, hb, hb3, encUs, cellsAll_encU, hld, hln, hkid, e1, h3d, List.set_cons_succ, List.set_cons_zero]); clear hb hb3; (try (exfalso; omega)))) | (exfalso; omega))
            all_goals first | (rw [hq] at hc; cases hc; done) | skip
            refine callD_rc (PC.borrow c2 rfl 4 (optL_cons (sealD_agg (k := 3) (by simp [pureD.pureL, pureD]) (optL_cons (sealD_pure 2 rfl) (optL_cons (sealD_pure 2 rfl) (optL_cons (sealD_pure 2 rfl) (optL_cons (sealD_pure 2 rfl) (optL_cons (sealD_pure 2 rfl) (optL_cons (sealD_pure 2 (pure_encWs _)) (optL_cons (sealD_pure 2 (pure_encWs _)) (optL_cons (sealD_rowAggN (f := cellsU) (l := u.kids.set k (u.kids[k].setKind u.kind)) 1 ?_ ?_ isAggT27 sizeT27 cellsU_length pure_cellsU) optL_nil))))))))) optL_nil)) rfl ?_
            · simp
            · (simp (disch := omega) only [go_sem, Nat.reduceBEq, Nat.reduceBeqDiff, Nat.reduceEqDiff, ↓reduceIte, reduceCtorEq, Nat.reduceAdd, Nat.reduceMul, Nat.reduceLeDiff, Nat.reduceLT, Int.reduceLT, Int.reduceLE, Int.reduceEq])
            (try (simp (disch := omega) only [go_sem, Nat.reduceBEq, Nat.reduceBeqDiff, Nat.reduceEqDiff, ↓reduceIte, reduceCtorEq, Nat.reduceAdd, Nat.reduceMul, Nat.reduceLeDiff, Nat.reduceLT, Int.reduceLT, Int.reduceLE, Int.reduceEq, h3d])); repeat' (first | refine awp_assoc ?_ | ((first | refine awp_seq_reg fun K hK => ?_ | refine awp_seq_draw (by decide +kernel) fun K hK => ?_ | refine awp_reg' fun K hK => ?_ | refine awp_draw' (by decide +kernel) fun K hK => ?_); (simp (disch := omega) only [go_sem, Nat.reduceBEq, Nat.reduceBeqDiff, Nat.reduceEqDiff, ↓reduceIte, reduceCtorEq, Nat.reduceAdd, Nat.reduceMul, Nat.reduceLeDiff, Nat.reduceLT, Int.reduceLT, Int.reduceLE, Int.reduceEq, h3d])) | ((first | refine awp_seq_cond _ rfl (fun hc => ?_) (fun hc => ?_) | refine awp_cond _ rfl (fun hc => ?_) (fun hc => ?_)) <;> (first | (cases hc; done) | ((try simp only [boolS] at hc); (try (exfalso; omega))))) | refine awp_seq_block ?_ | refine awp_block ?_ | refine awp_seq_skip ?_ | refine awp_seq_ret ?_ | refine awp_seq_exit ?_ | refine awp_skip ?_ | refine awp_exit ?_ | refine awp_ret ?_ | refine seqK_n ?_ | refine seqK_e ?_ | refine seqK_r ?_ | refine blkK_n ?_ | refine blkK_e ?_ | refine blkK_o rfl ?_ | refine blkK_r ?_ | refine loopK_e ?_ | refine loopK_r ?_ | refine retQ_E (by (simp (disch := omega) only [go_sem, Nat.reduceBEq, Nat.reduceBeqDiff, Nat.reduceEqDiff, ↓reduceIte, reduceCtorEq, Nat.reduceAdd, Nat.reduceMul, Nat.reduceLeDiff, Nat.reduceLT, Int.reduceLT, Int.reduceLE, Int.reduceEq, h3d]); rfl) rfl ?_ | (refine hK _ ?_; clear hK K) | (refine stepG_split (fun hb => ?_) (fun hb => ?_) <;> (have hb2 := hb; try simp only [boolS] at hb2) <;> ((first | have hb3 : (_ : Bool) = _ := hb2 | have hb3 := eq_false hb2 | have hb3 := eq_true hb2); (simp (disch := omega) only [go_sem, Nat.reduceBEq, Nat.reduceBeqDiff, Nat.reduceEqDiff, ↓reduceIte, reduceCtorEq, Nat.reduceAdd, Nat.reduceMul, Nat.reduceLeDiff, Nat.reduceLT, Int.reduceLT, Int.reduceLE, Int.reduceEq, hb, hb3, h3d]); clear hb hb3; (try (exfalso; omega)))) | (exfalso; omega))
            exact fin_bool rfl
        · have e1 : ((((((((u.kids.flatMap cellsU).set (k * 8) (.int .i64 0)).set (k * 8 + 1) (.int .i64 0)).set (k * 8 + 1 + 1) (.int .i64 0)).set (k * 8 + 1 + 1 + 1) (.int .i64 0)).set (k * 8 + 1 + 1 + 1 + 1) (.str ByteArray.empty)).set (k * 8 + 1 + 1 + 1 + 1 + 1) .nil).set (k * 8 + 1 + 1 + 1 + 1 + 1 + 1) .nil).set (k * 8 + 1 + 1 + 1 + 1 + 1 + 1 + 1) .nil = ((u.kids.map some).set k none).flatMap cellsO := by
            rw [flat_some]
            exact splice_flat0 (f := cellsO) cellsO_len (y := none) (l := u.kids.map some) (i := k) (by rw [List.length_map]; exact hk)
          have c2 := (pc_ValidK u (u.kids.set k T.zero) (sz_set hs sz_zero) (cnt_set hcu (by decide +kernel))).le (ds := [.agg [.int .i64 u.id.act, .int .i64 u.id.item, .int .i64 u.id.n, .int .i64 u.kind, .str u.label, encWs u.head, encWs u.words, .rsl false 8 (((u.kids.map some).set k none).map fun o => .agg (cellsO o))]])
            (by simp only [pureD.pureL, pureD, pure_encWs, pureL_map (f := fun o => D.agg (cellsO o)) cellsO_pure, Bool.and_self]) ⟨Le.agg ⟨Le.refl _, Le.refl _, Le.refl _, Le.refl _, Le.refl _, Le.refl _, Le.refl _, Le.rslL (le_opt u.kids k), trivial⟩, trivial⟩
          rw [bad_zero u hk] at c2
          repeat' (first | refine awp_assoc ?_ | ((first | refine awp_seq_reg fun K hK => ?_ | refine awp_seq_draw (by decide +kernel) fun K hK => ?_ | refine awp_reg' fun K hK => ?_ | refine awp_draw' (by decide +kernel) fun K hK => ?_ | refine callW_pc (ha) ?_ | refine callD_pc (ha) ?_ | refine callW_pc (hf) ?_ | refine callD_pc (hf) ?_ | refine callW_pc (c1) ?_ | refine callD_pc (c1) ?_); (simp (disch := omega) only [go_sem, Nat.reduceBEq, Nat.reduceBeqDiff, Nat.reduceEqDiff, ↓reduceIte, reduceCtorEq, Nat.reduceAdd, Nat.reduceMul, Nat.reduceLeDiff, Nat.reduceLT, Int.reduceLT, Int.reduceLE, Int.reduceEq, encUs, cellsAll_encU, hld, hln, hkid, e1, List.set_cons_succ, List.set_cons_zero])) | ((first | refine awp_seq_cond _ rfl (fun hc => ?_) (fun hc => ?_) | refine awp_cond _ rfl (fun hc => ?_) (fun hc => ?_)) <;> (first | (cases hc; done) | ((try simp only [boolS] at hc); (try (exfalso; omega))))) | refine awp_seq_block ?_ | refine awp_block ?_ | refine awp_seq_skip ?_ | refine awp_seq_ret ?_ | refine awp_seq_exit ?_ | refine awp_skip ?_ | refine awp_exit ?_ | refine awp_ret ?_ | refine seqK_n ?_ | refine seqK_e ?_ | refine seqK_r ?_ | refine blkK_n ?_ | refine blkK_e ?_ | refine blkK_o rfl ?_ | refine blkK_r ?_ | refine loopK_e ?_ | refine loopK_r ?_ | refine retQ_E (by (simp (disch := omega) only [go_sem, Nat.reduceBEq, Nat.reduceBeqDiff, Nat.reduceEqDiff, ↓reduceIte, reduceCtorEq, Nat.reduceAdd, Nat.reduceMul, Nat.reduceLeDiff, Nat.reduceLT, Int.reduceLT, Int.reduceLE, Int.reduceEq, encUs, cellsAll_encU, hld, hln, hkid, e1, List.set_cons_succ, List.set_cons_zero]); rfl) rfl ?_ | (refine hK _ ?_; clear hK K) | (refine stepG_split (fun hb => ?_) (fun hb => ?_) <;> (have hb2 := hb; try simp only [boolS] at hb2) <;> ((first | have hb3 : (_ : Bool) = _ := hb2 | have hb3 := eq_false hb2 | have hb3 := eq_true hb2); (simp (disch := omega) only [go_sem, Nat.reduceBEq, Nat.reduceBeqDiff, Nat.reduceEqDiff, ↓reduceIte, reduceCtorEq, Nat.reduceAdd, Nat.reduceMul, Nat.reduceLeDiff, Nat.reduceLT, Int.reduceLT, Int.reduceLE, Int.reduceEq, hb, hb3, encUs, cellsAll_encU, hld, hln, hkid, e1, List.set_cons_succ, List.set_cons_zero]); clear hb hb3; (try (exfalso; omega)))) | (exfalso; omega))
          all_goals first | (rw [hq] at hc; cases hc; done) | skip
          refine callW_rc (PC.borrow c2 rfl 4 (optL_cons (sealD_agg (k := 3) (by simp [pureD.pureL, pureD]) (optL_cons (sealD_pure 2 rfl) (optL_cons (sealD_pure 2 rfl) (optL_cons (sealD_pure 2 rfl) (optL_cons (sealD_pure 2 rfl) (optL_cons (sealD_pure 2 rfl) (optL_cons (sealD_pure 2 (pure_encWs _)) (optL_cons (sealD_pure 2 (pure_encWs _)) (optL_cons (sealD_rowAggN (f := cellsO) (l := (u.kids.map some).set k none) 1 ?_ ?_ isAggT27 sizeT27 cellsO_len cellsO_pure) optL_nil))))))))) optL_nil)) ?_
          · simp
          · (simp (disch := omega) only [go_sem, Nat.reduceBEq, Nat.reduceBeqDiff, Nat.reduceEqDiff, ↓reduceIte, reduceCtorEq, Nat.reduceAdd, Nat.reduceMul, Nat.reduceLeDiff, Nat.reduceLT, Int.reduceLT, Int.reduceLE, Int.reduceEq])
          (try (simp (disch := omega) only [go_sem, Nat.reduceBEq, Nat.reduceBeqDiff, Nat.reduceEqDiff, ↓reduceIte, reduceCtorEq, Nat.reduceAdd, Nat.reduceMul, Nat.reduceLeDiff, Nat.reduceLT, Int.reduceLT, Int.reduceLE, Int.reduceEq])); repeat' (first | refine awp_assoc ?_ | ((first | refine awp_seq_reg fun K hK => ?_ | refine awp_seq_draw (by decide +kernel) fun K hK => ?_ | refine awp_reg' fun K hK => ?_ | refine awp_draw' (by decide +kernel) fun K hK => ?_ | refine callW_pc (c1) ?_ | refine callD_pc (c1) ?_); (simp (disch := omega) only [go_sem, Nat.reduceBEq, Nat.reduceBeqDiff, Nat.reduceEqDiff, ↓reduceIte, reduceCtorEq, Nat.reduceAdd, Nat.reduceMul, Nat.reduceLeDiff, Nat.reduceLT, Int.reduceLT, Int.reduceLE, Int.reduceEq])) | ((first | refine awp_seq_cond _ rfl (fun hc => ?_) (fun hc => ?_) | refine awp_cond _ rfl (fun hc => ?_) (fun hc => ?_)) <;> (first | (cases hc; done) | ((try simp only [boolS] at hc); (try (exfalso; omega))))) | refine awp_seq_block ?_ | refine awp_block ?_ | refine awp_seq_skip ?_ | refine awp_seq_ret ?_ | refine awp_seq_exit ?_ | refine awp_skip ?_ | refine awp_exit ?_ | refine awp_ret ?_ | refine seqK_n ?_ | refine seqK_e ?_ | refine seqK_r ?_ | refine blkK_n ?_ | refine blkK_e ?_ | refine blkK_o rfl ?_ | refine blkK_r ?_ | refine loopK_e ?_ | refine loopK_r ?_ | refine retQ_E (by (simp (disch := omega) only [go_sem, Nat.reduceBEq, Nat.reduceBeqDiff, Nat.reduceEqDiff, ↓reduceIte, reduceCtorEq, Nat.reduceAdd, Nat.reduceMul, Nat.reduceLeDiff, Nat.reduceLT, Int.reduceLT, Int.reduceLE, Int.reduceEq]); rfl) rfl ?_ | (refine hK _ ?_; clear hK K) | (refine stepG_split (fun hb => ?_) (fun hb => ?_) <;> (have hb2 := hb; try simp only [boolS] at hb2) <;> ((first | have hb3 : (_ : Bool) = _ := hb2 | have hb3 := eq_false hb2 | have hb3 := eq_true hb2); (simp (disch := omega) only [go_sem, Nat.reduceBEq, Nat.reduceBeqDiff, Nat.reduceEqDiff, ↓reduceIte, reduceCtorEq, Nat.reduceAdd, Nat.reduceMul, Nat.reduceLeDiff, Nat.reduceLT, Int.reduceLT, Int.reduceLE, Int.reduceEq, hb, hb3]); clear hb hb3; (try (exfalso; omega)))) | (exfalso; omega))
          exact fin_bool rfl
        · have e1 : (u.kids.flatMap cellsU).set (k * 8 + 6) (encWs (u.kids[k].words ++ [two])) = (u.kids.set k (u.kids[k].setWords (u.kids[k].words ++ [two]))).flatMap cellsU :=
            splice_flat (f := cellsU) (sz := 8) cellsU_length (y := u.kids[k].setWords (u.kids[k].words ++ [two])) (vs := [encWs (u.kids[k].words ++ [two])]) (o := 6) hk (by simp) (by rw [cellsU_eq, cellsU_eq]; rfl)
          have hwl : u.kids[k].words.length ≤ 300 := by
            have := hb
            unfold fewB at this
            simp only [Bool.and_eq_true] at this
            have h2 := this.2
            rw [wordsB_eq] at h2
            simp only [Bool.and_eq_true, List.all_eq_true] at h2
            have h3 := h2.2.2.2 _ (List.getElem_mem hk)
            rw [wordsB_eq] at h3
            simp only [Bool.and_eq_true, short_iff] at h3
            exact h3.2.2.1.2
          have zl : szB (u.kids[k].setWords (u.kids[k].words ++ [two])) = true := by
            obtain ⟨g0, g1, g2, g3, g4, g5, g6⟩ := (sz_iff _).1 hkz
            refine (sz_iff _).2 ⟨g0, g1, g2, by show (u.kids[k].words ++ [two]).length ≤ 1000000; simp; omega, fun w hw => ?_, g5, g6⟩
            have hw : w ∈ u.kids[k].words ++ [two] := hw
            rcases List.mem_append.1 hw with hw | hw
            · exact g4 w hw
            · simp at hw; subst hw; decide
          have c2 := pc_ValidK u (u.kids.set k (u.kids[k].setWords (u.kids[k].words ++ [two]))) (sz_set hs zl) (cnt_set hcu (hck _ rfl))
          rw [bad_kid u hk (bad_words u.kids[k])] at c2
          repeat' (first | refine awp_assoc ?_ | ((first | refine awp_seq_reg fun K hK => ?_ | refine awp_seq_draw (by decide +kernel) fun K hK => ?_ | refine awp_reg' fun K hK => ?_ | refine awp_draw' (by decide +kernel) fun K hK => ?_ | refine callW_pc (ha) ?_ | refine callD_pc (ha) ?_ | refine callW_pc (hf) ?_ | refine callD_pc (hf) ?_ | refine callW_pc (c1) ?_ | refine callD_pc (c1) ?_); (simp (disch := omega) only [go_sem, Nat.reduceBEq, Nat.reduceBeqDiff, Nat.reduceEqDiff, ↓reduceIte, reduceCtorEq, Nat.reduceAdd, Nat.reduceMul, Nat.reduceLeDiff, Nat.reduceLT, Int.reduceLT, Int.reduceLE, Int.reduceEq, encUs, cellsAll_encU, hld, hln, hkid, hwds, encWs, cellsAll_encWd, group_cellsWd, pure_cellsWd, Nat.reduceSub, List.set_cons_succ, List.set_cons_zero])) | ((first | refine awp_seq_cond _ rfl (fun hc => ?_) (fun hc => ?_) | refine awp_cond _ rfl (fun hc => ?_) (fun hc => ?_)) <;> (first | (cases hc; done) | ((try simp only [boolS] at hc); (try (exfalso; omega))))) | refine awp_seq_block ?_ | refine awp_block ?_ | refine awp_seq_skip ?_ | refine awp_seq_ret ?_ | refine awp_seq_exit ?_ | refine awp_skip ?_ | refine awp_exit ?_ | refine awp_ret ?_ | refine seqK_n ?_ | refine seqK_e ?_ | refine seqK_r ?_ | refine blkK_n ?_ | refine blkK_e ?_ | refine blkK_o rfl ?_ | refine blkK_r ?_ | refine loopK_e ?_ | refine loopK_r ?_ | refine retQ_E (by (simp (disch := omega) only [go_sem, Nat.reduceBEq, Nat.reduceBeqDiff, Nat.reduceEqDiff, ↓reduceIte, reduceCtorEq, Nat.reduceAdd, Nat.reduceMul, Nat.reduceLeDiff, Nat.reduceLT, Int.reduceLT, Int.reduceLE, Int.reduceEq, encUs, cellsAll_encU, hld, hln, hkid, hwds, encWs, cellsAll_encWd, group_cellsWd, pure_cellsWd, Nat.reduceSub, List.set_cons_succ, List.set_cons_zero]); rfl) rfl ?_ | (refine hK _ ?_; clear hK K) | (refine stepG_split (fun hb => ?_) (fun hb => ?_) <;> (have hb2 := hb; try simp only [boolS] at hb2) <;> ((first | have hb3 : (_ : Bool) = _ := hb2 | have hb3 := eq_false hb2 | have hb3 := eq_true hb2); (simp (disch := omega) only [go_sem, Nat.reduceBEq, Nat.reduceBeqDiff, Nat.reduceEqDiff, ↓reduceIte, reduceCtorEq, Nat.reduceAdd, Nat.reduceMul, Nat.reduceLeDiff, Nat.reduceLT, Int.reduceLT, Int.reduceLE, Int.reduceEq, hb, hb3, encUs, cellsAll_encU, hld, hln, hkid, hwds, encWs, cellsAll_encWd, group_cellsWd, pure_cellsWd, Nat.reduceSub, List.set_cons_succ, List.set_cons_zero]); clear hb hb3; (try (exfalso; omega)))) | (exfalso; omega))
          all_goals first | (rw [hq] at hc; cases hc; done) | skip
          refine callW_rc (PC.borrow c2 rfl 4 (optL_cons (sealD_agg (k := 3) (by simp [pureD.pureL, pureD]) (optL_cons (sealD_pure 2 rfl) (optL_cons (sealD_pure 2 rfl) (optL_cons (sealD_pure 2 rfl) (optL_cons (sealD_pure 2 rfl) (optL_cons (sealD_pure 2 rfl) (optL_cons (sealD_pure 2 (pure_encWs _)) (optL_cons (sealD_pure 2 (pure_encWs _)) (optL_cons (sealD_rowAggN (f := cellsU) (l := u.kids.set k (u.kids[k].setWords (u.kids[k].words ++ [two]))) 1 ?_ ?_ isAggT27 sizeT27 cellsU_length pure_cellsU) optL_nil))))))))) optL_nil)) ?_
          · simp
          · rw [← e1]
            (simp (disch := omega) only [go_sem, Nat.reduceBEq, Nat.reduceBeqDiff, Nat.reduceEqDiff, ↓reduceIte, reduceCtorEq, Nat.reduceAdd, Nat.reduceMul, Nat.reduceLeDiff, Nat.reduceLT, Int.reduceLT, Int.reduceLE, Int.reduceEq, encWs])
            have eg : groupD true 4 (u.kids[k].words.length + 1) (u.kids[k].words.flatMap cellsWd ++ cellsWd two) = (u.kids[k].words ++ [two]).map encWd := by
              have h := group_cellsWd (u.kids[k].words ++ [two])
              rw [List.length_append, List.flatMap_append] at h
              simpa using h
            rw [← eg]
            rfl
          (try (simp (disch := omega) only [go_sem, Nat.reduceBEq, Nat.reduceBeqDiff, Nat.reduceEqDiff, ↓reduceIte, reduceCtorEq, Nat.reduceAdd, Nat.reduceMul, Nat.reduceLeDiff, Nat.reduceLT, Int.reduceLT, Int.reduceLE, Int.reduceEq, encWs])); repeat' (first | refine awp_assoc ?_ | ((first | refine awp_seq_reg fun K hK => ?_ | refine awp_seq_draw (by decide +kernel) fun K hK => ?_ | refine awp_reg' fun K hK => ?_ | refine awp_draw' (by decide +kernel) fun K hK => ?_ | refine callW_pc (c1) ?_ | refine callD_pc (c1) ?_); (simp (disch := omega) only [go_sem, Nat.reduceBEq, Nat.reduceBeqDiff, Nat.reduceEqDiff, ↓reduceIte, reduceCtorEq, Nat.reduceAdd, Nat.reduceMul, Nat.reduceLeDiff, Nat.reduceLT, Int.reduceLT, Int.reduceLE, Int.reduceEq, encWs])) | ((first | refine awp_seq_cond _ rfl (fun hc => ?_) (fun hc => ?_) | refine awp_cond _ rfl (fun hc => ?_) (fun hc => ?_)) <;> (first | (cases hc; done) | ((try simp only [boolS] at hc); (try (exfalso; omega))))) | refine awp_seq_block ?_ | refine awp_block ?_ | refine awp_seq_skip ?_ | refine awp_seq_ret ?_ | refine awp_seq_exit ?_ | refine awp_skip ?_ | refine awp_exit ?_ | refine awp_ret ?_ | refine seqK_n ?_ | refine seqK_e ?_ | refine seqK_r ?_ | refine blkK_n ?_ | refine blkK_e ?_ | refine blkK_o rfl ?_ | refine blkK_r ?_ | refine loopK_e ?_ | refine loopK_r ?_ | refine retQ_E (by (simp (disch := omega) only [go_sem, Nat.reduceBEq, Nat.reduceBeqDiff, Nat.reduceEqDiff, ↓reduceIte, reduceCtorEq, Nat.reduceAdd, Nat.reduceMul, Nat.reduceLeDiff, Nat.reduceLT, Int.reduceLT, Int.reduceLE, Int.reduceEq, encWs]); rfl) rfl ?_ | (refine hK _ ?_; clear hK K) | (refine stepG_split (fun hb => ?_) (fun hb => ?_) <;> (have hb2 := hb; try simp only [boolS] at hb2) <;> ((first | have hb3 : (_ : Bool) = _ := hb2 | have hb3 := eq_false hb2 | have hb3 := eq_true hb2); (simp (disch := omega) only [go_sem, Nat.reduceBEq, Nat.reduceBeqDiff, Nat.reduceEqDiff, ↓reduceIte, reduceCtorEq, Nat.reduceAdd, Nat.reduceMul, Nat.reduceLeDiff, Nat.reduceLT, Int.reduceLT, Int.reduceLE, Int.reduceEq, hb, hb3, encWs]); clear hb hb3; (try (exfalso; omega)))) | (exfalso; omega))
          exact fin_bool rfl
        · repeat' (first | refine awp_assoc ?_ | ((first | refine awp_seq_reg fun K hK => ?_ | refine awp_seq_draw (by decide +kernel) fun K hK => ?_ | refine awp_reg' fun K hK => ?_ | refine awp_draw' (by decide +kernel) fun K hK => ?_ | refine callW_pc (ha) ?_ | refine callD_pc (ha) ?_ | refine callW_pc (hf) ?_ | refine callD_pc (hf) ?_ | refine callW_pc (c1) ?_ | refine callD_pc (c1) ?_); (simp (disch := omega) only [go_sem, Nat.reduceBEq, Nat.reduceBeqDiff, Nat.reduceEqDiff, ↓reduceIte, reduceCtorEq, Nat.reduceAdd, Nat.reduceMul, Nat.reduceLeDiff, Nat.reduceLT, Int.reduceLT, Int.reduceLE, Int.reduceEq, encUs, cellsAll_encU, hld, hln, hkid, List.set_cons_succ, List.set_cons_zero])) | ((first | refine awp_seq_cond _ rfl (fun hc => ?_) (fun hc => ?_) | refine awp_cond _ rfl (fun hc => ?_) (fun hc => ?_)) <;> (first | (cases hc; done) | ((try simp only [boolS] at hc); (try (exfalso; omega))))) | refine awp_seq_block ?_ | refine awp_block ?_ | refine awp_seq_skip ?_ | refine awp_seq_ret ?_ | refine awp_seq_exit ?_ | refine awp_skip ?_ | refine awp_exit ?_ | refine awp_ret ?_ | refine seqK_n ?_ | refine seqK_e ?_ | refine seqK_r ?_ | refine blkK_n ?_ | refine blkK_e ?_ | refine blkK_o rfl ?_ | refine blkK_r ?_ | refine loopK_e ?_ | refine loopK_r ?_ | refine retQ_E (by (simp (disch := omega) only [go_sem, Nat.reduceBEq, Nat.reduceBeqDiff, Nat.reduceEqDiff, ↓reduceIte, reduceCtorEq, Nat.reduceAdd, Nat.reduceMul, Nat.reduceLeDiff, Nat.reduceLT, Int.reduceLT, Int.reduceLE, Int.reduceEq, encUs, cellsAll_encU, hld, hln, hkid, List.set_cons_succ, List.set_cons_zero]); rfl) rfl ?_ | (refine hK _ ?_; clear hK K) | (refine stepG_split (fun hb => ?_) (fun hb => ?_) <;> (have hb2 := hb; try simp only [boolS] at hb2) <;> ((first | have hb3 : (_ : Bool) = _ := hb2 | have hb3 := eq_false hb2 | have hb3 := eq_true hb2); (simp (disch := omega) only [go_sem, Nat.reduceBEq, Nat.reduceBeqDiff, Nat.reduceEqDiff, ↓reduceIte, reduceCtorEq, Nat.reduceAdd, Nat.reduceMul, Nat.reduceLeDiff, Nat.reduceLT, Int.reduceLT, Int.reduceLE, Int.reduceEq, hb, hb3, encUs, cellsAll_encU, hld, hln, hkid, List.set_cons_succ, List.set_cons_zero]); clear hb hb3; (try (exfalso; omega)))) | (exfalso; omega))
          all_goals first | (rw [hq] at hc; cases hc; done) | skip
          exact fin_bool rfl
      · repeat' (first | refine awp_assoc ?_ | ((first | refine awp_seq_reg fun K hK => ?_ | refine awp_seq_draw (by decide +kernel) fun K hK => ?_ | refine awp_reg' fun K hK => ?_ | refine awp_draw' (by decide +kernel) fun K hK => ?_ | refine callW_pc (ha) ?_ | refine callD_pc (ha) ?_ | refine callW_pc (hf) ?_ | refine callD_pc (hf) ?_ | refine callW_pc (c1) ?_ | refine callD_pc (c1) ?_); (simp (disch := omega) only [go_sem, Nat.reduceBEq, Nat.reduceBeqDiff, Nat.reduceEqDiff, ↓reduceIte, reduceCtorEq, Nat.reduceAdd, Nat.reduceMul, Nat.reduceLeDiff, Nat.reduceLT, Int.reduceLT, Int.reduceLE, Int.reduceEq, encUs])) | ((first | refine awp_seq_cond _ rfl (fun hc => ?_) (fun hc => ?_) | refine awp_cond _ rfl (fun hc => ?_) (fun hc => ?_)) <;> (first | (cases hc; done) | ((try simp only [boolS] at hc); (try (exfalso; omega))))) | refine awp_seq_block ?_ | refine awp_block ?_ | refine awp_seq_skip ?_ | refine awp_seq_ret ?_ | refine awp_seq_exit ?_ | refine awp_skip ?_ | refine awp_exit ?_ | refine awp_ret ?_ | refine seqK_n ?_ | refine seqK_e ?_ | refine seqK_r ?_ | refine blkK_n ?_ | refine blkK_e ?_ | refine blkK_o rfl ?_ | refine blkK_r ?_ | refine loopK_e ?_ | refine loopK_r ?_ | refine retQ_E (by (simp (disch := omega) only [go_sem, Nat.reduceBEq, Nat.reduceBeqDiff, Nat.reduceEqDiff, ↓reduceIte, reduceCtorEq, Nat.reduceAdd, Nat.reduceMul, Nat.reduceLeDiff, Nat.reduceLT, Int.reduceLT, Int.reduceLE, Int.reduceEq, encUs]); rfl) rfl ?_ | (refine hK _ ?_; clear hK K) | (refine stepG_split (fun hb => ?_) (fun hb => ?_) <;> (have hb2 := hb; try simp only [boolS] at hb2) <;> ((first | have hb3 : (_ : Bool) = _ := hb2 | have hb3 := eq_false hb2 | have hb3 := eq_true hb2); (simp (disch := omega) only [go_sem, Nat.reduceBEq, Nat.reduceBeqDiff, Nat.reduceEqDiff, ↓reduceIte, reduceCtorEq, Nat.reduceAdd, Nat.reduceMul, Nat.reduceLeDiff, Nat.reduceLT, Int.reduceLT, Int.reduceLE, Int.reduceEq, hb, hb3, encUs]); clear hb hb3; (try (exfalso; omega)))) | (exfalso; omega))
        all_goals first | exact fin_bool rfl | (exfalso; omega)
    · rw [Bool.not_eq_true] at hv
      rw [hv] at c1
      repeat' (first | refine awp_assoc ?_ | ((first | refine awp_seq_reg fun K hK => ?_ | refine awp_seq_draw (by decide +kernel) fun K hK => ?_ | refine awp_reg' fun K hK => ?_ | refine awp_draw' (by decide +kernel) fun K hK => ?_ | refine callW_pc (ha) ?_ | refine callD_pc (ha) ?_ | refine callW_pc (hf) ?_ | refine callD_pc (hf) ?_ | refine callW_pc (c1) ?_ | refine callD_pc (c1) ?_); (simp (disch := omega) only [go_sem, Nat.reduceBEq, Nat.reduceBeqDiff, Nat.reduceEqDiff, ↓reduceIte, reduceCtorEq, Nat.reduceAdd, Nat.reduceMul, Nat.reduceLeDiff, Nat.reduceLT, Int.reduceLT, Int.reduceLE, Int.reduceEq])) | ((first | refine awp_seq_cond _ rfl (fun hc => ?_) (fun hc => ?_) | refine awp_cond _ rfl (fun hc => ?_) (fun hc => ?_)) <;> (first | (cases hc; done) | ((try simp only [boolS] at hc); (try (exfalso; omega))))) | refine awp_seq_block ?_ | refine awp_block ?_ | refine awp_seq_skip ?_ | refine awp_seq_ret ?_ | refine awp_seq_exit ?_ | refine awp_skip ?_ | refine awp_exit ?_ | refine awp_ret ?_ | refine seqK_n ?_ | refine seqK_e ?_ | refine seqK_r ?_ | refine blkK_n ?_ | refine blkK_e ?_ | refine blkK_o rfl ?_ | refine blkK_r ?_ | refine loopK_e ?_ | refine loopK_r ?_ | refine retQ_E (by (simp (disch := omega) only [go_sem, Nat.reduceBEq, Nat.reduceBeqDiff, Nat.reduceEqDiff, ↓reduceIte, reduceCtorEq, Nat.reduceAdd, Nat.reduceMul, Nat.reduceLeDiff, Nat.reduceLT, Int.reduceLT, Int.reduceLE, Int.reduceEq]); rfl) rfl ?_ | (refine hK _ ?_; clear hK K) | (refine stepG_split (fun hb => ?_) (fun hb => ?_) <;> (have hb2 := hb; try simp only [boolS] at hb2) <;> ((first | have hb3 : (_ : Bool) = _ := hb2 | have hb3 := eq_false hb2 | have hb3 := eq_true hb2); (simp (disch := omega) only [go_sem, Nat.reduceBEq, Nat.reduceBeqDiff, Nat.reduceEqDiff, ↓reduceIte, reduceCtorEq, Nat.reduceAdd, Nat.reduceMul, Nat.reduceLeDiff, Nat.reduceLT, Int.reduceLT, Int.reduceLE, Int.reduceEq, hb, hb3]); clear hb hb3; (try (exfalso; omega)))) | (exfalso; omega))
      exact fin_bool rfl
  · rw [Bool.not_eq_true] at hb
    rw [hb] at hf
    repeat' (first | refine awp_assoc ?_ | ((first | refine awp_seq_reg fun K hK => ?_ | refine awp_seq_draw (by decide +kernel) fun K hK => ?_ | refine awp_reg' fun K hK => ?_ | refine awp_draw' (by decide +kernel) fun K hK => ?_ | refine callW_pc (ha) ?_ | refine callD_pc (ha) ?_ | refine callW_pc (hf) ?_ | refine callD_pc (hf) ?_); (simp (disch := omega) only [go_sem, Nat.reduceBEq, Nat.reduceBeqDiff, Nat.reduceEqDiff, ↓reduceIte, reduceCtorEq, Nat.reduceAdd, Nat.reduceMul, Nat.reduceLeDiff, Nat.reduceLT, Int.reduceLT, Int.reduceLE, Int.reduceEq])) | ((first | refine awp_seq_cond _ rfl (fun hc => ?_) (fun hc => ?_) | refine awp_cond _ rfl (fun hc => ?_) (fun hc => ?_)) <;> (first | (cases hc; done) | ((try simp only [boolS] at hc); (try (exfalso; omega))))) | refine awp_seq_block ?_ | refine awp_block ?_ | refine awp_seq_skip ?_ | refine awp_seq_ret ?_ | refine awp_seq_exit ?_ | refine awp_skip ?_ | refine awp_exit ?_ | refine awp_ret ?_ | refine seqK_n ?_ | refine seqK_e ?_ | refine seqK_r ?_ | refine blkK_n ?_ | refine blkK_e ?_ | refine blkK_o rfl ?_ | refine blkK_r ?_ | refine loopK_e ?_ | refine loopK_r ?_ | refine retQ_E (by (simp (disch := omega) only [go_sem, Nat.reduceBEq, Nat.reduceBeqDiff, Nat.reduceEqDiff, ↓reduceIte, reduceCtorEq, Nat.reduceAdd, Nat.reduceMul, Nat.reduceLeDiff, Nat.reduceLT, Int.reduceLT, Int.reduceLE, Int.reduceEq]); rfl) rfl ?_ | (refine hK _ ?_; clear hK K) | (refine stepG_split (fun hb => ?_) (fun hb => ?_) <;> (have hb2 := hb; try simp only [boolS] at hb2) <;> ((first | have hb3 : (_ : Bool) = _ := hb2 | have hb3 := eq_false hb2 | have hb3 := eq_true hb2); (simp (disch := omega) only [go_sem, Nat.reduceBEq, Nat.reduceBeqDiff, Nat.reduceEqDiff, ↓reduceIte, reduceCtorEq, Nat.reduceAdd, Nat.reduceMul, Nat.reduceLeDiff, Nat.reduceLT, Int.reduceLT, Int.reduceLE, Int.reduceEq, hb, hb3]); clear hb hb3; (try (exfalso; omega)))) | (exfalso; omega))
    exact fin_bool rfl
end Go.Proofs.YtkhjpcmpljpmjaaDoor
