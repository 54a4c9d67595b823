/-
  What Few says; the example of the chapter; the contract of Above. No condition but lengths.
-/
import Derived.Test.YtkhjpcmpljpmjaaDoorStrip
set_option maxRecDepth 100000
set_option maxHeartbeats 8000000
set_option linter.unusedSimpArgs false
set_option linter.unusedVariables false
namespace Go.Proofs.YtkhjpcmpljpmjaaDoor
open Abs Facts Tr
attribute [local irreducible] awp
namespace Abs
theorem LeL_length : ∀ {ds es : List D}, LeL ds es → ds.length = es.length
  | [], [], _ => rfl
  | [], _ :: _, h => h.elim
  | _ :: _, [], h => h.elim
  | _ :: ds, _ :: es, h => by simp only [List.length_cons]; rw [LeL_length h.2]
theorem Le.rslL {nn : Bool} {sz : Nat} {els els' : List D} (h : LeL els els') : Le (.rsl nn sz els) (.rsl false sz els') := fun s v hr => by
  have hl := LeL_length h
  simp only [rel] at hr ⊢
  rcases hr with ⟨_, he, hv⟩ | ⟨a, cap, vs, h1, h2, h3, h4, h5⟩
  · subst he
    exact .inl ⟨trivial, List.eq_nil_of_length_eq_zero hl.symm, hv⟩
  · exact .inr ⟨a, cap, vs, by rw [← hl]; exact h1, by rw [← hl]; exact h2, h3, relAll_le h h4, h5⟩
theorem le_leaf (k : Int) (l : ByteArray) : Le (.agg [.int .i64 0, .int .i64 0, .int .i64 0, .int .i64 k, .str l, .nil, .nil, .nil]) (encU (.mk Idv.zero k l [] [] [])) := by
  rw [encU, cellsU_eq]
  exact Le.agg ⟨Le.refl _, Le.refl _, Le.refl _, Le.refl _, Le.refl _, Le.nil 4, Le.nil 4, Le.nil 8, trivial⟩
end Abs
namespace Tr
theorem loopS_mono (deep most : Int) : ∀ (l : List T), (∀ k ∈ l, ∀ (d m : Int), 0 ≤ m → 1 ≤ sizeR k d m) → ∀ n : Int, n ≤ loopS deep most (l.map sizeR) n
  | [], _, n => by simp [loopS]
  | k :: l, h, n => by
    simp only [List.map_cons, loopS]
    split
    · have h1 := h k (by simp) (deep + 1) (most - n) (by omega)
      have h2 := loopS_mono deep most l (fun q hq => h q (List.mem_cons_of_mem _ hq)) (n + sizeR k (deep + 1) (most - n))
      omega
    · omega
theorem loopS_count (deep most : Int) : ∀ (l : List T), (∀ k ∈ l, ∀ (m : Int), 0 ≤ m → sizeR k (deep + 1) m ≤ m → (cntT k : Int) = sizeR k (deep + 1) m ∧ deep + 1 + depT k ≤ 20) → ∀ n : Int, loopS deep most (l.map sizeR) n ≤ most →
    ((l.flatMap nodesT).length : Int) + n = loopS deep most (l.map sizeR) n ∧ ∀ k ∈ l, deep + 1 + depT k ≤ 20
  | [], _, n, _ => by simp [loopS]
  | k :: l, h, n, hn => by
    simp only [List.map_cons, loopS] at hn ⊢
    split at hn
    · rename_i hle
      rw [if_pos hle]
      have hm := loopS_mono deep most l (fun q _ d m hm => (sizeR_bounds q d m hm).1) (n + sizeR k (deep + 1) (most - n))
      obtain ⟨h1, h2⟩ := h k (by simp) (most - n) (by omega) (by omega)
      obtain ⟨h3, h4⟩ := loopS_count deep most l (fun q hq => h q (List.mem_cons_of_mem _ hq)) _ hn
      refine ⟨?_, fun q hq => ?_⟩
      · rw [List.flatMap_cons, List.length_append]
        have : (nodesT k).length = cntT k := rfl
        omega
      · rcases List.mem_cons.1 hq with rfl | hq
        · exact h2
        · exact h4 q hq
    · omega
theorem depF_bound (l : List T) (d : Int) (b : Int) (hb : d ≤ b) (h : ∀ k ∈ l, d + 1 + depT k ≤ b) : ∀ a : Nat, d + a ≤ b → d + ((l.map depT).foldl (fun d x => max d (1 + x)) a : Nat) ≤ b := by
  induction l with
  | nil => intro a ha; simpa using ha
  | cons k l ih =>
    intro a ha
    rw [List.map_cons, List.foldl_cons]
    have := h k (by simp)
    exact ih (fun q hq => h q (List.mem_cons_of_mem _ hq)) _ (by omega)
theorem sizeR_count : ∀ t : T, ∀ (deep most : Int), 0 ≤ most → sizeR t deep most ≤ most → (cntT t : Int) = sizeR t deep most ∧ deep + depT t ≤ 20 := by
  refine ind1 fun t ih deep most hm h => ?_
  rw [sizeR_eq] at h ⊢
  split at h
  · omega
  · rename_i hd
    rw [if_neg hd]
    obtain ⟨h1, h2⟩ := loopS_count deep most t.kids (fun k hk m hm h => ih k hk (deep + 1) m hm h) 1 h
    refine ⟨?_, ?_⟩
    · rw [cntT_eq]; omega
    · rw [depT_eq]
      exact depF_bound t.kids deep 20 (by omega) h2 0 (by omega)
theorem kids_cnt (t : T) : t.kids.length ≤ cntT t := by
  rw [cntT_eq]
  have : ∀ l : List T, l.length ≤ (l.flatMap nodesT).length := by
    intro l
    induction l with
    | nil => simp
    | cons k l ih =>
      rw [List.flatMap_cons, List.length_append, List.length_cons]
      have := cnt_pos k
      unfold cntT at this
      omega
  have := this t.kids
  omega
theorem short_iff (l : List Wd) : shortB l = true ↔ (∀ w ∈ l, w.text.size ≤ 100) ∧ l.length ≤ 300 := by
  unfold shortB
  simp only [Bool.and_eq_true, List.all_eq_true, decide_eq_true_eq]
theorem words_sz : ∀ t : T, wordsB t = true → cntT t ≤ 1000000 → szB t = true := by
  refine ind1 fun t ih h hc => ?_
  rw [wordsB_eq] at h
  simp only [Bool.and_eq_true, decide_eq_true_eq, List.all_eq_true, short_iff] at h
  obtain ⟨h1, ⟨h2, h3⟩, ⟨h4, h5⟩, h6⟩ := h
  rw [sz_iff]
  have hk := kids_cnt t
  refine ⟨by omega, by omega, fun w hw => ?_, by omega, fun w hw => ?_, by omega, fun k hk => ih k hk (h6 k hk) ?_⟩
  · have := h2 w hw; omega
  · have := h4 w hw; omega
  · have := cnt_kid hk; omega
theorem few_sz {t : T} {most : Int} (h0 : 0 ≤ most) (h1 : most ≤ 1000) (h : fewB t most = true) : szB t = true ∧ (cntT t : Int) ≤ most ∧ depT t ≤ 20 := by
  unfold fewB at h
  simp only [Bool.and_eq_true, decide_eq_true_eq] at h
  obtain ⟨g1, g2⟩ := sizeR_count t 0 most h0 h.1
  exact ⟨words_sz t h.2 (by omega), by omega, by omega⟩
/-- The example. -/
def secT (l : ByteArray) : T := .mk Idv.zero 2 ⟨#[53]⟩ [] [] [.mk Idv.zero 3 ⟨#[49]⟩ [] [] [], .mk Idv.zero 7 ⟨#[49]⟩ [] [] [], .mk Idv.zero 3 l [] [] []]
end Tr
theorem pc_section (l : ByteArray) : PC Tryd.prog 42 [.str l] (encU (secT l)) := by
  refine PC_intro 3 rfl (pure_encU _) (AC_intro [] Tryd.func42 rfl (by decide +kernel) mixed (by decide +kernel) (by simp [Tryd.ntmps42]) ?_)
  show awp _ _ (Code.seq _ _) _ _
  rw [show Tryd.f42.results.toList = [.cell 2 27] from rfl]
  skip
  repeat' (first | refine awp_assoc ?_ | ((first | refine awp_seq_reg fun K hK => ?_ | refine awp_seq_draw (by decide +kernel) fun K hK => ?_ | refine awp_reg' fun K hK => ?_ | refine awp_draw' (by decide +kernel) fun K hK => ?_); (simp (disch := omega) only [go_sem, Nat.reduceBEq, Nat.reduceBeqDiff, Nat.reduceEqDiff, ↓reduceIte, reduceCtorEq, Nat.reduceAdd, Nat.reduceMul, Nat.reduceLeDiff, Nat.reduceLT, Int.reduceLT, Int.reduceLE, Int.reduceEq])) | ((first | refine awp_seq_cond _ rfl (fun hc => ?_) (fun hc => ?_) | refine awp_cond _ rfl (fun hc => ?_) (fun hc => ?_)) <;> (first | (cases hc; done) | ((try simp only [boolS] at hc); (try (exfalso; omega))))) | refine awp_seq_block ?_ | refine awp_block ?_ | refine awp_seq_skip ?_ | refine awp_seq_ret ?_ | refine awp_seq_exit ?_ | refine awp_skip ?_ | refine awp_exit ?_ | refine awp_ret ?_ | refine seqK_n ?_ | refine seqK_e ?_ | refine seqK_r ?_ | refine blkK_n ?_ | refine blkK_e ?_ | refine blkK_o rfl ?_ | refine blkK_r ?_ | refine loopK_e ?_ | refine loopK_r ?_ | refine retQ_E (by (simp (disch := omega) only [go_sem, Nat.reduceBEq, Nat.reduceBeqDiff, Nat.reduceEqDiff, ↓reduceIte, reduceCtorEq, Nat.reduceAdd, Nat.reduceMul, Nat.reduceLeDiff, Nat.reduceLT, Int.reduceLT, Int.reduceLE, Int.reduceEq]); rfl) rfl ?_ | (refine hK _ ?_; clear hK K) | (refine stepG_split (fun hb => ?_) (fun hb => ?_) <;> (have hb2 := hb; try simp only [boolS] at hb2) <;> ((first | have hb3 : (_ : Bool) = _ := hb2 | have hb3 := eq_false hb2 | have hb3 := eq_true hb2); (simp (disch := omega) only [go_sem, Nat.reduceBEq, Nat.reduceBeqDiff, Nat.reduceEqDiff, ↓reduceIte, reduceCtorEq, Nat.reduceAdd, Nat.reduceMul, Nat.reduceLeDiff, Nat.reduceLT, Int.reduceLT, Int.reduceLE, Int.reduceEq, hb, hb3]); clear hb hb3; (try (exfalso; omega)))) | (exfalso; omega))
  refine fin_pure rfl ?_
  rw [encU, cellsU_eq]
  exact Le.agg ⟨Le.refl _, Le.refl _, Le.refl _, Le.refl _, Le.refl _, Le.nil 4, Le.nil 4, Le.rslL ⟨le_leaf 3 _, le_leaf 7 _, le_leaf 3 l, trivial⟩, trivial⟩
theorem sec_sz (l : ByteArray) (h : l.size ≤ 1000000) : szB (secT l) = true := by
  have hb : ∀ k (l : ByteArray), l.size ≤ 1000000 → szB (.mk Idv.zero k l [] [] []) = true := fun k l h => by
    rw [sz_iff]
    exact ⟨h, by simp [T.head], by simp [T.head], by simp [T.words], by simp [T.words], by simp [T.kids], by simp [T.kids]⟩
  rw [sz_iff]
  refine ⟨by show (ByteArray.mk #[53]).size ≤ _; decide, by simp [secT, T.head], by simp [secT, T.head], by simp [secT, T.words], by simp [secT, T.words], by simp [secT, T.kids], fun k hk => ?_⟩
  simp only [secT, T.kids, List.mem_cons, List.not_mem_nil, or_false] at hk
  rcases hk with rfl | rfl | rfl
  · exact hb _ _ (by decide)
  · exact hb _ _ (by decide)
  · exact hb _ _ h
theorem pc_awake6 : PC Tryd.prog 11 [] (.bool true) := by
  have s2 := pc_section ⟨#[50]⟩
  have s1 := pc_section ⟨#[49]⟩
  have z2 := sec_sz ⟨#[50]⟩ (by decide)
  have z1 := sec_sz ⟨#[49]⟩ (by decide)
  have v2 := pc_Valid (secT ⟨#[50]⟩) z2 (by decide +kernel) (by decide +kernel)
  have v1 := pc_Valid (secT ⟨#[49]⟩) z1 (by decide +kernel) (by decide +kernel)
  have b2 := pc_IsBare (secT ⟨#[50]⟩) z2 (by decide +kernel) (by decide +kernel)
  have c2 := pc_Count (secT ⟨#[50]⟩) (sz_fit _ z2) (by decide +kernel)
  have d2 := pc_Depth (secT ⟨#[50]⟩) (sz_fit _ z2) (by decide +kernel)
  have n3 := pc_KindName 3
  rw [show validT (secT ⟨#[50]⟩) = true from by decide +kernel] at v2 b2
  rw [show validT (secT ⟨#[49]⟩) = false from by decide +kernel] at v1
  rw [show decide (secT ⟨#[50]⟩ = stripT (secT ⟨#[50]⟩)) = true from by decide +kernel] at b2
  rw [show ((cntT (secT ⟨#[50]⟩) : Nat) : Int) = 4 from by decide +kernel] at c2
  rw [show ((depT (secT ⟨#[50]⟩) : Nat) : Int) = 1 from by decide +kernel] at d2
  rw [show nameK 3 = ⟨#[112, 97, 114, 97, 103, 114, 97, 112, 104]⟩ from by decide +kernel] at n3
  refine PC_intro 1 rfl rfl (AC_intro [] Tryd.func11 rfl (by decide +kernel) mixed (by decide +kernel) (by simp [Tryd.ntmps11]) ?_)
  show awp _ _ (Code.seq _ _) _ _
  skip
  repeat' (first | refine awp_assoc ?_ | ((first | refine awp_seq_reg fun K hK => ?_ | refine awp_seq_draw (by decide +kernel) fun K hK => ?_ | refine awp_reg' fun K hK => ?_ | refine awp_draw' (by decide +kernel) fun K hK => ?_ | refine callW_pc (s2) ?_ | refine callD_pc (s2) ?_ | refine callW_pc (s1) ?_ | refine callD_pc (s1) ?_ | refine callW_pc (v2) ?_ | refine callD_pc (v2) ?_ | refine callW_pc (v1) ?_ | refine callD_pc (v1) ?_ | refine callW_pc (b2) ?_ | refine callD_pc (b2) ?_ | refine callW_pc (c2) ?_ | refine callD_pc (c2) ?_ | refine callW_pc (d2) ?_ | refine callD_pc (d2) ?_ | refine callW_pc (n3) ?_ | refine callD_pc (n3) ?_); (simp (disch := omega) only [go_sem, Nat.reduceBEq, Nat.reduceBeqDiff, Nat.reduceEqDiff, ↓reduceIte, reduceCtorEq, Nat.reduceAdd, Nat.reduceMul, Nat.reduceLeDiff, Nat.reduceLT, Int.reduceLT, Int.reduceLE, Int.reduceEq])) | ((first | refine awp_seq_cond _ rfl (fun hc => ?_) (fun hc => ?_) | refine awp_cond _ rfl (fun hc => ?_) (fun hc => ?_)) <;> (first | (cases hc; done) | ((try simp only [boolS] at hc); (try (exfalso; omega))))) | refine awp_seq_block ?_ | refine awp_block ?_ | refine awp_seq_skip ?_ | refine awp_seq_ret ?_ | refine awp_seq_exit ?_ | refine awp_skip ?_ | refine awp_exit ?_ | refine awp_ret ?_ | refine seqK_n ?_ | refine seqK_e ?_ | refine seqK_r ?_ | refine blkK_n ?_ | refine blkK_e ?_ | refine blkK_o rfl ?_ | refine blkK_r ?_ | refine loopK_e ?_ | refine loopK_r ?_ | refine retQ_E (by (simp (disch := omega) only [go_sem, Nat.reduceBEq, Nat.reduceBeqDiff, Nat.reduceEqDiff, ↓reduceIte, reduceCtorEq, Nat.reduceAdd, Nat.reduceMul, Nat.reduceLeDiff, Nat.reduceLT, Int.reduceLT, Int.reduceLE, Int.reduceEq]); rfl) rfl ?_ | (refine hK _ ?_; clear hK K) | (refine stepG_split (fun hb => ?_) (fun hb => ?_) <;> (have hb2 := hb; try simp only [boolS] at hb2) <;> ((first | have hb3 : (_ : Bool) = _ := hb2 | have hb3 := eq_false hb2 | have hb3 := eq_true hb2); (simp (disch := omega) only [go_sem, Nat.reduceBEq, Nat.reduceBeqDiff, Nat.reduceEqDiff, ↓reduceIte, reduceCtorEq, Nat.reduceAdd, Nat.reduceMul, Nat.reduceLeDiff, Nat.reduceLT, Int.reduceLT, Int.reduceLE, Int.reduceEq, hb, hb3]); clear hb hb3; (try (exfalso; omega)))) | (exfalso; omega))
  exact fin_bool rfl
end Go.Proofs.YtkhjpcmpljpmjaaDoor
