import Derived.Test.YtlfohdkfpdkhhaaGreatDoorWC
import Derived.WalkKit
import Derived.Lib.Walk
import Derived.Lib.SliceRun
import Derived.Lib.AppendZerosOnto
import Derived.Lib.Overlaps
import Derived.Laws.Externs
import Derived.Laws.NewBlocks
import Derived.Shelf.Spec.SlicesInsert
/-
 Lemmas of the claim. No condition but those that each names.
-/
set_option linter.unusedSimpArgs false
set_option linter.unusedVariables false
set_option maxRecDepth 100000
set_option maxHeartbeats 8000000
set_option linter.unusedSectionVars false
namespace Go.Proofs.YtlfohdkfpdkhhaaGreatDoor
section
open Abs Facts Tr
attribute [local irreducible] awp
namespace Tr
def zeg (l : List Nat) : Nat := l.foldl (fun d x => max d (1 + x)) 0
def depT (t : T) : Nat := zhm (fun _ l => zeg l) t
theorem z4r (t : T) : depT t = zeg (t.kids.map depT) := by unfold depT; rw [z45]
theorem znd (l : List Nat) (x : Nat) : zeg (l ++ [x]) = max (zeg l) (1 + x) := by unfold zeg; rw [List.foldl_append]; rfl
theorem depF_le {l : List Nat} : ∀ (a : Nat), (a <= l.foldl (fun d x => max d (1 + x)) a) /\ ∀ x ∈ l, 1 + x <= l.foldl (fun d x => max d (1 + x)) a := by
 induction l with
 | nil => intro a; simp
 | cons y l ih =>
  intro a
  simp only [List.foldl_cons]
  obtain ⟨h1, h2⟩ := ih (max a (1 + y))
  refine ⟨by omega, fun x hx => ?_⟩
  rcases List.mem_cons.1 hx with rfl | hx
  ·omega
  ·exact h2 x hx
theorem z5f {t k : T} (h : k ∈ t.kids) : 1 + depT k <= depT t := by
 rw [z4r t]
 exact (depF_le 0).2 _ (List.mem_map.2 ⟨k, h, rfl⟩)
end Tr
theorem zku : ∀ t : T, fitB t = true -> depT t <= 1000000000 -> PC Tryz.prog 78 [z0h t] (.int .i64 (depT t)) := by
 refine z4x fun t ih hfit V => ?_
 obtain ⟨h1, h2, h3, h4⟩ := (zc0 t).1 hfit
 unfold maxLen at h3
 refine z14 1 (by simp only [pureD.pureL, z01, Bool.and_self]) rfl (z10 [] Tryz.func78 rfl (by decide +kernel) z0e (by decide +kernel) (by simp [Tryz.ntmps78]) ?_)
 show awp _ _ (Code.seq _ _) _ _
 repeat' (first | refine nxt ?_ | ((refine zqh fun K J => ?_); (simp (disch := omega) only [go_sem, Nat.reduceBEq, ↓reduceIte, reduceCtorEq, Nat.reduceAdd])) | (refine J _ ?_; clear J K))
 (refine z3m (fun U st => ∃ (i : _), U = t.kids.length - i /\ st.t 3 = .int .i64 (zeg ((t.kids.take i).map depT) : Nat) /\ st.t 7 = z0r t.kids /\ st.t 8 = .int .i64 t.kids.length /\ st.t 9 = .int .i64 i /\ (i <= t.kids.length) /\ (1 <= st.nx)) ?_ ?_); rotate_left; (rintro U st ⟨i, rfl, q3, q7, q8, q9, qp0, qp1⟩); rotate_left
 ·(refine ⟨_, 0, rfl, ?_⟩); (simp (disch := omega) only [go_sem, Nat.reduceBEq, Nat.reduceLeDiff, true_and, and_true, and_self, Int.natCast_zero, List.map_nil, z0r])
  rfl
 have hin := fun (h : i < t.kids.length) => ih t.kids[i] (List.getElem_mem h) (h4 _ (List.getElem_mem h)) (by have := z5f (List.getElem_mem h); omega)
 have O := fun (h : i < t.kids.length) => z5f (t := t) (List.getElem_mem h)
 have hsn : ∀ h : i < t.kids.length, zeg ((t.kids.take (i + 1)).map depT) = max (zeg ((t.kids.take i).map depT)) (1 + depT t.kids[i]) := fun h => by
  rw [List.take_succ_eq_append_getElem h, List.map_append, List.map_cons, List.map_nil, znd]
 repeat' (first | ((first | refine zqh fun K J => ?_ | refine zqr fun K J => ?_ | refine zqs (hin (by omega)) ?_); (simp (disch := omega) only [go_sem, Nat.reduceBEq, ↓reduceIte, reduceCtorEq, Nat.reduceAdd, Nat.reduceLeDiff, q3, q7, q8, q9, z0r])) | ((refine zqd _ rfl (fun hc => ?_) (fun hc => ?_)) <;> (((try simp only [z09] at hc); (try (exfalso; omega))))) | refine nxt ?_ | refine zqz ?_ | refine zqu (by (simp (disch := omega) only [go_sem]); rfl) rfl ?_ | (refine J _ ?_; clear J K))
 ·have hs := hsn (by omega)
  (refine Exists.intro _ (And.intro ?_ ⟨i + 1, rfl, ?_⟩)); rotate_left; (simp (disch := omega) only [go_sem, Nat.reduceBEq, Nat.reduceLeDiff, q3, q7, q8, q9, true_and, and_true, Int.natCast_add, Int.natCast_one, hs]); rotate_left
  ·omega
  ·have := O (by omega); refine ⟨?_, by omega⟩
   rw [z69 (by omega)]; omega
 ·refine z1j ?_
  have hi : i = t.kids.length := by omega
  subst hi
  rw [List.take_length, <- z4r]
namespace Tr
def z2i (id : Idv) (t : T) : List T := zhm (fun t l => if t.id = id then [t] else match l.find? (fun w => !w.isEmpty) with
 | some w => t :: w
 | none => []) t
theorem zao (id : Idv) (t : T) : z2i id t = if t.id = id then [t] else match (t.kids.map (z2i id)).find? (fun w => !w.isEmpty) with
  | some w => t :: w
  | none => [] := by
 unfold z2i; rw [z45]
theorem zhh {α β : Type} (f : α -> List β) : ∀ {l : List α} {i : Nat}, (∀ j, (hj : j < i) -> (h : j < l.length) -> f l[j] = []) -> l.length <= i -> (l.map f).find? (fun w => !w.isEmpty) = none
 | [], _, _, _ => rfl
 | x :: l, i, h, hi => by
  rw [List.map_cons, List.find?_cons]
  have h0 := h 0 (by simp at hi; omega) (by simp)
  simp only [List.getElem_cons_zero] at h0
  rw [h0]
  exact zhh f (l := l) (i := i - 1) (fun j hj hl => h (j + 1) (by omega) (by simpa using hl)) (by simp at hi; omega)
theorem zhi {α β : Type} (f : α -> List β) : ∀ {l : List α} {i : Nat} (hi : i < l.length), (∀ j, (hj : j < i) -> (h : j < l.length) -> f l[j] = []) -> f l[i] ≠ [] -> (l.map f).find? (fun w => !w.isEmpty) = some (f l[i])
 | x :: l, 0, _, _, hn => by
  simp only [List.getElem_cons_zero] at hn ⊢
  rw [List.map_cons, List.find?_cons]
  cases hf : f x with
  | nil => exact (hn hf).elim
  | cons a b => rfl
 | x :: l, i + 1, hi, h, hn => by
  rw [List.map_cons, List.find?_cons]
  have h0 := h 0 (by omega) (by simp)
  simp only [List.getElem_cons_zero] at h0
  rw [h0]
  simp only [List.getElem_cons_succ] at hn ⊢
  exact zhi f (l := l) (i := i) (by simpa using hi) (fun j hj hl => h (j + 1) (by omega) (by simpa using hl)) hn
end Tr
theorem z2q : ∀ w : List T, z1v 8 (w.map z0h) = some (w.flatMap z0b)
 | [] => rfl
 | t :: w => by
  rw [List.map_cons, List.flatMap_cons]
  unfold z1v
  rw [z2q w]
  simp only [z0h, z4u, z0d, if_true]
theorem zbf (id : Idv) : ∀ t : T, (z2i id t).length <= 1 + depT t := by
 refine z4x fun t ih => ?_
 rw [zao]
 split
 ·simp
 ·split
  ·rename_i w hw
   have hm := List.mem_of_find?_eq_some hw
   obtain ⟨k, O, rfl⟩ := List.mem_map.1 hm
   have h1 := ih k O
   have h2 := z5f O
   simp only [List.length_cons]; omega
  ·simp
def zdj (w : List T) : D := if w = [] then .nil else .rsl true 8 (w.map z0h)
theorem zpg (w : List T) : pureD (zdj w) = true := by
 unfold zdj
 split
 ·rfl
 ·simp only [pureD]; exact z0s z01 w
theorem le_nn {sz : Nat} {els : List D} (h : els ≠ []) : Le (.rsl false sz els) (.rsl true sz els) := fun s v hr => by
 simp only [rel] at hr ⊢
 rcases hr with ⟨_, h1, _⟩ | hr
 ·exact (h h1).elim
 ·exact .inr hr
theorem zs1 (id : Idv) : ∀ t : T, fitB t = true -> depT t <= 1000000000 -> PC Tryz.prog 107 [z0h t, z19 id] (zdj (z2i id t)) := by
 refine z4x fun t ih hfit V => ?_
 obtain ⟨h1, h2, h3, h4⟩ := (zc0 t).1 hfit
 unfold maxLen at h3
 refine z14 3 (by simp only [pureD.pureL, z01]; rfl) (zpg _) (z10 [27] Tryz.func107 rfl (by decide +kernel) z0e (by decide +kernel) (by simp [Tryz.ntmps107]) ?_)
 show awp _ _ (Code.seq _ _) _ _
 rw [zao]
 repeat' (first | refine nxt ?_ | ((refine zqh fun K J => ?_); (simp (disch := omega) only [go_sem, Nat.reduceBEq, ↓reduceIte, reduceCtorEq, Nat.reduceAdd, Nat.reduceMul, Nat.reduceLeDiff])) | ((refine zqd _ rfl (fun hc => ?_) (fun hc => ?_)) <;> (((try simp only [z09] at hc); (try (exfalso; omega))))) | refine zqu (by (simp (disch := omega) only [go_sem]); rfl) rfl ?_ | (refine J _ ?_; clear J K))
 ·rw [if_pos (by assumption), zdj, if_neg (by simp)]
  exact z07 (z0s z01 [t]) (Le.refl _)
 ·rw [if_neg (by assumption)]
  (refine z3m (fun U st => ∃ (i : _), U = t.kids.length - i /\ st.t 2 = .ptr 0 0 /\ st.t 3 = .ptr 1 0 /\ st.t 15 = z0r t.kids /\ st.t 16 = .int .i64 t.kids.length /\ st.t 17 = .int .i64 i /\ st.H 0 = some (.box 27 (z0b t)) /\ st.H 1 = some (.box 23 (z0a id)) /\ (i <= t.kids.length) /\ (2 <= st.nx) /\ (∀ j, (hj : j < i) -> (h : j < t.kids.length) -> z2i id t.kids[j] = [])) ?_ ?_); rotate_left; (rintro U st ⟨i, rfl, q2, q3, q15, q16, q17, qH0, qH1, qp0, qp1, qp2⟩); rotate_left
  ·(refine ⟨_, 0, rfl, ?_⟩); (simp (disch := omega) only [go_sem, Nat.reduceBEq, Nat.reduceLeDiff, true_and, Int.natCast_zero, z0r, z0a])
   intro j hj; omega
  have hin := fun (h : i < t.kids.length) => ih t.kids[i] (List.getElem_mem h) (h4 _ (List.getElem_mem h)) (by have := z5f (List.getElem_mem h); omega)
  have hlen := fun (h : i < t.kids.length) => zbf id t.kids[i]
  have hdk := fun (h : i < t.kids.length) => z5f (t := t) (List.getElem_mem h)
  by_cases hw : ∃ h : i < t.kids.length, z2i id t.kids[i] = []
  ·obtain ⟨hi, hw⟩ := hw
   have hin := hin hi
   rw [hw, zdj, if_pos rfl] at hin
   repeat' (first | ((first | refine zqh fun K J => ?_ | refine zqr fun K J => ?_ | refine zqs (hin) ?_); (simp (disch := omega) only [go_sem, Nat.reduceBEq, ↓reduceIte, reduceCtorEq, Nat.reduceAdd, Nat.reduceLeDiff, q3, q15, q16, q17, qH1, z0r, z0a])) | ((first | refine zqd _ rfl (fun hc => ?_) (fun hc => ?_) | refine zqm _ rfl (fun hc => ?_) (fun hc => ?_)) <;> (first | (cases hc; done) | ((try simp only [z09] at hc); (try (exfalso; omega))))) | refine nxt ?_ | (refine J _ ?_; clear J K))
   (refine Exists.intro _ (And.intro ?_ ⟨i + 1, rfl, ?_⟩)); rotate_left; (simp (disch := omega) only [go_sem, Nat.reduceBEq, Nat.reduceLeDiff, q2, q3, q15, q16, q17, qH0, qH1, true_and, Int.natCast_add, Int.natCast_one]); rotate_left
   ·omega
   ·refine ⟨by omega, by omega, fun j hj h => ?_⟩
    by_cases e : j = i
    ·subst e; exact hw
    ·exact qp2 j (by omega) h
  ·have hin := fun h => by
    have := hin h
    rw [zdj, if_neg (fun hh => hw ⟨h, hh⟩)] at this
    exact this
   by_cases hi : i < t.kids.length
   ·have hl := hlen hi
    have hdk := hdk hi
    have hne : z2i id t.kids[i] ≠ [] := fun hh => hw ⟨hi, hh⟩
    rw [zhi (z2i id) hi qp2 hne]
    repeat' (first | ((first | refine zqh fun K J => ?_ | refine zqs (hin hi) ?_); (simp (disch := omega) only [go_sem, Nat.reduceBEq, ↓reduceIte, reduceCtorEq, Nat.reduceAdd, Nat.reduceMul, Nat.reduceLeDiff, q2, q3, q15, q16, q17, qH0, qH1, z0r, z0a, z2q])) | ((first | refine zqd _ rfl (fun hc => ?_) (fun hc => ?_) | refine zqm _ rfl (fun hc => ?_) (fun hc => ?_)) <;> (first | (cases hc; done) | ((try simp only [z09] at hc); (try (exfalso; omega))))) | refine nxt ?_ | refine zqu (by (simp (disch := omega) only [go_sem]); rfl) rfl ?_ | (refine J _ ?_; clear J K))
    have he : zdj (t :: z2i id t.kids[i]) = .rsl true 8 ((t :: z2i id t.kids[i]).map z0h) := if_neg (List.cons_ne_nil _ _)
    simp only [he]
    (simp (disch := omega) only [go_sem, Nat.reduceBEq, Nat.add_comm 1])
    refine ⟨_, z1e (l := t :: z2i id t.kids[i]) (f := z0b) 1 ?_ z0k z2s z0d z04, le_nn (by simp)⟩
    (simp (disch := omega) only [go_sem])
    rw [List.append_nil, List.flatMap_cons]
   ·rw [zhh (z2i id) qp2 (by omega)]
    repeat' (first | ((refine zqh fun K J => ?_); (simp (disch := omega) only [go_sem, Nat.reduceBEq, ↓reduceIte, q16, q17])) | ((refine zqd _ rfl (fun hc => ?_) (fun hc => ?_)) <;> (((try simp only [z09] at hc); (try (exfalso; omega))))) | refine nxt ?_ | refine zqz ?_ | refine zqu (by (simp (disch := omega) only [go_sem]); rfl) rfl ?_ | (refine J _ ?_; clear J K))
    exact z07 rfl (Le.refl _)
theorem PC_nn {P : Program} {f : FuncId} {sz : Nat} {els ds : List D} {r : D} (h1 : els = [] -> PC P f (.nil :: ds) r) (h2 : PC P f (.rsl true sz els :: ds) r) : PC P f (.rsl false sz els :: ds) r := by
 refine ⟨?_, h2.2.1, h2.2.2.1, fun s w vs e1 e2 e3 e4 => ?_⟩
 ·have := h2.1
  simpa only [pureD.pureL, pureD] using this
 ·simp only [relAll, rel] at e4
  obtain ⟨v, q, rfl, hv, hq⟩ := e4
  rcases hv with ⟨_, he, rfl⟩ | hv
  ·exact (h1 he).2.2.2 s w _ e1 e2 e3 (z0p (by simp only [rel]) hq)
  ·exact h2.2.2.2 s w _ e1 e2 e3 (z0p (by simp only [rel]; exact .inr hv) hq)
theorem z4j : ∀ l : List Wd, z1v 4 (l.map z7i) = some (l.flatMap z11)
 | [] => rfl
 | t :: w => by
  rw [List.map_cons, List.flatMap_cons]
  unfold z1v
  rw [z4j w]
  rfl
theorem za7 (l : List Wd) : pureD.pureL (l.flatMap z11) = true := z1y (fun _ => rfl) l
theorem z99 (l : List Wd) : z1m true 4 l.length (l.flatMap z11) = l.map z7i := z8g (f := z11) (sz := 4) (fun _ => rfl) l
theorem zmb (l : List Wd) (hl : l.length <= 1000000000000) : PC Tryz.prog 61 [z0n l] (z0n l) := by
  refine PC_nn (fun he => ?_) ?_
  · refine z14 2 rfl (z0i l) (z10 [1000005, 1000007] Tryz.func61 rfl (by decide +kernel) z0e (by decide +kernel) (by simp [Tryz.ntmps61]) ?_)
    show awp _ _ (Code.seq _ _) _ _
    repeat' (first | refine nxt ?_ | ((refine zqh fun K J => ?_); (simp (disch := omega) only [go_sem, Nat.reduceBEq, ↓reduceIte])) | ((refine zqd _ rfl (fun hc => ?_) (fun hc => ?_)) <;> (first | (cases hc; done) | ((try simp only [] at hc); (try (exfalso; omega))))) | refine zqu (by (simp (disch := omega) only [go_sem]); rfl) rfl ?_ | (refine J _ ?_; clear J K))
    exact z07 rfl (by have h2 : z0n l = .rsl false 4 [] := by unfold z0n; rw [he]
                      rw [h2]; exact Le.nil 4)
  · refine z14 2 (by simp only [pureD.pureL, pureD, z0s (f := z7i) (fun _ => rfl) l, Bool.and_self]) (z0i l) (z10 [1000005, 1000007] Tryz.func61 rfl (by decide +kernel) z0e (by decide +kernel) (by simp [Tryz.ntmps61]) ?_)
    show awp _ _ (Code.seq _ _) _ _
    repeat' (first | refine nxt ?_ | ((refine zqh fun K J => ?_); (simp (disch := omega) only [go_sem, Nat.reduceBEq, ↓reduceIte, reduceCtorEq, Nat.reduceAdd, Nat.reduceMul, z4j, za7, z99])) | ((refine zqd _ rfl (fun hc => ?_) (fun hc => ?_)) <;> (first | (cases hc; done) | ((try simp only [] at hc); (try (exfalso; omega))))) | refine zqu (by (simp (disch := omega) only [go_sem]); rfl) rfl ?_ | (refine J _ ?_; clear J K))
    exact z07 (z0i l) (Le.refl _)
namespace Tr
def smB (t : T) : Bool := zhm (fun t l => decide (t.head.length <= 1000000) && (decide (t.words.length <= 1000000) && (decide (t.kids.length <= 1000000) && l.all id))) t
theorem zmc (t : T) : smB t = true ↔ t.head.length <= 1000000 /\ t.words.length <= 1000000 /\ t.kids.length <= 1000000 /\ ∀ k ∈ t.kids, smB k = true := by
 unfold smB
 rw [z45]
 simp only [List.all_map, Bool.and_eq_true, decide_eq_true_iff, List.all_eq_true]
 rfl
theorem zmd : ∀ t : T, smB t = true -> fitB t = true := by
 refine z4x fun t ih h => ?_
 obtain ⟨h1, h2, h3, h4⟩ := (zmc t).1 h
 exact (zc0 t).2 ⟨by unfold maxLen; omega, by unfold maxLen; omega, by unfold maxLen; omega, fun k O => ih k O (h4 k O)⟩
end Tr
theorem zwp : ∀ t : T, smB t = true -> PC Tryz.prog 108 [z0h t] (z0h t) := by
 refine z4x fun t ih hfit => ?_
 obtain ⟨h1, h2, h3, h4⟩ := (zmc t).1 hfit
 have hc1 := zmb t.head (by omega)
 have hc2 := zmb t.words (by omega)
 refine z14 4 (by simp only [pureD.pureL, z01, Bool.and_self]) (z01 _) (z10 [3] Tryz.func108 rfl (by decide +kernel) z0e (by decide +kernel) (by simp [Tryz.ntmps108]) ?_)
 show awp _ _ (Code.seq _ _) _ _
 rw [show Tryz.f108.results.toList = [.cell 2 27] from rfl]
 rw [z0h, z0l]
 repeat' (first | refine nxt ?_ | ((first | refine zqh fun K J => ?_ | refine zqe (by decide +kernel) fun K J => ?_ | refine zqt (hc1) ?_ | refine zqt (hc2) ?_); (simp (disch := omega) only [go_sem, Nat.reduceBEq, ↓reduceIte, reduceCtorEq, Nat.reduceAdd])) | (refine J _ ?_; clear J K))
 (refine z3m (fun U st => ∃ (i : _), U = t.kids.length - i /\ st.t 1 = .ptr 0 0 /\ st.t 2 = .ptr 1 0 /\ st.t 3 = .osl 2 i /\ st.t 15 = z0r t.kids /\ st.t 16 = .int .i64 t.kids.length /\ st.t 17 = .int .i64 i /\ st.H 2 = some (.row 27 i ((t.kids.take i).flatMap z0b)) /\ st.H 0 = some (.box 27 [.int .i64 t.id.act, .int .i64 t.id.item, .int .i64 t.id.n, .int .i64 t.kind, .str t.label, z0n t.head, z0n t.words, z0r t.kids]) /\ st.H 1 = some (.box 27 [.int .i64 0, .int .i64 0, .int .i64 0, .int .i64 0, .str ByteArray.empty, .nil, .nil, .nil]) /\ (i <= t.kids.length) /\ (3 <= st.nx)) ?_ ?_); rotate_left; (rintro U st ⟨i, rfl, q1, q2, q3, q15, q16, q17, qH2, qH0, qH1, qp0, qp1⟩); rotate_left
 ·(refine ⟨_, 0, rfl, ?_⟩); (simp (disch := omega) only [go_sem, Nat.reduceBEq, Nat.reduceLeDiff, true_and, and_true, and_self, Int.natCast_zero, List.flatMap_nil, z0r])
  all_goals rfl
 have hin := fun (h : i < t.kids.length) => ih t.kids[i] (List.getElem_mem h) (h4 _ (List.getElem_mem h))
 repeat' (first | ((first | refine zqh fun K J => ?_ | refine zqr fun K J => ?_ | refine zqs (hin (by omega)) ?_); (simp (disch := omega) only [go_sem, Nat.reduceBEq, ↓reduceIte, reduceCtorEq, Nat.reduceAdd, Nat.reduceMul, Nat.reduceLeDiff, Nat.reduceLT, q1, q2, q3, q15, q16, q17, qH2, qH0, qH1, z0r])) | ((refine zqd _ rfl (fun hc => ?_) (fun hc => ?_)) <;> (((try simp only [z09] at hc); (try (exfalso; omega))))) | refine nxt ?_ | refine zqz ?_ | refine zqu (by (simp (disch := omega) only [go_sem, Nat.reduceBEq, ↓reduceIte, Nat.reduceAdd, Nat.reduceLeDiff, q2, qH1]); rfl) rfl ?_ | (refine J _ ?_; clear J K))
 ·have htk := List.take_succ_eq_append_getElem (l := t.kids) (i := i) (by omega)
  (refine Exists.intro _ (And.intro ?_ ⟨i + 1, rfl, ?_⟩)); rotate_left; (simp (disch := omega) only [go_sem, Nat.reduceBEq, Nat.reduceLeDiff, q1, q2, q3, q15, q16, q17, qH2, qH0, qH1, true_and, Int.natCast_add, Int.natCast_one, List.flatMap_append, List.flatMap_cons, List.flatMap_nil, List.append_nil, htk]); rotate_left
  all_goals omega
 have hi : i = t.kids.length := by omega
 subst hi
 rw [List.take_length] at qH2
 refine z3h (z4z (k := 3) (by simp [pureD.pureL, pureD]) ?_)
 simp only [z0r]
 refine z00 (z02 2 rfl) (z00 (z02 2 rfl) (z00 (z02 2 rfl) (z00 (z02 2 rfl) (z00 (z02 2 rfl) (z00 (z02 2 (z0i _)) (z00 (z02 2 (z0i _)) (z00 ?_ z0c)))))))
 refine z1e (f := z0b) (l := t.kids) 1 ?_ z0k z2s z0d z04
 (simp (disch := omega) only [go_sem, Nat.reduceBEq, qH2])
namespace Tr
def szB (t : T) : Bool := zhm (fun t l => decide (t.label.size <= 1000000) && (decide (t.head.length <= 1000000) && ((t.head.all fun w => decide (w.text.size <= 1000000)) && (decide (t.words.length <= 1000000) && ((t.words.all fun w => decide (w.text.size <= 1000000)) && (decide (t.kids.length <= 1000000) && l.all id)))))) t
theorem z2f (t : T) : szB t = true ↔ t.label.size <= 1000000 /\ t.head.length <= 1000000 /\ (∀ w ∈ t.head, w.text.size <= 1000000) /\ t.words.length <= 1000000 /\ (∀ w ∈ t.words, w.text.size <= 1000000) /\ t.kids.length <= 1000000 /\ ∀ k ∈ t.kids, szB k = true := by
 unfold szB
 rw [z45]
 simp only [List.all_map, Bool.and_eq_true, decide_eq_true_iff, List.all_eq_true]
 rfl
theorem z8h : ∀ t : T, szB t = true -> smB t = true := by
 refine z4x fun t ih h => ?_
 obtain ⟨_, h1, _, h2, _, h3, h4⟩ := (z2f t).1 h
 exact (zmc t).2 ⟨h1, h2, h3, fun k O => ih k O (h4 k O)⟩
theorem z7u (t : T) (h : szB t = true) : fitB t = true := zmd t (z8h t h)
def z7v : ByteArray := ⟨#[]⟩
def z3i (t : T) : Bool := decide (0 <= t.kind /\ t.kind <= 7) && (decide (t.kids.length <= 64) && (zis t.head && (zis t.words && (if t.kind = 0 then decide (t.label = z7v) && (decide (t.head.length = 0) && decide (t.words.length = 0)) else z4e t.label))))
def z6e (t : T) : Int × ByteArray := (t.kind, t.label)
def z3w (t : T) : Bool := zhm (fun t l => z3i t && ((t.kids.all fun k => z1w t.kind k.kind) && (l.all id && decide ((t.kids.map z6e).Nodup)))) t
theorem z4i (t : T) : z3w t = (z3i t && ((t.kids.all fun k => z1w t.kind k.kind) && (t.kids.all z3w && decide ((t.kids.map z6e).Nodup)))) := by
 unfold z3w
 rw [z45, List.all_map]; rfl
theorem zdu {α β : Type} {f : α -> β} {l : List α} {k : Nat} (O : k < l.length) (h : ((l.take k).map f).Nodup) (h2 : ∀ j, (hj : j < k) -> f (l[j]'(by omega)) ≠ f l[k]) : ((l.take (k + 1)).map f).Nodup := by
 rw [List.take_succ_eq_append_getElem O, List.map_append, List.nodup_append]
 refine ⟨h, by simp, fun a ha b hb => ?_⟩
 simp only [List.map_cons, List.map_nil, List.mem_singleton] at hb
 subst hb
 obtain ⟨x, hx, rfl⟩ := List.mem_map.1 ha
 obtain ⟨j, hj, rfl⟩ := List.getElem_of_mem hx
 rw [List.length_take] at hj
 rw [List.getElem_take]
 exact h2 j (by omega)
theorem zjs {α β : Type} {f : α -> β} {l : List α} {j k : Nat} (hj : j < k) (O : k < l.length) (h : f (l[j]'(by omega)) = f l[k]) : ¬ (l.map f).Nodup := fun hn => by
 have h2 := (List.pairwise_iff_getElem.1 hn) j k (by simp; omega) (by simpa using O) hj
 simp only [List.getElem_map] at h2
 exact h2 h
end Tr
theorem zjt (p k : Int) : PC Tryz.prog 92 [.int .i64 p, .int .i64 k] (.bool (z1w p k)) := by
 refine z14 1 rfl rfl (z10 [] Tryz.func92 rfl (by decide +kernel) z0e (by decide +kernel) (by simp [Tryz.ntmps92]) ?_)
 show awp _ _ (Code.seq _ _) _ _
 by_cases O : 0 <= p /\ p < 8
 ·rcases zx2 O with rfl | rfl | rfl | rfl | rfl | rfl | rfl | rfl
  all_goals clear O
  all_goals (repeat' (first | refine nxt ?_ | ((refine zqh fun K J => ?_); (simp (disch := omega) only [go_sem, Nat.reduceBEq, ↓reduceIte, Int.reduceEq])) | ((first | refine zqd _ rfl (fun hc => ?_) (fun hc => ?_) | refine zqm _ rfl (fun hc => ?_) (fun hc => ?_)) <;> (first | (cases hc; done) | ((try simp only [] at hc); (try (exfalso; omega))))) | refine zqu (by (simp (disch := omega) only [go_sem]); rfl) rfl ?_ | (refine J _ ?_; clear J K) | (refine zqf (fun hb => ?_) (fun hb => ?_) <;> (have hb2 := hb; try simp only [z09] at hb2) <;> ((first | have F := eq_false hb2 | have F := eq_true hb2); (simp (disch := omega) only [go_sem, Nat.reduceBEq, ↓reduceIte, F]); clear hb F; (try (exfalso; omega))))))
  all_goals refine z03 ?_
  all_goals (simp_all [z1w, belowL]; done)
 ·rw [show z1w p k = false from if_neg O]
  repeat' (first | refine nxt ?_ | ((refine zqh fun K J => ?_); (simp (disch := omega) only [go_sem, Nat.reduceBEq, ↓reduceIte])) | ((first | refine zqd _ rfl (fun hc => ?_) (fun hc => ?_) | refine zqm _ rfl (fun hc => ?_) (fun hc => ?_)) <;> (((try simp only [z09] at hc); (try (exfalso; omega))))) | refine zqu (by (simp (disch := omega) only [go_sem]); rfl) rfl ?_ | (refine J _ ?_; clear J K))
  all_goals exact z03 rfl
theorem zvu (t : T) (hs : szB t = true) : PC Tryz.prog 91 [z0h t] (.bool (z3i t)) := by
 obtain ⟨h0, h1, g1, h2, g2, h3, _⟩ := (z2f t).1 hs
 have r1 := zxk t.head h1 (fun w hw => by have := g1 w hw; unfold maxLen; omega)
 have r2 := zxk t.words h2 (fun w hw => by have := g2 w hw; unfold maxLen; omega)
 have r3 := zre t.label (by unfold maxLen; omega)
 refine z14 1 (by simp only [pureD.pureL, z01, Bool.and_self]) rfl (z10 [] Tryz.func91 rfl (by decide +kernel) z0e (by decide +kernel) (by simp [Tryz.ntmps91]) ?_)
 show awp _ _ (Code.seq _ _) _ _
 repeat' (first | refine nxt ?_ | ((first | refine zqh fun K J => ?_ | refine zqs (r1) ?_ | refine zqs (r2) ?_ | refine zqs (r3) ?_); (simp (disch := omega) only [go_sem, Nat.reduceBEq, ↓reduceIte, reduceCtorEq, Nat.reduceAdd])) | ((refine zqd _ rfl (fun hc => ?_) (fun hc => ?_)) <;> (first | (cases hc; done) | ((try simp only [z09] at hc); (try (exfalso; omega))))) | refine zqu (by (simp (disch := omega) only [go_sem]); rfl) rfl ?_ | (refine J _ ?_; clear J K) | (refine zqf (fun hb => ?_) (fun hb => ?_) <;> (have hb2 := hb; try simp only [z09] at hb2) <;> ((first | have F : (_ : Bool) = _ := hb2 | have F := eq_false hb2 | have F := eq_true hb2); (simp (disch := omega) only [go_sem, Nat.reduceBEq, ↓reduceIte, reduceCtorEq, Nat.reduceAdd, F, z0n, z0r]); clear hb F; (try (exfalso; omega)))))
 all_goals refine z03 ?_
 all_goals unfold z3i
 all_goals first
  | (rw [decide_eq_false (by omega)]; rfl)
  | (rw [decide_eq_true (by omega), decide_eq_false (by omega)]; rfl)
  | (rw [decide_eq_true (by omega), decide_eq_true (by omega)]; simp_all [z7v]; done)
  | (rw [decide_eq_true (show 0 <= t.kind /\ t.kind <= 7 by omega), decide_eq_true (show t.kids.length <= 64 by omega)]; simp_all [z7v]; done)
  | skip
theorem pc_Right : ∀ t : T, szB t = true -> PC Tryz.prog 70 [z0h t] (.bool (z3w t)) := by
 refine z4x fun t ih hs => ?_
 have ha := zvu t hs
 obtain ⟨h0, h1, g1, h2, g2, h3, h4⟩ := (z2f t).1 hs
 rw [z4i]
 refine z14 1 (by simp only [pureD.pureL, z01, Bool.and_self]) rfl (z10 [] Tryz.func70 rfl (by decide +kernel) z0e (by decide +kernel) (by simp [Tryz.ntmps70]) ?_)
 show awp _ _ (Code.seq _ _) _ _
 repeat' (first | refine nxt ?_ | ((first | refine zqh fun K J => ?_ | refine zqs (ha) ?_); (simp (disch := omega) only [go_sem, Nat.reduceBEq, ↓reduceIte, Nat.reduceAdd, Nat.reduceLeDiff])) | ((refine zqd _ rfl (fun hc => ?_) (fun hc => ?_)) <;> (((try simp only [z09] at hc); (try (exfalso; omega))))) | refine zqu (by (simp (disch := omega) only [go_sem]); rfl) rfl ?_ | (refine J _ ?_; clear J K))
 ·exact z03 (by simp_all)
 rw [‹z3i t = true›, Bool.true_and]
 (refine z3m (fun U st => ∃ (i : _), U = t.kids.length - i /\ st.t 1 = .ptr 0 0 /\ st.t 3 = .int .i64 i /\ st.H 0 = some (.box 27 (z0b t)) /\ (i <= t.kids.length) /\ (1 <= st.nx) /\ ((t.kids.take i).all (fun k => z1w t.kind k.kind) = true) /\ ((t.kids.take i).all z3w = true) /\ (((t.kids.take i).map z6e).Nodup)) ?_ ?_); rotate_left; (rintro U st ⟨i, rfl, q1, q3, qH0, qp0, qp1, qp2, qp3, qp4⟩); rotate_left
 ·(refine ⟨_, 0, rfl, ?_⟩); (simp (disch := omega) only [go_sem, Nat.reduceBEq, Nat.reduceLeDiff, true_and, Int.natCast_zero, List.map_nil])
  all_goals simp
 have hin := fun (h : i < t.kids.length) => ih t.kids[i] (List.getElem_mem h) (h4 _ (List.getElem_mem h))
 have hn := fun (h : i < t.kids.length) => zjt t.kind t.kids[i].kind
 repeat' (first | refine nxt ?_ | ((first | refine zqh fun K J => ?_ | refine zqe (by decide +kernel) fun K J => ?_ | refine zqt (hn (by omega)) ?_ | refine zqt (hin (by omega)) ?_); (simp (disch := omega) only [go_sem, Nat.reduceBEq, ↓reduceIte, reduceCtorEq, Nat.reduceAdd, q1, q3, qH0, z0r])) | ((refine zqd _ rfl (fun hc => ?_) (fun hc => ?_)) <;> (first | (cases hc; done) | ((try simp only [z09] at hc); (try (exfalso; omega))))) | refine zqz ?_ | refine zqu (by (simp (disch := omega) only [go_sem]); rfl) rfl ?_ | (refine J _ ?_; clear J K) | (refine zqf (fun hb => ?_) (fun hb => ?_) <;> (have hb2 := hb; try simp only [z09] at hb2) <;> ((have F : (_ : Bool) = _ := hb2); (simp (disch := omega) only [go_sem, Nat.reduceBEq, ↓reduceIte, reduceCtorEq, Nat.reduceAdd, F, q1, q3, qH0, z0r]); clear hb F; (try (exfalso; omega)))))
 ·exact z03 (by rw [zae (f := z3w) (k := i) (by omega) (by assumption), Bool.false_and, Bool.and_false])
 ·(refine z3m (fun U st => ∃ (k : _), U = i - k /\ st.t 1 = .ptr 0 0 /\ st.t 3 = .int .i64 i /\ st.t 4 = .int .i64 k /\ st.H 0 = some (.box 27 (z0b t)) /\ (k <= i) /\ (1 <= st.nx) /\ (∀ j, (hj : j < k) -> (h : j < t.kids.length) -> (h2 : i < t.kids.length) -> z6e t.kids[j] ≠ z6e t.kids[i])) ?_ ?_); rotate_left; (rintro U st ⟨k, rfl, r1, r3, r4, rH0, rp0, rp1, rp2⟩); rotate_left
  ·(refine ⟨_, 0, rfl, ?_⟩); (simp (disch := omega) only [go_sem, Nat.reduceBEq, q1, q3, qH0, true_and, Int.natCast_zero])
   exact ⟨by omega, fun j hj => by omega⟩
  repeat' (first | refine nxt ?_ | ((first | refine zqh fun K J => ?_ | refine zqe (by decide +kernel) fun K J => ?_ | refine zqr fun K J => ?_); (simp (disch := omega) only [go_sem, Nat.reduceBEq, ↓reduceIte, reduceCtorEq, Nat.reduceAdd, r1, r3, r4, rH0, z0r])) | ((first | refine zqd _ rfl (fun hc => ?_) (fun hc => ?_) | refine zqm _ rfl (fun hc => ?_) (fun hc => ?_)) <;> (first | (cases hc; done) | ((try simp only [z09] at hc); (try (exfalso; omega))))) | refine zqz ?_ | refine zqu (by (simp (disch := omega) only [go_sem]); rfl) rfl ?_ | (refine J _ ?_; clear J K) | (refine zqf (fun hb => ?_) (fun hb => ?_) <;> (have hb2 := hb; try simp only [z09] at hb2) <;> ((first | have F := eq_false hb2 | have F := eq_true hb2); (simp (disch := omega) only [go_sem, Nat.reduceBEq, ↓reduceIte, reduceCtorEq, Nat.reduceAdd, F, r1, r3, r4, rH0, z0r]); clear hb F; (try (exfalso; omega)))))
  ·refine z03 ?_
   have hno := zjs (f := z6e) (l := t.kids) (j := k) (k := i) (by omega) (by omega) (by unfold z6e; rw [‹t.kids[k].kind = t.kids[i].kind›, ‹t.kids[k].label = t.kids[i].label›])
   rw [decide_eq_false hno, Bool.and_false, Bool.and_false]
  ·(refine Exists.intro _ (And.intro ?_ ⟨k + 1, rfl, ?_⟩)); rotate_left; (simp (disch := omega) only [go_sem, Nat.reduceBEq, r1, r3, r4, rH0, true_and, Int.natCast_add, Int.natCast_one]); rotate_left
   ·omega
   ·refine ⟨by omega, by omega, fun j hj h h2 => ?_⟩
    by_cases e : j = k
    ·subst e; exact fun h => absurd (congrArg Prod.snd h) (by assumption)
    ·exact rp2 j (by omega) h h2
  ·(refine Exists.intro _ (And.intro ?_ ⟨k + 1, rfl, ?_⟩)); rotate_left; (simp (disch := omega) only [go_sem, Nat.reduceBEq, r1, r3, r4, rH0, true_and, Int.natCast_add, Int.natCast_one]); rotate_left
   ·omega
   ·refine ⟨by omega, by omega, fun j hj h h2 => ?_⟩
    by_cases e : j = k
    ·subst e; exact fun h => absurd (congrArg Prod.fst h) (by assumption)
    ·exact rp2 j (by omega) h h2
  ·skip
   have hi : i < t.kids.length := by omega
   (refine Exists.intro _ (And.intro ?_ ⟨i + 1, rfl, ?_⟩)); rotate_left; (simp (disch := omega) only [go_sem, Nat.reduceBEq, true_and, Int.natCast_add, Int.natCast_one, r1, r3, rH0]); rotate_left
   ·omega
   ·exact ⟨by omega, by omega, z6n (by omega) qp2 (by assumption), z6n (by omega) qp3 (by assumption), zdu hi qp4 (fun j hj => rp2 j (by omega) (by omega) hi)⟩
 ·exact z03 (by rw [zae (f := fun k : T => z1w t.kind k.kind) (k := i) (by omega) (by assumption), Bool.false_and])
 ·refine z03 ?_
  rw [z6o (by omega) qp2, z6o (by omega) qp3]
  rw [List.take_of_length_le (by omega)] at qp4
  rw [decide_eq_true qp4]; rfl
namespace Tr
theorem z85 (t : T) : cntT t = 1 + (t.kids.flatMap z0m).length := by unfold cntT; rw [z25, List.length_cons, Nat.add_comm]
theorem z90 (l : List T) (i : Nat) : ((l.take i).flatMap z0m).length <= (l.flatMap z0m).length := by
 have : l.flatMap z0m = (l.take i).flatMap z0m ++ (l.drop i).flatMap z0m := by rw [<- List.flatMap_append, List.take_append_drop]
 rw [this, List.length_append]; omega
theorem z91 (l : List T) (i : Nat) (h : i < l.length) : ((l.take (i + 1)).flatMap z0m).length = ((l.take i).flatMap z0m).length + cntT l[i] := by
 rw [List.take_succ_eq_append_getElem h, List.flatMap_append, List.length_append]; simp [cntT]
theorem znz {t k : T} (h : k ∈ t.kids) : 1 + cntT k <= cntT t := by
 rw [z85 t]
 obtain ⟨i, hi, rfl⟩ := List.getElem_of_mem h
 have h1 := z91 t.kids i hi
 have h2 := z90 t.kids (i + 1)
 omega
theorem zg8 (t : T) : 1 <= cntT t := by rw [z85]; omega
theorem z28 (t : T) : z0j t = t.id :: t.kids.flatMap z0j := by
 unfold z0j
 rw [z25, List.map_cons, List.map_flatMap]
theorem z2c (t : T) : (z0j t).length = cntT t := by unfold z0j cntT; rw [List.length_map]
def zz0 (t : T) : Bool := (z0j t).all (fun i => decide (i = Idv.zero)) || (decide ((t.id = Idv.zero) ↔ (t.kind = 0)) && decide ((z0j t).Nodup))
def z5z (t : T) : Bool := z3w t && (decide (depT t <= 8) && (decide (cntT t <= 1024) && zz0 t))
end Tr
theorem zg9 : ∀ t : T, szB t = true -> cntT t <= 1000000000 -> PC Tryz.prog 72 [z0h t] (.int .i64 (cntT t)) := by
 refine z4x fun t ih hs hc => ?_
 obtain ⟨h0, h1, g1, h2, g2, h3, h4⟩ := (z2f t).1 hs
 have hce := z85 t
 refine z14 1 (by simp only [pureD.pureL, z01, Bool.and_self]) rfl (z10 [] Tryz.func72 rfl (by decide +kernel) z0e (by decide +kernel) (by simp [Tryz.ntmps72]) ?_)
 show awp _ _ (Code.seq _ _) _ _
 repeat' (first | refine nxt ?_ | ((refine zqh fun K J => ?_); (simp (disch := omega) only [go_sem])) | (refine J _ ?_; clear J K))
 (refine z3m (fun U st => ∃ (i : _), U = t.kids.length - i /\ st.t 1 = .ptr 0 0 /\ st.t 3 = .int .i64 (1 + ((t.kids.take i).flatMap z0m).length : Nat) /\ st.t 4 = .int .i64 i /\ st.H 0 = some (.box 27 (z0b t)) /\ (i <= t.kids.length) /\ (1 <= st.nx)) ?_ ?_); rotate_left; (rintro U st ⟨i, rfl, q1, q3, q4, qH0, qp0, qp1⟩); rotate_left
 ·(refine ⟨_, 0, rfl, ?_⟩); (simp (disch := omega) only [go_sem, Nat.reduceBEq, Nat.reduceLeDiff, and_self, Int.natCast_one, Int.natCast_zero, List.flatMap_nil])
  try simp
 have hin := fun (h : i < t.kids.length) => ih t.kids[i] (List.getElem_mem h) (h4 _ (List.getElem_mem h)) (by have := znz (List.getElem_mem h); omega)
 have hb := z90 t.kids (i + 1)
 have hsu := fun (h : i < t.kids.length) => z91 t.kids i h
 repeat' (first | refine nxt ?_ | ((first | refine zqh fun K J => ?_ | refine zqr fun K J => ?_ | refine zqs (hin (by omega)) ?_); (simp (disch := omega) only [go_sem, Nat.reduceBEq, ↓reduceIte, reduceCtorEq, Nat.reduceAdd, q1, q3, q4, qH0, z0r])) | ((refine zqd _ rfl (fun hc => ?_) (fun hc => ?_)) <;> (((try simp only [z09] at hc); (try (exfalso; omega))))) | refine zqz ?_ | refine zqu (by (simp (disch := omega) only [go_sem]); rfl) rfl ?_ | (refine J _ ?_; clear J K))
 ·have hsu := hsu (by omega)
  (refine Exists.intro _ (And.intro ?_ ⟨i + 1, rfl, ?_⟩)); rotate_left; (simp (disch := omega) only [go_sem, Nat.reduceBEq, q1, q3, q4, qH0, true_and, Int.natCast_add, Int.natCast_one, hsu]); rotate_left
  ·omega
  ·exact ⟨by omega, by omega, by omega⟩
 ·have hi : i = t.kids.length := by omega
  subst hi
  refine z1j ?_
  rw [List.take_length, hce]
theorem zga : ∀ t : T, szB t = true -> depT t <= 1000000000 -> PC Tryz.prog 71 [z0h t] (.int .i64 (depT t)) := by
 refine z4x fun t ih hs V => ?_
 obtain ⟨h0, h1, g1, h2, g2, h3, h4⟩ := (z2f t).1 hs
 refine z14 1 (by simp only [pureD.pureL, z01, Bool.and_self]) rfl (z10 [] Tryz.func71 rfl (by decide +kernel) z0e (by decide +kernel) (by simp [Tryz.ntmps71]) ?_)
 show awp _ _ (Code.seq _ _) _ _
 repeat' (first | refine nxt ?_ | ((refine zqh fun K J => ?_); (simp (disch := omega) only [go_sem])) | (refine J _ ?_; clear J K))
 (refine z3m (fun U st => ∃ (i : _), U = t.kids.length - i /\ st.t 1 = .ptr 0 0 /\ st.t 3 = .int .i64 (zeg ((t.kids.take i).map depT) : Nat) /\ st.t 4 = .int .i64 i /\ st.H 0 = some (.box 27 (z0b t)) /\ (i <= t.kids.length) /\ (1 <= st.nx)) ?_ ?_); rotate_left; (rintro U st ⟨i, rfl, q1, q3, q4, qH0, qp0, qp1⟩); rotate_left
 ·(refine ⟨_, 0, rfl, ?_⟩); (simp (disch := omega) only [go_sem, Nat.reduceBEq, Nat.reduceLeDiff, true_and, and_true, and_self, Int.natCast_zero, List.map_nil])
  rfl
 have hin := fun (h : i < t.kids.length) => ih t.kids[i] (List.getElem_mem h) (h4 _ (List.getElem_mem h)) (by have := z5f (List.getElem_mem h); omega)
 have O := fun (h : i < t.kids.length) => z5f (t := t) (List.getElem_mem h)
 have hsn : ∀ h : i < t.kids.length, zeg ((t.kids.take (i + 1)).map depT) = max (zeg ((t.kids.take i).map depT)) (1 + depT t.kids[i]) := fun h => by
  rw [List.take_succ_eq_append_getElem h, List.map_append, List.map_cons, List.map_nil, znd]
 repeat' (first | refine nxt ?_ | ((first | refine zqh fun K J => ?_ | refine zqr fun K J => ?_ | refine zqs (hin (by omega)) ?_); (simp (disch := omega) only [go_sem, Nat.reduceBEq, ↓reduceIte, reduceCtorEq, Nat.reduceAdd, q1, q3, q4, qH0, z0r])) | ((refine zqd _ rfl (fun hc => ?_) (fun hc => ?_)) <;> (((try simp only [z09] at hc); (try (exfalso; omega))))) | refine zqz ?_ | refine zqu (by (simp (disch := omega) only [go_sem]); rfl) rfl ?_ | (refine J _ ?_; clear J K))
 ·have hs := hsn (by omega)
  (refine Exists.intro _ (And.intro ?_ ⟨i + 1, rfl, ?_⟩)); rotate_left; (simp (disch := omega) only [go_sem, Nat.reduceBEq, q1, q3, q4, qH0, true_and, Int.natCast_add, Int.natCast_one, hs]); rotate_left
  ·omega
  ·have := O (by omega); refine ⟨?_, by omega⟩
   rw [z69 (by omega)]; omega
 ·refine z1j ?_
  have hi : i = t.kids.length := by omega
  subst hi
  rw [List.take_length, <- z4r]
theorem zbk : ∀ l : List Idv, z1v 3 (l.map z19) = some (l.flatMap z0a)
 | [] => rfl
 | t :: w => by
  rw [List.map_cons, List.flatMap_cons]
  unfold z1v
  rw [zbk w]
  rfl
theorem zq5 : ∀ t : T, szB t = true -> cntT t <= 1000000000 -> PC Tryz.prog 34 [z0h t] (z15 (z0j t)) := by
 refine z4x fun t ih hs hc => ?_
 obtain ⟨h0, h1, g1, h2, g2, h3, h4⟩ := (z2f t).1 hs
 have hce := z85 t
 have hle0 := z2c t
 refine z14 2 (by simp only [pureD.pureL, z01, Bool.and_self]) (z46 _) (z10 [7] Tryz.func34 rfl (by decide +kernel) z0e (by decide +kernel) (by simp [Tryz.ntmps34]) ?_)
 show awp _ _ (Code.seq _ _) _ _
 repeat' (first | refine nxt ?_ | ((refine zqh fun K J => ?_); (simp (disch := omega) only [go_sem, Nat.reduceBEq, ↓reduceIte, reduceCtorEq, Nat.reduceAdd, Nat.reduceMul, Nat.reduceLeDiff])) | (refine J _ ?_; clear J K))
 (refine z3m (fun U st => ∃ (i : _), U = t.kids.length - i /\ st.t 1 = .ptr 0 0 /\ st.t 3 = .osl 1 (1 + ((t.kids.take i).flatMap z0m).length) /\ st.t 4 = .int .i64 i /\ st.H 0 = some (.box 27 (z0b t)) /\ st.H 1 = some (.row 23 (1 + ((t.kids.take i).flatMap z0m).length) (([t.id] ++ (t.kids.take i).flatMap z0j).flatMap z0a)) /\ (i <= t.kids.length) /\ (2 <= st.nx)) ?_ ?_); rotate_left; (rintro U st ⟨i, rfl, q1, q3, q4, qH0, qH1, qp0, qp1⟩); rotate_left
 ·(refine ⟨_, 0, rfl, ?_⟩); (simp (disch := omega) only [go_sem, Nat.reduceBEq, Nat.reduceLeDiff, true_and, and_true, and_self, Int.natCast_zero, List.flatMap_nil, List.append_nil])
  try simp [z0a]
 have hin := fun (h : i < t.kids.length) => ih t.kids[i] (List.getElem_mem h) (h4 _ (List.getElem_mem h)) (by have := znz (List.getElem_mem h); omega)
 have hb := z90 t.kids (i + 1)
 by_cases hi : i < t.kids.length
 ·have hsu := z91 t.kids i hi
  have hil := z2c t.kids[i]
  have htk : (t.kids.take (i + 1)).flatMap z0j = (t.kids.take i).flatMap z0j ++ z0j t.kids[i] := by
   rw [List.take_succ_eq_append_getElem hi, List.flatMap_append]; simp
  repeat' (first | refine nxt ?_ | ((first | refine zqh fun K J => ?_ | refine zqr fun K J => ?_ | refine zqs (hin hi) ?_); (simp (disch := omega) only [go_sem, Nat.reduceBEq, ↓reduceIte, reduceCtorEq, Nat.reduceAdd, q1, q3, q4, qH0, qH1, z0r, z15, zbk])) | ((refine zqd _ rfl (fun hc => ?_) (fun hc => ?_)) <;> (((try simp only [z09] at hc); (try (exfalso; omega))))) | (refine J _ ?_; clear J K))
  (refine Exists.intro _ (And.intro ?_ ⟨i + 1, rfl, ?_⟩)); rotate_left; (simp (disch := omega) only [go_sem, Nat.reduceBEq, q1, q3, q4, qH0, qH1, true_and, Int.natCast_add, Int.natCast_one, List.flatMap_append, List.flatMap_cons, List.cons_append, List.nil_append, hsu, htk, hil, Nat.add_assoc, List.append_assoc]); rotate_left
  ·omega
  ·omega
 ·repeat' (first | refine nxt ?_ | ((refine zqh fun K J => ?_); (simp (disch := omega) only [go_sem, Nat.reduceBEq, ↓reduceIte, reduceCtorEq, Nat.reduceAdd, q1, q3, q4, qH0, z0r])) | ((refine zqd _ rfl (fun hc => ?_) (fun hc => ?_)) <;> (((try simp only [z09] at hc); (try (exfalso; omega))))) | refine zqz ?_ | refine zqu (by (simp (disch := omega) only [go_sem]); rfl) rfl ?_ | (refine J _ ?_; clear J K))
  have hi2 : i = t.kids.length := by omega
  subst hi2
  rw [List.take_length] at qH1
  have hle : 1 + (t.kids.flatMap z0m).length = (z0j t).length := by rw [hle0, hce]
  rw [hle, List.singleton_append, <- z28] at qH1
  rw [List.take_length, hle]
  refine z3h (z1e 0 ?_ z1n z82 (fun _ => rfl) (fun _ => rfl))
  simp (disch := omega) only [go_sem, qH1]
namespace Tr
theorem zcu {α : Type} (f : α -> Bool) {l : List α} {k : Nat} (h : k < l.length) : (l.take (k + 1)).all f = ((l.take k).all f && f l[k]) := by
 rw [List.take_succ_eq_append_getElem h, List.all_append, List.all_cons, List.all_nil, Bool.and_true]
theorem zok {α : Type} {l : List α} {k : Nat} (O : k < l.length) (h : (l.take k).Nodup) (h2 : ∀ j, (hj : j < k) -> l[j]'(by omega) ≠ l[k]) : (l.take (k + 1)).Nodup := by
 have := zdu (f := id) O (by simpa using h) h2
 simpa using this
theorem zwu {α : Type} {l : List α} {j k : Nat} (hj : j < k) (O : k < l.length) (h : l[j]'(by omega) = l[k]) : ¬ l.Nodup := fun hn => by
 have := zjs (f := id) hj O h
 simp at this; exact this hn
end Tr
theorem pc_IdsR (t : T) (hs : szB t = true) (hc : cntT t <= 1000000000) : PC Tryz.prog 73 [z0h t] (.bool (zz0 t)) := by
 have ha := zq5 t hs hc
 have hl := z2c t
 have hp := zg8 t
 have hid0 : ∀ h, (z0j t)[Int.toNat 0]'h = t.id := fun h => by simp [z28]
 refine z14 1 (by simp only [pureD.pureL, z01, Bool.and_self]) rfl (z10 [] Tryz.func73 rfl (by decide +kernel) z0e (by decide +kernel) (by simp [Tryz.ntmps73]) ?_)
 show awp _ _ (Code.seq _ _) _ _
 repeat' (first | refine nxt ?_ | ((first | refine zqh fun K J => ?_ | refine zqs (ha) ?_); (simp (disch := omega) only [go_sem, Nat.reduceBEq, ↓reduceIte, Nat.reduceAdd, Nat.reduceLeDiff])) | (refine J _ ?_; clear J K))
 (refine z3m (fun U st => ∃ (i : _), U = (z0j t).length - i /\ st.t 1 = .ptr 0 0 /\ st.t 3 = z15 (z0j t) /\ st.t 4 = .bool (((z0j t).take i).all fun i => decide (i = Idv.zero)) /\ st.t 5 = .int .i64 i /\ st.H 0 = some (.box 27 (z0b t)) /\ (i <= (z0j t).length) /\ (1 <= st.nx)) ?_ ?_); rotate_left; (rintro U st ⟨i, rfl, q1, q3, q4, q5, qH0, qp0, qp1⟩); rotate_left
 ·(refine ⟨_, 0, rfl, ?_⟩); (simp (disch := omega) only [go_sem, Nat.reduceBEq, Nat.reduceLeDiff, true_and, and_true, and_self, Int.natCast_zero, z15])
  try simp
 repeat' (first | refine nxt ?_ | ((first | refine zqh fun K J => ?_ | refine zqe (by decide +kernel) fun K J => ?_ | refine zqr fun K J => ?_); (simp (disch := omega) only [go_sem, Nat.reduceBEq, ↓reduceIte, reduceCtorEq, Nat.reduceAdd, q1, q3, q4, q5, qH0, z15, hid0])) | ((refine zqd _ rfl (fun hc => ?_) (fun hc => ?_)) <;> (((try simp only [z09] at hc); (try (exfalso; omega))))) | refine zqz ?_ | refine zqu (by (simp (disch := omega) only [go_sem]); rfl) rfl ?_ | (refine J _ ?_; clear J K) | (refine zqf (fun hb => ?_) (fun hb => ?_) <;> (have hb2 := hb; try simp only [z09] at hb2) <;> ((have F : (_ : Bool) = _ := hb2); (simp (disch := omega) only [go_sem, Nat.reduceBEq, ↓reduceIte, reduceCtorEq, Nat.reduceAdd, hb, q3, q5, z15]); clear hb F; (try (exfalso; omega)))))
 ·(refine Exists.intro _ (And.intro ?_ ⟨i + 1, rfl, ?_⟩)); rotate_left; (simp (disch := omega) only [go_sem, Nat.reduceBEq, q1, q3, q4, q5, qH0, true_and, Int.natCast_add, Int.natCast_one]); rotate_left
  ·omega
  ·rw [zcu _ (by omega), ‹((z0j t).take i).all _ = true›]
   exact ⟨rfl, by omega, by omega⟩
 ·(refine Exists.intro _ (And.intro ?_ ⟨i + 1, rfl, ?_⟩)); rotate_left; (simp (disch := omega) only [go_sem, Nat.reduceBEq, q1, q3, q4, q5, qH0, true_and, Int.natCast_add, Int.natCast_one]); rotate_left
  ·omega
  ·rw [zcu _ (by omega), ‹((z0j t).take i).all _ = false›]
   exact ⟨rfl, by omega, by omega⟩
 ·refine z03 ?_
  have hz : ((z0j t).all fun i => decide (i = Idv.zero)) = true := by rw [<- List.take_of_length_le (l := z0j t) (i := i) (by omega)]; assumption
  unfold zz0; rw [hz]; rfl
 ·refine z03 ?_
  have hz : ((z0j t).all fun i => decide (i = Idv.zero)) = false := by rw [<- List.take_of_length_le (l := z0j t) (i := i) (by omega)]; assumption
  have O : ¬ (t.id = Idv.zero ↔ t.kind = 0) := fun h => by
   have : decide (t.id = Idv.zero) = decide (t.kind = 0) := decide_eq_decide.2 h
   contradiction
  unfold zz0
  rw [hz, decide_eq_false O]; rfl
 ·have hz : ((z0j t).all fun i => decide (i = Idv.zero)) = false := by rw [<- List.take_of_length_le (l := z0j t) (i := i) (by omega)]; assumption
  have hbne : ∀ {a b : Bool}, (a != b) = false -> a = b := fun {a b} h => by cases a <;> cases b <;> first | rfl | cases h
  have O : (t.id = Idv.zero ↔ t.kind = 0) := by
   have h := hbne ‹(decide (t.id = Idv.zero) != decide (t.kind = 0)) = false›
   exact decide_eq_decide.1 h
  rw [show zz0 t = decide ((z0j t).Nodup) from by unfold zz0; rw [hz, decide_eq_true O]; rfl]
  (refine z3m (fun U st => ∃ (j : Nat), U = (z0j t).length - j /\ st.t 1 = .ptr 0 0 /\ st.t 3 = z15 (z0j t) /\ st.t 6 = .int .i64 j /\ st.H 0 = some (.box 27 (z0b t)) /\ (j <= (z0j t).length) /\ (((z0j t).take j).Nodup) /\ (1 <= st.nx)) ?_ ?_); rotate_left; (rintro U st ⟨j, rfl, r1, r3, r6, rH0, rp0, rp1, rp2⟩); rotate_left
  ·(refine ⟨_, 0, rfl, ?_⟩); (simp (disch := omega) only [go_sem, Nat.reduceBEq, true_and, Int.natCast_zero, z15, q1, q3, qH0])
   (repeat' (first | omega | refine And.intro ?_ ?_))
   all_goals simp
  repeat' (first | refine nxt ?_ | ((refine zqh fun K J => ?_); (simp (disch := omega) only [go_sem, Nat.reduceBEq, ↓reduceIte, r3, r6, z15])) | ((refine zqd _ rfl (fun hc => ?_) (fun hc => ?_)) <;> (((try simp only [z09] at hc); (try (exfalso; omega))))) | refine zqz ?_ | refine zqu (by (simp (disch := omega) only [go_sem]); rfl) rfl ?_ | (refine J _ ?_; clear J K))
  ·(refine z3m (fun U st => ∃ (k : Nat), U = j - k /\ st.t 1 = .ptr 0 0 /\ st.t 3 = z15 (z0j t) /\ st.t 6 = .int .i64 j /\ st.t 7 = .int .i64 k /\ st.H 0 = some (.box 27 (z0b t)) /\ (k <= j) /\ (1 <= st.nx) /\ (∀ m, (hm : m < k) -> (h : m < (z0j t).length) -> (h2 : j < (z0j t).length) -> (z0j t)[m] ≠ (z0j t)[j])) ?_ ?_); rotate_left; (rintro U st ⟨k, rfl, w1, w3, w6, w7, wH0, wp0, wp1, wp2⟩); rotate_left
   ·(refine ⟨_, 0, rfl, ?_⟩); (simp (disch := omega) only [go_sem, Nat.reduceBEq, r1, r3, r6, rH0, true_and, Int.natCast_zero, z15])
    (repeat' (first | omega | refine And.intro ?_ ?_))
    all_goals exact fun m hm => by omega
   repeat' (first | refine nxt ?_ | ((first | refine zqh fun K J => ?_ | refine zqe (by decide +kernel) fun K J => ?_ | refine zqr fun K J => ?_); (simp (disch := omega) only [go_sem, Nat.reduceBEq, ↓reduceIte, reduceCtorEq, Nat.reduceAdd, w3, w6, w7, z15])) | ((first | refine zqd _ rfl (fun hc => ?_) (fun hc => ?_) | refine zqm _ rfl (fun hc => ?_) (fun hc => ?_)) <;> (((try simp only [z09] at hc); (try (exfalso; omega))))) | refine zqz ?_ | refine zqu (by (simp (disch := omega) only [go_sem]); rfl) rfl ?_ | (refine J _ ?_; clear J K))
   ·exact z03 (decide_eq_false (zwu (j := k) (k := j) (by omega) (by omega) (by assumption))).symm
   ·(refine Exists.intro _ (And.intro ?_ ⟨k + 1, rfl, ?_⟩)); rotate_left; (simp (disch := omega) only [go_sem, Nat.reduceBEq, w1, w3, w6, w7, wH0, true_and, Int.natCast_add, Int.natCast_one, z15]); rotate_left
    ·omega
    ·refine ⟨by omega, by omega, fun m hm h h2 => ?_⟩
     by_cases e : m = k
     ·subst e; assumption
     ·exact wp2 m (by omega) h h2
   ·skip
    have hj : j < (z0j t).length := by omega
    (refine Exists.intro _ (And.intro ?_ ⟨j + 1, rfl, ?_⟩)); rotate_left; (simp (disch := omega) only [go_sem, Nat.reduceBEq, true_and, Int.natCast_add, Int.natCast_one, w1, w3, wH0]); rotate_left
    ·omega
    ·exact ⟨by omega, zok hj rp1 (fun m hm => wp2 m (by omega) (by omega) hj), by omega⟩
  ·refine z03 ?_
   rw [List.take_of_length_le (by omega)] at rp1
   exact (decide_eq_true rp1).symm
theorem pc_May (t : T) (hs : szB t = true) (hc : cntT t <= 1000000000) (V : depT t <= 1000000000) : PC Tryz.prog 45 [z0h t] (.bool (z5z t)) := by
 have h1 := pc_Right t hs
 have h2 := zga t hs V
 have h3 := zg9 t hs hc
 have h4 := pc_IdsR t hs hc
 refine z14 1 (by simp only [pureD.pureL, z01, Bool.and_self]) rfl (z10 [] Tryz.func45 rfl (by decide +kernel) z0e (by decide +kernel) (by simp [Tryz.ntmps45]) ?_)
 show awp _ _ (Code.seq _ _) _ _
 repeat' (first | ((first | refine zqh fun K J => ?_ | refine zqs (h1) ?_ | refine zqs (h2) ?_ | refine zqs (h3) ?_ | refine zqs (h4) ?_); (simp (disch := omega) only [go_sem, Nat.reduceBEq, ↓reduceIte, Nat.reduceAdd, Nat.reduceLeDiff])) | refine nxt ?_ | refine zqu (by (simp (disch := omega) only [go_sem]); rfl) rfl ?_ | (refine J _ ?_; clear J K) | (refine zqf (fun hb => ?_) (fun hb => ?_) <;> (have hb2 := hb; try simp only [z09] at hb2) <;> ((first | have F : (_ : Bool) = _ := hb2 | have F := eq_false hb2 | have F := eq_true hb2); (simp (disch := omega) only [go_sem, Nat.reduceBEq, ↓reduceIte, Nat.reduceAdd, Nat.reduceLeDiff, hb, F]); clear hb F; (try (exfalso; omega)))))
 all_goals refine z03 ?_
 all_goals unfold z5z
 all_goals (simp (disch := omega) only [decide_eq_true, decide_eq_false, Bool.true_and, Bool.false_and, Bool.and_false, *])
theorem z05 {P : Program} {H : HM} {id e : Nat} {cs : List D} (k : Nat) (hH : H id = some (.box e cs)) (ha : z0g P e = true) (hp : pureD.pureL cs = true) : z2p P H (k + 2) (.ptr id 0) = some (.rptr (.agg cs)) := by
 unfold z2p
 simp only [pureD, Bool.false_eq_true, if_false, hH, ha, true_or, and_self, if_true, zc6 k cs hp, Option.map_some]
namespace Tr
theorem zrw : ∀ t : T, smB t = true -> ∀ x ∈ z0m t, smB x = true := by
 refine z4x fun t ih h x hx => ?_
 rw [z25] at hx
 rcases List.mem_cons.1 hx with rfl | hx
 ·exact h
 ·obtain ⟨k, O, hx⟩ := List.mem_flatMap.1 hx
  exact ih k O ((zmc t).1 h |>.2.2.2 k O) x hx
theorem zkp (id : Idv) : ∀ t : T, ∀ x ∈ z2i id t, x ∈ z0m t := by
 refine z4x fun t ih x hx => ?_
 rw [zao] at hx
 split at hx
 ·rw [List.mem_singleton.1 hx]; exact z20 t
 ·split at hx
  ·rename_i w hw
   obtain ⟨k, O, rfl⟩ := List.mem_map.1 (List.mem_of_find?_eq_some hw)
   rcases List.mem_cons.1 hx with rfl | hx
   ·exact z20 _
   ·exact z2n O (ih k O x hx)
  ·cases hx
def T.zero : T := .mk Idv.zero 0 ByteArray.empty [] [] []
def z06 (id : Idv) (t : T) : T × Bool := match (z2i id t).getLast? with
 | some x => (x, true)
 | none => (T.zero, false)
def z59 (id : Idv) (t : T) : Idv × Int × Bool :=
 let w := z2i id t
 if h : w.length < 2 then (Idv.zero, -1, false) else
  let p := w[w.length - 2]
  let n := z30 (fun k => !(z2i id k).isEmpty) p.kids
  (p.id, if n < p.kids.length then (n : Int) else -1, true)
def z78 (id : Idv) (t : T) : List Idv := ((z2i id t).dropLast.map T.id).reverse
end Tr
theorem zbc {w : List T} (h : w = []) : zdj w = .nil := if_pos h
theorem z79 {w : List T} (h : w ≠ []) : zdj w = .rsl true 8 (w.map z0h) := if_neg h
theorem zfi {α : Type} : ∀ (l : List α) (h : l ≠ []), l.getLast? = some (l[l.length - 1]'(by have := List.length_pos_iff.2 h; omega))
 | l, h => by rw [List.getLast?_eq_getElem?, List.getElem?_eq_getElem (by have := List.length_pos_iff.2 h; omega)]
theorem z0u : Le (.agg [.int .i64 0, .int .i64 0, .int .i64 0, .int .i64 0, .str ByteArray.empty, .nil, .nil, .nil]) (z0h T.zero) := by
 rw [z0h, z0l]
 exact Le.agg ⟨Le.refl _, Le.refl _, Le.refl _, Le.refl _, Le.refl _, Le.nil 4, Le.nil 4, Le.nil 8, trivial⟩
theorem z7a (t : T) (hs : smB t = true) (V : depT t <= 1000000000) (id : Idv) : PC Tryz.prog 81 [z0h t, z19 id] (.tup [z0h (z06 id t).1, .bool (z06 id t).2]) := by
 have hw := zs1 id t (zmd t hs) V
 have hl := zbf id t
 refine z14 3 (by simp only [pureD.pureL, z01]; rfl) (by simp only [pureD, pureD.pureL, z01, Bool.and_self]) (z10 [] Tryz.func81 rfl (by decide +kernel) z0e (by decide +kernel) (by simp [Tryz.ntmps81]) ?_)
 show awp _ _ (Code.seq _ _) _ _
 rw [show Tryz.f81.results.toList = [.cell 4 27, .tmp 5] from rfl]
 by_cases h0 : z2i id t = []
 ·rw [zbc h0] at hw
  have hf : z06 id t = (T.zero, false) := by unfold z06; rw [h0]; rfl
  rw [hf]
  repeat' (first | refine nxt ?_ | ((first | refine zqh fun K J => ?_ | refine zqs (hw) ?_); (simp (disch := omega) only [go_sem, Nat.reduceBEq, ↓reduceIte, Nat.reduceAdd, Nat.reduceLeDiff])) | ((refine zqd _ rfl (fun hc => ?_) (fun hc => ?_)) <;> (first | (cases hc; done) | ((try simp only [] at hc); (try (exfalso; omega))))) | refine zqu (by (simp (disch := omega) only [go_sem, Nat.reduceBEq, ↓reduceIte, Nat.reduceAdd, Nat.reduceLeDiff]); rfl) rfl ?_ | (refine J _ ?_; clear J K))
  exact z07 (by simp only [pureD, pureD.pureL, Bool.and_self]) (Le.tup ⟨z0u, Le.refl _, trivial⟩)
 ·rw [z79 h0] at hw
  have hpos := List.length_pos_iff.2 h0
  have hi : (((z2i id t).length : Int) - 1).toNat = (z2i id t).length - 1 := by omega
  have hcp := zwp ((z2i id t)[(z2i id t).length - 1]'(by omega)) (zrw t hs _ (zkp id t _ (List.getElem_mem _)))
  have hf : z06 id t = ((z2i id t)[(z2i id t).length - 1]'(by omega), true) := by unfold z06; rw [zfi _ h0]
  rw [hf]
  repeat' (first | refine nxt ?_ | ((first | refine zqh fun K J => ?_ | refine zqs (hw) ?_ | refine zqs (hcp) ?_); (simp (disch := omega) only [go_sem, Nat.reduceBEq, ↓reduceIte, reduceCtorEq, Nat.reduceAdd, Nat.reduceLeDiff, hi])) | ((refine zqd _ rfl (fun hc => ?_) (fun hc => ?_)) <;> (((try simp only [z09] at hc); (try (exfalso; omega))))) | refine zqu (by (simp (disch := omega) only [go_sem, Nat.reduceBEq, ↓reduceIte, Nat.reduceLeDiff]); rfl) rfl ?_ | (refine J _ ?_; clear J K))
  exact z07 (by simp only [pureD, pureD.pureL, z04, Bool.and_self]) (Le.refl _)
theorem zu7 (t : T) (hs : smB t = true) (V : depT t <= 1000000000) (id : Idv) : PC Tryz.prog 167 [z0h t, .rptr (z19 id)] (.bool (!(z2i id t).isEmpty)) := by
 have hw := zs1 id t (zmd t hs) V
 refine z14 1 (by simp only [pureD.pureL, z01, pureD]; rfl) rfl (z10 [] Tryz.func167 rfl (by decide +kernel) z0e (by decide +kernel) (by simp [Tryz.ntmps167]) ?_)
 show awp _ _ (Code.seq _ _) _ _
 by_cases h0 : z2i id t = []
 ·rw [zbc h0] at hw
  rw [h0]
  repeat' (first | ((first | refine zqh fun K J => ?_ | refine zqs (hw) ?_); (simp (disch := omega) only [go_sem, Nat.reduceBEq, ↓reduceIte, Nat.reduceAdd, Nat.reduceLeDiff])) | refine nxt ?_ | refine zqu (by (simp (disch := omega) only [go_sem]); rfl) rfl ?_ | (refine J _ ?_; clear J K))
  exact z03 rfl
 ·rw [z79 h0] at hw
  rw [show (z2i id t).isEmpty = false from by simpa using h0]
  repeat' (first | ((first | refine zqh fun K J => ?_ | refine zqs (hw) ?_); (simp (disch := omega) only [go_sem, Nat.reduceBEq, ↓reduceIte, Nat.reduceAdd, Nat.reduceLeDiff])) | refine nxt ?_ | refine zqu (by (simp (disch := omega) only [go_sem]); rfl) rfl ?_ | (refine J _ ?_; clear J K))
  exact z03 rfl
theorem zyo : ∀ t : T, ∀ x ∈ z0m t, depT x <= depT t := by
 refine z4x fun t ih x hx => ?_
 rw [z25] at hx
 rcases List.mem_cons.1 hx with rfl | hx
 ·exact Nat.le_refl _
 ·obtain ⟨k, O, hx⟩ := List.mem_flatMap.1 hx
  have := ih k O x hx
  have := z5f O
  omega
theorem zn3 (t : T) (hs : smB t = true) (V : depT t <= 1000000000) (id : Idv) : PC Tryz.prog 115 [z0h t, z19 id] (.tup [z19 (z59 id t).1, .int .i64 (z59 id t).2.1, .bool (z59 id t).2.2]) := by
 have hw := zs1 id t (zmd t hs) V
 have hl := zbf id t
 refine z14 3 (by simp only [pureD.pureL, z01]; rfl) rfl (z10 [] Tryz.func115 rfl (by decide +kernel) z0e (by decide +kernel) (by simp [Tryz.ntmps115]) ?_)
 show awp _ _ (Code.seq _ _) _ _
 rw [show Tryz.f115.results.toList = [.cell 4 23, .tmp 5, .tmp 6] from rfl]
 by_cases h2 : (z2i id t).length < 2
 ·have hp : z59 id t = (Idv.zero, -1, false) := by unfold z59; exact dif_pos h2
  rw [hp]
  by_cases h0 : z2i id t = []
  ·rw [zbc h0] at hw
   repeat' (first | refine nxt ?_ | ((first | refine zqh fun K J => ?_ | refine zqs (hw) ?_); (simp (disch := omega) only [go_sem, Nat.reduceBEq, ↓reduceIte, Nat.reduceAdd, Nat.reduceLeDiff, Int.reduceLT])) | ((refine zqd _ rfl (fun hc => ?_) (fun hc => ?_)) <;> (first | (cases hc; done) | ((try simp only [] at hc); (try (exfalso; omega))))) | refine zqu (by (simp (disch := omega) only [go_sem, Nat.reduceBEq, ↓reduceIte, Nat.reduceAdd, Nat.reduceLeDiff]); rfl) rfl ?_ | (refine J _ ?_; clear J K))
   exact z07 rfl (Le.refl _)
  ·rw [z79 h0] at hw
   repeat' (first | refine nxt ?_ | ((first | refine zqh fun K J => ?_ | refine zqs (hw) ?_); (simp (disch := omega) only [go_sem, Nat.reduceBEq, ↓reduceIte, Nat.reduceAdd, Nat.reduceLeDiff])) | ((refine zqd _ rfl (fun hc => ?_) (fun hc => ?_)) <;> (((try simp only [z09] at hc); (try (exfalso; omega))))) | refine zqu (by (simp (disch := omega) only [go_sem, Nat.reduceBEq, ↓reduceIte, Nat.reduceAdd, Nat.reduceLeDiff]); rfl) rfl ?_ | (refine J _ ?_; clear J K))
   exact z07 rfl (Le.refl _)
 ·have h0 : z2i id t ≠ [] := fun h => by rw [h] at h2; simp at h2
  rw [z79 h0] at hw
  have hi : (((z2i id t).length : Int) - 2).toNat = (z2i id t).length - 2 := by omega
  obtain ⟨p, hpe⟩ : ∃ p, p = ((z2i id t)[(z2i id t).length - 2]'(by omega)) := ⟨_, rfl⟩
  have hpm : p ∈ z0m t := by rw [hpe]; exact zkp id t _ (List.getElem_mem _)
  have hsp := zrw t hs p hpm
  have hdp := zyo t p hpm
  obtain ⟨_, _, h3, h4⟩ := (zmc p).1 hsp
  have hpar : z59 id t = (p.id, (if z30 (fun k => !(z2i id k).isEmpty) p.kids < p.kids.length then (z30 (fun k => !(z2i id k).isEmpty) p.kids : Int) else -1), true) := by unfold z59; rw [dif_neg h2, <- hpe]
  rw [hpar]
  have hix := zd3 false p.kids (by unfold maxLen; omega) (g := 167) (cap := [.rptr (z19 id)]) (fun k => !(z2i id k).isEmpty) rfl (fun k O => zu7 k (h4 k O) (by have := z5f O; omega) id)
  repeat' (first | refine nxt ?_ | ((first | refine zqh fun K J => ?_ | refine zqs (hw) ?_); (simp (disch := omega) only [go_sem, Nat.reduceBEq, ↓reduceIte, reduceCtorEq, Nat.reduceAdd, Nat.reduceLeDiff, hi, <- hpe])) | ((refine zqd _ rfl (fun hc => ?_) (fun hc => ?_)) <;> (((try simp only [z09] at hc); (try (exfalso; omega))))) | (refine J _ ?_; clear J K))
  refine z0x (PC.borrow hix rfl 4 (z00 (z02 3 (z3k _)) (z00 (zc7 3 rfl (z00 (z05 (e := 23) (cs := z0a id) 1 ?_ z1n rfl) z0c)) z0c))) ?_
  ·(simp (disch := omega) only [go_sem, Nat.reduceBEq, z0a])
  (try (simp (disch := omega) only [go_sem, Nat.reduceBEq])); repeat' (first | ((refine zqh fun K J => ?_); (simp (disch := omega) only [go_sem, Nat.reduceBEq, ↓reduceIte, reduceCtorEq, Nat.reduceAdd, Nat.reduceLeDiff])) | refine nxt ?_ | refine zqu (by (simp (disch := omega) only [go_sem, Nat.reduceBEq, ↓reduceIte, Nat.reduceAdd, Nat.reduceLeDiff]); rfl) rfl ?_ | (refine J _ ?_; clear J K))
  exact z07 rfl (Le.refl _)
theorem zn4 (t : T) (hs : smB t = true) (V : depT t <= 1000000000) (id : Idv) : PC Tryz.prog 183 [z0h t, z19 id] (z15 (z78 id t)) := by
 have hw := zs1 id t (zmd t hs) V
 have hl := zbf id t
 refine z14 3 (by simp only [pureD.pureL, z01]; rfl) (z46 _) (z10 [5] Tryz.func183 rfl (by decide +kernel) z0e (by decide +kernel) (by simp [Tryz.ntmps183]) ?_)
 show awp _ _ (Code.seq _ _) _ _
 by_cases h0 : z2i id t = []
 ·rw [zbc h0] at hw
  have ha : z78 id t = [] := by unfold z78; rw [h0]; rfl
  rw [ha]
  repeat' (first | refine nxt ?_ | ((first | refine zqh fun K J => ?_ | refine zqs (hw) ?_); (simp (disch := omega) only [go_sem, Nat.reduceBEq, ↓reduceIte, Nat.reduceAdd, Nat.reduceLeDiff])) | (refine J _ ?_; clear J K))
  (refine z3m (fun U st => ∃ (i : Nat), U = i - i /\ st.t 5 = .osl 2 0 /\ st.t 7 = .int .i64 (-2) /\ st.H 2 = some (.row 23 0 []) /\ (i = 0)) ?_ ?_); rotate_left; (rintro U st ⟨i, rfl, q5, q7, qH2, qp0⟩); rotate_left
  ·(refine ⟨_, 0, rfl, ?_⟩); (simp (disch := omega) only [go_sem, Nat.reduceBEq, true_and, and_true, and_self])
   rfl
  repeat' (first | refine nxt ?_ | ((refine zqh fun K J => ?_); (simp (disch := omega) only [go_sem, Nat.reduceBEq, ↓reduceIte, Int.reduceLE, q5, q7])) | ((refine zqd _ rfl (fun hc => ?_) (fun hc => ?_)) <;> (first | (cases hc; done) | ((try simp only [] at hc); (try (exfalso; omega))))) | refine zqz ?_ | refine zqu (by (simp (disch := omega) only [go_sem]); rfl) rfl ?_ | (refine J _ ?_; clear J K))
  refine z3h (z1e (l := []) (f := fun i : Idv => z0a i) 1 ?_ z1n z82 (fun _ => rfl) (fun _ => rfl))
  (simp (disch := omega) only [go_sem, qH2])
  rfl
 ·rw [z79 h0] at hw
  have hpos := List.length_pos_iff.2 h0
  have hal : (z78 id t).length = (z2i id t).length - 1 := by unfold z78; simp
  have hag : ∀ k (h : k < (z78 id t).length), (z78 id t)[k] = ((z2i id t)[(z2i id t).length - 2 - k]'(by omega)).id := fun k h => by
   have h1 : k < (z2i id t).length - 1 := by omega
   have h2 := List.getElem_reverse (l := (z2i id t).dropLast.map T.id) (i := k) (by simp; omega)
   refine h2.trans ?_
   simp only [List.getElem_map, List.getElem_dropLast, List.length_map, List.length_dropLast]
   congr 1
  repeat' (first | refine nxt ?_ | ((first | refine zqh fun K J => ?_ | refine zqs (hw) ?_); (simp (disch := omega) only [go_sem, Nat.reduceBEq, ↓reduceIte, Nat.reduceAdd, Nat.reduceLeDiff])) | (refine J _ ?_; clear J K))
  (refine z3m (fun U st => ∃ (k : _), U = (z2i id t).length - k /\ st.t 5 = .osl 2 k /\ st.t 6 = .rsl true 8 ((z2i id t).map z0h) /\ st.t 7 = .int .i64 ((z2i id t).length - 2 - k) /\ st.H 2 = some (.row 23 k (((z78 id t).take k).flatMap z0a)) /\ (k <= (z78 id t).length) /\ (2 <= st.nx)) ?_ ?_); rotate_left; (rintro U st ⟨k, rfl, q5, q6, q7, qH2, qp0, qp1⟩); rotate_left
  ·(refine ⟨_, 0, rfl, ?_⟩); (simp (disch := omega) only [go_sem, Nat.reduceBEq, Nat.reduceLeDiff, true_and, and_true, and_self, Int.natCast_zero, List.flatMap_nil])
   omega
  by_cases O : k < (z78 id t).length
  ·have hidx : (((z2i id t).length : Int) - 2 - k).toNat = (z2i id t).length - 2 - k := by omega
   have hag := hag k O
   have htk := List.take_succ_eq_append_getElem O
   rw [hag] at htk
   repeat' (first | refine nxt ?_ | ((first | refine zqh fun K J => ?_ | refine zqr fun K J => ?_); (simp (disch := omega) only [go_sem, Nat.reduceBEq, ↓reduceIte, reduceCtorEq, Nat.reduceAdd, Nat.reduceMul, Nat.reduceLeDiff, q5, q6, q7, qH2, hidx])) | ((refine zqd _ rfl (fun hc => ?_) (fun hc => ?_)) <;> (((try simp only [z09] at hc); (try (exfalso; omega))))) | (refine J _ ?_; clear J K))
   (refine Exists.intro _ (And.intro ?_ ⟨k + 1, rfl, ?_⟩)); rotate_left; (simp (disch := omega) only [go_sem, Nat.reduceBEq, q5, q6, q7, qH2, true_and, Int.natCast_add, Int.natCast_one, List.flatMap_append, List.flatMap_cons, List.flatMap_nil, List.append_nil, htk, z0a]); rotate_left
   ·omega
   ·refine ⟨by omega, by omega, by omega⟩
  ·repeat' (first | refine nxt ?_ | ((refine zqh fun K J => ?_); (simp (disch := omega) only [go_sem, Nat.reduceBEq, ↓reduceIte, q5, q7])) | ((refine zqd _ rfl (fun hc => ?_) (fun hc => ?_)) <;> (((try simp only [z09] at hc); (try (exfalso; omega))))) | refine zqz ?_ | refine zqu (by (simp (disch := omega) only [go_sem]); rfl) rfl ?_ | (refine J _ ?_; clear J K))
   have hk2 : k = (z78 id t).length := by omega
   subst hk2
   rw [List.take_length] at qH2
   exact z3h (z1e 1 (by (simp (disch := omega) only [go_sem, qH2])) z1n z82 (fun _ => rfl) (fun _ => rfl))
end
section
open Abs Facts Tr
theorem zdl {P : Program} {kt : TypeId} {α : Type} [DecidableEq α] (enc : α -> D) (he : ∀ a b, eqK P kt (enc a) (enc b) = some (decide (a = b))) (v : α -> D) (k : α) :
  ∀ l : List α, z6r P kt (enc k) (l.map fun a => (enc a, v a)) = some (if k ∈ l then some (l.idxOf k, v k) else none)
 | [] => by simp [z6r]
 | a :: l => by
  simp only [List.map_cons, z6r, he]
  by_cases h : k = a
  ·subst h; simp
  ·rw [decide_eq_false h]
   simp only
   rw [zdl enc he v k l]
   by_cases h2 : k ∈ l
   ·simp only [h2, if_true, Option.map_some, List.mem_cons, or_true]
    rw [List.idxOf_cons, show (a == k) = false from by simpa using fun e => h e.symm]; rfl
   ·simp [h, h2]
theorem z6y {α : Type} [DecidableEq α] (enc : α -> D) (v : α -> D) (k : α) (x : D) : ∀ l : List α, l.Nodup -> k ∈ l -> z9q (l.map fun a => (enc a, v a)) (l.idxOf k) x = l.map fun a => (enc a, if a = k then x else v a)
 | [], _, h => by cases h
 | a :: l, hn, h => by
  simp only [List.map_cons, List.idxOf_cons]
  by_cases e : a = k
  ·subst e
   simp only [beq_self_eq_true, cond_true, z9q, if_true, List.cons.injEq, true_and]
   refine List.map_congr_left fun b hb => ?_
   have : b ≠ a := fun e => by subst e; exact (List.nodup_cons.1 hn).1 hb
   rw [if_neg this]
  ·rw [show (a == k) = false from by simpa using e]
   simp only [cond_false, z9q, if_neg e, List.cons.injEq, true_and]
   refine z6y enc v k x l (List.nodup_cons.1 hn).2 ?_
   rcases List.mem_cons.1 h with h | h
   ·exact (e h.symm).elim
   ·exact h
namespace Tr
def z3c {α : Type} [DecidableEq α] (l : List α) : List α := l.foldl (fun a x => if x ∈ a then a else a ++ [x]) []
theorem zhy {α : Type} [DecidableEq α] (l : List α) (x : α) : z3c (l ++ [x]) = if x ∈ z3c l then z3c l else z3c l ++ [x] := by unfold z3c; rw [List.foldl_append]; rfl
theorem zs7 {α : Type} [DecidableEq α] {l : List α} {i : Nat} (h : i < l.length) : z3c (l.take (i + 1)) = if l[i] ∈ z3c (l.take i) then z3c (l.take i) else z3c (l.take i) ++ [l[i]] := by
 rw [List.take_succ_eq_append_getElem h, zhy]
theorem zj8 {α : Type} {p : List α -> Prop} (h0 : p []) (h1 : ∀ l x, p l -> p (l ++ [x])) : ∀ l, p l := fun l => by
 rw [<- List.reverse_reverse l]
 induction l.reverse with
 | nil => exact h0
 | cons x l ih => rw [List.reverse_cons]; exact h1 _ _ ih
theorem zhz {α : Type} [DecidableEq α] (l : List α) : (z3c l).Nodup /\ (∀ x, x ∈ z3c l ↔ x ∈ l) /\ (z3c l).length <= l.length /\ ((z3c l).length = l.length ↔ l.Nodup) := by
 refine zj8 (p := fun l => (z3c l).Nodup /\ (∀ x, x ∈ z3c l ↔ x ∈ l) /\ (z3c l).length <= l.length /\ ((z3c l).length = l.length ↔ l.Nodup)) ?_ ?_ l
 ·exact ⟨by simp [z3c], by simp [z3c], by simp [z3c], by simp [z3c]⟩
 ·intro l x ih
  obtain ⟨h1, h2, h3, h4⟩ := ih
  rw [zhy]
  by_cases h : x ∈ z3c l
  ·rw [if_pos h]
   refine ⟨h1, fun y => ?_, by simp; omega, ?_⟩
   ·rw [h2, List.mem_append, List.mem_singleton]
    refine ⟨.inl, fun hy => ?_⟩
    rcases hy with hy | rfl
    ·exact hy
    ·exact (h2 _).1 h
   ·constructor
    ·intro hl; simp at hl; omega
    ·intro hn
     rw [List.nodup_append] at hn
     exact (hn.2.2 x ((h2 x).1 h) x (by simp) rfl).elim
  ·rw [if_neg h]
   refine ⟨?_, fun y => by rw [List.mem_append, List.mem_append, h2], by simp; omega, ?_⟩
   ·rw [List.nodup_append]
    refine ⟨h1, by simp, fun a ha b hb => ?_⟩
    rw [List.mem_singleton] at hb
    subst hb
    intro e; subst e; exact h ha
   ·rw [List.length_append, List.length_append, List.nodup_append]
    constructor
    ·intro hl
     refine ⟨h4.1 (by simpa using hl), by simp, fun a ha b hb => ?_⟩
     rw [List.mem_singleton] at hb
     subst hb
     intro e; subst e; exact h ((h2 a).2 ha)
    ·intro hn
     rw [h4.2 hn.1]
end Tr
end
section
open Abs Facts Tr
attribute [local irreducible] awp
def encC (c : Int × ByteArray) : D := .agg [.int .i64 c.1, .str c.2]
def zzl (l : List (Int × ByteArray)) : List (D × D) := l.map fun c => (encC c, .bool true)
def zuh (l : List Idv) : List (D × D) := l.map fun c => (z19 c, .bool true)
theorem eqK_C (a b : Int × ByteArray) : eqK Tryz.prog 122 (encC a) (encC b) = some (decide (a = b)) := by
 have h : ∀ c, z86 Tryz.prog 122 (encC c) = true := fun c => by simp only [encC, z86, zun, zzb]; rfl
 unfold eqK
 rw [if_pos ⟨h a, h b⟩]
 refine (eqU122 a.1 b.1 a.2 b.2).trans ?_
 obtain ⟨a1, a2⟩ := a; obtain ⟨b1, b2⟩ := b
 simp [Prod.mk.injEq]
theorem eqK_I (a b : Idv) : eqK Tryz.prog 23 (z19 a) (z19 b) = some (decide (a = b)) := by
 have h : ∀ c, z86 Tryz.prog 23 (z19 c) = true := fun c => by simp only [z19, z0a, z86, z1n, z82]; rfl
 unfold eqK
 rw [if_pos ⟨h a, h b⟩]
 refine (eqU23 a.act b.act a.item b.item a.n b.n).trans ?_
 rw [idEq']
theorem find_C (c : Int × ByteArray) (l : List (Int × ByteArray)) : (c ∈ l -> ∃ n, z6r Tryz.prog 122 (.agg [.int .i64 c.1, .str c.2]) (zzl l) = some (some (n, .bool true))) /\ (c ∉ l -> z6r Tryz.prog 122 (.agg [.int .i64 c.1, .str c.2]) (zzl l) = some none) := by
 haveI : DecidableEq (Int × ByteArray) := fun a b => decidable_of_iff (a.1 = b.1 /\ a.2 = b.2) ⟨fun h => Prod.ext h.1 h.2, fun h => by subst h; exact ⟨rfl, rfl⟩⟩
 have h := zdl encC (fun a b => (eqK_C a b).trans (by congr 1; exact decide_eq_decide.2 Iff.rfl)) (fun _ => .bool true) c l
 refine ⟨fun hm => ?_, fun hm => ?_⟩
 ·rw [if_pos hm] at h; exact ⟨_, h⟩
 ·rw [if_neg hm] at h; exact h
theorem find_I (c : Idv) (l : List Idv) : z6r Tryz.prog 23 (.agg [.int .i64 c.act, .int .i64 c.item, .int .i64 c.n]) (zuh l) = some (if c ∈ l then some (l.idxOf c, .bool true) else none) := zdl z19 eqK_I (fun _ => .bool true) c l
theorem zuv (l : List (Int × ByteArray)) (c : Int × ByteArray) : zzl l ++ [(.agg [.int .i64 c.1, .str c.2], .bool true)] = zzl (l ++ [c]) := by unfold zzl; rw [List.map_append]; rfl
theorem zuw (l : List Idv) (c : Idv) : zuh l ++ [(.agg [.int .i64 c.act, .int .i64 c.item, .int .i64 c.n], .bool true)] = zuh (l ++ [c]) := by unfold zuh; rw [List.map_append]; rfl
theorem zs9 {l : List Idv} {c : Idv} (hn : l.Nodup) (h : c ∈ l) : z9q (zuh l) (l.idxOf c) (.bool true) = zuh l := by
 unfold zuh
 rw [z6y z19 (fun _ => .bool true) c (.bool true) l hn h]
 refine List.map_congr_left fun a _ => ?_
 simp
namespace Tr
theorem zaq : ∀ t : T, szB t = true -> ∀ x ∈ z0m t, szB x = true := by
 refine z4x fun t ih h x hx => ?_
 rw [z25] at hx
 rcases List.mem_cons.1 hx with rfl | hx
 ·exact h
 ·obtain ⟨k, O, hx⟩ := List.mem_flatMap.1 hx
  obtain ⟨_, _, _, _, _, _, h4⟩ := (z2f t).1 h
  exact ih k O (h4 k O) x hx
theorem zzm {l : List Idv} (hne : l ≠ []) : (l.all fun i => decide (i = Idv.zero)) = (decide (Idv.zero ∈ z3c l) && decide ((z3c l).length = 1)) := by
 obtain ⟨h1, h2, _, _⟩ := zhz l
 rw [Bool.eq_iff_iff]
 simp only [List.all_eq_true, Bool.and_eq_true, decide_eq_true_eq]
 constructor
 ·intro h
  obtain ⟨x, hx⟩ := List.exists_mem_of_ne_nil l hne
  have hz : Idv.zero ∈ z3c l := by rw [<- h x hx]; exact (h2 x).2 hx
  refine ⟨hz, ?_⟩
  have ha : ∀ y ∈ z3c l, y = Idv.zero := fun y hy => h y ((h2 y).1 hy)
  generalize z3c l = o at h1 hz ha
  match o, h1, hz, ha with
  | [], _, hz, _ => cases hz
  | [a], _, _, _ => rfl
  | a :: b :: r, h1, _, ha =>
   have e1 := ha a (by simp)
   have e2 := ha b (by simp)
   rw [e1, e2] at h1
   simp at h1
 ·rintro ⟨hz, hl⟩ x hx
  have hm := (h2 x).2 hx
  generalize z3c l = o at hz hl hm
  match o, hl, hz, hm with
  | [a], _, hz, hm =>
   rw [List.mem_singleton] at hz hm
   rw [hm, <- hz]
theorem zux {p q : Prop} [Decidable p] [Decidable q] : (decide p == decide q) = decide (q ↔ p) := by
 by_cases hp : p <;> by_cases hq : q <;> simp [hp, hq]
def ownB (t : T) : Bool := (if t.kind = 0 then decide (t.label = z7v) && decide (t.head.length + t.words.length = 0) else decide (zom t.kind ≠ z7v) && (z4e t.label && (zis t.head && zis t.words)))
def zfo (t : T) : Bool := ownB t && ((t.kids.all fun k => z1w t.kind k.kind) && (decide ((t.kids.map z6e).Nodup) && decide (t.kids.length <= 64)))
end Tr
theorem zzn (t : T) (hs : szB t = true) : PC Tryz.prog 77 [z0h t] (.bool (zfo t)) := by
  obtain ⟨h0, h1, g1, h2, g2, h3, h4⟩ := (z2f t).1 hs
  have k1 := zon t.kind
  have k2 := zd8 t.label (by unfold maxLen; omega)
  have k3 := zx1 t.head h1 (fun w hw => by have := g1 w hw; unfold maxLen; omega)
  have k4 := zx1 t.words h2 (fun w hw => by have := g2 w hw; unfold maxLen; omega)
  refine z14 1 (by simp only [pureD.pureL, z01, Bool.and_self]) rfl (z10 [] Tryz.func77 rfl (by decide +kernel) z0e (by decide +kernel) (by simp [Tryz.ntmps77]) ?_)
  show awp _ _ (Code.seq _ _) _ _
  repeat' (first | refine nxt ?_ | ((first | refine zqh fun K J => ?_ | refine zqs (k1) ?_ | refine zqs (k2) ?_ | refine zqs (k3) ?_ | refine zqs (k4) ?_); (simp (disch := omega) only [go_sem, Nat.reduceBEq, ↓reduceIte, reduceCtorEq, Nat.reduceAdd, z0r])) | ((refine zqd _ rfl (fun hc => ?_) (fun hc => ?_)) <;> (first | (cases hc; done) | ((try simp only [z09] at hc); (try (exfalso; omega))))) | refine zqu (by (simp (disch := omega) only [go_sem]); rfl) rfl ?_ | (refine J _ ?_; clear J K) | (refine zqf (fun hb => ?_) (fun hb => ?_) <;> (have hb2 := hb; try simp only [z09] at hb2) <;> ((first | have F : (_ : Bool) = _ := hb2 | have F := eq_false hb2 | have F := eq_true hb2); (simp (disch := omega) only [go_sem, Nat.reduceBEq, ↓reduceIte, reduceCtorEq, Nat.reduceAdd, F, z0n]); clear hb F; (try (exfalso; omega)))))
  all_goals first
    | (refine z03 ?_
       unfold zfo ownB
       have hemp : ByteArray.empty = z7v := rfl
       first
         | ((simp (disch := omega) only [decide_eq_false, Bool.false_and, Bool.and_false, if_true, if_false, *]); done)
         | (simp_all [z7v]; done)
         | (simp_all [z7v]; omega))
    | skip
  all_goals
    have hown : ownB t = true := by
      unfold ownB
      first
        | (simp_all [z7v]; done)
        | (have e1 : t.head = [] := List.eq_nil_of_length_eq_zero (by omega)
           have e2 : t.words = [] := List.eq_nil_of_length_eq_zero (by omega)
           simp_all [z7v])
    unfold zfo
    rw [hown, Bool.true_and]
    (refine z3m (fun U st => ∃ (i : _), U = t.kids.length - i /\ st.t 1 = .ptr 0 0 /\ st.t 3 = .mp 1 /\ st.t 47 = z0r t.kids /\ st.t 48 = .int .i64 t.kids.length /\ st.t 49 = .int .i64 i /\ st.H 0 = some (.box 27 (z0b t)) /\ st.H 1 = some (.map (zzl ((t.kids.take i).map z6e))) /\ (i <= t.kids.length) /\ (2 <= st.nx) /\ ((t.kids.take i).all (fun k => z1w t.kind k.kind) = true) /\ (((t.kids.take i).map z6e).Nodup)) ?_ ?_); rotate_left; (rintro U st ⟨i, rfl, q1, q3, q47, q48, q49, qH0, qH1, qp0, qp1, qp2, qp3⟩); rotate_left
    · (refine ⟨_, 0, rfl, ?_⟩); (simp (disch := omega) only [go_sem, Nat.reduceBEq, Nat.reduceLeDiff, true_and, Int.natCast_zero, List.map_nil, z0r, zzl])
      try simp
    by_cases hi : i < t.kids.length
    · have hcc := z9b t.kind t.kids[i].kind
      by_cases hm : z6e t.kids[i] ∈ (t.kids.take i).map z6e
      · obtain ⟨n, hfd⟩ := (find_C (z6e t.kids[i]) ((t.kids.take i).map z6e)).1 hm
        have hno : ¬ (t.kids.map z6e).Nodup := fun hn => by
          obtain ⟨x, hx, he⟩ := List.mem_map.1 hm
          obtain ⟨j, hj, rfl⟩ := List.getElem_of_mem hx
          rw [List.length_take] at hj
          rw [List.getElem_take] at he
          exact zjs (f := z6e) (j := j) (k := i) (by omega) hi he hn
        simp only [z6e] at hfd
        repeat' (first | refine nxt ?_ | ((first | refine zqh fun K J => ?_ | refine zqs (hcc) ?_); (simp (disch := omega) only [go_sem, Nat.reduceBEq, ↓reduceIte, reduceCtorEq, Nat.reduceAdd, Nat.reduceLeDiff, q1, q47, q48, q49, qH0, z0r])) | ((refine zqd _ rfl (fun hc => ?_) (fun hc => ?_)) <;> (first | (cases hc; done) | ((try simp only [z09] at hc); (try (exfalso; omega))))) | refine zqu (by (simp (disch := omega) only [go_sem]); rfl) rfl ?_ | (refine J _ ?_; clear J K) | (refine zqf (fun hb => ?_) (fun hb => ?_) <;> (have hb2 := hb; try simp only [z09] at hb2) <;> ((have F : (_ : Bool) = _ := hb2); (simp (disch := omega) only [go_sem, Nat.reduceBEq, ↓reduceIte, Nat.reduceAdd, Nat.reduceLeDiff, F, q3, qH1, hfd]); clear hb F; (try (exfalso; omega)))))
        all_goals exact z03 (by rw [decide_eq_false hno, Bool.false_and, Bool.and_false])
      · have hfd := (find_C (z6e t.kids[i]) ((t.kids.take i).map z6e)).2 hm
        have hsn : zzl ((t.kids.take i).map z6e) ++ [(.agg [.int .i64 t.kids[i].kind, .str t.kids[i].label], .bool true)] = zzl ((t.kids.take i).map z6e ++ [z6e t.kids[i]]) := zuv ((t.kids.take i).map z6e) (z6e t.kids[i])
        have htk : (t.kids.take (i + 1)).map z6e = (t.kids.take i).map z6e ++ [z6e t.kids[i]] := by rw [List.take_succ_eq_append_getElem hi, List.map_append]; rfl
        simp only [show z6e t.kids[i] = (t.kids[i].kind, t.kids[i].label) from rfl] at hfd
        repeat' (first | refine nxt ?_ | ((first | refine zqh fun K J => ?_ | refine zqr fun K J => ?_ | refine zqs (hcc) ?_); (simp (disch := omega) only [go_sem, Nat.reduceBEq, ↓reduceIte, reduceCtorEq, Nat.reduceAdd, Nat.reduceLeDiff, q1, q3, q47, q48, q49, qH0, qH1, z0r, hfd])) | ((refine zqd _ rfl (fun hc => ?_) (fun hc => ?_)) <;> (first | (cases hc; done) | ((try simp only [z09] at hc); (try (exfalso; omega))))) | refine zqu (by (simp (disch := omega) only [go_sem]); rfl) rfl ?_ | (refine J _ ?_; clear J K) | (refine zqf (fun hb => ?_) (fun hb => ?_) <;> (have hb2 := hb; try simp only [z09] at hb2) <;> ((have F : (_ : Bool) = _ := hb2); (simp (disch := omega) only [go_sem, Nat.reduceBEq, ↓reduceIte, Nat.reduceAdd, Nat.reduceLeDiff, F, q3, qH1, hfd]); clear hb F; (try (exfalso; omega)))))
        · (refine Exists.intro _ (And.intro ?_ ⟨i + 1, rfl, ?_⟩)); rotate_left; (simp (disch := omega) only [go_sem, Nat.reduceBEq, Nat.reduceLeDiff, q1, q3, q47, q48, q49, qH0, qH1, true_and, Int.natCast_add, Int.natCast_one, hsn, htk]); rotate_left
          · omega
          · (repeat' (first | omega | refine And.intro ?_ ?_))
            · exact z6n hi qp2 (by assumption)
            rw [<- htk]
            exact zdu hi qp3 (fun j hj e => hm (by rw [<- e]; exact List.mem_map.2 ⟨_, List.mem_iff_getElem.2 ⟨j, by rw [List.length_take]; omega, List.getElem_take⟩, rfl⟩))
        · exact z03 (by rw [zae (f := fun k : T => z1w t.kind k.kind) (k := i) hi (by assumption), Bool.false_and])
    · repeat' (first | ((refine zqh fun K J => ?_); (simp (disch := omega) only [go_sem, Nat.reduceBEq, ↓reduceIte, reduceCtorEq, Nat.reduceAdd, q1, q48, q49, qH0, z0r])) | ((refine zqd _ rfl (fun hc => ?_) (fun hc => ?_)) <;> (((try simp only [z09] at hc); (try (exfalso; omega))))) | refine nxt ?_ | refine zqz ?_ | refine zqu (by (simp (disch := omega) only [go_sem]); rfl) rfl ?_ | (refine J _ ?_; clear J K))
      rw [List.take_of_length_le (by omega)] at qp3
      refine z03 ?_
      rw [z6o (by omega) qp2, decide_eq_true qp3, Bool.true_and, Bool.true_and]
      exact decide_eq_decide.2 (by omega)
theorem pc_ids (t : T) (hs : szB t = true) (hc : cntT t <= 1000000000) : PC Tryz.prog 80 [z0h t] (.bool (zz0 t)) := by
 have ha := zrl t (z7u t hs) (by omega)
 have hl := z2c t
 refine z14 1 (by simp only [pureD.pureL, z01, Bool.and_self]) rfl (z10 [] Tryz.func80 rfl (by decide +kernel) z0e (by decide +kernel) (by simp [Tryz.ntmps80]) ?_)
 show awp _ _ (Code.seq _ _) _ _
 repeat' (first | refine nxt ?_ | ((first | refine zqh fun K J => ?_ | refine zqs (ha) ?_); (simp (disch := omega) only [go_sem, Nat.reduceBEq, ↓reduceIte, Nat.reduceAdd, Nat.reduceLeDiff])) | (refine J _ ?_; clear J K))
 (refine z3m (fun U st => ∃ (i : _), U = (z0j t).length - i /\ st.t 1 = .ptr 0 0 /\ st.t 3 = z15 (z0j t) /\ st.t 4 = .mp 1 /\ st.t 11 = z15 (z0j t) /\ st.t 12 = .int .i64 (z0j t).length /\ st.t 13 = .int .i64 i /\ st.H 0 = some (.box 27 (z0b t)) /\ st.H 1 = some (.map (zuh (z3c ((z0j t).take i)))) /\ (i <= (z0j t).length) /\ (2 <= st.nx)) ?_ ?_); rotate_left; (rintro U st ⟨i, rfl, q1, q3, q4, q11, q12, q13, qH0, qH1, qp0, qp1⟩); rotate_left
 ·(refine ⟨_, 0, rfl, ?_⟩); (simp (disch := omega) only [go_sem, Nat.reduceBEq, Nat.reduceLeDiff, true_and, and_true, and_self, Int.natCast_zero, z15, zuh])
  rfl
 obtain ⟨on1, on2, on3, on4⟩ := zhz ((z0j t).take i)
 by_cases hi : i < (z0j t).length
 ·have hfd := find_I (z0j t)[i] (z3c ((z0j t).take i))
  have hot := zs7 hi
  by_cases hm : (z0j t)[i] ∈ z3c ((z0j t).take i)
  ·rw [if_pos hm] at hfd hot
   have hsv := zs9 on1 hm
   repeat' (first | ((first | refine zqh fun K J => ?_ | refine zqr fun K J => ?_); (simp (disch := omega) only [go_sem, Nat.reduceBEq, ↓reduceIte, reduceCtorEq, Nat.reduceAdd, Nat.reduceLeDiff, q4, q11, q12, q13, qH1, z15, hfd, hsv])) | ((refine zqd _ rfl (fun hc => ?_) (fun hc => ?_)) <;> (((try simp only [z09] at hc); (try (exfalso; omega))))) | refine nxt ?_ | (refine J _ ?_; clear J K))
   (refine Exists.intro _ (And.intro ?_ ⟨i + 1, rfl, ?_⟩)); rotate_left; (simp (disch := omega) only [go_sem, Nat.reduceBEq, Nat.reduceLeDiff, q1, q3, q4, q11, q12, q13, qH0, qH1, true_and, Int.natCast_add, Int.natCast_one, hot]); rotate_left
   ·omega
   ·omega
  ·rw [if_neg hm] at hfd hot
   have hsn := zuw (z3c ((z0j t).take i)) (z0j t)[i]
   repeat' (first | ((first | refine zqh fun K J => ?_ | refine zqr fun K J => ?_); (simp (disch := omega) only [go_sem, Nat.reduceBEq, ↓reduceIte, reduceCtorEq, Nat.reduceAdd, Nat.reduceLeDiff, q4, q11, q12, q13, qH1, z15, hfd])) | ((refine zqd _ rfl (fun hc => ?_) (fun hc => ?_)) <;> (((try simp only [z09] at hc); (try (exfalso; omega))))) | refine nxt ?_ | (refine J _ ?_; clear J K))
   (refine Exists.intro _ (And.intro ?_ ⟨i + 1, rfl, ?_⟩)); rotate_left; (simp (disch := omega) only [go_sem, Nat.reduceBEq, Nat.reduceLeDiff, q1, q3, q4, q11, q12, q13, qH0, qH1, true_and, Int.natCast_add, Int.natCast_one, hot, hsn]); rotate_left
   ·omega
   ·omega
 ·rw [List.take_of_length_le (by omega)] at qH1 on1 on2 on3 on4
  have hfd : z6r Tryz.prog 23 (.agg [.int .i64 0, .int .i64 0, .int .i64 0]) (zuh (z3c (z0j t))) = some (if Idv.zero ∈ z3c (z0j t) then some ((z3c (z0j t)).idxOf Idv.zero, .bool true) else none) := find_I Idv.zero (z3c (z0j t))
  have hsl : (zuh (z3c (z0j t))).length = (z3c (z0j t)).length := by unfold zuh; simp
  have hne : z0j t ≠ [] := by rw [z28]; simp
  have hz := zzm hne
  have hb : zz0 t = ((z0j t).all (fun i => decide (i = Idv.zero)) || (decide ((t.id = Idv.zero) ↔ (t.kind = 0)) && decide ((z0j t).Nodup))) := rfl
  by_cases hm : Idv.zero ∈ z3c (z0j t)
  ·rw [if_pos hm] at hfd
   rw [decide_eq_true hm, Bool.true_and] at hz
   repeat' (first | ((first | refine zqh fun K J => ?_ | refine zqe (by decide +kernel) fun K J => ?_); (simp (disch := omega) only [go_sem, Nat.reduceBEq, ↓reduceIte, Nat.reduceAdd, q4, q12, q13, qH1, hfd, hsl])) | ((refine zqd _ rfl (fun hc => ?_) (fun hc => ?_)) <;> (((try simp only [z09] at hc); (try (exfalso; omega))))) | refine nxt ?_ | refine zqz ?_ | refine zqu (by (simp (disch := omega) only [go_sem]); rfl) rfl ?_ | (refine J _ ?_; clear J K) | (refine zqf (fun hb => ?_) (fun hb => ?_) <;> (have hb2 := hb; try simp only [z09] at hb2) <;> ((first | have F := eq_false hb2 | have F := eq_true hb2); (simp (disch := omega) only [go_sem, Nat.reduceBEq, ↓reduceIte, reduceCtorEq, Nat.reduceAdd, Nat.reduceLeDiff, F, q1, q3, q4, qH0, qH1, z15, hsl]); clear hb F; (try (exfalso; omega)))))
   ·have hn : (z0j t).Nodup := on4.1 (by omega)
    refine z03 ?_
    rw [hb, hz, decide_eq_false (show ¬ (z3c (z0j t)).length = 1 by omega), decide_eq_true hn, Bool.false_or, Bool.and_true, <- zux]
   ·have hn : ¬ (z0j t).Nodup := fun h => by have := on4.2 h; omega
    exact z03 (by rw [hb, hz, decide_eq_false (show ¬ (z3c (z0j t)).length = 1 by omega), decide_eq_false hn, Bool.false_or, Bool.and_false])
   ·exact z03 (by rw [hb, hz, decide_eq_true (by omega), Bool.true_or])
  ·rw [if_neg hm] at hfd
   rw [decide_eq_false hm, Bool.false_and] at hz
   repeat' (first | ((first | refine zqh fun K J => ?_ | refine zqe (by decide +kernel) fun K J => ?_); (simp (disch := omega) only [go_sem, Nat.reduceBEq, ↓reduceIte, Nat.reduceAdd, q3, q4, q12, q13, qH1, z15, hfd, hsl])) | ((refine zqd _ rfl (fun hc => ?_) (fun hc => ?_)) <;> (((try simp only [z09] at hc); (try (exfalso; omega))))) | refine nxt ?_ | refine zqz ?_ | refine zqu (by (simp (disch := omega) only [go_sem]); rfl) rfl ?_ | (refine J _ ?_; clear J K) | (refine zqf (fun hb => ?_) (fun hb => ?_) <;> (have hb2 := hb; try simp only [z09] at hb2) <;> ((first | have F := eq_false hb2 | have F := eq_true hb2); (simp (disch := omega) only [go_sem, Nat.reduceBEq, ↓reduceIte, reduceCtorEq, Nat.reduceAdd, Nat.reduceLeDiff, F, q1, qH0]); clear hb F; (try (exfalso; omega)))))
   ·have hn : (z0j t).Nodup := on4.1 (by omega)
    refine z03 ?_
    rw [hb, hz, decide_eq_true hn, Bool.false_or, Bool.and_true, <- zux]
   ·have hn : ¬ (z0j t).Nodup := fun h => by have := on4.2 h; omega
    exact z03 (by rw [hb, hz, decide_eq_false hn, Bool.false_or, Bool.and_false])
theorem zuy (t : T) (hs : szB t = true) (hc : cntT t <= 1000000000) (V : depT t <= 1000000000) : PC Tryz.prog 57 [z0h t] (.bool ((z0m t).all zfo && (decide (depT t <= 8) && (decide (cntT t <= 1024) && zz0 t)))) := by
 have h1 := zrj (g := 77) (cap := []) zfo rfl t (z7u t hs) (fun x hx => zzn x (zaq t hs x hx))
 have h2 := zku t (z7u t hs) V
 have h3 := zfg t (z7u t hs) hc
 have h4 := pc_ids t hs hc
 refine z14 1 (by simp only [pureD.pureL, z01, Bool.and_self]) rfl (z10 [] Tryz.func57 rfl (by decide +kernel) z0e (by decide +kernel) (by simp [Tryz.ntmps57]) ?_)
 show awp _ _ (Code.seq _ _) _ _
 repeat' (first | ((first | refine zqh fun K J => ?_ | refine zqs (h1) ?_ | refine zqs (h2) ?_ | refine zqs (h3) ?_ | refine zqs (h4) ?_); (simp (disch := omega) only [go_sem, Nat.reduceBEq, ↓reduceIte, Nat.reduceAdd, Nat.reduceLeDiff])) | refine nxt ?_ | refine zqu (by (simp (disch := omega) only [go_sem]); rfl) rfl ?_ | (refine J _ ?_; clear J K) | (refine zqf (fun hb => ?_) (fun hb => ?_) <;> (have hb2 := hb; try simp only [z09] at hb2) <;> ((first | have F : (_ : Bool) = _ := hb2 | have F := eq_false hb2 | have F := eq_true hb2); (simp (disch := omega) only [go_sem, Nat.reduceBEq, ↓reduceIte, Nat.reduceAdd, Nat.reduceLeDiff, hb, F]); clear hb F; (try (exfalso; omega)))))
 all_goals refine z03 ?_
 all_goals (simp (disch := omega) only [decide_eq_true, decide_eq_false, Bool.true_and, Bool.false_and, Bool.and_false, *])
namespace Tr
instance : DecidableEq ByteArray := inferInstance
def zl4 : List (T -> Bool) -> List T -> Bool
 | [], [] => true
 | f :: fs, t :: ts => f t && zl4 fs ts
 | _, _ => false
def zse (a : T) : T -> Bool := zhm (fun a l b => decide (a.id = b.id) && (decide (a.kind = b.kind) && (decide (a.label = b.label) && (decide (a.head = b.head) && (decide (a.words = b.words) && (decide (a.kids.length = b.kids.length) && zl4 l b.kids)))))) a
theorem zzu (a b : T) : zse a b = (decide (a.id = b.id) && (decide (a.kind = b.kind) && (decide (a.label = b.label) && (decide (a.head = b.head) && (decide (a.words = b.words) && (decide (a.kids.length = b.kids.length) && zl4 (a.kids.map zse) b.kids)))))) := by
 unfold zse; rw [z45]
theorem zl5 : ∀ (l m : List T), (∀ k ∈ l, ∀ b, zse k b = true ↔ k = b) -> (zl4 (l.map zse) m = true ↔ l = m)
 | [], [], _ => by simp [zl4]
 | [], _ :: _, _ => by simp [zl4]
 | _ :: _, [], _ => by simp [zl4]
 | a :: l, b :: m, h => by
  simp only [List.map_cons, zl4, Bool.and_eq_true, List.cons.injEq]
  rw [h a (by simp) b, zl5 l m (fun k O => h k (List.mem_cons_of_mem _ O))]
theorem zv0 : ∀ a b : T, zse a b = true ↔ a = b := by
 refine z4x fun a ih b => ?_
 rw [zzu]
 simp only [Bool.and_eq_true, decide_eq_true_eq]
 rw [zl5 a.kids b.kids ih]
 constructor
 ·rintro ⟨h1, h2, h3, h4, h5, _, h6⟩
  rw [<- T.eta a, <- T.eta b, h1, h2, h3, h4, h5, h6]
 ·rintro rfl; exact ⟨rfl, rfl, rfl, rfl, rfl, rfl, rfl⟩
instance : DecidableEq T := fun a b => decidable_of_iff _ (zv0 a b)
theorem zpn {α : Type} {a b : List α} {k : Nat} (O : k < a.length) (hl : a.length = b.length) (h : a.take k = b.take k) (h2 : a[k] = b[k]'(by omega)) : a.take (k + 1) = b.take (k + 1) := by
 rw [List.take_succ_eq_append_getElem O, List.take_succ_eq_append_getElem (show k < b.length by omega), h, h2]
theorem ne_at {α : Type} {a b : List α} {k : Nat} (O : k < a.length) (hl : a.length = b.length) (h2 : ¬ a[k] = b[k]'(by omega)) : ¬ a = b := fun h => by subst h; exact h2 rfl
theorem zv1 {α : Type} {a b : List α} {k : Nat} (O : a.length <= k) (hl : a.length = b.length) (h : a.take k = b.take k) : a = b := by
 rwa [List.take_of_length_le O, List.take_of_length_le (by omega)] at h
end Tr
theorem zpo (a b : List Wd) (ha : a.length <= maxLen) (hb : b.length <= maxLen) : PC Tryz.prog 43 [z0n a, z0n b] (.bool (decide (a = b))) := by
 unfold maxLen at ha hb
 refine z14 1 (by simp only [pureD.pureL, z0i, Bool.and_self]) rfl (z10 [] Tryz.func43 rfl (by decide +kernel) z0e (by decide +kernel) (by simp [Tryz.ntmps43]) ?_)
 show awp _ _ (Code.seq _ _) _ _
 repeat' (first | refine nxt ?_ | ((refine zqh fun K J => ?_); (simp (disch := omega) only [go_sem, Nat.reduceBEq, ↓reduceIte, z0n])) | ((refine zqd _ rfl (fun hc => ?_) (fun hc => ?_)) <;> (((try simp only [z09] at hc); (try (exfalso; omega))))) | refine zqu (by (simp (disch := omega) only [go_sem]); rfl) rfl ?_ | (refine J _ ?_; clear J K))
 ·exact z03 (decide_eq_false (fun h => by subst h; contradiction)).symm
 ·have hl : a.length = b.length := by omega
  (refine z3m (fun U st => ∃ (k : _), U = a.length - k /\ st.t 0 = z0n a /\ st.t 1 = z0n b /\ st.t 5 = .int .i64 k /\ (k <= a.length) /\ (a.take k = b.take k)) ?_ ?_); rotate_left; (rintro U st ⟨k, rfl, q0, q1, q5, qp0, qp1⟩); rotate_left
  ·(refine ⟨_, 0, rfl, ?_⟩); (simp (disch := omega) only [go_sem, Nat.reduceBEq, and_self, Int.natCast_zero, z0n])
   try simp
  repeat' (first | refine nxt ?_ | ((first | refine zqh fun K J => ?_ | refine zqe (by decide +kernel) fun K J => ?_ | refine zqr fun K J => ?_); (simp (disch := omega) only [go_sem, Nat.reduceBEq, ↓reduceIte, reduceCtorEq, Nat.reduceAdd, q0, q1, q5, z0n])) | ((first | refine zqd _ rfl (fun hc => ?_) (fun hc => ?_) | refine zqm _ rfl (fun hc => ?_) (fun hc => ?_)) <;> (((try simp only [z09] at hc); (try (exfalso; omega))))) | refine zqz ?_ | refine zqu (by (simp (disch := omega) only [go_sem]); rfl) rfl ?_ | (refine J _ ?_; clear J K))
  ·exact z03 (decide_eq_false (ne_at (k := k) (by omega) hl (by assumption))).symm
  ·(refine Exists.intro _ (And.intro ?_ ⟨k + 1, rfl, ?_⟩)); rotate_left; (simp (disch := omega) only [go_sem, Nat.reduceBEq, q0, q1, q5, true_and, Int.natCast_add, Int.natCast_one, z0n]); rotate_left
   ·omega
   ·exact ⟨by omega, zpn (by omega) hl qp1 (by assumption)⟩
  ·exact z03 (decide_eq_true (zv1 (by omega) hl qp1)).symm
theorem zfq : ∀ a : T, szB a = true -> ∀ b : T, szB b = true -> PC Tryz.prog 17 [z0h a, z0h b] (.bool (decide (a = b))) := by
 refine z4x fun a ih hs b hb => ?_
 obtain ⟨a0, a1, _, a2, _, a3, a4⟩ := (z2f a).1 hs
 obtain ⟨b0, b1, _, b2, _, b3, b4⟩ := (z2f b).1 hb
 have r1 := zpo a.head b.head (by unfold maxLen; omega) (by unfold maxLen; omega)
 have r2 := zpo a.words b.words (by unfold maxLen; omega) (by unfold maxLen; omega)
 refine z14 1 (by simp only [pureD.pureL, z01, Bool.and_self]) rfl (z10 [] Tryz.func17 rfl (by decide +kernel) z0e (by decide +kernel) (by simp [Tryz.ntmps17]) ?_)
 show awp _ _ (Code.seq _ _) _ _
 repeat' (first | refine nxt ?_ | ((first | refine zqh fun K J => ?_ | refine zqs (r1) ?_ | refine zqs (r2) ?_); (simp (disch := omega) only [go_sem, Nat.reduceBEq, ↓reduceIte, reduceCtorEq, Nat.reduceAdd, Nat.reduceLeDiff])) | ((refine zqd _ rfl (fun hc => ?_) (fun hc => ?_)) <;> (first | (cases hc; done) | ((try simp only [z09] at hc); (try (exfalso; omega))))) | refine zqu (by (simp (disch := omega) only [go_sem]); rfl) rfl ?_ | (refine J _ ?_; clear J K) | (refine zqf (fun hb => ?_) (fun hb => ?_) <;> (have hb2 := hb; try simp only [z09] at hb2) <;> ((first | have F := eq_false hb2 | have F := eq_true hb2); (simp (disch := omega) only [go_sem, Nat.reduceBEq, ↓reduceIte, reduceCtorEq, Nat.reduceAdd, F, z0r]); clear hb F; (try (exfalso; omega)))))
 rotate_left
 rotate_left
 all_goals first | exact z03 (decide_eq_false (fun h => by subst h; contradiction)).symm | skip
 have hl : a.kids.length = b.kids.length := by omega
 (refine z3m (fun U st => ∃ (k : _), U = a.kids.length - k /\ st.t 2 = .ptr 0 0 /\ st.t 3 = .ptr 1 0 /\ st.t 5 = .int .i64 k /\ st.H 0 = some (.box 27 (z0b a)) /\ st.H 1 = some (.box 27 (z0b b)) /\ (k <= a.kids.length) /\ (2 <= st.nx) /\ (a.kids.take k = b.kids.take k)) ?_ ?_); rotate_left; (rintro U st ⟨k, rfl, q2, q3, q5, qH0, qH1, qp0, qp1, qp2⟩); rotate_left
 ·(refine ⟨_, 0, rfl, ?_⟩); (simp (disch := omega) only [go_sem, Nat.reduceBEq, Nat.reduceLeDiff, and_self, Int.natCast_zero])
  try simp
 by_cases O : k < a.kids.length
 ·have hin := ih a.kids[k] (List.getElem_mem O) (a4 _ (List.getElem_mem O)) b.kids[k] (b4 _ (List.getElem_mem (by omega)))
  repeat' (first | refine nxt ?_ | ((first | refine zqh fun K J => ?_ | refine zqe (by decide +kernel) fun K J => ?_ | refine zqr fun K J => ?_ | refine zqt (hin) ?_); (simp (disch := omega) only [go_sem, Nat.reduceBEq, ↓reduceIte, reduceCtorEq, Nat.reduceAdd, q2, q3, q5, qH0, qH1, z0r])) | ((first | refine zqd _ rfl (fun hc => ?_) (fun hc => ?_) | refine zqm _ rfl (fun hc => ?_) (fun hc => ?_)) <;> (((try simp only [z09] at hc); (try (exfalso; omega))))) | refine zqu (by (simp (disch := omega) only [go_sem]); rfl) rfl ?_ | (refine J _ ?_; clear J K))
  ·exact z03 (decide_eq_false (fun h => ne_at O hl (by assumption) (congrArg T.kids h))).symm
  ·(refine Exists.intro _ (And.intro ?_ ⟨k + 1, rfl, ?_⟩)); rotate_left; (simp (disch := omega) only [go_sem, Nat.reduceBEq, q2, q3, q5, qH0, qH1, true_and, Int.natCast_add, Int.natCast_one]); rotate_left
   ·omega
   ·exact ⟨by omega, by omega, zpn O hl qp2 (by assumption)⟩
 ·repeat' (first | refine nxt ?_ | ((refine zqh fun K J => ?_); (simp (disch := omega) only [go_sem, Nat.reduceBEq, ↓reduceIte, reduceCtorEq, Nat.reduceAdd, q2, q5, qH0, z0r])) | ((refine zqd _ rfl (fun hc => ?_) (fun hc => ?_)) <;> (((try simp only [z09] at hc); (try (exfalso; omega))))) | refine zqz ?_ | refine zqu (by (simp (disch := omega) only [go_sem]); rfl) rfl ?_ | (refine J _ ?_; clear J K))
  refine z03 (decide_eq_true ?_).symm
  have hkk := zv1 (by omega) hl qp2
  rw [<- T.eta a, <- T.eta b, ‹a.id = b.id›, ‹a.kind = b.kind›, ‹a.label = b.label›, ‹a.head = b.head›, ‹a.words = b.words›, hkk]
theorem zpp (l : List Wd) (hl : l.length <= 1000000) : PC Tryz.prog 187 [z0n l] (z0n (l.map fun w => ⟨w.text, Idv.zero⟩)) := by
 refine z14 2 (by simp only [pureD.pureL, z0i, Bool.and_self]) (z0i _) (z10 [5] Tryz.func187 rfl (by decide +kernel) z0e (by decide +kernel) (by simp [Tryz.ntmps187]) ?_)
 show awp _ _ (Code.seq _ _) _ _
 repeat' (first | refine nxt ?_ | ((refine zqh fun K J => ?_); (simp (disch := omega) only [go_sem, Nat.reduceBEq, ↓reduceIte, reduceCtorEq, Nat.reduceMul, z0n])) | (refine J _ ?_; clear J K))
 (refine z3m (fun U st => ∃ (k : _), U = l.length - k /\ st.t 0 = z0n l /\ st.t 3 = .osl 0 k /\ st.t 4 = .int .i64 k /\ st.H 0 = some (.row 50 k (((l.take k).map fun w => (⟨w.text, Idv.zero⟩ : Wd)).flatMap z11)) /\ (k <= l.length)) ?_ ?_); rotate_left; (rintro U st ⟨k, rfl, q0, q3, q4, qH0, qp0⟩); rotate_left
 ·(refine ⟨_, 0, rfl, ?_⟩); (simp (disch := omega) only [go_sem, Nat.reduceBEq, and_self, Int.natCast_zero, List.flatMap_nil, List.map_nil, z0n])
 by_cases O : k < l.length
 ·have htk := List.take_succ_eq_append_getElem O
  repeat' (first | refine nxt ?_ | ((first | refine zqh fun K J => ?_ | refine zqr fun K J => ?_); (simp (disch := omega) only [go_sem, Nat.reduceBEq, ↓reduceIte, reduceCtorEq, Nat.reduceAdd, Nat.reduceMul, Nat.reduceLeDiff, q0, q3, q4, qH0, z0n])) | ((refine zqd _ rfl (fun hc => ?_) (fun hc => ?_)) <;> (((try simp only [z09] at hc); (try (exfalso; omega))))) | (refine J _ ?_; clear J K))
  (refine Exists.intro _ (And.intro ?_ ⟨k + 1, rfl, ?_⟩)); rotate_left; (simp (disch := omega) only [go_sem, Nat.reduceBEq, q0, q3, q4, qH0, true_and, Int.natCast_add, Int.natCast_one, List.flatMap_append, List.flatMap_cons, List.flatMap_nil, List.map_append, List.map_cons, List.map_nil, List.append_nil, htk, z11, Idv.zero]); rotate_left
  ·omega
  ·omega
 ·repeat' (first | refine nxt ?_ | ((refine zqh fun K J => ?_); (simp (disch := omega) only [go_sem, Nat.reduceBEq, ↓reduceIte, q0, q3, q4, z0n])) | ((refine zqd _ rfl (fun hc => ?_) (fun hc => ?_)) <;> (((try simp only [z09] at hc); (try (exfalso; omega))))) | refine zqz ?_ | refine zqu (by (simp (disch := omega) only [go_sem]); rfl) rfl ?_ | (refine J _ ?_; clear J K))
  have hk2 : k = l.length := by omega
  subst hk2
  rw [List.take_length] at qH0
  have hlen : l.length = (l.map fun w => (⟨w.text, Idv.zero⟩ : Wd)).length := by simp
  rw [hlen] at qH0 ⊢
  refine z3h (z1e 0 ?_ z5v z83 (fun _ => rfl) (fun _ => rfl))
  (simp (disch := omega) only [go_sem, qH0])
namespace Tr
theorem z8d {id : Idv} {t : T} (h : t.id = id) : z2i id t = [t] := by rw [zao, if_pos h]
theorem z6h {id : Idv} {t : T} {i : Nat} (h0 : ¬ t.id = id) (hi : i < t.kids.length) (h1 : ∀ j, (hj : j < i) -> (h : j < t.kids.length) -> z2i id t.kids[j] = []) (h2 : z2i id t.kids[i] ≠ []) : z2i id t = t :: z2i id t.kids[i] := by
 rw [zao, if_neg h0, zhi (z2i id) hi h1 h2]
theorem zc5 {id : Idv} {t : T} {i : Nat} (h0 : ¬ t.id = id) (hi : t.kids.length <= i) (h1 : ∀ j, (hj : j < i) -> (h : j < t.kids.length) -> z2i id t.kids[j] = []) : z2i id t = [] := by
 rw [zao, if_neg h0, zhh (z2i id) h1 hi]
theorem zpq {id : Idv} {t : T} (h : z2i id t ≠ []) : (z06 id t).2 = true := by unfold z06; rw [zfi _ h]
theorem zar {id : Idv} {t : T} (h : z2i id t = []) : z06 id t = (T.zero, false) := by unfold z06; rw [h]; rfl
theorem zfr {id : Idv} {t : T} : (z06 id t).2 = false ↔ z2i id t = [] := by
 constructor
 ·intro h
  by_cases h2 : z2i id t = []
  ·exact h2
  ·rw [zpq h2] at h; cases h
 ·intro h; rw [zar h]
theorem zas {id : Idv} {t : T} : (z06 id t).2 = true ↔ z2i id t ≠ [] := by
 rw [<- Bool.not_eq_false, zfr]
theorem z3f {id : Idv} {t : T} (h : t.id = id) : z06 id t = (t, true) := by unfold z06; rw [z8d h]; rfl
theorem z5l {id : Idv} {t k : T} (h : z2i id t = t :: z2i id k) (h2 : z2i id k ≠ []) : z06 id t = z06 id k := by
 unfold z06
 rw [h, List.getLast?_cons_of_ne_nil h2]
end Tr
theorem z48 (id : Idv) : ∀ t : T, szB t = true -> PC Tryz.prog 14 [z0h t, z19 id] (.tup [z0h (z06 id t).1, .bool (z06 id t).2]) := by
 refine z4x fun t ih hs => ?_
 obtain ⟨h0, h1, g1, h2, g2, h3, h4⟩ := (z2f t).1 hs
 refine z14 3 (by simp only [pureD.pureL, z01]; rfl) (by simp only [pureD, pureD.pureL, z01, Bool.and_self]) (z10 [3000023, 3000025, 3000026, 3000027, 5000028] Tryz.func14 rfl (by decide +kernel) z0e (by decide +kernel) (by simp [Tryz.ntmps14]) ?_)
 show awp _ _ (Code.seq _ _) _ _
 rw [show Tryz.f14.results.toList = [.cell 4 27, .tmp 5] from rfl]
 repeat' (first | refine nxt ?_ | ((refine zqh fun K J => ?_); (simp (disch := omega) only [go_sem, Nat.reduceBEq, ↓reduceIte, reduceCtorEq, Nat.reduceAdd, Nat.reduceLeDiff])) | ((refine zqd _ rfl (fun hc => ?_) (fun hc => ?_)) <;> (((try simp only [z09] at hc); (try (exfalso; omega))))) | refine zqu (by (simp (disch := omega) only [go_sem, Nat.reduceBEq, ↓reduceIte, Nat.reduceLeDiff]); rfl) rfl ?_ | (refine J _ ?_; clear J K))
 ·rw [z3f (by assumption)]
  exact z07 (by simp only [pureD, pureD.pureL, z04, Bool.and_self]) (Le.refl _)
 ·have hne : ¬ t.id = id := by assumption
  (refine z3m (fun U st => ∃ (i : _), U = t.kids.length - i /\ st.t 2 = .ptr 0 0 /\ st.t 3 = .ptr 1 0 /\ st.t 4 = .ptr 2 0 /\ st.t 6 = .int .i64 i /\ st.H 0 = some (.box 27 (z0b t)) /\ st.H 1 = some (.box 23 (z0a id)) /\ st.H 2 = some (.box 27 [.int .i64 0, .int .i64 0, .int .i64 0, .int .i64 0, .str ByteArray.empty, .nil, .nil, .nil]) /\ (i <= t.kids.length) /\ (3 <= st.nx) /\ (∀ j, (hj : j < i) -> (h : j < t.kids.length) -> z2i id t.kids[j] = [])) ?_ ?_); rotate_left; (rintro U st ⟨i, rfl, q2, q3, q4, q6, qH0, qH1, qH2, qp0, qp1, qp2⟩); rotate_left
  ·(refine ⟨_, 0, rfl, ?_⟩); (simp (disch := omega) only [go_sem, Nat.reduceBEq, Nat.reduceLeDiff, true_and, Int.natCast_zero, z0a])
   (repeat' (omega))
  by_cases hi : i < t.kids.length
  ·have hin := ih t.kids[i] (List.getElem_mem hi) (h4 _ (List.getElem_mem hi))
   repeat' (first | refine nxt ?_ | ((first | refine zqh fun K J => ?_ | refine zqe (by decide +kernel) fun K J => ?_ | refine zqr fun K J => ?_ | refine zqt (hin) ?_); (simp (disch := omega) only [go_sem, Nat.reduceBEq, Nat.reduceEqDiff, ↓reduceIte, reduceCtorEq, Nat.reduceAdd, Nat.reduceLeDiff, q2, q3, q4, q6, qH0, qH1, qH2, z0r, z0a])) | ((first | refine zqd _ rfl (fun hc => ?_) (fun hc => ?_) | refine zqm _ rfl (fun hc => ?_) (fun hc => ?_)) <;> (((try simp only [z09] at hc); (try (exfalso; omega))))) | refine zqu (by (simp (disch := omega) only [go_sem, Nat.reduceBEq, ↓reduceIte, Nat.reduceLeDiff, q4, qH2]); rfl) rfl ?_ | (refine J _ ?_; clear J K))
   ·have hf := zas.1 ‹(z06 id t.kids[i]).2 = true›
    rw [z5l (z6h hne hi qp2 hf) hf, ‹(z06 id t.kids[i]).2 = true›]
    exact z07 (by simp only [pureD, pureD.pureL, z04, Bool.and_self]) (Le.refl _)
   ·have hf := zfr.1 ‹(z06 id t.kids[i]).2 = false›
    (refine Exists.intro _ (And.intro ?_ ⟨i + 1, rfl, ?_⟩)); rotate_left; (simp (disch := omega) only [go_sem, Nat.reduceBEq, Nat.reduceLeDiff, q2, q3, q4, q6, qH0, qH1, qH2, true_and, Int.natCast_add, Int.natCast_one, z0a]); rotate_left
    ·omega
    ·refine ⟨by omega, by omega, fun j hj h => ?_⟩
     by_cases e : j = i
     ·subst e; exact hf
     ·exact qp2 j (by omega) h
  ·repeat' (first | refine nxt ?_ | ((refine zqh fun K J => ?_); (simp (disch := omega) only [go_sem, Nat.reduceBEq, ↓reduceIte, reduceCtorEq, Nat.reduceAdd, Nat.reduceLeDiff, q2, q4, q6, qH0, qH2, z0r])) | ((refine zqd _ rfl (fun hc => ?_) (fun hc => ?_)) <;> (((try simp only [z09] at hc); (try (exfalso; omega))))) | refine zqz ?_ | refine zqu (by (simp (disch := omega) only [go_sem, Nat.reduceBEq, ↓reduceIte, Nat.reduceAdd, Nat.reduceLeDiff, q4, qH2]); rfl) rfl ?_ | (refine J _ ?_; clear J K))
   rw [zar (zc5 hne (by omega) qp2)]
   exact z07 (by simp only [pureD, pureD.pureL, Bool.and_self]) (Le.tup ⟨z0u, Le.refl _, trivial⟩)
namespace Tr
theorem zi1 {id : Idv} {t : T} (h : (z2i id t).length < 2) : z59 id t = (Idv.zero, -1, false) := by unfold z59; exact dif_pos h
theorem z71 {id : Idv} {t : T} (h : t.id = id) : z59 id t = (Idv.zero, -1, false) := zi1 (by rw [z8d h]; simp)
theorem zv2 {id : Idv} {t : T} (h : z2i id t = []) : z59 id t = (Idv.zero, -1, false) := zi1 (by rw [h]; simp)
theorem zfs {id : Idv} {t : T} {i : Nat} (h0 : ¬ t.id = id) (hi : i < t.kids.length) (h1 : ∀ j, (hj : j < i) -> (h : j < t.kids.length) -> z2i id t.kids[j] = []) (h2 : t.kids[i].id = id) : z59 id t = (t.id, (i : Int), true) := by
 have hw := z8d h2
 have hw2 := z6h h0 hi h1 (by rw [hw]; simp)
 rw [hw] at hw2
 have hn : z30 (fun k => !(z2i id k).isEmpty) t.kids = i := z3s (by omega) (fun j hj => by rw [h1 j hj (by omega)]; rfl) (fun h => by rw [hw]; rfl)
 unfold z59
 simp only [hw2, List.length_cons, List.length_nil]
 rw [dif_neg (by omega)]
 simp only [show 0 + 1 + 1 - 2 = 0 from rfl, List.getElem_cons_zero, hn, hi, if_true]
theorem znl {id : Idv} {t : T} {i : Nat} (h0 : ¬ t.id = id) (hi : i < t.kids.length) (h1 : ∀ j, (hj : j < i) -> (h : j < t.kids.length) -> z2i id t.kids[j] = []) (h2 : ¬ t.kids[i].id = id) (h3 : z2i id t.kids[i] ≠ []) : z59 id t = z59 id t.kids[i] := by
 have hw2 := z6h h0 hi h1 h3
 have hl : 2 <= (z2i id t.kids[i]).length := by
  rw [zao, if_neg h2] at h3 ⊢
  split
  ·rename_i w hw
   have := List.find?_some hw
   cases w with
   | nil => simp at this
   | cons a w => simp
  ·rename_i hw; rw [hw] at h3; exact (h3 rfl).elim
 unfold z59
 simp only [hw2, List.length_cons]
 rw [dif_neg (by omega), dif_neg (by omega)]
 have e : (z2i id t.kids[i]).length + 1 - 2 = (z2i id t.kids[i]).length - 2 + 1 := by omega
 simp only [e, List.getElem_cons_succ]
theorem zl6 {id : Idv} {t : T} (h : t.id = id) : z78 id t = [] := by unfold z78; rw [z8d h]; rfl
theorem zv3 {id : Idv} {t : T} (h : z2i id t = []) : z78 id t = [] := by unfold z78; rw [h]; rfl
theorem zjd {id : Idv} {t : T} {i : Nat} (h0 : ¬ t.id = id) (hi : i < t.kids.length) (h1 : ∀ j, (hj : j < i) -> (h : j < t.kids.length) -> z2i id t.kids[j] = []) (h3 : z2i id t.kids[i] ≠ []) : z78 id t = z78 id t.kids[i] ++ [t.id] := by
 unfold z78
 rw [z6h h0 hi h1 h3, List.dropLast_cons_of_ne_nil h3, List.map_cons, List.reverse_cons]
end Tr
theorem zsf (id : Idv) : ∀ t : T, szB t = true -> PC Tryz.prog 144 [z0h t, z19 id] (.tup [z19 (z59 id t).1, .int .i64 (z59 id t).2.1, .bool (z59 id t).2.2]) := by
 refine z4x fun t ih hs => ?_
 obtain ⟨h0, h1, g1, h2, g2, h3, h4⟩ := (z2f t).1 hs
 refine z14 3 (by simp only [pureD.pureL, z01]; rfl) rfl (z10 [3000035, 3000037, 3000038, 3000039, 5000040] Tryz.func144 rfl (by decide +kernel) z0e (by decide +kernel) (by simp [Tryz.ntmps144]) ?_)
 show awp _ _ (Code.seq _ _) _ _
 rw [show Tryz.f144.results.toList = [.cell 4 23, .tmp 5, .tmp 6] from rfl]
 repeat' (first | refine nxt ?_ | ((refine zqh fun K J => ?_); (simp (disch := omega) only [go_sem, Nat.reduceBEq, ↓reduceIte, reduceCtorEq, Nat.reduceAdd, Nat.reduceLeDiff])) | ((refine zqd _ rfl (fun hc => ?_) (fun hc => ?_)) <;> (((try simp only [z09] at hc); (try (exfalso; omega))))) | refine zqu (by (simp (disch := omega) only [go_sem, Nat.reduceBEq, ↓reduceIte, Nat.reduceAdd, Nat.reduceLeDiff]); rfl) rfl ?_ | (refine J _ ?_; clear J K))
 ·rw [z71 (by assumption)]
  exact z07 rfl (Le.refl _)
 ·have hne : ¬ t.id = id := by assumption
  (refine z3m (fun U st => ∃ (i : _), U = t.kids.length - i /\ st.t 2 = .ptr 0 0 /\ st.t 3 = .ptr 1 0 /\ st.t 4 = .ptr 2 0 /\ st.t 7 = .int .i64 i /\ st.H 0 = some (.box 27 (z0b t)) /\ st.H 1 = some (.box 23 (z0a id)) /\ st.H 2 = some (.box 23 (z0a Idv.zero)) /\ (i <= t.kids.length) /\ (3 <= st.nx) /\ (∀ j, (hj : j < i) -> (h : j < t.kids.length) -> z2i id t.kids[j] = [])) ?_ ?_); rotate_left; (rintro U st ⟨i, rfl, q2, q3, q4, q7, qH0, qH1, qH2, qp0, qp1, qp2⟩); rotate_left
  ·(refine ⟨_, 0, rfl, ?_⟩); (simp (disch := omega) only [go_sem, Nat.reduceBEq, Nat.reduceLeDiff, true_and, Int.natCast_zero, z0a, Idv.zero])
   (repeat' (omega))
   all_goals intro j hj; omega
  by_cases hi : i < t.kids.length
  ·have hin := ih t.kids[i] (List.getElem_mem hi) (h4 _ (List.getElem_mem hi))
   have hfn := z48 id t.kids[i] (h4 _ (List.getElem_mem hi))
   repeat' (first | refine nxt ?_ | ((first | refine zqh fun K J => ?_ | refine zqe (by decide +kernel) fun K J => ?_ | refine zqr fun K J => ?_ | refine zqt (hfn) ?_ | refine zqt (hin) ?_); (simp (disch := omega) only [go_sem, Nat.reduceBEq, Nat.reduceEqDiff, ↓reduceIte, reduceCtorEq, Nat.reduceAdd, Nat.reduceLeDiff, q2, q3, q4, q7, qH0, qH1, qH2, z0r, z0a, Idv.zero])) | ((first | refine zqd _ rfl (fun hc => ?_) (fun hc => ?_) | refine zqm _ rfl (fun hc => ?_) (fun hc => ?_)) <;> (((try simp only [z09] at hc); (try (exfalso; omega))))) | refine zqu (by (simp (disch := omega) only [go_sem, Nat.reduceBEq, ↓reduceIte, Nat.reduceAdd, Nat.reduceLeDiff, q4, qH2, z0a, Idv.zero]); rfl) rfl ?_ | (refine J _ ?_; clear J K))
   ·rw [zfs hne hi qp2 (by assumption)]
    exact z07 rfl (Le.refl _)
   ·rw [znl hne hi qp2 (by assumption) (zas.1 (by assumption))]
    exact z07 rfl (Le.refl _)
   ·have hf := zfr.1 ‹(z06 id t.kids[i]).2 = false›
    (refine Exists.intro _ (And.intro ?_ ⟨i + 1, rfl, ?_⟩)); rotate_left; (simp (disch := omega) only [go_sem, Nat.reduceBEq, Nat.reduceLeDiff, q2, q3, q4, q7, qH0, qH1, qH2, true_and, Int.natCast_add, Int.natCast_one, z0a, Idv.zero]); rotate_left
    ·omega
    ·refine ⟨by omega, by omega, fun j hj h => ?_⟩
     by_cases e : j = i
     ·subst e; exact hf
     ·exact qp2 j (by omega) h
  ·repeat' (first | refine nxt ?_ | ((refine zqh fun K J => ?_); (simp (disch := omega) only [go_sem, Nat.reduceBEq, ↓reduceIte, reduceCtorEq, Nat.reduceAdd, Nat.reduceLeDiff, q2, q4, q7, qH0, qH2, z0r, z0a, Idv.zero])) | ((refine zqd _ rfl (fun hc => ?_) (fun hc => ?_)) <;> (((try simp only [z09] at hc); (try (exfalso; omega))))) | refine zqz ?_ | refine zqu (by (simp (disch := omega) only [go_sem, Nat.reduceBEq, ↓reduceIte, Nat.reduceAdd, Nat.reduceLeDiff, q4, qH2, z0a, Idv.zero]); rfl) rfl ?_ | (refine J _ ?_; clear J K))
   rw [zv2 (zc5 hne (by omega) qp2)]
   exact z07 rfl (Le.refl _)
theorem zzv (id : Idv) : ∀ t : T, szB t = true -> depT t <= 1000000000 -> (z78 id t = [] -> PC Tryz.prog 190 [z0h t, z19 id] .nil) /\
  (z78 id t ≠ [] -> OC Tryz.prog 190 [z0h t, z19 id] [.row 23 (z78 id t).length ((z78 id t).flatMap z0a)] (.osl 0 (z78 id t).length)) := by
 refine z4x fun t ih hs V => ⟨fun ha => ?_, fun ha => ?_⟩
 ·obtain ⟨h0, h1, g1, h2, g2, h3, h4⟩ := (z2f t).1 hs
  refine z14 3 (by simp only [pureD.pureL, z01]; rfl) rfl (z10 [3000021, 3000023, 3000024, 3000025, 5000026] Tryz.func190 rfl (by decide +kernel) z0e (by decide +kernel) (by simp [Tryz.ntmps190]) ?_)
  show awp _ _ (Code.seq _ _) _ _
  repeat' (first | refine nxt ?_ | ((refine zqh fun K J => ?_); (simp (disch := omega) only [go_sem, Nat.reduceBEq, ↓reduceIte, reduceCtorEq, Nat.reduceAdd, Nat.reduceLeDiff])) | ((refine zqd _ rfl (fun hc => ?_) (fun hc => ?_)) <;> (((try simp only [z09] at hc); (try (exfalso; omega))))) | refine zqu (by (simp (disch := omega) only [go_sem]); rfl) rfl ?_ | (refine J _ ?_; clear J K))
  ·exact z07 rfl (Le.refl _)
  ·have hne : ¬ t.id = id := by assumption
   (refine z3m (fun U st => ∃ (i : _), U = t.kids.length - i /\ st.t 2 = .ptr 0 0 /\ st.t 3 = .ptr 1 0 /\ st.t 5 = .int .i64 i /\ st.H 0 = some (.box 27 (z0b t)) /\ st.H 1 = some (.box 23 (z0a id)) /\ (i <= t.kids.length) /\ (2 <= st.nx) /\ (∀ j, (hj : j < i) -> (h : j < t.kids.length) -> z2i id t.kids[j] = [])) ?_ ?_); rotate_left; (rintro U st ⟨i, rfl, q2, q3, q5, qH0, qH1, qp0, qp1, qp2⟩); rotate_left
   ·(refine ⟨_, 0, rfl, ?_⟩); (simp (disch := omega) only [go_sem, Nat.reduceBEq, Nat.reduceLeDiff, true_and, Int.natCast_zero, z0a])
    (repeat' (omega))
    all_goals intro j hj; omega
   by_cases hi : i < t.kids.length
   ·have hno : z2i id t.kids[i] = [] := by
     by_cases e : z2i id t.kids[i] = []
     ·exact e
     ·rw [zjd hne hi qp2 e] at ha; simp at ha
    have hfn := z48 id t.kids[i] (h4 _ (List.getElem_mem hi))
    rw [zar hno] at hfn
    repeat' (first | refine nxt ?_ | ((first | refine zqh fun K J => ?_ | refine zqe (by decide +kernel) fun K J => ?_ | refine zqr fun K J => ?_ | refine zqt (hfn) ?_); (simp (disch := omega) only [go_sem, Nat.reduceBEq, Nat.reduceEqDiff, ↓reduceIte, reduceCtorEq, Nat.reduceAdd, Nat.reduceLeDiff, q2, q3, q5, qH0, qH1, z0r, z0a])) | ((first | refine zqd _ rfl (fun hc => ?_) (fun hc => ?_) | refine zqm _ rfl (fun hc => ?_) (fun hc => ?_)) <;> (first | (cases hc; done) | ((try simp only [z09] at hc); (try (exfalso; omega))))) | (refine J _ ?_; clear J K))
    (refine Exists.intro _ (And.intro ?_ ⟨i + 1, rfl, ?_⟩)); rotate_left; (simp (disch := omega) only [go_sem, Nat.reduceBEq, Nat.reduceLeDiff, q2, q3, q5, qH0, qH1, true_and, Int.natCast_add, Int.natCast_one, z0a]); rotate_left
    ·omega
    ·refine ⟨by omega, by omega, fun j hj h => ?_⟩
     by_cases e : j = i
     ·subst e; exact hno
     ·exact qp2 j (by omega) h
   ·repeat' (first | refine nxt ?_ | ((refine zqh fun K J => ?_); (simp (disch := omega) only [go_sem, Nat.reduceBEq, ↓reduceIte, reduceCtorEq, Nat.reduceAdd, q2, q5, qH0, z0r])) | ((refine zqd _ rfl (fun hc => ?_) (fun hc => ?_)) <;> (((try simp only [z09] at hc); (try (exfalso; omega))))) | refine zqz ?_ | refine zqu (by (simp (disch := omega) only [go_sem]); rfl) rfl ?_ | (refine J _ ?_; clear J K))
    exact z07 rfl (Le.refl _)
 ·obtain ⟨h0, h1, g1, h2, g2, h3, h4⟩ := (z2f t).1 hs
  refine zaw (by simp only [pureD.pureL, z01]; rfl) rfl (fun o ho => by simp at ho; subst ho; exact z1y (fun _ => rfl) _) (z10 [3000021, 3000023, 3000024, 3000025, 5000026, 3000038, 4000036] Tryz.func190 rfl (by decide +kernel) z0e (by decide +kernel) (by simp [Tryz.ntmps190]) ?_)
  show awp _ _ (Code.seq _ _) _ _
  repeat' (first | refine nxt ?_ | ((refine zqh fun K J => ?_); (simp (disch := omega) only [go_sem, Nat.reduceBEq, ↓reduceIte, reduceCtorEq, Nat.reduceAdd, Nat.reduceLeDiff])) | ((refine zqd _ rfl (fun hc => ?_) (fun hc => ?_)) <;> (((try simp only [z09] at hc); (try (exfalso; omega))))) | refine zqu (by (simp (disch := omega) only [go_sem]); rfl) rfl ?_ | (refine J _ ?_; clear J K))
  ·exact (ha (zl6 (by assumption))).elim
  ·have hne : ¬ t.id = id := by assumption
   (refine z3m (fun U st => ∃ (i : _), U = t.kids.length - i /\ st.t 2 = .ptr 0 0 /\ st.t 3 = .ptr 1 0 /\ st.t 5 = .int .i64 i /\ st.H 0 = some (.box 27 (z0b t)) /\ st.H 1 = some (.box 23 (z0a id)) /\ (i <= t.kids.length) /\ (2 <= st.nx) /\ (∀ j, (hj : j < i) -> (h : j < t.kids.length) -> z2i id t.kids[j] = [])) ?_ ?_); rotate_left; (rintro U st ⟨i, rfl, q2, q3, q5, qH0, qH1, qp0, qp1, qp2⟩); rotate_left
   ·(refine ⟨_, 0, rfl, ?_⟩); (simp (disch := omega) only [go_sem, Nat.reduceBEq, Nat.reduceLeDiff, true_and, Int.natCast_zero, z0a])
    (repeat' (omega))
    all_goals intro j hj; omega
   by_cases hi : i < t.kids.length
   ·have hfn := z48 id t.kids[i] (h4 _ (List.getElem_mem hi))
    by_cases hno : z2i id t.kids[i] = []
    ·rw [zar hno] at hfn
     repeat' (first | refine nxt ?_ | ((first | refine zqh fun K J => ?_ | refine zqe (by decide +kernel) fun K J => ?_ | refine zqr fun K J => ?_ | refine zqt (hfn) ?_); (simp (disch := omega) only [go_sem, Nat.reduceBEq, Nat.reduceEqDiff, ↓reduceIte, reduceCtorEq, Nat.reduceAdd, Nat.reduceLeDiff, q2, q3, q5, qH0, qH1, z0r, z0a])) | ((first | refine zqd _ rfl (fun hc => ?_) (fun hc => ?_) | refine zqm _ rfl (fun hc => ?_) (fun hc => ?_)) <;> (first | (cases hc; done) | ((try simp only [z09] at hc); (try (exfalso; omega))))) | (refine J _ ?_; clear J K))
     (refine Exists.intro _ (And.intro ?_ ⟨i + 1, rfl, ?_⟩)); rotate_left; (simp (disch := omega) only [go_sem, Nat.reduceBEq, Nat.reduceLeDiff, q2, q3, q5, qH0, qH1, true_and, Int.natCast_add, Int.natCast_one, z0a]); rotate_left
     ·omega
     ·refine ⟨by omega, by omega, fun j hj h => ?_⟩
      by_cases e : j = i
      ·subst e; exact hno
      ·exact qp2 j (by omega) h
    ·obtain ⟨hk1, hk2⟩ := ih t.kids[i] (List.getElem_mem hi) (h4 _ (List.getElem_mem hi)) (by have := z5f (List.getElem_mem hi); omega)
     have hf2 := zpq hno
     have hak := zjd hne hi qp2 hno
     by_cases hka : z78 id t.kids[i] = []
     ·have hk1 := hk1 hka
      repeat' (first | refine nxt ?_ | ((first | refine zqh fun K J => ?_ | refine zqe (by decide +kernel) fun K J => ?_ | refine zqt (hfn) ?_ | refine zqt (hk1) ?_); (simp (disch := omega) only [go_sem, Nat.reduceBEq, Nat.reduceEqDiff, ↓reduceIte, reduceCtorEq, Nat.reduceAdd, Nat.reduceMul, Nat.reduceLeDiff, q2, q3, q5, qH0, qH1, z0r, z0a, hf2])) | ((first | refine zqd _ rfl (fun hc => ?_) (fun hc => ?_) | refine zqm _ rfl (fun hc => ?_) (fun hc => ?_)) <;> (first | (cases hc; done) | ((try simp only [z09] at hc); (try (exfalso; omega))))) | refine zqu (by (simp (disch := omega) only [go_sem]); rfl) rfl ?_ | (refine J _ ?_; clear J K))
      refine ⟨fun _ => st.nx + 1, fun i j hi hj _ => by simp at hi hj; omega, ?_, fun j hj => ?_⟩
      ·(simp (disch := omega) only [go_sem, Nat.reduceBEq, hak, hka, List.length_cons, List.length_nil, renD])
      ·obtain rfl : j = 0 := by simp at hj; omega
       (simp (disch := omega) only [go_sem, hak, hka, z0a, List.length_cons, List.length_nil, List.flatMap_cons, List.flatMap_nil, List.append_nil, List.nil_append])
       try rfl
     ·have hk2 := hk2 hka
      have hal : (z78 id t.kids[i]).length <= 1000000000 := by
       have h1 := zbf id t.kids[i]
       have h2 := z5f (List.getElem_mem hi)
       have h3 : (z78 id t.kids[i]).length = (z2i id t.kids[i]).length - 1 := by unfold z78; simp
       omega
      repeat' (first | refine nxt ?_ | ((first | refine zqh fun K J => ?_ | refine zqe (by decide +kernel) fun K J => ?_ | refine zqt (hfn) ?_ | refine z7p (hk2) rfl rfl rfl ?_); (simp (disch := omega) only [go_sem, Nat.reduceBEq, Nat.reduceEqDiff, ↓reduceIte, reduceCtorEq, Nat.reduceAdd, Nat.reduceMul, Nat.reduceLeDiff, q2, q3, q5, qH0, qH1, z0r, z0a, hf2])) | ((first | refine zqd _ rfl (fun hc => ?_) (fun hc => ?_) | refine zqm _ rfl (fun hc => ?_) (fun hc => ?_)) <;> (first | (cases hc; done) | ((try simp only [z09] at hc); (try (exfalso; omega))))) | refine zqu (by (simp (disch := omega) only [go_sem]); rfl) rfl ?_ | (refine J _ ?_; clear J K))
      refine ⟨fun _ => st.nx + 1, fun i j hi hj _ => by simp at hi hj; omega, ?_, fun j hj => ?_⟩
      ·(simp (disch := omega) only [go_sem, Nat.reduceBEq, hak, List.length_append, List.length_cons, List.length_nil, renD])
      ·obtain rfl : j = 0 := by simp at hj; omega
       (simp (disch := omega) only [go_sem, hak, z0a, List.length_append, List.length_cons, List.length_nil, List.flatMap_append, List.flatMap_cons, List.flatMap_nil, List.append_nil])
       try rfl
   ·exact (ha (zv3 (zc5 hne (by omega) qp2))).elim
end
section
open Abs Facts Tr Go.RowKit
namespace Abs
theorem zhj : ∀ (vs a b : List D) (off : Nat), off + vs.length <= a.length -> z1f (a ++ b) off vs = z1f a off vs ++ b
 | [], a, b, off, _ => rfl
 | v :: vs, a, b, off, h => by
  simp only [List.length_cons] at h
  unfold z1f
  rw [List.set_append_left _ _ (by omega), zhj vs (a.set off v) b (off + 1) (by rw [List.length_set]; omega)]
theorem zhk : ∀ (vs a b : List D) (off : Nat), z1f (a ++ b) (a.length + off) vs = a ++ z1f b off vs
 | [], a, b, off => rfl
 | v :: vs, a, b, off => by
  unfold z1f
  rw [List.set_append_right _ _ (by omega), show a.length + off - a.length = off from by omega, Nat.add_assoc, zhk vs a (b.set off v) (off + 1)]
section
variable {α : Type} {f : α -> List D} {sz : Nat}
theorem z4d (h : ∀ x, (f x).length = sz) : ∀ l : List α, (l.flatMap f).length = l.length * sz
 | [] => by simp
 | x :: l => by rw [List.flatMap_cons, List.length_append, h, z4d h l, List.length_cons, Nat.add_mul]; omega
theorem zdk (h : ∀ x, (f x).length = sz) : ∀ (l : List α) (i : Nat), (l.flatMap f).drop (i * sz) = (l.drop i).flatMap f
 | l, 0 => by simp
 | [], i + 1 => by simp
 | x :: l, i + 1 => by
  rw [List.flatMap_cons, List.drop_succ_cons, <- zdk h l i, Nat.add_mul, Nat.one_mul, Nat.add_comm, <- List.drop_drop]
  congr 1
  rw [List.drop_append_of_le_length (by rw [h]; omega), List.drop_of_length_le (by rw [h]; omega), List.nil_append]
theorem zhl (h : ∀ x, (f x).length = sz) {l : List α} {i : Nat} (hi : i < l.length) : ((l.flatMap f).drop (i * sz)).take sz = f l[i] := by
 rw [zdk h, List.drop_eq_getElem_cons hi, List.flatMap_cons, List.take_append_of_le_length (by rw [h]; omega), List.take_of_length_le (by rw [h]; omega)]
theorem zc1 (h : ∀ x, (f x).length = sz) {y : α} {vs : List D} {o : Nat} : ∀ {l : List α} {i : Nat} (hi : i < l.length), o + vs.length <= sz -> z1f (f l[i]) o vs = f y -> z1f (l.flatMap f) (i * sz + o) vs = (l.set i y).flatMap f
 | x :: l, 0, _, ho, hs => by
  rw [Nat.zero_mul, Nat.zero_add, List.flatMap_cons, zhj _ _ _ _ (by rw [h]; exact ho), List.set_cons_zero, List.flatMap_cons]
  simp only [List.getElem_cons_zero] at hs
  rw [hs]
 | x :: l, i + 1, hi, ho, hs => by
  rw [List.flatMap_cons, show (i + 1) * sz + o = (f x).length + (i * sz + o) from by rw [h, Nat.add_mul]; omega, zhk, List.set_cons_succ, List.flatMap_cons]
  rw [zc1 h (l := l) (i := i) (by simpa using hi) ho (by simpa using hs)]
theorem z5u : ∀ (vs cs : List D), vs.length = cs.length -> z1f cs 0 vs = vs := by
 intro vs cs h
 rw [zam vs cs 0 (by omega)]
 simp [<- h]
theorem z68 (h : ∀ x, (f x).length = sz) {y : α} {l : List α} {i : Nat} (hi : i < l.length) : z1f (l.flatMap f) (i * sz) (f y) = (l.set i y).flatMap f := by
 have := zc1 h (y := y) (vs := f y) (o := 0) hi (by rw [h]; omega) (z5u _ _ (by rw [h, h]))
 simpa using this
end
variable {P : Program}
theorem z16 {α : Type} {P : Program} {H : HM} {id e sz n : Nat} {f : α -> List D} {l : List α} (k : Nat) (hn : l.length = n) (hH : H id = some (.row e n (l.flatMap f))) (ha : z0g P e = true) (hs : z08 P e = sz) (h : ∀ x, (f x).length = sz) (hp : ∀ x, pureD.pureL (f x) = true) :
  z2p P H (k + 2) (.osl id n) = some (.rsl false sz (l.map fun x => .agg (f x))) := by
 subst hn
 exact z1e k hH ha hs h hp
theorem zne {f : FuncId} {ds : List D} {H : HM} {nx : Nat} {K : D -> HM -> Nat -> Prop} (e : TypeId) (h : AC P f ds H nx fun r H' nx' => r = .nil /\ K (.osl nx' 0) (z13 H' nx' (some (.row e 0 []))) (nx' + 1)) : AC P f ds H nx K := by
 refine ⟨h.1, fun s w vs h1 h2 h3 h4 => (h.2 s w vs h1 h2 h3 h4).mono fun x w' ⟨v, r, s', he, ⟨hr, J⟩, hstep, hRH, hrel⟩ => ?_⟩
 subst hr
 simp only [rel] at hrel
 subst hrel
 obtain ⟨g1, g2⟩ := z7e hRH (Grew.refl w') (.row e 0 []) (.slice none 0 0) (fun b hb => by cases hb) ⟨[], ⟨by simp, .inl ⟨rfl, rfl⟩⟩, z0z, by intro v hv; cases hv⟩
 refine ⟨.slice none 0 0, .osl s'.nx 0, s'.add (.slice none 0 0) (.row e 0 []), he, J, hstep.trans g1, g2, ?_⟩
 simp only [rel]
 refine ⟨Nat.lt_succ_self _, ⟨none, 0, rfl⟩, fun e' k cs hH => ?_⟩
 simp only [RS.add, z13, if_true, Option.some.injEq, HObj.row.injEq] at hH
 obtain ⟨_, rfl, _⟩ := hH
 exact ⟨Nat.le_refl _, fun _ => by simp [RS.add]⟩
theorem zuf {st : St} {b off : Nat} {e : TypeId} {cs : List D} (e' : TypeId) (hb : st.H b = some (.box e cs)) (hoff : cs[off]? = some .nil) :
  SealTo P st { st with H := z13 (z13 st.H st.nx (some (.row e' 0 []))) b (some (.box e (cs.set off (.osl st.nx 0)))), nx := st.nx + 1 } := by
 intro N s a w hf
 have hHb : s.H b = some (.box e cs) := by rw [hf.H]; exact hb
 have hne : b ≠ s.nx := by have := (hf.heap.obj b _ hHb).1; omega
 obtain ⟨g1, g2⟩ := z7e hf.heap (Grew.refl w) (.row e' 0 []) (.slice none 0 0) (fun b hb => by cases hb) ⟨[], ⟨by simp, .inl ⟨rfl, rfl⟩⟩, z0z, by intro v hv; cases hv⟩
 have hb2 : (s.add (.slice none 0 0) (.row e' 0 [])).H b = some (.box e cs) := by simp [RS.add, z13, hne, hHb]
 obtain ⟨_, q2⟩ := g2.obj b _ hb2
 obtain ⟨g3, g4⟩ := z89 (w' := w) g2 b _ (.box e (cs.set off (.osl s.nx 0))) ((s.add (.slice none 0 0) (.row e' 0 [])).κ b) hb2 rfl rfl rfl (Nat.le_refl _) (fun _ _ _ => rfl) (.inr ⟨_, rfl, rfl⟩) (fun b hb => .inl hb) (fun hl => by
  obtain ⟨b', vs, u1, u2, u3, u4⟩ := q2
  refine ⟨b', vs, u1, u2, ?_, u4⟩
  have hlen := z0f u3
  refine z5a (by rw [List.length_set]; exact hlen) fun i d v V hv => ?_
  rw [List.getElem?_set] at V
  split at V
  ·rename_i hio
   subst hio
   split at V
   ·cases V
    obtain ⟨v', hv', hr⟩ := z2v u3 _ _ hoff
    rw [hv'] at hv
    cases hv
    simp only [rel] at hr ⊢
    subst hr
    refine ⟨by simp [RS.set, RS.add], ⟨_, _, rfl⟩, fun e2 k cs hH => ⟨Nat.zero_le _, fun _ => ?_⟩⟩
    simp only [RS.set, RS.add]
    rw [if_neg (fun h => hne h.symm)]
    simp
   ·cases V
  ·obtain ⟨v', hv', hr⟩ := z2v u3 _ _ V
   rw [hv'] at hv
   cases hv
   exact rel.later hl _ _ hr)
 refine ⟨_, ⟨?_, ?_, hf.size, hf.defers, fun i => rel.later (g1.trans g3).later _ _ (hf.tmps i), g4⟩, g1.trans g3⟩
 ·simp only [RS.set, RS.add, hf.H, hf.nx]
 ·simp only [RS.set, RS.add, hf.nx]
theorem z1r {N id : Nat} {l : List Oper} {b : Code} {own : List Nat} {Q : Exit -> St -> Prop} {st : St} (_hid : (id == N) = false) (h : ∀ K : St -> Prop, (∀ st, awp P own b Q st -> K st) -> z2l P own (l.map (·.dst)) l K st) : awp P own (.seq (.region id l.toArray false) b) Q st := zqh h
theorem z37 {N id : Nat} {l : List Oper} {b : Code} {own : List Nat} {Q : Exit -> St -> Prop} {st : St} (_hid : (id == N) = false) (h0 : zil own l.toArray = true) (h : ∀ K : St -> Prop, (∀ st, awp P own b Q st -> K st) -> z3n P own (l.map (·.dst)) l K st) : awp P own (.seq (.region id l.toArray true) b) Q st := zqe h0 h
end Abs
end
section
open Abs Facts Tr
attribute [local irreducible] awp
namespace Tr
def zd0 (w : Wd) : Wd := ⟨w.text, Idv.zero⟩
def z5j (t : T) : T := zhm (fun t l => .mk Idv.zero t.kind t.label (t.head.map zd0) (t.words.map zd0) l) t
theorem zd1 (t : T) : z5j t = .mk Idv.zero t.kind t.label (t.head.map zd0) (t.words.map zd0) (t.kids.map z5j) := by unfold z5j; rw [z45]
theorem sz_strip : ∀ t : T, szB t = true -> szB (z5j t) = true := by
 refine z4x fun t ih h => ?_
 obtain ⟨h0, h1, h2, h3, h4, h5, h6⟩ := (z2f t).1 h
 rw [zd1, z2f]
 refine ⟨h0, (show (t.head.map zd0).length <= _ by simpa using h1), fun w hw => ?_, (show (t.words.map zd0).length <= _ by simpa using h3), fun w hw => ?_, (show (t.kids.map z5j).length <= _ by simpa using h5), fun k O => ?_⟩
 ·obtain ⟨x, hx, rfl⟩ := List.mem_map.1 hw; exact h2 x hx
 ·obtain ⟨x, hx, rfl⟩ := List.mem_map.1 hw; exact h4 x hx
 ·obtain ⟨x, hx, rfl⟩ := List.mem_map.1 O; exact ih x hx (h6 x hx)
end Tr
theorem zxr : ∀ t : T, szB t = true -> PC Tryz.prog 146 [z0h t] (z0h (z5j t)) := by
 refine z4x fun t ih hs => ?_
 obtain ⟨h0, h1, g1, h2, g2, h3, h4⟩ := (z2f t).1 hs
 have b1 : PC Tryz.prog 187 [z0n t.head] (z0n (t.head.map zd0)) := zpp t.head h1
 have b2 : PC Tryz.prog 187 [z0n t.words] (z0n (t.words.map zd0)) := zpp t.words h2
 rw [zd1]
 refine z14 4 (by simp only [pureD.pureL, z01, Bool.and_self]) (z01 _) (z10 [3000006, 3000008, 3000010, 5000011, 3000013, 5000014] Tryz.func146 rfl (by decide +kernel) z0e (by decide +kernel) (by simp [Tryz.ntmps146]) ?_)
 show awp _ _ (Code.seq _ _) _ _
 rw [show Tryz.f146.results.toList = [.cell 2 27] from rfl]
 repeat' (first | refine nxt ?_ | ((first | refine z1r (N := 2) rfl fun K J => ?_ | refine z37 (N := 2) rfl (by decide +kernel) fun K J => ?_ | refine zqt (b1) ?_ | refine zqt (b2) ?_); (simp (disch := omega) only [go_sem, Nat.reduceBEq, Nat.reduceEqDiff, ↓reduceIte, reduceCtorEq, Nat.reduceAdd, Nat.reduceLeDiff, z0n])) | (refine J _ ?_; clear J K))
 refine z1i fun K J => ?_
 (simp (disch := omega) only [go_sem])
 refine J _ _ (zuf (b := 2) (off := 7) (e := 27) 27 (by (simp (disch := omega) only [go_sem, Nat.reduceBEq]); rfl) rfl) ?_
 clear J K
 repeat' (refine zqa ?_)
 (refine z3m (fun U st => ∃ (i : _), U = t.kids.length - i /\ st.t 1 = .ptr 0 0 /\ st.t 2 = .ptr 1 0 /\ st.t 3 = .ptr 2 0 /\ st.t 4 = .int .i64 i /\ st.H 0 = some (.box 27 (z0b t)) /\ st.H 1 = some (.box 27 [.int .i64 0, .int .i64 0, .int .i64 0, .int .i64 0, .str ByteArray.empty, .nil, .nil, .nil]) /\ st.H 2 = some (.box 27 [.int .i64 0, .int .i64 0, .int .i64 0, .int .i64 t.kind, .str t.label, z0n (t.head.map zd0), z0n (t.words.map zd0), .osl 3 i]) /\ st.H 3 = some (.row 27 i (((t.kids.take i).map z5j).flatMap z0b)) /\ (i <= t.kids.length) /\ (4 <= st.nx)) ?_ ?_); rotate_left; (rintro U st ⟨i, rfl, q1, q2, q3, q4, qH0, qH1, qH2, qH3, qp0, qp1⟩); rotate_left
 ·(refine ⟨_, 0, rfl, ?_⟩); (simp (disch := omega) only [go_sem, Nat.reduceBEq, Nat.reduceAdd, Nat.reduceLeDiff, and_self, Int.natCast_zero, List.flatMap_nil, List.map_nil, z0n, List.set_cons_succ, List.set_cons_zero])
 by_cases hi : i < t.kids.length
 ·have hin := ih t.kids[i] (List.getElem_mem hi) (h4 _ (List.getElem_mem hi))
  have htk := List.take_succ_eq_append_getElem hi
  repeat' (first | refine nxt ?_ | ((first | refine zqh fun K J => ?_ | refine zqr fun K J => ?_ | refine zqq (by decide +kernel) fun K J => ?_ | refine zqt (hin) ?_); (simp (disch := omega) only [go_sem, Nat.reduceBEq, Nat.reduceEqDiff, ↓reduceIte, reduceCtorEq, Nat.reduceAdd, Nat.reduceMul, Nat.reduceLeDiff, Nat.reduceLT, q1, q3, q4, qH0, qH2, qH3, z0r])) | ((refine zqd _ rfl (fun hc => ?_) (fun hc => ?_)) <;> (((try simp only [z09] at hc); (try (exfalso; omega))))) | (refine J _ ?_; clear J K))
  (refine Exists.intro _ (And.intro ?_ ⟨i + 1, rfl, ?_⟩)); rotate_left; (simp (disch := omega) only [go_sem, Nat.reduceBEq, q1, q2, q3, q4, qH0, qH1, qH2, qH3, true_and, Int.natCast_add, Int.natCast_one, List.flatMap_append, List.flatMap_cons, List.flatMap_nil, List.map_append, List.map_cons, List.map_nil, List.append_nil, htk]); rotate_left
  ·omega
  ·omega
 ·repeat' (first | refine nxt ?_ | ((refine zqh fun K J => ?_); (simp (disch := omega) only [go_sem, Nat.reduceBEq, ↓reduceIte, reduceCtorEq, Nat.reduceAdd, Nat.reduceLeDiff, q1, q2, q3, q4, qH0, qH1, qH2, z0r])) | ((refine zqd _ rfl (fun hc => ?_) (fun hc => ?_)) <;> (((try simp only [z09] at hc); (try (exfalso; omega))))) | refine zqz ?_ | refine zqu (by (simp (disch := omega) only [go_sem, Nat.reduceBEq, ↓reduceIte, Nat.reduceAdd, Nat.reduceLeDiff, q2, qH1]); rfl) rfl ?_ | (refine J _ ?_; clear J K))
  have hi2 : i = t.kids.length := by omega
  subst hi2
  rw [List.take_length] at qH3
  rw [z0h, z0l]
  have hlen : t.kids.length = (t.kids.map z5j).length := by simp
  refine z3h (z4z (k := 3) (by simp [pureD.pureL, pureD]) ?_)
  refine z00 (z02 2 rfl) (z00 (z02 2 rfl) (z00 (z02 2 rfl) (z00 (z02 2 rfl) (z00 (z02 2 rfl) (z00 (z02 2 (z0i _)) (z00 (z02 2 (z0i _)) (z00 ?_ z0c)))))))
  rw [hlen]
  refine z1e (f := z0b) (l := t.kids.map z5j) 1 ?_ z0k z2s z0d z04
  (simp (disch := omega) only [go_sem, Nat.reduceBEq, qH3])
theorem pc_Bare (t : T) (hs : szB t = true) (hc : cntT t <= 1000000000) (V : depT t <= 1000000000) : PC Tryz.prog 96 [z0h t] (.bool (z5z t && decide (t = z5j t))) := by
 have h1 := pc_May t hs hc V
 have h2 := zxr t hs
 have h3 := zfq t hs (z5j t) (sz_strip t hs)
 refine z14 1 (by simp only [pureD.pureL, z01, Bool.and_self]) rfl (z10 [] Tryz.func96 rfl (by decide +kernel) z0e (by decide +kernel) (by simp [Tryz.ntmps96]) ?_)
 show awp _ _ (Code.seq _ _) _ _
 repeat' (first | ((first | refine zqh fun K J => ?_ | refine zqe (by decide +kernel) fun K J => ?_ | refine zqt (h1) ?_ | refine zqt (h2) ?_ | refine zqt (h3) ?_); (simp (disch := omega) only [go_sem, Nat.reduceBEq, ↓reduceIte, Nat.reduceAdd, Nat.reduceLeDiff])) | refine nxt ?_ | refine zqu (by (simp (disch := omega) only [go_sem]); rfl) rfl ?_ | (refine J _ ?_; clear J K) | (refine zqf (fun hb => ?_) (fun hb => ?_) <;> (have hb2 := hb; try simp only [z09] at hb2) <;> ((have F : (_ : Bool) = _ := hb2); (simp (disch := omega) only [go_sem, Nat.reduceBEq, ↓reduceIte, Nat.reduceAdd, Nat.reduceLeDiff, hb]); clear hb F; (try (exfalso; omega)))))
 all_goals refine z03 ?_
 all_goals (simp (disch := omega) only [Bool.true_and, Bool.false_and, *])
namespace Tr
theorem nameK_ne (k : Int) : (zom k ≠ z7v) ↔ (0 <= k /\ k <= 7) := by
 by_cases h : 0 <= k /\ k < 8
 ·have : zom k ≠ z7v := by
   rcases zx2 h with rfl | rfl | rfl | rfl | rfl | rfl | rfl | rfl <;> decide
  exact ⟨fun _ => by omega, fun _ => this⟩
 ·have : zom k = z7v := if_neg h
  exact ⟨fun h2 => absurd this h2, fun h2 => by omega⟩
theorem zxs (t : T) : (ownB t && decide (t.kids.length <= 64)) = z3i t := by
 unfold ownB z3i
 by_cases h0 : t.kind = 0
 ·rw [if_pos h0, if_pos h0, decide_eq_true (show 0 <= t.kind /\ t.kind <= 7 by omega)]
  by_cases h1 : t.head.length = 0
  ·by_cases h2 : t.words.length = 0
   ·have e1 : zis t.head = true := by unfold zis; rw [List.eq_nil_of_length_eq_zero h1]; rfl
    have e2 : zis t.words = true := by unfold zis; rw [List.eq_nil_of_length_eq_zero h2]; rfl
    rw [e1, e2, decide_eq_true h1, decide_eq_true h2, decide_eq_true (show t.head.length + t.words.length = 0 by omega)]
    simp [Bool.and_comm]
   ·rw [decide_eq_false h2, decide_eq_false (show ¬ t.head.length + t.words.length = 0 by omega)]; simp
  ·rw [decide_eq_false h1, decide_eq_false (show ¬ t.head.length + t.words.length = 0 by omega)]; simp
 ·rw [if_neg h0, if_neg h0]
  have : decide (zom t.kind ≠ z7v) = decide (0 <= t.kind /\ t.kind <= 7) := decide_eq_decide.2 (nameK_ne t.kind)
  rw [this]
  cases decide (0 <= t.kind /\ t.kind <= 7) <;> cases z4e t.label <;> cases zis t.head <;> cases zis t.words <;> cases decide (t.kids.length <= 64) <;> rfl
theorem zmr (f : T -> Bool) (t : T) : (z0m t).all f = (f t && t.kids.all fun k => (z0m k).all f) := by
 rw [z25, List.all_cons, List.all_flatMap]
theorem zea {α : Type} {f g : α -> Bool} : ∀ {l : List α}, (∀ x ∈ l, f x = g x) -> l.all f = l.all g
 | [], _ => rfl
 | x :: l, h => by rw [List.all_cons, List.all_cons, h x (by simp), zea fun y hy => h y (List.mem_cons_of_mem _ hy)]
theorem zow : ∀ t : T, (z0m t).all zfo = z3w t := by
 refine z4x fun t ih => ?_
 rw [zmr, zea ih, z4i, <- zxs]
 unfold zfo
 cases ownB t <;> cases (t.kids.all fun k => z1w t.kind k.kind) <;> cases decide ((t.kids.map z6e).Nodup) <;> cases decide (t.kids.length <= 64) <;> cases t.kids.all z3w <;> rfl
def zxt (t : T) : Bool := decide (t.id = Idv.zero) && ((t.head.all fun w => decide (w.by_ = Idv.zero)) && t.words.all fun w => decide (w.by_ = Idv.zero))
theorem zke {α : Type} {f : α -> α} : ∀ {l : List α}, l = l.map f ↔ ∀ x ∈ l, x = f x
 | [] => by simp
 | x :: l => by
  rw [List.map_cons, List.cons.injEq, zke]
  simp
theorem zxu (w : Wd) : w = zd0 w ↔ w.by_ = Idv.zero := by
 obtain ⟨a, b⟩ := w
 unfold zd0
 simp [Wd.mk.injEq]
theorem zox : ∀ t : T, (z0m t).all zxt = decide (t = z5j t) := by
 refine z4x fun t ih => ?_
 rw [zmr, zea ih, Bool.eq_iff_iff]
 simp only [zxt, Bool.and_eq_true, decide_eq_true_eq, List.all_eq_true]
 have e : t = z5j t ↔ t.id = Idv.zero /\ t.head = t.head.map zd0 /\ t.words = t.words.map zd0 /\ t.kids = t.kids.map z5j := by
  constructor
  ·intro h
   rw [zd1] at h
   exact ⟨congrArg T.id h, congrArg T.head h, congrArg T.words h, congrArg T.kids h⟩
  ·rintro ⟨h1, h2, h3, h4⟩
   rw [zd1, <- h1, <- h2, <- h3, <- h4, T.eta]
 rw [e, zke, zke, zke]
 simp only [zxu, and_assoc]
end Tr
theorem zkf (t : T) (hs : szB t = true) (hc : cntT t <= 1000000000) (V : depT t <= 1000000000) : PC Tryz.prog 57 [z0h t] (.bool (z5z t)) := by
 have h := zuy t hs hc V
 rw [zow] at h
 exact h
theorem zxv (t : T) (hs : szB t = true) (hc : cntT t <= 1000000000) (V : depT t <= 1000000000) : PC Tryz.prog 86 [z0h t] (.bool (z5z t && decide (t = z5j t))) := by
 have h1 := zkf t hs hc V
 have h2 := zrj (g := 122) (cap := []) zxt rfl t (z7u t hs) (fun x hx => by
  obtain ⟨_, b1, _, b2, _⟩ := (z2f x).1 (zaq t hs x hx)
  exact zti x (by unfold maxLen; omega) (by unfold maxLen; omega))
 rw [zox] at h2
 refine z14 1 (by simp only [pureD.pureL, z01, Bool.and_self]) rfl (z10 [] Tryz.func86 rfl (by decide +kernel) z0e (by decide +kernel) (by simp [Tryz.ntmps86]) ?_)
 show awp _ _ (Code.seq _ _) _ _
 repeat' (first | ((first | refine zqh fun K J => ?_ | refine zqs (h1) ?_ | refine zqs (h2) ?_); (simp (disch := omega) only [go_sem, Nat.reduceBEq, ↓reduceIte, Nat.reduceAdd, Nat.reduceLeDiff])) | refine nxt ?_ | refine zqu (by (simp (disch := omega) only [go_sem]); rfl) rfl ?_ | (refine J _ ?_; clear J K) | (refine zqf (fun hb => ?_) (fun hb => ?_) <;> (have hb2 := hb; try simp only [z09] at hb2) <;> ((have F : (_ : Bool) = _ := hb2); (simp (disch := omega) only [go_sem, Nat.reduceBEq, ↓reduceIte, Nat.reduceAdd, Nat.reduceLeDiff, hb]); clear hb F; (try (exfalso; omega)))))
 all_goals refine z03 ?_
 all_goals (simp (disch := omega) only [Bool.true_and, Bool.false_and, *])
def zmh (l : List Wd) : HObj := .row 50 l.length (l.flatMap z11)
theorem zww (l : List Wd) (hl : l.length <= 1000000) (H : HM) (nx : Nat) : AC Tryz.prog 61 [z0n l] H nx fun r H' nx' => r = .osl nx l.length /\ H' = z13 H nx (some (zmh l)) /\ nx' = nx + 1 := by
 refine AC.split (pre := []) (post := []) (sz := 4) (els := l.map z7i) (fun he => ?_) ?_
 ·have hl0 : l = [] := by simpa using he
  subst hl0
  have hp : PC Tryz.prog 61 [.nil] .nil := by
   refine z14 2 rfl rfl (z10 [] Tryz.func61 rfl (by decide +kernel) z0e (by decide +kernel) (by simp [Tryz.ntmps61]) ?_)
   show awp _ _ (Code.seq _ _) _ _
   repeat' (first | refine nxt ?_ | ((refine zqh fun K J => ?_); (simp (disch := omega) only [go_sem, Nat.reduceBEq, ↓reduceIte])) | ((refine zqd _ rfl (fun hc => ?_) (fun hc => ?_)) <;> (first | (cases hc; done) | ((try simp only [] at hc); (try (exfalso; omega))))) | refine zqu (by (simp (disch := omega) only [go_sem]); rfl) rfl ?_ | (refine J _ ?_; clear J K))
   exact z07 rfl (Le.refl _)
  exact zne 50 (hp.ac ⟨rfl, rfl, rfl, rfl⟩)
 ·have ho : OC Tryz.prog 61 [.rsl true 4 (l.map z7i)] [zmh l] (.osl 0 l.length) := by
   refine zaw (by simp only [pureD.pureL, pureD, z0s (f := z7i) (fun _ => rfl) l, Bool.and_self]) rfl (fun o ho => by simp at ho; subst ho; exact z1y (fun _ => rfl) _) (z10 [5] Tryz.func61 rfl (by decide +kernel) z0e (by decide +kernel) (by simp [Tryz.ntmps61]) ?_)
   show awp _ _ (Code.seq _ _) _ _
   repeat' (first | refine nxt ?_ | ((refine zqh fun K J => ?_); (simp (disch := omega) only [go_sem, Nat.reduceBEq, ↓reduceIte, reduceCtorEq, Nat.reduceAdd, Nat.reduceMul, z4j])) | ((refine zqd _ rfl (fun hc => ?_) (fun hc => ?_)) <;> (first | (cases hc; done) | ((try simp only [] at hc); (try (exfalso; omega))))) | refine zqu (by (simp (disch := omega) only [go_sem]); rfl) rfl ?_ | (refine J _ ?_; clear J K))
   refine ⟨fun _ => 0, fun i j hi hj _ => by simp at hi hj; omega, ?_, fun j hj => ?_⟩
   ·(simp (disch := omega) only [go_sem, Nat.reduceBEq, renD])
   ·obtain rfl : j = 0 := by simp at hj; omega
    (simp (disch := omega) only [go_sem, zmh])
    try rfl
  exact ho.ac ⟨by simp [renD], rfl, rfl⟩
theorem z8k (l : List Wd) (hl : l.length <= 1000000) : OC Tryz.prog 61 [z0n l] [zmh l] (.osl 0 l.length) :=
 ⟨by simp only [pureD.pureL, z0i, Bool.and_self], rfl, fun o ho => by simp at ho; subst ho; exact z1y (fun _ => rfl) _, fun H nx => (zww l hl H nx).mono fun r H' nx' ⟨h1, h2, h3⟩ => ⟨by rw [h1]; rfl, h2, h3⟩⟩
def zhs (l : List T) : HObj := .row 27 l.length (l.flatMap z0b)
def z7x (t : T) (a b c : Nat) : List D := [.int .i64 t.id.act, .int .i64 t.id.item, .int .i64 t.id.n, .int .i64 t.kind, .str t.label, .osl a t.head.length, .osl b t.words.length, .osl c t.kids.length]
namespace Tr
end Tr
def z62 : List D := [.int .i64 0, .int .i64 0, .int .i64 0, .int .i64 0, .str ByteArray.empty, .nil, .nil, .nil]
namespace Abs
theorem zj0 : ∀ {ds es : List D}, LeL ds es -> ds.length = es.length
 | [], [], _ => rfl
 | [], _ :: _, h => h.elim
 | _ :: _, [], h => h.elim
 | _ :: ds, _ :: es, h => by simp only [List.length_cons]; rw [zj0 h.2]
theorem Le.rslL {nn : Bool} {sz : Nat} {els els' : List D} (h : LeL els els') : Le (.rsl nn sz els) (.rsl false sz els') := fun s v hr => by
 have hl := zj0 h
 simp only [rel] at hr ⊢
 rcases hr with ⟨_, he, hv⟩ | ⟨a, cap, vs, h1, h2, h3, h4, h5⟩
 ·subst he
  exact .inl ⟨trivial, List.eq_nil_of_length_eq_zero hl.symm, hv⟩
 ·exact .inr ⟨a, cap, vs, by rw [<- hl]; exact h1, by rw [<- hl]; exact h2, h3, z76 h h4, h5⟩
theorem PC.weaken {P : Program} {f : FuncId} {ds : List D} {r r2 : D} (h : PC P f ds r) (hle : Le r r2) (hr : pureD r2 = true) : PC P f ds r2 :=
 z14 1 h.1 hr (h.2.2.mono fun _ _ _ e => by subst e; exact z07 h.2.1 hle)
end Abs
namespace Tr
theorem zj1 (deep most : Int) : ∀ (l : List T), (∀ k ∈ l, ∀ (d m : Int), 0 <= m -> 1 <= z4c k d m) -> ∀ n : Int, n <= z43 deep most (l.map z4c) n
 | [], _, n => by simp [z43]
 | k :: l, h, n => by
  simp only [List.map_cons, z43]
  split
  ·have h1 := h k (by simp) (deep + 1) (most - n) (by omega)
   have h2 := zj1 deep most l (fun q hq => h q (List.mem_cons_of_mem _ hq)) (n + z4c k (deep + 1) (most - n))
   omega
  ·omega
theorem zh4 (deep most : Int) : ∀ (l : List T), (∀ k ∈ l, ∀ (m : Int), 0 <= m -> z4c k (deep + 1) m <= m -> (cntT k : Int) = z4c k (deep + 1) m /\ deep + 1 + depT k <= 20) -> ∀ n : Int, z43 deep most (l.map z4c) n <= most ->
  ((l.flatMap z0m).length : Int) + n = z43 deep most (l.map z4c) n /\ ∀ k ∈ l, deep + 1 + depT k <= 20
 | [], _, n, _ => by simp [z43]
 | k :: l, h, n, hn => by
  simp only [List.map_cons, z43] at hn ⊢
  split at hn
  ·rename_i hle
   rw [if_pos hle]
   have hm := zj1 deep most l (fun q _ d m hm => (z80 q d m hm).1) (n + z4c k (deep + 1) (most - n))
   obtain ⟨h1, h2⟩ := h k (by simp) (most - n) (by omega) (by omega)
   obtain ⟨h3, h4⟩ := zh4 deep most l (fun q hq => h q (List.mem_cons_of_mem _ hq)) _ hn
   refine ⟨?_, fun q hq => ?_⟩
   ·rw [List.flatMap_cons, List.length_append]
    have : (z0m k).length = cntT k := rfl
    omega
   ·rcases List.mem_cons.1 hq with rfl | hq
    ·exact h2
    ·exact h4 q hq
  ·omega
theorem zty (l : List T) (d : Int) (b : Int) (hb : d <= b) (h : ∀ k ∈ l, d + 1 + depT k <= b) : ∀ a : Nat, d + a <= b -> d + ((l.map depT).foldl (fun d x => max d (1 + x)) a : Nat) <= b := by
 induction l with
 | nil => intro a ha; simpa using ha
 | cons k l ih =>
  intro a ha
  rw [List.map_cons, List.foldl_cons]
  have := h k (by simp)
  exact ih (fun q hq => h q (List.mem_cons_of_mem _ hq)) _ (by omega)
theorem zp2 : ∀ t : T, ∀ (deep most : Int), 0 <= most -> z4c t deep most <= most -> (cntT t : Int) = z4c t deep most /\ deep + depT t <= 20 := by
 refine z4x fun t ih deep most hm h => ?_
 rw [zkd] at h ⊢
 split at h
 ·omega
 ·rename_i V
  rw [if_neg V]
  obtain ⟨h1, h2⟩ := zh4 deep most t.kids (fun k O m hm h => ih k O (deep + 1) m hm h) 1 h
  refine ⟨?_, ?_⟩
  ·rw [z85]; omega
  ·rw [z4r]
   exact zty t.kids deep 20 (by omega) h2 0 (by omega)
theorem kids_cnt (t : T) : t.kids.length <= cntT t := by
 rw [z85]
 have : ∀ l : List T, l.length <= (l.flatMap z0m).length := by
  intro l
  induction l with
  | nil => simp
  | cons k l ih =>
   rw [List.flatMap_cons, List.length_append, List.length_cons]
   have := zg8 k
   unfold cntT at this
   omega
 have := this t.kids
 omega
theorem zyh (l : List Wd) : zad l = true ↔ (∀ w ∈ l, w.text.size <= 100) /\ l.length <= 300 := by
 unfold zad
 simp only [Bool.and_eq_true, List.all_eq_true, decide_eq_true_eq]
theorem words_sz : ∀ t : T, zgz t = true -> cntT t <= 1000000 -> szB t = true := by
 refine z4x fun t ih h hc => ?_
 rw [zmp] at h
 simp only [Bool.and_eq_true, decide_eq_true_eq, List.all_eq_true, zyh] at h
 obtain ⟨h1, ⟨h2, h3⟩, ⟨h4, h5⟩, h6⟩ := h
 rw [z2f]
 have O := kids_cnt t
 refine ⟨by omega, by omega, fun w hw => ?_, by omega, fun w hw => ?_, by omega, fun k O => ih k O (h6 k O) ?_⟩
 ·have := h2 w hw; omega
 ·have := h4 w hw; omega
 ·have := znz O; omega
theorem few_sz {t : T} {most : Int} (h0 : 0 <= most) (h1 : most <= 1000) (h : zxq t most = true) : szB t = true /\ (cntT t : Int) <= most /\ depT t <= 20 := by
 unfold zxq at h
 simp only [Bool.and_eq_true, decide_eq_true_eq] at h
 obtain ⟨g1, g2⟩ := zp2 t 0 most h0 h.1
 exact ⟨words_sz t h.2 (by omega), by omega, by omega⟩
end Tr
theorem pc_Above (id : Idv) (t : T) (hs : szB t = true) (V : depT t <= 1000000000) : PC Tryz.prog 190 [z0h t, z19 id] (z15 (z78 id t)) := by
 obtain ⟨h1, h2⟩ := zzv id t hs V
 by_cases h : z78 id t = []
 ·have hp := h1 h
  rw [h]
  exact hp.weaken (Le.nil 3) rfl
 ·exact (h2 h).pc 2 (z46 _) (z1e 0 (by simp [znr, z13]) z1n z82 (fun _ => rfl) (fun _ => rfl))
namespace Tr
theorem sz_zero : szB T.zero = true := by decide +kernel
theorem z4p (id : Idv) (t : T) (hs : szB t = true) : szB (z06 id t).1 = true := by
 by_cases h : z2i id t = []
 ·rw [zar h]; exact sz_zero
 ·unfold z06
  rw [zfi _ h]
  exact zaq t hs _ (zkp id t _ (List.getElem_mem _))
theorem zfj (id : Idv) (t : T) : (z78 id t).length <= depT t := by
 have h1 := zbf id t
 have h3 : (z78 id t).length = (z2i id t).length - 1 := by unfold z78; simp
 omega
end Tr
end
section
open Abs Facts Tr
namespace Tr
theorem z9a (id : Idv) : ∀ t : T, z2i id t = [] ↔ id ∉ z0j t := by
 refine z4x fun t ih => ?_
 rw [z28, List.mem_cons, List.mem_flatMap]
 by_cases h0 : t.id = id
 ·rw [z8d h0]; simp [h0]
 ·rw [zao, if_neg h0]
  constructor
  ·intro h hm
   rcases hm with hm | ⟨k, O, hm⟩
   ·exact h0 hm.symm
   ·have hne : z2i id k ≠ [] := fun e => (ih k O).1 e hm
    split at h
    ·cases h
    ·rename_i hf
     have := List.find?_eq_none.1 hf (z2i id k) (List.mem_map.2 ⟨k, O, rfl⟩)
     simp at this
     exact hne this
  ·intro hm
   have : (t.kids.map (z2i id)).find? (fun w => !w.isEmpty) = none := by
    rw [List.find?_eq_none]
    intro w hw
    obtain ⟨k, O, rfl⟩ := List.mem_map.1 hw
    have := (ih k O).2 fun h => hm (.inr ⟨k, O, h⟩)
    rw [this]; simp
   rw [this]
theorem za8 {id : Idv} {t : T} : z2i id t ≠ [] ↔ id ∈ z0j t := by
 rw [ne_eq, z9a, Classical.not_not]
theorem zme {id : Idv} {t : T} (h0 : ¬ t.id = id) (h : z2i id t ≠ []) : ∃ i, ∃ hi : i < t.kids.length, (∀ j, (hj : j < i) -> (h : j < t.kids.length) -> z2i id t.kids[j] = []) /\ z2i id t.kids[i] ≠ [] /\ z2i id t = t :: z2i id t.kids[i] := by
 have hex : ∃ i, ∃ hi : i < t.kids.length, z2i id t.kids[i] ≠ [] := by
  rcases Classical.em (∃ i, ∃ hi : i < t.kids.length, z2i id t.kids[i] ≠ []) with h1 | h1
  ·exact h1
  ·exfalso
   refine h (zc5 h0 (Nat.le_refl _) fun j _ hj => ?_)
   rcases Classical.em (z2i id t.kids[j] = []) with h2 | h2
   ·exact h2
   ·exact (h1 ⟨j, hj, h2⟩).elim
 let p : Nat -> Prop := fun i => ∃ hi : i < t.kids.length, z2i id t.kids[i] ≠ []
 obtain ⟨i, hi, hmin⟩ : ∃ i, p i /\ ∀ j, j < i -> ¬ p j := by
  obtain ⟨i, hi⟩ := hex
  induction i using Nat.strongRecOn with
  | ind i ih =>
   rcases Classical.em (∃ j, j < i /\ p j) with ⟨j, hj, hp⟩ | h2
   ·exact ih j hj hp
   ·exact ⟨i, hi, fun j hj hp => h2 ⟨j, hj, hp⟩⟩
 obtain ⟨hl, hw⟩ := hi
 have h1 : ∀ j, (hj : j < i) -> (h : j < t.kids.length) -> z2i id t.kids[j] = [] := fun j hj h => by
  rcases Classical.em (z2i id t.kids[j] = []) with h2 | h2
  ·exact h2
  ·exact (hmin j hj ⟨h, h2⟩).elim
 exact ⟨i, hl, h1, hw, z6h h0 hl h1 hw⟩
theorem ze2 {t : T} (h : (z0j t).Nodup) : (∀ k ∈ t.kids, t.id ∉ z0j k) /\ (∀ k ∈ t.kids, (z0j k).Nodup) /\ ∀ i j, (hi : i < t.kids.length) -> (hj : j < t.kids.length) -> i ≠ j -> ∀ x ∈ z0j t.kids[i], x ∉ z0j t.kids[j] := by
 rw [z28, List.nodup_cons] at h
 obtain ⟨h1, h2⟩ := h
 refine ⟨fun k O hm => h1 (List.mem_flatMap.2 ⟨k, O, hm⟩), fun k O => ?_, fun i j hi hj hij x hx hx2 => ?_⟩
 ·exact (List.pairwise_flatMap.1 h2).1 k O
 ·have hp := (List.pairwise_flatMap.1 h2).2
  rw [List.pairwise_iff_getElem] at hp
  rcases Nat.lt_or_gt_of_ne hij with h3 | h3
  ·exact hp i j hi hj h3 x hx x hx2 rfl
  ·exact hp j i hj hi h3 x hx2 x hx rfl
end Tr
end
section
open Abs Facts Tr
namespace Tr
def T.setKids (t : T) (l : List T) : T := .mk t.id t.kind t.label t.head t.words l
theorem z7q (t : T) : t.setKids t.kids = t := T.eta t
inductive Ctx where
 | hole
 | node (t : T) (l : List T) (c : Ctx) (r : List T)
def z2r : Ctx -> T -> T
 | .hole, x => x
 | .node t l c r, x => t.setKids (l ++ z2r c x :: r)
def z74 : Ctx -> List Idv
 | .hole => []
 | .node t l c _ => t.id :: (l.flatMap z0j ++ z74 c)
def z44 : Ctx -> List Idv
 | .hole => []
 | .node _ _ c r => z44 c ++ r.flatMap z0j
def lenC : Ctx -> Nat
 | .hole => 0
 | .node _ _ c _ => lenC c + 1
def depC : Ctx -> Nat
 | .hole => 0
 | .node _ l c r => max (zeg ((l ++ r).map depT)) (1 + depC c)
def zi5 : Ctx -> List Idv
 | .hole => []
 | .node t _ c _ => zi5 c ++ [t.id]
theorem zlg : ∀ C, (zi5 C).length = lenC C
 | .hole => rfl
 | .node t l c r => by simp [zi5, lenC, zlg c]
theorem z2u (x : T) : ∀ C, z0j (z2r C x) = z74 C ++ (z0j x ++ z44 C)
 | .hole => by simp [z2r, z74, z44]
 | .node t l c r => by
  rw [z2r, z28]
  show t.id :: (l ++ z2r c x :: r).flatMap z0j = _
  rw [List.flatMap_append, List.flatMap_cons, z2u x c, z74, z44]
  simp only [List.cons_append, List.append_assoc]
theorem z5x (C : Ctx) (x : T) : cntT (z2r C x) = (z74 C).length + cntT x + (z44 C).length := by
 rw [<- z2c, z2u, List.length_append, List.length_append, z2c]; omega
theorem zlh (l : List Nat) : ∀ a : Nat, l.foldl (fun d x => max d (1 + x)) a = max a (zeg l) := by
 unfold zeg
 induction l with
 | nil => intro a; simp
 | cons y l ih =>
  intro a
  rw [List.foldl_cons, List.foldl_cons, ih, ih (max 0 (1 + y))]; omega
theorem z8x (l r : List Nat) : zeg (l ++ r) = max (zeg l) (zeg r) := by
 conv => lhs; unfold zeg
 rw [List.foldl_append, zlh r]; rfl
theorem zca (a : Nat) (l : List Nat) : zeg (a :: l) = max (1 + a) (zeg l) := by
 conv => lhs; unfold zeg
 rw [List.foldl_cons, zlh l]; omega
theorem z8y (x : T) : ∀ C, depT (z2r C x) = max (depC C) (lenC C + depT x)
 | .hole => by simp [z2r, depC, lenC]
 | .node t l c r => by
  rw [z2r, z4r]
  show zeg ((l ++ z2r c x :: r).map depT) = _
  rw [List.map_append, List.map_cons, z8x, zca, z8y x c, depC, lenC, List.map_append, z8x]
  omega
def keyC : Ctx -> Int × ByteArray -> Int × ByteArray
 | .hole, k => k
 | .node t _ _ _, _ => z6e t
theorem key_plug (C : Ctx) (x : T) : z6e (z2r C x) = keyC C (z6e x) := by cases C <;> rfl
def ctxR : Ctx -> Int × ByteArray -> Prop
 | .hole, _ => True
 | .node t l c r, k => (z3i (t.setKids (l ++ t :: r)) = true /\ (∀ y ∈ l ++ r, z1w t.kind y.kind = true /\ z3w y = true) /\ z1w t.kind (keyC c k).1 = true /\ ((l ++ r).map z6e).Nodup /\ keyC c k ∉ (l ++ r).map z6e) /\ ctxR c k
theorem zsm (t : T) {l m : List T} (h : l.length = m.length) : z3i (t.setKids l) = z3i (t.setKids m) := by
 unfold z3i
 show (_ && (decide (l.length <= 64) && _)) = (_ && (decide (m.length <= 64) && _))
 rw [h]; rfl
theorem zvm {α : Type} (l r : List α) (a : α) : (l ++ a :: r).Nodup ↔ (l ++ r).Nodup /\ a ∉ l ++ r := by
 rw [List.perm_middle.nodup_iff, List.nodup_cons]; exact And.comm
theorem zcb (t p : T) (l r : List T) : z3w (t.setKids (l ++ p :: r)) = true ↔
  (z3i (t.setKids (l ++ t :: r)) = true /\ (∀ y ∈ l ++ r, z1w t.kind y.kind = true /\ z3w y = true) /\ z1w t.kind p.kind = true /\ ((l ++ r).map z6e).Nodup /\ z6e p ∉ (l ++ r).map z6e) /\ z3w p = true := by
 have O : ((l ++ p :: r).map z6e).Nodup ↔ ((l ++ r).map z6e).Nodup /\ z6e p ∉ (l ++ r).map z6e := by
  rw [List.map_append, List.map_cons, zvm, List.map_append]
 rw [z4i]
 show (z3i (t.setKids (l ++ p :: r)) && (((l ++ p :: r).all fun k => z1w t.kind k.kind) && ((l ++ p :: r).all z3w && decide (((l ++ p :: r).map z6e).Nodup)))) = true ↔ _
 rw [zsm t (l := l ++ p :: r) (m := l ++ t :: r) (by simp)]
 simp only [Bool.and_eq_true, decide_eq_true_eq, List.all_eq_true, O]
 constructor
 ·rintro ⟨h1, h2, h3, h4, h5⟩
  refine ⟨⟨h1, fun y hy => ?_, h2 p (by simp), h4, h5⟩, h3 p (by simp)⟩
  have : y ∈ l ++ p :: r := by
   rcases List.mem_append.1 hy with h | h
   ·exact List.mem_append_left _ h
   ·exact List.mem_append_right _ (List.mem_cons_of_mem _ h)
  exact ⟨h2 y this, h3 y this⟩
 ·rintro ⟨⟨h1, h2, h3, h4, h5⟩, h6⟩
  have hm : ∀ y ∈ l ++ p :: r, y = p \/ y ∈ l ++ r := fun y hy => by
   rcases List.mem_append.1 hy with h | h
   ·exact .inr (List.mem_append_left _ h)
   ·rcases List.mem_cons.1 h with h | h
    ·exact .inl h
    ·exact .inr (List.mem_append_right _ h)
  refine ⟨h1, fun y hy => ?_, fun y hy => ?_, h4, h5⟩
  ·rcases hm y hy with rfl | h
   ·exact h3
   ·exact (h2 y h).1
  ·rcases hm y hy with rfl | h
   ·exact h6
   ·exact (h2 y h).2
theorem z3z (x : T) : ∀ C, z3w (z2r C x) = true ↔ ctxR C (z6e x) /\ z3w x = true
 | .hole => by simp [z2r, ctxR]
 | .node t l c r => by
  rw [z2r, zcb, z3z x c, ctxR, <- key_plug]
  exact (and_assoc).symm
theorem zfx {id : Idv} {l r : List T} {p : T} : id ∈ (l ++ p :: r).flatMap z0j ↔ id ∈ l.flatMap z0j \/ id ∈ z0j p \/ id ∈ r.flatMap z0j := by
 rw [List.flatMap_append, List.flatMap_cons, List.mem_append, List.mem_append]
theorem zli (l r : List T) (p : T) : ∃ h : l.length < (l ++ p :: r).length, (l ++ p :: r)[l.length] = p := ⟨by simp, by simp⟩
theorem zax {id : Idv} {l : List T} (h : id ∉ l.flatMap z0j) (p : T) (r : List T) : ∀ j, (hj : j < l.length) -> (hl : j < (l ++ p :: r).length) -> z2i id (l ++ p :: r)[j] = [] := fun j hj hl => by
 rw [List.getElem_append_left hj, z9a]
 exact fun hm => h (List.mem_flatMap.2 ⟨_, List.getElem_mem hj, hm⟩)
section
variable {id : Idv} {t p : T} {l r : List T}
theorem way_mid (h0 : ¬ t.id = id) (hl : id ∉ l.flatMap z0j) (hp : id ∈ z0j p) : z2i id (t.setKids (l ++ p :: r)) = t.setKids (l ++ p :: r) :: z2i id p := by
 obtain ⟨h1, h2⟩ := zli l r p
 have := z6h (id := id) (t := t.setKids (l ++ p :: r)) (i := l.length) h0 h1 (zax hl p r) (by
  show z2i id (l ++ p :: r)[l.length] ≠ []
  rw [h2]; exact za8.2 hp)
 refine this.trans ?_
 show _ :: z2i id (l ++ p :: r)[l.length] = _
 rw [h2]
theorem zjl (h0 : ¬ t.id = id) (hl : id ∉ l.flatMap z0j) (hp : id ∈ z0j p) : z06 id (t.setKids (l ++ p :: r)) = z06 id p :=
 z5l (way_mid h0 hl hp) (za8.2 hp)
theorem anc_mid (h0 : ¬ t.id = id) (hl : id ∉ l.flatMap z0j) (hp : id ∈ z0j p) : z78 id (t.setKids (l ++ p :: r)) = z78 id p ++ [t.id] := by
 obtain ⟨h1, h2⟩ := zli l r p
 have := zjd (id := id) (t := t.setKids (l ++ p :: r)) (i := l.length) h0 h1 (zax hl p r) (by
  show z2i id (l ++ p :: r)[l.length] ≠ []
  rw [h2]; exact za8.2 hp)
 refine this.trans ?_
 show z78 id (l ++ p :: r)[l.length] ++ _ = _
 rw [h2]; rfl
theorem zpx (h0 : ¬ t.id = id) (hl : id ∉ l.flatMap z0j) (hp : p.id = id) : z59 id (t.setKids (l ++ p :: r)) = (t.id, (l.length : Int), true) := by
 obtain ⟨h1, h2⟩ := zli l r p
 exact zfs (id := id) (t := t.setKids (l ++ p :: r)) (i := l.length) h0 h1 (zax hl p r) (by
  show (l ++ p :: r)[l.length].id = id
  rw [h2]; exact hp)
theorem par_mid (h0 : ¬ t.id = id) (hl : id ∉ l.flatMap z0j) (hp : ¬ p.id = id) (hm : id ∈ z0j p) : z59 id (t.setKids (l ++ p :: r)) = z59 id p := by
 obtain ⟨h1, h2⟩ := zli l r p
 have := znl (id := id) (t := t.setKids (l ++ p :: r)) (i := l.length) h0 h1 (zax hl p r) (by
  show ¬ (l ++ p :: r)[l.length].id = id
  rw [h2]; exact hp) (by
  show z2i id (l ++ p :: r)[l.length] ≠ []
  rw [h2]; exact za8.2 hm)
 refine this.trans ?_
 show z59 id (l ++ p :: r)[l.length] = _
 rw [h2]
end
theorem z2x (x : T) : x.id ∈ z0j x := by rw [z28]; exact List.mem_cons_self
theorem z50 {id : Idv} {t : T} {l r : List T} {c : Ctx} (h : id ∉ z74 (.node t l c r)) : ¬ t.id = id /\ id ∉ l.flatMap z0j /\ id ∉ z74 c := by
 rw [z74, List.mem_cons, List.mem_append] at h
 exact ⟨fun e => h (.inl e.symm), fun e => h (.inr (.inl e)), fun e => h (.inr (.inr e))⟩
theorem zlj {id : Idv} {t : T} {l r : List T} {c : Ctx} (h : id ∉ z44 (.node t l c r)) : id ∉ z44 c /\ id ∉ r.flatMap z0j := by
 rw [z44, List.mem_append] at h
 exact ⟨fun e => h (.inl e), fun e => h (.inr e)⟩
theorem zay {id : Idv} (C : Ctx) {x : T} (h : id ∈ z0j x) : id ∈ z0j (z2r C x) := by
 rw [z2u]; exact List.mem_append_right _ (List.mem_append_left _ h)
theorem z9y {id : Idv} {x : T} (hx : id ∈ z0j x) : ∀ C, id ∉ z74 C -> z06 id (z2r C x) = z06 id x
 | .hole, _ => rfl
 | .node t l c r, h => by
  obtain ⟨h1, h2, h3⟩ := z50 h
  rw [z2r, zjl h1 h2 (zay c hx), z9y hx c h3]
theorem zpy {id : Idv} {x : T} (hx : id ∈ z0j x) : ∀ C, id ∉ z74 C -> z78 id (z2r C x) = z78 id x ++ zi5 C
 | .hole, _ => by simp [z2r, zi5]
 | .node t l c r, h => by
  obtain ⟨h1, h2, h3⟩ := z50 h
  rw [z2r, anc_mid h1 h2 (zay c hx), zpy hx c h3, zi5, List.append_assoc]
theorem zjm {id : Idv} {x : T} (hx : id ∈ z0j x) (hn : ¬ x.id = id) : ∀ C, id ∉ z74 C -> z59 id (z2r C x) = z59 id x
 | .hole, _ => rfl
 | .node t l c r, h => by
  obtain ⟨h1, h2, h3⟩ := z50 h
  have h4 : ¬ (z2r c x).id = id := by
   cases c with
   | hole => exact hn
   | node t' l' c' r' => exact (z50 h3).1
  rw [z2r, par_mid h1 h2 h4 (zay c hx), zjm hx hn c h3]
theorem focus (id : Idv) : ∀ u : T, id ∈ z0j u -> ∃ C, u = z2r C (z06 id u).1 /\ (z06 id u).1.id = id /\ id ∉ z74 C /\ (z06 id u).2 = true := by
 refine z4x fun u ih hm => ?_
 by_cases h0 : u.id = id
 ·rw [z3f h0]
  exact ⟨.hole, rfl, h0, by simp [z74], rfl⟩
 ·obtain ⟨i, hi, h1, h2, h3⟩ := zme h0 (za8.2 hm)
  rw [z5l h3 h2]
  obtain ⟨C, g1, g2, g3, g4⟩ := ih _ (List.getElem_mem hi) (za8.1 h2)
  refine ⟨.node u (u.kids.take i) C (u.kids.drop (i + 1)), ?_, g2, ?_, g4⟩
  ·rw [z2r, <- g1, <- List.drop_eq_getElem_cons hi, List.take_append_drop, z7q]
  ·rw [z74, List.mem_cons, List.mem_append]
   rintro (h | h | h)
   ·exact h0 h.symm
   ·obtain ⟨k, O, hki⟩ := List.mem_flatMap.1 h
    obtain ⟨j, hj, rfl⟩ := List.getElem_of_mem O
    rw [List.getElem_take] at hki
    rw [List.length_take] at hj
    have := h1 j (by omega) (by omega)
    rw [z9a] at this
    exact this hki
   ·exact g3 h
theorem zfy {id : Idv} {u : T} (h : id ∉ z0j u) : z06 id u = (T.zero, false) := zar ((z9a id u).2 h)
theorem z32 {id : Idv} {u : T} : (z06 id u).2 = decide (id ∈ z0j u) := by
 by_cases h : id ∈ z0j u
 ·obtain ⟨_, _, _, _, h4⟩ := focus id u h
  rw [h4, decide_eq_true h]
 ·rw [zfy h, decide_eq_false h]
theorem zpz {id : Idv} {u : T} (h0 : ¬ u.id = id) (hm : id ∈ z0j u) : ∃ (C : Ctx) (q : T) (l : List T) (x : T) (r : List T), u = z2r C (q.setKids (l ++ x :: r)) /\ x.id = id /\ ¬ q.id = id /\ id ∉ z74 C /\ id ∉ l.flatMap z0j /\ z06 id u = (x, true) /\ z59 id u = (q.id, (l.length : Int), true) := by
 obtain ⟨C, h1, h2, h3, h4⟩ := focus id u hm
 -- the last frame of C
 have last : ∀ C : Ctx, ∀ x : T, ¬ (z2r C x).id = id -> x.id = id -> id ∉ z74 C -> ∃ (C' : Ctx) (q : T) (l r : List T), z2r C x = z2r C' (q.setKids (l ++ x :: r)) /\ ¬ q.id = id /\ id ∉ z74 C' /\ id ∉ l.flatMap z0j := by
  intro C x
  induction C with
  | hole => intro h hx _; exact (h hx).elim
  | node t l c r ih =>
   intro h hx hn
   obtain ⟨n1, n2, n3⟩ := z50 hn
   by_cases hc : (z2r c x).id = id
   ·cases c with
    | hole => exact ⟨.hole, t, l, r, rfl, n1, by simp [z74], n2⟩
    | node t' l' c' r' => exact ((z50 n3).1 hc).elim
   ·obtain ⟨C', q, l', r', e, g1, g2, g3⟩ := ih hc hx n3
    refine ⟨.node t l C' r, q, l', r', ?_, g1, ?_, g3⟩
    ·rw [z2r, e, z2r]
    ·rw [z74, List.mem_cons, List.mem_append]
     rintro (h | h | h)
     ·exact n1 h.symm
     ·exact n2 h
     ·exact g2 h
 generalize hx : (z06 id u).1 = x at h1 h2
 obtain ⟨C', q, l, r, e, g1, g2, g3⟩ := last C x (by rw [<- h1]; exact h0) h2 h3
 refine ⟨C', q, l, x, r, h1.trans e, h2, g1, g2, g3, ?_, ?_⟩
 ·rw [<- hx, <- h4]
 ·rw [h1, e, zjm (x := q.setKids (l ++ x :: r)) (by rw [z28, List.mem_cons]; exact .inr (zfx.2 (.inr (.inl (h2 ▸ z2x x))))) g1 C' g2, zpx g1 g3 h2]
end Tr
end
section
open Abs Facts Tr
namespace Tr
def z1g (id : Idv) (f : T -> T) (t : T) : T := zhm (fun t l => if t.id = id then f t else t.setKids l) t
theorem z7y (id : Idv) (f : T -> T) (t : T) : z1g id f t = if t.id = id then f t else t.setKids (t.kids.map (z1g id f)) := by
 unfold z1g; rw [z45]
def atR (id : Idv) (f : T -> T) (t : T) : T × Bool := zhm (fun t l => if t.id = id then (f t, true) else
 match l[z30 (fun q : T × Bool => q.2) l]? with
 | some q => (t.setKids (t.kids.set (z30 (fun q : T × Bool => q.2) l) q.1), true)
 | none => (t, false)) t
theorem zx7 (id : Idv) (f : T -> T) (t : T) : atR id f t = if t.id = id then (f t, true) else
  match (t.kids.map (atR id f))[z30 (fun q : T × Bool => q.2) (t.kids.map (atR id f))]? with
  | some q => (t.setKids (t.kids.set (z30 (fun q : T × Bool => q.2) (t.kids.map (atR id f))) q.1), true)
  | none => (t, false) := by
 unfold atR; rw [z45]
theorem zr8 {id : Idv} {f : T -> T} {t : T} (h : t.id = id) : atR id f t = (f t, true) := by rw [zx7, if_pos h]
theorem zx8 {id : Idv} {f : T -> T} {t : T} {i : Nat} (h0 : ¬ t.id = id) (hi : i < t.kids.length) (h1 : ∀ j, (hj : j < i) -> (h : j < t.kids.length) -> (atR id f t.kids[j]).2 = false) (h2 : (atR id f t.kids[i]).2 = true) :
  atR id f t = (t.setKids (t.kids.set i (atR id f t.kids[i]).1), true) := by
 have hf : z30 (fun q : T × Bool => q.2) (t.kids.map (atR id f)) = i := z3s (by rw [List.length_map]; omega) (fun j hj => by rw [List.getElem_map]; exact h1 j hj (by omega)) (fun h => by rw [List.getElem_map]; exact h2)
 rw [zx7, if_neg h0, hf, List.getElem?_eq_getElem (by rw [List.length_map]; exact hi), List.getElem_map]
theorem zr9 {id : Idv} {f : T -> T} {t : T} (h0 : ¬ t.id = id) (h1 : ∀ j, (h : j < t.kids.length) -> (atR id f t.kids[j]).2 = false) : atR id f t = (t, false) := by
 have hf : z30 (fun q : T × Bool => q.2) (t.kids.map (atR id f)) = t.kids.length := z3s (by rw [List.length_map]; omega) (fun j hj => by rw [List.getElem_map]; exact h1 j hj) (fun h => by rw [List.length_map] at h; omega)
 rw [zx7, if_neg h0, hf, List.getElem?_eq_none (by rw [List.length_map]; omega)]
theorem at_no {id : Idv} (f : T -> T) : ∀ t : T, id ∉ z0j t -> atR id f t = (t, false) := by
 refine z4x fun t ih h => ?_
 rw [z28, List.mem_cons] at h
 refine zr9 (fun e => h (.inl e.symm)) fun j hj => ?_
 rw [ih _ (List.getElem_mem hj) fun hm => h (.inr (List.mem_flatMap.2 ⟨_, List.getElem_mem hj, hm⟩))]
theorem zoq {id : Idv} (f : T -> T) {q : T} (hq : q.id = id) : ∀ C, id ∉ z74 C -> atR id f (z2r C q) = (z2r C (f q), true)
 | .hole, _ => zr8 hq
 | .node t l c r, h => by
  obtain ⟨h1, h2, h3⟩ := z50 h
  obtain ⟨k1, k2⟩ := zli l r (z2r c q)
  have ih := zoq f hq c h3
  have O : (t.setKids (l ++ z2r c q :: r)).kids[l.length]'k1 = z2r c q := k2
  rw [z2r, zx8 (t := t.setKids (l ++ z2r c q :: r)) (i := l.length) h1 k1 (fun j hj hl' => by
   have hl : j < (l ++ z2r c q :: r).length := hl'
   show (atR id f ((l ++ z2r c q :: r)[j]'hl)).2 = false
   rw [List.getElem_append_left hj, at_no f _ fun hm => h2 (List.mem_flatMap.2 ⟨_, List.getElem_mem hj, hm⟩)]) (by rw [O, ih]), O, ih, z2r]
  show (t.setKids ((l ++ z2r c q :: r).set l.length (z2r c (f q))), true) = _
  rw [List.set_append_right _ _ (Nat.le_refl _), Nat.sub_self, List.set_cons_zero]
theorem edit_no {id : Idv} (f : T -> T) : ∀ t : T, id ∉ z0j t -> z1g id f t = t := by
 refine z4x fun t ih h => ?_
 rw [z28, List.mem_cons] at h
 rw [z7y, if_neg fun e => h (.inl e.symm)]
 have : t.kids.map (z1g id f) = t.kids := by
  conv => rhs; rw [<- List.map_id t.kids]
  exact List.map_congr_left fun k O => ih k O fun hm => h (.inr (List.mem_flatMap.2 ⟨_, O, hm⟩))
 rw [this, z7q]
theorem zra {id : Idv} (f : T -> T) {l : List T} (h : id ∉ l.flatMap z0j) : l.map (z1g id f) = l := by
 conv => rhs; rw [<- List.map_id l]
 exact List.map_congr_left fun k O => edit_no f k fun hm => h (List.mem_flatMap.2 ⟨_, O, hm⟩)
theorem z63 {id : Idv} (f : T -> T) {q : T} (hq : q.id = id) : ∀ C, id ∉ z74 C -> id ∉ z44 C -> z1g id f (z2r C q) = z2r C (f q)
 | .hole, _, _ => by rw [z2r, z2r, z7y, if_pos hq]
 | .node t l c r, h, h' => by
  obtain ⟨h1, h2, h3⟩ := z50 h
  obtain ⟨h4, h5⟩ := zlj h'
  rw [z2r, z7y, if_neg (show ¬ (t.setKids _).id = id from h1), z2r]
  show t.setKids ((l ++ z2r c q :: r).map (z1g id f)) = _
  rw [List.map_append, List.map_cons, z63 f hq c h3 h4, zra f h2, zra f h5]
def z4w (id : Idv) (k : T) : Bool := decide (k.id ≠ id)
theorem zgu {id : Idv} {k : T} (h : ¬ k.id = id) : z4w id k = true := decide_eq_true h
theorem zx9 {id : Idv} {k : T} (h : k.id = id) : z4w id k = false := decide_eq_false fun g => g h
def z0o (id : Idv) (t : T) : T := zhm (fun t l => t.setKids (((t.kids.zip l).filter fun p => z4w id p.1).map (·.2))) t
theorem ze6 (p : T -> Bool) (g : T -> T) : ∀ l : List T, ((l.zip (l.map g)).filter fun q => p q.1).map (·.2) = (l.filter p).map g
 | [] => rfl
 | x :: l => by
  rw [List.map_cons, List.zip_cons_cons, List.filter_cons, List.filter_cons]
  show (if p x = true then _ else _ : List (T × T)).map (·.2) = _
  split
  ·rw [List.map_cons, List.map_cons, ze6 p g l]
  ·rw [ze6 p g l]
theorem z55 (id : Idv) (t : T) : z0o id t = t.setKids ((t.kids.filter (z4w id)).map (z0o id)) := by
 conv => lhs; unfold z0o; rw [z45]
 show t.setKids (((t.kids.zip (t.kids.map (z0o id))).filter fun p => z4w id p.1).map (·.2)) = _
 rw [ze6 (z4w id) (z0o id)]
theorem zxa {id : Idv} : ∀ t : T, (∀ k ∈ t.kids, id ∉ z0j k) -> z0o id t = t := by
 refine z4x fun t ih h => ?_
 rw [z55]
 have h1 : t.kids.filter (z4w id) = t.kids := List.filter_eq_self.2 fun k O => zgu fun e => h k O (e ▸ z2x k)
 have h2 : t.kids.map (z0o id) = t.kids := by
  conv => rhs; rw [<- List.map_id t.kids]
  exact List.map_congr_left fun k O => ih k O fun k' hk' hm => h k O (by rw [z28]; exact List.mem_cons_of_mem _ (List.mem_flatMap.2 ⟨_, hk', hm⟩))
 rw [h1, h2, z7q]
theorem zff {id : Idv} {l : List T} (h : id ∉ l.flatMap z0j) : (l.filter (z4w id)).map (z0o id) = l := by
 have h1 : l.filter (z4w id) = l := List.filter_eq_self.2 fun k O => zgu fun e => h (List.mem_flatMap.2 ⟨_, O, e ▸ z2x k⟩)
 rw [h1]
 conv => rhs; rw [<- List.map_id l]
 refine List.map_congr_left fun k O => zxa k fun k' hk' hm => h (List.mem_flatMap.2 ⟨k, O, ?_⟩)
 rw [z28]; exact List.mem_cons_of_mem _ (List.mem_flatMap.2 ⟨_, hk', hm⟩)
theorem zxb {id : Idv} {q x : T} {l r : List T} (hx : x.id = id) (hl : id ∉ l.flatMap z0j) (hr : id ∉ r.flatMap z0j) : z0o id (q.setKids (l ++ x :: r)) = q.setKids (l ++ r) := by
 rw [z55]
 show q.setKids (((l ++ x :: r).filter (z4w id)).map (z0o id)) = _
 rw [List.filter_append, List.filter_cons, if_neg (by rw [zx9 hx]; simp), List.map_append, zff hl, zff hr]
theorem zcw {id : Idv} {q x : T} {l r : List T} (hq : ¬ q.id = id) (hx : x.id = id) (hl : id ∉ l.flatMap z0j) (hr : id ∉ r.flatMap z0j) : ∀ C, id ∉ z74 C -> id ∉ z44 C -> z0o id (z2r C (q.setKids (l ++ x :: r))) = z2r C (q.setKids (l ++ r))
 | .hole, _, _ => zxb hx hl hr
 | .node t a c b, h, h' => by
  obtain ⟨h1, h2, h3⟩ := z50 h
  obtain ⟨h4, h5⟩ := zlj h'
  have hc : ¬ (z2r c (q.setKids (l ++ x :: r))).id = id := by
   cases c with
   | hole => exact hq
   | node t' l' c' r' => exact (z50 h3).1
  rw [z2r, z55]
  show t.setKids (((a ++ z2r c (q.setKids (l ++ x :: r)) :: b).filter (z4w id)).map (z0o id)) = _
  rw [List.filter_append, List.filter_cons, if_pos (zgu hc), List.map_append, List.map_cons, zff h2, zff h5, zcw hq hx hl hr c h3 h4, z2r]
def z7j (i : Nat) (x : T) (p : T) : T := p.setKids (p.kids.take i ++ x :: p.kids.drop i)
def delK (i : Nat) (p : T) : T := p.setKids (p.kids.eraseIdx i)
theorem zrb (q x : T) (l r : List T) : z7j l.length x (q.setKids (l ++ r)) = q.setKids (l ++ x :: r) := by
 unfold z7j
 show q.setKids ((l ++ r).take l.length ++ x :: (l ++ r).drop l.length) = _
 rw [List.take_left, List.drop_left]
theorem delK_mid (q x : T) (l r : List T) : delK l.length (q.setKids (l ++ x :: r)) = q.setKids (l ++ r) := by
 unfold delK
 show q.setKids ((l ++ x :: r).eraseIdx l.length) = _
 rw [List.eraseIdx_append_of_length_le (Nat.le_refl _), Nat.sub_self, List.eraseIdx_cons_zero]
theorem z3l {C : Ctx} {x : T} (h : (z0j (z2r C x)).Nodup) {id : Idv} (hid : id ∈ z0j x) : id ∉ z74 C /\ id ∉ z44 C := by
 rw [z2u, List.nodup_append] at h
 obtain ⟨_, h2, h3⟩ := h
 rw [List.nodup_append] at h2
 exact ⟨fun hm => h3 id hm id (List.mem_append_left _ hid) rfl, fun hm => h2.2.2 id hid id hm rfl⟩
theorem ze7 {C : Ctx} {x : T} (h : (z0j (z2r C x)).Nodup) : (z0j x).Nodup := by
 rw [z2u, List.nodup_append] at h
 exact (List.nodup_append.1 h.2.1).1
theorem z33 (t : T) (l : List T) : z0j (t.setKids l) = t.id :: l.flatMap z0j := z28 _
theorem zgv {q x : T} {l r : List T} (h : (z0j (q.setKids (l ++ x :: r))).Nodup) : (∀ i ∈ z0j x, i ≠ q.id /\ i ∉ l.flatMap z0j /\ i ∉ r.flatMap z0j) /\ (z0j x).Nodup /\ (z0j (q.setKids (l ++ r))).Nodup := by
 rw [z33, List.flatMap_append, List.flatMap_cons] at h
 rw [z33, List.flatMap_append]
 rw [List.nodup_cons, List.nodup_append, List.nodup_append] at h
 obtain ⟨h0, h1, ⟨h2, h3, h4⟩, h5⟩ := h
 refine ⟨fun i hi => ⟨fun e => h0 ?_, fun hm => h5 i hm i (List.mem_append_left _ hi) rfl, fun hm => h4 i hi i hm rfl⟩, h2, ?_⟩
 ·rw [<- e]; exact List.mem_append_right _ (List.mem_append_left _ hi)
 ·rw [List.nodup_cons, List.nodup_append]
  refine ⟨fun hm => h0 ?_, h1, h3, fun a ha b hb => h5 a ha b (List.mem_append_right _ hb)⟩
  rcases List.mem_append.1 hm with h | h
  ·exact List.mem_append_left _ h
  ·exact List.mem_append_right _ (List.mem_append_right _ h)
theorem zgw {id : Idv} (f : T -> T) {u : T} (hn : (z0j u).Nodup) (hm : id ∈ z0j u) : atR id f u = (z1g id f u, true) := by
 obtain ⟨C, h1, h2, h3, _⟩ := focus id u hm
 generalize (z06 id u).1 = x at h1 h2
 subst h1
 rw [zoq f h2 C h3, z63 f h2 C h3 (z3l hn (h2 ▸ z2x x)).2]
theorem at_wipe {id : Idv} {u : T} (hn : (z0j u).Nodup) (h0 : ¬ u.id = id) (hm : id ∈ z0j u) : ∃ i : Nat, (z59 id u).2.1 = i /\ (z59 id u).2.2 = true /\ atR (z59 id u).1 (delK i) u = (z0o id u, true) /\ (∃ q, z06 (z59 id u).1 u = (q, true) /\ i < q.kids.length /\ q ∈ z0m u) := by
 obtain ⟨C, q, l, x, r, e, hx, hq, n1, n2, hf, hp⟩ := zpz h0 hm
 rw [hp]
 refine ⟨l.length, rfl, rfl, ?_⟩
 subst e
 obtain ⟨m1, m2⟩ := z3l hn (id := q.id) (by rw [z33]; exact List.mem_cons_self)
 have hxm : id ∈ z0j (q.setKids (l ++ x :: r)) := by rw [z33]; exact List.mem_cons_of_mem _ (zfx.2 (.inr (.inl (hx ▸ z2x x))))
 obtain ⟨k1, k2⟩ := z3l hn hxm
 have ns := (zgv (ze7 hn)).1 id (hx ▸ z2x x)
 refine ⟨?_, q.setKids (l ++ x :: r), ?_, by show _ < (l ++ x :: r).length; simp, ?_⟩
 ·show atR q.id (delK l.length) _ = _
  rw [zoq (id := q.id) (delK l.length) (q := q.setKids (l ++ x :: r)) rfl C m1, delK_mid, zcw hq hx n2 ns.2.2 C k1 k2]
 ·rw [z9y (by rw [z33]; exact List.mem_cons_self) C m1]; exact z3f rfl
 ·clear hf hp hn hm h0 n1 m1 m2 hxm k1 k2 ns
  induction C with
  | hole => exact z20 _
  | node t a c b ih => exact z2n (t := z2r (.node t a c b) _) (k := z2r c _) (by show _ ∈ a ++ _ :: b; simp) ih
end Tr
end
section
open Abs Facts Tr
attribute [local irreducible] awp
theorem zmk (u : T) (hs : smB u = true) (V : depT u <= 1000000000) (id : Idv) : PC Tryz.prog 129 [z0h u, z19 id] (.bool (z06 id u).2) := by
 have h1 := z7a u hs V id
 refine z14 1 (by simp only [pureD.pureL, z01]; rfl) rfl (z10 [] Tryz.func129 rfl (by decide +kernel) z0e (by decide +kernel) (by simp [Tryz.ntmps129]) ?_)
 show awp _ _ (Code.seq _ _) _ _
 repeat' (first | ((first | refine zqh fun K J => ?_ | refine zqs (h1) ?_); (simp (disch := omega) only [go_sem, Nat.reduceBEq, ↓reduceIte, Nat.reduceAdd, Nat.reduceLeDiff])) | refine nxt ?_ | refine zqu (by (simp (disch := omega) only [go_sem]); rfl) rfl ?_ | (refine J _ ?_; clear J K))
 first | exact z03 rfl | exact z1j rfl
theorem zr7 (u : T) (hs : smB u = true) (V : depT u <= 1000000000) (id : Idv) : PC Tryz.prog 136 [z0h u, z19 id] (.int .i64 (z78 id u).length) := by
 have h1 := zn4 u hs V id
 refine z14 1 (by simp only [pureD.pureL, z01]; rfl) rfl (z10 [] Tryz.func136 rfl (by decide +kernel) z0e (by decide +kernel) (by simp [Tryz.ntmps136]) ?_)
 show awp _ _ (Code.seq _ _) _ _
 repeat' (first | ((first | refine zqh fun K J => ?_ | refine zqs (h1) ?_); (simp (disch := omega) only [go_sem, Nat.reduceBEq, ↓reduceIte, Nat.reduceAdd, Nat.reduceLeDiff])) | refine nxt ?_ | refine zqu (by (simp (disch := omega) only [go_sem, Nat.reduceBEq]); rfl) rfl ?_ | (refine J _ ?_; clear J K))
 first | exact z03 rfl | exact z1j rfl
namespace Tr
def z3a (l : List T) (kind : Int) (name : ByteArray) : Bool := l.any fun k => decide (k.kind = kind) && decide (k.label = name)
def standsT (u : T) : Bool := z5z u && !((if u.kind = 0 then (z0j u).drop 1 else z0j u).any fun x => decide (x = Idv.zero))
end Tr
theorem zx6 (k : T) (kind : Int) (name : ByteArray) : PC Tryz.prog 169 [z0h k, .rptr (.int .i64 kind), .rptr (.str name)] (.bool (decide (k.kind = kind) && decide (k.label = name))) := by
 refine z14 1 (by simp only [pureD.pureL, z01, pureD, Bool.and_self]) rfl (z10 [] Tryz.func169 rfl (by decide +kernel) z0e (by decide +kernel) (by simp [Tryz.ntmps169]) ?_)
 show awp _ _ (Code.seq _ _) _ _
 repeat' (first | ((refine zqh fun K J => ?_); (simp (disch := omega) only [go_sem, Nat.reduceBEq, ↓reduceIte, reduceCtorEq, Nat.reduceAdd])) | refine nxt ?_ | refine zqu (by (simp (disch := omega) only [go_sem]); rfl) rfl ?_ | (refine J _ ?_; clear J K) | (refine zqf (fun hb => ?_) (fun hb => ?_) <;> (have hb2 := hb; try simp only [z09] at hb2) <;> ((first | have F := eq_false hb2 | have F := eq_true hb2); (simp (disch := omega) only [go_sem, Nat.reduceBEq, ↓reduceIte, reduceCtorEq, Nat.reduceAdd, F]); clear hb F; (try (exfalso; omega)))))
 all_goals exact z03 (by simp [hb2])
theorem zk5 (l : List T) (hl : l.length <= 1000000) (kind : Int) (name : ByteArray) : PC Tryz.prog 116 [z0r l, .int .i64 kind, .str name] (.bool (z3a l kind name)) := by
 have h1 := zf5 false l (by unfold maxLen; omega) (g := 169) (cap := [.rptr (.int .i64 kind), .rptr (.str name)]) (fun k => decide (k.kind = kind) && decide (k.label = name)) rfl (fun k _ => zx6 k kind name)
 refine z14 1 (by simp only [pureD.pureL, z3k, pureD, Bool.and_self]) rfl (z10 [] Tryz.func116 rfl (by decide +kernel) z0e (by decide +kernel) (by simp [Tryz.ntmps116]) ?_)
 show awp _ _ (Code.seq _ _) _ _
 repeat' (first | ((refine zqh fun K J => ?_); (simp (disch := omega) only [go_sem, Nat.reduceBEq, Nat.reduceAdd])) | (refine J _ ?_; clear J K))
 refine z0x (PC.borrow h1 rfl 4 (z00 (z02 3 (z3k _)) (z00 (zc7 3 rfl (z00 (z1d (e := 3) 2 ?_ z41 (z02 1 rfl)) (z00 (z1d (e := 9) 2 ?_ z8t (z02 1 rfl)) z0c))) z0c))) ?_
 ·(simp (disch := omega) only [go_sem, Nat.reduceBEq])
 ·(simp (disch := omega) only [go_sem, Nat.reduceBEq])
 (try (simp (disch := omega) only [go_sem, Nat.reduceBEq])); repeat' (first | refine nxt ?_ | refine zqu (by (simp (disch := omega) only [go_sem]); rfl) rfl ?_ | (refine J _ ?_; clear J K))
 exact z03 rfl
theorem zir (x : Idv) : PC Tryz.prog 165 [z19 x] (.bool (decide (x = Idv.zero))) := by
 refine z14 1 rfl rfl (z10 [] Tryz.func165 rfl (by decide +kernel) z0e (by decide +kernel) (by simp [Tryz.ntmps165]) ?_)
 show awp _ _ (Code.seq _ _) _ _
 repeat' (first | ((refine zqh fun K J => ?_); (simp (disch := omega) only [go_sem, Nat.reduceBEq, ↓reduceIte, Nat.reduceAdd, Nat.reduceLeDiff])) | refine nxt ?_ | refine zqu (by (simp (disch := omega) only [go_sem]); rfl) rfl ?_ | (refine J _ ?_; clear J K))
 exact z03 rfl
theorem z8n (u : T) (hs : szB u = true) (hc : cntT u <= 1000000000) (V : depT u <= 1000000000) : PC Tryz.prog 113 [z0h u] (.bool (standsT u)) := by
 have h1 := zrl u (z7u _ hs) (by omega)
 have h2 := zkf u hs hc V
 have hln : (z0j u).length = cntT u := by unfold z0j cntT; rw [List.length_map]
 have hcp := zg8 u
 have c1 := z4m false (z0j u) (by unfold maxLen; omega) (g := 165) (cap := []) (fun x => decide (x = Idv.zero)) rfl (fun x _ => zir x)
 have c2 := z4m false ((z0j u).drop 1) (by rw [List.length_drop]; unfold maxLen; omega) (g := 165) (cap := []) (fun x => decide (x = Idv.zero)) rfl (fun x _ => zir x)
 have hdm : List.drop 1 ((z0j u).map z19) = ((z0j u).drop 1).map z19 := by rw [List.map_drop]
 refine z14 1 (by simp only [pureD.pureL, z01, Bool.and_self]) rfl (z10 [] Tryz.func113 rfl (by decide +kernel) z0e (by decide +kernel) (by simp [Tryz.ntmps113]) ?_)
 show awp _ _ (Code.seq _ _) _ _
 by_cases O : u.kind = 0
 ·rw [show standsT u = (z5z u && !(((z0j u).drop 1).any fun x => decide (x = Idv.zero))) from by unfold standsT; rw [if_pos O]]
  repeat' (first | refine nxt ?_ | ((first | refine zqh fun K J => ?_ | refine zqs (h1) ?_ | refine zqs (h2) ?_ | refine zqs (c2) ?_); (simp (disch := omega) only [go_sem, Nat.reduceBEq, ↓reduceIte, reduceCtorEq, Nat.reduceAdd, Nat.reduceLeDiff, Int.reduceLE, z15, Int.toNat_one])) | ((refine zqd _ rfl (fun hc => ?_) (fun hc => ?_)) <;> (((try simp only [z09] at hc); (try (exfalso; omega))))) | refine zqu (by (simp (disch := omega) only [go_sem]); rfl) rfl ?_ | (refine J _ ?_; clear J K) | (refine zqf (fun hb => ?_) (fun hb => ?_) <;> (have hb2 := hb; try simp only [z09] at hb2) <;> ((have F : (_ : Bool) = _ := hb2); (simp (disch := omega) only [go_sem, Nat.reduceBEq, ↓reduceIte, hb]); clear hb F; (try (exfalso; omega)))))
  all_goals exact z03 (by rw [hb2]; rfl)
 ·rw [show standsT u = (z5z u && !((z0j u).any fun x => decide (x = Idv.zero))) from by unfold standsT; rw [if_neg O]]
  repeat' (first | refine nxt ?_ | ((first | refine zqh fun K J => ?_ | refine zqs (h1) ?_ | refine zqs (h2) ?_ | refine zqs (c1) ?_); (simp (disch := omega) only [go_sem, Nat.reduceBEq, ↓reduceIte, reduceCtorEq, Nat.reduceAdd, Nat.reduceLeDiff, z15])) | ((refine zqd _ rfl (fun hc => ?_) (fun hc => ?_)) <;> (((try simp only [z09] at hc); (try (exfalso; omega))))) | refine zqu (by (simp (disch := omega) only [go_sem]); rfl) rfl ?_ | (refine J _ ?_; clear J K) | (refine zqf (fun hb => ?_) (fun hb => ?_) <;> (have hb2 := hb; try simp only [z09] at hb2) <;> ((have F : (_ : Bool) = _ := hb2); (simp (disch := omega) only [go_sem, Nat.reduceBEq, ↓reduceIte, hb]); clear hb F; (try (exfalso; omega)))))
  all_goals exact z03 (by rw [hb2]; rfl)
end
section
open Abs Facts Tr
namespace Tr
theorem nest0 (p : Int) : z1w p 0 = false := by
 by_cases h : 0 <= p /\ p < 8
 ·rcases zx2 h with rfl | rfl | rfl | rfl | rfl | rfl | rfl | rfl <;> decide
 ·exact if_neg h
def z23 (t : T) : Bool := zhm (fun t l => (decide (t.kind = 0) || decide (t.id ≠ Idv.zero)) && l.all id) t
theorem zgy (t : T) : z23 t = ((decide (t.kind = 0) || decide (t.id ≠ Idv.zero)) && t.kids.all z23) := by
 unfold z23; rw [z45, List.all_map]; rfl
theorem zcx {t : T} (h : z3w t = true) : ∀ k ∈ t.kids, z1w t.kind k.kind = true /\ z3w k = true := fun k O => by
 rw [z4i] at h
 simp only [Bool.and_eq_true, List.all_eq_true] at h
 exact ⟨h.2.1 k O, h.2.2.1 k O⟩
theorem kid_no0 {t : T} (h : z3w t = true) : ∀ k ∈ t.kids, k.kind ≠ 0 := fun k O e => by
 have := (zcx h k O).1
 rw [e, nest0] at this; cases this
theorem zby : ∀ t : T, z3w t = true -> (z23 t = true ↔ (t.kind = 0 \/ t.id ≠ Idv.zero) /\ Idv.zero ∉ t.kids.flatMap z0j) := by
 refine z4x fun t ih h => ?_
 rw [zgy]
 simp only [Bool.and_eq_true, Bool.or_eq_true, decide_eq_true_eq, List.all_eq_true]
 refine and_congr_right fun _ => ?_
 constructor
 ·intro O hm
  obtain ⟨k, hkm, hz⟩ := List.mem_flatMap.1 hm
  obtain ⟨g1, g2⟩ := (ih k hkm (zcx h k hkm).2).1 (O k hkm)
  rw [z28, List.mem_cons] at hz
  rcases hz with hz | hz
  ·rcases g1 with g1 | g1
   ·exact kid_no0 h k hkm g1
   ·exact g1 hz.symm
  ·exact g2 hz
 ·intro hz k hkm
  refine (ih k hkm (zcx h k hkm).2).2 ⟨.inr fun e => hz (List.mem_flatMap.2 ⟨k, hkm, e ▸ z2x k⟩), fun hm => hz (List.mem_flatMap.2 ⟨k, hkm, ?_⟩)⟩
  rw [z28]; exact List.mem_cons_of_mem _ hm
theorem any_zero (l : List Idv) : (l.any fun x => decide (x = Idv.zero)) = decide (Idv.zero ∈ l) := by
 rw [Bool.eq_iff_iff, List.any_eq_true, decide_eq_true_eq]
 constructor
 ·rintro ⟨x, hx, h⟩; rw [decide_eq_true_eq] at h; exact h ▸ hx
 ·exact fun h => ⟨_, h, decide_eq_true rfl⟩
theorem zrf (t : T) : (z0j t).drop 1 = t.kids.flatMap z0j := by rw [z28]; rfl
theorem zab (t : T) : standsT t = (z5z t && z23 t) := by
 unfold standsT
 by_cases hv : z5z t = true
 ·have hr : z3w t = true := by unfold z5z at hv; simp only [Bool.and_eq_true] at hv; exact hv.1
  rw [hv, Bool.true_and, Bool.true_and, any_zero, Bool.eq_iff_iff, zby t hr]
  simp only [Bool.not_eq_true', decide_eq_false_iff_not]
  by_cases h0 : t.kind = 0
  ·rw [if_pos h0, zrf]
   exact ⟨fun h => ⟨.inl h0, h⟩, fun h => h.2⟩
  ·rw [if_neg h0, z28, List.mem_cons]
   exact ⟨fun h => ⟨.inr fun e => h (.inl e.symm), fun hm => h (.inr hm)⟩, fun ⟨h1, h2⟩ hm => by
    rcases hm with hm | hm
    ·rcases h1 with h1 | h1
     ·exact h0 h1
     ·exact h1 hm.symm
    ·exact h2 hm⟩
 ·rw [Bool.not_eq_true] at hv; rw [hv]; rfl
theorem z24 (t : T) : standsT t = true ↔ z3w t = true /\ depT t <= 8 /\ cntT t <= 1024 /\ (z0j t).Nodup /\ (t.id = Idv.zero ↔ t.kind = 0) /\ Idv.zero ∉ t.kids.flatMap z0j := by
 rw [zab, Bool.and_eq_true]
 unfold z5z zz0
 simp only [Bool.and_eq_true, decide_eq_true_eq, Bool.or_eq_true]
 constructor
 ·rintro ⟨⟨h1, h2, h3, h4⟩, h5⟩
  rw [zby t h1] at h5
  refine ⟨h1, h2, h3, ?_⟩
  rcases h4 with h4 | ⟨h4, h4'⟩
  ·have ha : ∀ i ∈ z0j t, i = Idv.zero := fun i hi => by simpa using List.all_eq_true.1 h4 i hi
   have h0 : t.id = Idv.zero := ha _ (z2x t)
   have O : t.kind = 0 := by
    rcases h5.1 with h | h
    ·exact h
    ·exact (h h0).elim
   have hn : t.kids.flatMap z0j = [] := by
    cases hl : t.kids.flatMap z0j with
    | nil => rfl
    | cons i l =>
     exfalso
     refine h5.2 ?_
     have : i = Idv.zero := ha i (by rw [z28, hl]; simp)
     rw [hl, this]; exact List.mem_cons_self
   rw [z28, hn]
   exact ⟨by simp, ⟨fun _ => O, fun _ => h0⟩, by simp⟩
  ·exact ⟨h4', h4, h5.2⟩
 ·rintro ⟨h1, h2, h3, h4, h5, h6⟩
  refine ⟨⟨h1, h2, h3, .inr ⟨h5, h4⟩⟩, (zby t h1).2 ⟨?_, h6⟩⟩
  by_cases h0 : t.kind = 0
  ·exact .inl h0
  ·exact .inr fun e => h0 (h5.1 e)
theorem zmo {t : T} (h : z3i t = true) {m : List T} (hm : m.length <= 64) : z3i (t.setKids m) = true := by
 unfold z3i at h ⊢
 simp only [Bool.and_eq_true, decide_eq_true_eq] at h ⊢
 exact ⟨h.1, hm, h.2.2⟩
theorem zcy {t : T} (h : z3w t = true) : z3i t = true /\ t.kids.length <= 64 := by
 rw [z4i] at h
 simp only [Bool.and_eq_true] at h
 refine ⟨h.1, ?_⟩
 have := h.1
 unfold z3i at this
 simp only [Bool.and_eq_true, decide_eq_true_eq] at this
 exact this.2.1
theorem zrg {l : List T} {x : T} : z3a l x.kind x.label = false ↔ z6e x ∉ l.map z6e := by
 unfold z3a
 rw [List.any_eq_false]
 simp only [Bool.and_eq_true, decide_eq_true_eq, List.mem_map, not_exists, not_and]
 constructor
 ·intro h k O e
  exact h k O (congrArg Prod.fst e) (congrArg Prod.snd e)
 ·intro h k O e1 e2
  exact h k O (by unfold z6e; rw [e1, e2])
theorem zou (q x : T) (l r : List T) : depT (q.setKids (l ++ x :: r)) = max (depT (q.setKids (l ++ r))) (1 + depT x) := by
 rw [z4r, z4r (q.setKids (l ++ r))]
 show zeg ((l ++ x :: r).map depT) = max (zeg ((l ++ r).map depT)) _
 rw [List.map_append, List.map_cons, z8x, zca, List.map_append, z8x]; omega
theorem zkb (q x : T) (l r : List T) : cntT (q.setKids (l ++ x :: r)) = cntT (q.setKids (l ++ r)) + cntT x := by
 rw [<- z2c, <- z2c, <- z2c, z33, z33, List.flatMap_append, List.flatMap_cons, List.flatMap_append]
 simp only [List.length_cons, List.length_append]; omega
theorem zac (C : Ctx) {x y : T} (h1 : x.id = y.id) (h2 : x.kind = y.kind) : (z2r C x).id = (z2r C y).id /\ (z2r C x).kind = (z2r C y).kind := by
 cases C with
 | hole => exact ⟨h1, h2⟩
 | node t l c r => exact ⟨rfl, rfl⟩
theorem z7z (C : Ctx) (x : T) : (z2r C x).kids.flatMap z0j = (z74 C ++ (z0j x ++ z44 C)).drop 1 := by rw [<- zrf, z2u]
theorem ztm {C : Ctx} {q x : T} {l r : List T} (hu : standsT (z2r C (q.setKids (l ++ r))) = true) (hx : standsT x = true) (O : x.kind ≠ 0) (hn : z1w q.kind x.kind = true) (ht : z3a (l ++ r) x.kind x.label = false)
  (h64 : (l ++ r).length < 64) (V : lenC C + 1 + depT x <= 8) (hc : cntT (z2r C (q.setKids (l ++ r))) + cntT x <= 1024) (hs : ∀ i ∈ z0j x, i ∉ z0j (z2r C (q.setKids (l ++ r)))) : standsT (z2r C (q.setKids (l ++ x :: r))) = true := by
 rw [z24] at hu hx ⊢
 obtain ⟨u1, u2, u3, u4, u5, u6⟩ := hu
 obtain ⟨x1, x2, x3, x4, x5, x6⟩ := hx
 rw [z3z] at u1
 obtain ⟨hr, hp⟩ := zac C (x := q.setKids (l ++ x :: r)) (y := q.setKids (l ++ r)) rfl rfl
 have hids : z0j (q.setKids (l ++ x :: r)) = q.id :: (l.flatMap z0j ++ (z0j x ++ r.flatMap z0j)) := by rw [z33, List.flatMap_append, List.flatMap_cons]
 have hids0 : z0j (q.setKids (l ++ r)) = q.id :: (l.flatMap z0j ++ r.flatMap z0j) := by rw [z33, List.flatMap_append]
 refine ⟨?_, ?_, ?_, ?_, ?_, ?_⟩
 ·rw [z3z]
  refine ⟨u1.1, ?_⟩
  obtain ⟨a1, _⟩ := zcy u1.2
  have hkd := zcx u1.2
  have hnd : ((l ++ r).map z6e).Nodup := by
   have := u1.2
   rw [z4i] at this
   simp only [Bool.and_eq_true, decide_eq_true_eq] at this
   exact this.2.2.2
  rw [zcb]
  refine ⟨⟨?_, hkd, hn, hnd, zrg.1 ht⟩, x1⟩
  exact zmo (t := q.setKids (l ++ r)) a1 (m := l ++ q :: r) (by simp at h64 ⊢; omega)
 ·rw [z8y] at u2 ⊢
  rw [zou]; omega
 ·rw [z5x] at u3 hc ⊢
  rw [zkb]; omega
 ·rw [z2u, hids]
  rw [z2u, hids0] at u4 hs
  have hp : (z74 C ++ (q.id :: (l.flatMap z0j ++ (z0j x ++ r.flatMap z0j)) ++ z44 C)).Perm (z0j x ++ (z74 C ++ (q.id :: (l.flatMap z0j ++ r.flatMap z0j) ++ z44 C))) := by
   simp only [List.cons_append, List.append_assoc]
   have e1 : (z74 C ++ q.id :: (l.flatMap z0j ++ (z0j x ++ (r.flatMap z0j ++ z44 C)))) = (z74 C ++ q.id :: l.flatMap z0j) ++ (z0j x ++ (r.flatMap z0j ++ z44 C)) := by simp
   have e2 : (z74 C ++ q.id :: (l.flatMap z0j ++ (r.flatMap z0j ++ z44 C))) = (z74 C ++ q.id :: l.flatMap z0j) ++ (r.flatMap z0j ++ z44 C) := by simp
   rw [e1, e2]
   exact List.perm_append_comm_assoc _ _ _
  rw [hp.nodup_iff, List.nodup_append]
  exact ⟨x4, u4, fun a ha b hb e => hs a ha (e ▸ hb)⟩
 ·rw [hr, hp]; exact u5
 ·intro hm
  have hz : Idv.zero ∉ z0j x := by
   rw [z28, List.mem_cons]
   rintro (h | h)
   ·exact O (x5.1 h.symm)
   ·exact x6 h
  rw [z7z, hids] at hm
  rw [z7z, hids0] at u6
  cases hC : z74 C with
  | nil =>
   rw [hC] at hm u6
   simp only [List.nil_append, List.cons_append, List.drop_succ_cons, List.drop_zero, List.mem_append, List.append_assoc] at hm u6
   rcases hm with h | h | h | h
   ·exact u6 (.inl h)
   ·exact hz h
   ·exact u6 (.inr (.inl h))
   ·exact u6 (.inr (.inr h))
  | cons i p =>
   rw [hC] at hm u6
   simp only [List.cons_append, List.drop_succ_cons, List.drop_zero, List.mem_append, List.mem_cons, List.append_assoc] at hm u6
   rcases hm with h | h | h | h | h | h
   ·exact u6 (.inl h)
   ·exact u6 (.inr (.inl h))
   ·exact u6 (.inr (.inr (.inl h)))
   ·exact hz h
   ·exact u6 (.inr (.inr (.inr (.inl h))))
   ·exact u6 (.inr (.inr (.inr (.inr h))))
theorem ztn {C : Ctx} {q x : T} {l r : List T} (hu : standsT (z2r C (q.setKids (l ++ x :: r))) = true) : standsT (z2r C (q.setKids (l ++ r))) = true /\ standsT x = true /\ x.kind ≠ 0 /\ z1w q.kind x.kind = true /\ z3a (l ++ r) x.kind x.label = false /\
  (l ++ r).length < 64 /\ lenC C + 1 + depT x <= 8 /\ cntT (z2r C (q.setKids (l ++ r))) + cntT x <= 1024 /\ (∀ i ∈ z0j x, i ∉ z0j (z2r C (q.setKids (l ++ r)))) := by
 rw [z24] at hu
 obtain ⟨u1, u2, u3, u4, u5, u6⟩ := hu
 rw [z3z, zcb] at u1
 obtain ⟨uC, ⟨a1, a2, a3, a4, a5⟩, uX⟩ := u1
 obtain ⟨hr, hp⟩ := zac C (x := q.setKids (l ++ x :: r)) (y := q.setKids (l ++ r)) rfl rfl
 have hids : z0j (q.setKids (l ++ x :: r)) = q.id :: (l.flatMap z0j ++ (z0j x ++ r.flatMap z0j)) := by rw [z33, List.flatMap_append, List.flatMap_cons]
 have hids0 : z0j (q.setKids (l ++ r)) = q.id :: (l.flatMap z0j ++ r.flatMap z0j) := by rw [z33, List.flatMap_append]
 rw [z8y, zou] at u2
 rw [z5x, zkb] at u3
 have h65 : (l ++ q :: r).length <= 64 := by
  have := a1
  unfold z3i at this
  simp only [Bool.and_eq_true, decide_eq_true_eq] at this
  exact this.2.1
 have hp2 : (z74 C ++ (q.id :: (l.flatMap z0j ++ (z0j x ++ r.flatMap z0j)) ++ z44 C)).Perm (z0j x ++ (z74 C ++ (q.id :: (l.flatMap z0j ++ r.flatMap z0j) ++ z44 C))) := by
  simp only [List.cons_append, List.append_assoc]
  have e1 : (z74 C ++ q.id :: (l.flatMap z0j ++ (z0j x ++ (r.flatMap z0j ++ z44 C)))) = (z74 C ++ q.id :: l.flatMap z0j) ++ (z0j x ++ (r.flatMap z0j ++ z44 C)) := by simp
  have e2 : (z74 C ++ q.id :: (l.flatMap z0j ++ (r.flatMap z0j ++ z44 C))) = (z74 C ++ q.id :: l.flatMap z0j) ++ (r.flatMap z0j ++ z44 C) := by simp
  rw [e1, e2]
  exact List.perm_append_comm_assoc _ _ _
 rw [z2u, hids, hp2.nodup_iff, List.nodup_append] at u4
 obtain ⟨n1, n2, n3⟩ := u4
 have hz6 : Idv.zero ∉ z0j x /\ Idv.zero ∉ (z74 C ++ (q.id :: (l.flatMap z0j ++ r.flatMap z0j) ++ z44 C)).drop 1 := by
  rw [z7z, hids] at u6
  cases hC : z74 C with
  | nil =>
   rw [hC] at u6
   simp only [List.nil_append, List.cons_append, List.drop_succ_cons, List.drop_zero, List.mem_append, List.append_assoc] at u6 ⊢
   exact ⟨fun h => u6 (.inr (.inl h)), fun h => by
    rcases h with h | h | h
    ·exact u6 (.inl h)
    ·exact u6 (.inr (.inr (.inl h)))
    ·exact u6 (.inr (.inr (.inr h)))⟩
  | cons i p =>
   rw [hC] at u6
   simp only [List.cons_append, List.drop_succ_cons, List.drop_zero, List.mem_append, List.mem_cons, List.append_assoc] at u6 ⊢
   exact ⟨fun h => u6 (.inr (.inr (.inr (.inl h)))), fun h => by
    rcases h with h | h | h | h | h
    ·exact u6 (.inl h)
    ·exact u6 (.inr (.inl h))
    ·exact u6 (.inr (.inr (.inl h)))
    ·exact u6 (.inr (.inr (.inr (.inr (.inl h)))))
    ·exact u6 (.inr (.inr (.inr (.inr (.inr h)))))⟩
 have hk0 : x.kind ≠ 0 := fun e => by rw [e, nest0] at a3; cases a3
 refine ⟨?_, ?_, hk0, a3, zrg.2 a5, by simp at h65 ⊢; omega, by omega, by rw [z5x]; omega, fun i hi hm => ?_⟩
 ·rw [z24]
  refine ⟨?_, by rw [z8y]; omega, by rw [z5x]; omega, ?_, by rw [<- hr, <- hp]; exact u5, ?_⟩
  ·rw [z3z]
   refine ⟨uC, ?_⟩
   rw [z4i]
   show (z3i (q.setKids (l ++ r)) && (((l ++ r).all fun k => z1w q.kind k.kind) && ((l ++ r).all z3w && decide (((l ++ r).map z6e).Nodup)))) = true
   simp only [Bool.and_eq_true, List.all_eq_true, decide_eq_true_eq]
   exact ⟨zmo (t := q.setKids (l ++ q :: r)) a1 (m := l ++ r) (by simp at h65 ⊢; omega), fun y hy => (a2 y hy).1, fun y hy => (a2 y hy).2, a4⟩
  ·rw [z2u, hids0]; exact n2
  ·rw [z7z, hids0]; exact hz6.2
 ·rw [z24]
  refine ⟨uX, by omega, by omega, n1, ⟨fun h => (hz6.1 (h ▸ z2x x)).elim, fun h => (hk0 h).elim⟩, fun h => hz6.1 ?_⟩
  rw [z28]; exact List.mem_cons_of_mem _ h
 ·rw [z2u, hids0] at hm
  exact n3 i hi i hm rfl
theorem sz_set {t : T} (h : szB t = true) {l : List T} (hl : l.length <= 1000000) (O : ∀ k ∈ l, szB k = true) : szB (t.setKids l) = true := by
 obtain ⟨h0, h1, h2, h3, h4, _, _⟩ := (z2f t).1 h
 exact (z2f _).2 ⟨h0, h1, h2, h3, h4, hl, O⟩
theorem z9c {t : T} (h : szB t = true) : t.kids.length <= 1000000 /\ ∀ k ∈ t.kids, szB k = true := by
 obtain ⟨_, _, _, _, _, h5, h6⟩ := (z2f t).1 h
 exact ⟨h5, h6⟩
theorem zxm {id : Idv} : ∀ u : T, szB u = true -> szB (z0o id u) = true := by
 refine z4x fun u ih h => ?_
 rw [z55]
 obtain ⟨h1, h2⟩ := z9c h
 refine sz_set h (by rw [List.length_map]; have := List.length_filter_le (z4w id) u.kids; omega) fun k O => ?_
 obtain ⟨k', hk', rfl⟩ := List.mem_map.1 O
 exact ih k' (List.mem_filter.1 hk').1 (h2 k' (List.mem_filter.1 hk').1)
end Tr
end
section
open Abs Facts Tr
attribute [local irreducible] awp
namespace Tr
theorem zkk {α : Type} {f : α -> Bool} {l : List α} {i : Nat} (h : i < l.length) (hf : f l[i] = true) : l.any f = true := List.any_eq_true.2 ⟨_, List.getElem_mem h, hf⟩
theorem z52 {α : Type} {f : α -> Bool} {l : List α} {i : Nat} (hi : i < l.length) (h : (l.take i).any f = false) (hf : f l[i] = false) : (l.take (i + 1)).any f = false := by
 rw [List.take_succ_eq_append_getElem hi, List.any_append, h]; simp [hf]
theorem zkl {α : Type} {f : α -> Bool} {l : List α} {i : Nat} (hi : ¬ i < l.length) (h : (l.take i).any f = false) : l.any f = false := by
 rw [List.take_of_length_le (by omega)] at h; exact h
def zmu (l : List T) (kind : Int) (name : ByteArray) (but : Idv) (any : Bool) : Bool := l.any fun k => decide (k.kind = kind) && (decide (k.label = name) && (any || decide (k.id ≠ but)))
end Tr
theorem pc_named : ∀ t : T, szB t = true -> PC Tryz.prog 46 [z0h t] (.bool (z23 t)) := by
 refine z4x fun t ih hs => ?_
 obtain ⟨h0, h1, g1, h2, g2, h3, h4⟩ := (z2f t).1 hs
 rw [zgy]
 refine z14 1 (by simp only [pureD.pureL, z01, Bool.and_self]) rfl (z10 [] Tryz.func46 rfl (by decide +kernel) z0e (by decide +kernel) (by simp [Tryz.ntmps46]) ?_)
 show awp _ _ (Code.seq _ _) _ _
 repeat' (first | refine nxt ?_ | ((refine zqh fun K J => ?_); (simp (disch := omega) only [go_sem, Nat.reduceBEq, ↓reduceIte, reduceCtorEq, Nat.reduceAdd])) | ((refine zqd _ rfl (fun hc => ?_) (fun hc => ?_)) <;> (first | (cases hc; done) | ((try simp only [z09] at hc); (try (exfalso; omega))))) | refine zqu (by (simp (disch := omega) only [go_sem]); rfl) rfl ?_ | (refine J _ ?_; clear J K) | (refine zqf (fun hb => ?_) (fun hb => ?_) <;> (have hb2 := hb; try simp only [z09] at hb2) <;> ((first | have F := eq_false hb2 | have F := eq_true hb2); (simp (disch := omega) only [go_sem, Nat.reduceBEq, ↓reduceIte, reduceCtorEq, Nat.reduceAdd, Nat.reduceLeDiff, F]); clear hb F; (try (exfalso; omega)))))
 ·exact z03 (by rw [decide_eq_false ‹¬ t.kind = 0›, decide_eq_false (fun h => h ‹t.id = Idv.zero›)]; rfl)
 all_goals
  have hq : (decide (t.kind = 0) || decide (t.id ≠ Idv.zero)) = true := by first | rw [decide_eq_true ‹t.kind = 0›]; rfl | rw [decide_eq_true (p := t.id ≠ Idv.zero) ‹¬ t.id = Idv.zero›, Bool.or_true]
  rw [hq, Bool.true_and]
  (refine z3m (fun U st => ∃ (i : _), U = t.kids.length - i /\ st.t 1 = .ptr 0 0 /\ st.t 3 = .int .i64 i /\ st.H 0 = some (.box 27 (z0b t)) /\ (i <= t.kids.length) /\ (1 <= st.nx) /\ ((t.kids.take i).all z23 = true)) ?_ ?_); rotate_left; (rintro U st ⟨i, rfl, q1, q3, qH0, qp0, qp1, qp2⟩); rotate_left
  ·(refine ⟨_, 0, rfl, ?_⟩); (simp (disch := omega) only [go_sem, Nat.reduceBEq, Nat.reduceLeDiff, true_and, Int.natCast_zero])
   try simp
  have hin := fun (h : i < t.kids.length) => ih t.kids[i] (List.getElem_mem h) (h4 _ (List.getElem_mem h))
  repeat' (first | refine nxt ?_ | ((first | refine zqh fun K J => ?_ | refine zqr fun K J => ?_ | refine zqs (hin (by omega)) ?_); (simp (disch := omega) only [go_sem, Nat.reduceBEq, ↓reduceIte, reduceCtorEq, Nat.reduceAdd, q1, q3, qH0, z0r])) | ((first | refine zqd _ rfl (fun hc => ?_) (fun hc => ?_) | refine zqm _ rfl (fun hc => ?_) (fun hc => ?_)) <;> (((try simp only [z09] at hc); (try (exfalso; omega))))) | refine zqz ?_ | refine zqu (by (simp (disch := omega) only [go_sem]); rfl) rfl ?_ | (refine J _ ?_; clear J K))
  ·exact z03 (zae (k := i) (by omega) (by assumption)).symm
  ·(refine Exists.intro _ (And.intro ?_ ⟨i + 1, rfl, ?_⟩)); rotate_left; (simp (disch := omega) only [go_sem, Nat.reduceBEq, q1, q3, qH0, true_and, Int.natCast_add, Int.natCast_one]); rotate_left
   ·omega
   ·exact ⟨by omega, by omega, z6n (by omega) qp2 (by assumption)⟩
  ·exact z03 (z6o (by omega) qp2).symm
theorem z5q (t : T) (hs : szB t = true) (hc : cntT t <= 1000000000) (V : depT t <= 1000000000) : PC Tryz.prog 23 [z0h t] (.bool (standsT t)) := by
 have c1 := pc_May t hs hc V
 have c2 := pc_named t hs
 rw [zab]
 refine z14 1 (by simp only [pureD.pureL, z01, Bool.and_self]) rfl (z10 [] Tryz.func23 rfl (by decide +kernel) z0e (by decide +kernel) (by simp [Tryz.ntmps23]) ?_)
 show awp _ _ (Code.seq _ _) _ _
 repeat' (first | ((first | refine zqh fun K J => ?_ | refine zqs (c1) ?_ | refine zqs (c2) ?_); (simp (disch := omega) only [go_sem, Nat.reduceBEq, ↓reduceIte, Nat.reduceAdd, Nat.reduceLeDiff])) | refine nxt ?_ | refine zqu (by (simp (disch := omega) only [go_sem]); rfl) rfl ?_ | (refine J _ ?_; clear J K) | (refine zqf (fun hb => ?_) (fun hb => ?_) <;> (have hb2 := hb; try simp only [z09] at hb2) <;> ((have F : (_ : Bool) = _ := hb2); (simp (disch := omega) only [go_sem, Nat.reduceBEq, ↓reduceIte, Nat.reduceAdd, Nat.reduceLeDiff, hb]); clear hb F; (try (exfalso; omega)))))
 ·exact z03 (by rw [‹z5z t = true›]; rfl)
 ·exact z03 (by rw [‹z5z t = false›]; rfl)
theorem zy2 (t : T) (hs : szB t = true) (id : Idv) : PC Tryz.prog 150 [z0h t, z19 id] (.bool (z06 id t).2) := by
 have c1 := z48 id t hs
 refine z14 1 (by simp only [pureD.pureL, z01]; rfl) rfl (z10 [] Tryz.func150 rfl (by decide +kernel) z0e (by decide +kernel) (by simp [Tryz.ntmps150]) ?_)
 show awp _ _ (Code.seq _ _) _ _
 repeat' (first | ((first | refine zqh fun K J => ?_ | refine zqs (c1) ?_); (simp (disch := omega) only [go_sem, Nat.reduceBEq, ↓reduceIte, Nat.reduceAdd, Nat.reduceLeDiff])) | refine nxt ?_ | refine zqu (by (simp (disch := omega) only [go_sem]); rfl) rfl ?_ | (refine J _ ?_; clear J K))
 exact z03 rfl
theorem zh0 (l : List T) (hl : l.length <= 1000000) (kind : Int) (name : ByteArray) (but : Idv) (any : Bool) : PC Tryz.prog 145 [z0r l, .int .i64 kind, .str name, z19 but, .bool any] (.bool (zmu l kind name but any)) := by
 refine z14 1 (by simp only [pureD.pureL, z3k, pureD, Bool.and_self]; rfl) rfl (z10 [3000022, 3000030, 3000041, 3000042] Tryz.func145 rfl (by decide +kernel) z0e (by decide +kernel) (by simp [Tryz.ntmps145]) ?_)
 show awp _ _ (Code.seq _ _) _ _
 repeat' (first | refine nxt ?_ | ((refine zqh fun K J => ?_); (simp (disch := omega) only [go_sem])) | (refine J _ ?_; clear J K))
 (refine z3m (fun U st => ∃ (i : _), U = l.length - i /\ st.t 0 = z0r l /\ st.t 1 = .int .i64 kind /\ st.t 2 = .str name /\ st.t 4 = .bool any /\ st.t 8 = .ptr 0 0 /\ st.t 11 = .int .i64 i /\ st.H 0 = some (.box 23 (z0a but)) /\ (i <= l.length) /\ (1 <= st.nx) /\ ((l.take i).any (fun k => decide (k.kind = kind) && (decide (k.label = name) && (any || decide (k.id ≠ but)))) = false)) ?_ ?_); rotate_left; (rintro U st ⟨i, rfl, q0, q1, q2, q4, q8, q11, qH0, qp0, qp1, qp2⟩); rotate_left
 ·(refine ⟨_, 0, rfl, ?_⟩); (simp (disch := omega) only [go_sem, Nat.reduceBEq, Nat.reduceLeDiff, and_self, Int.natCast_zero, z0a])
  try simp
 repeat' (first | refine nxt ?_ | ((first | refine zqh fun K J => ?_ | refine zqe (by decide +kernel) fun K J => ?_ | refine zqr fun K J => ?_); (simp (disch := omega) only [go_sem, Nat.reduceBEq, Nat.reduceEqDiff, ↓reduceIte, reduceCtorEq, Nat.reduceAdd, q0, q1, q11, z0r])) | ((first | refine zqd _ rfl (fun hc => ?_) (fun hc => ?_) | refine zqm _ rfl (fun hc => ?_) (fun hc => ?_)) <;> (first | (cases hc; done) | ((try simp only [z09] at hc); (try (exfalso; omega))))) | refine zqz ?_ | refine zqu (by (simp (disch := omega) only [go_sem]); rfl) rfl ?_ | (refine J _ ?_; clear J K) | (refine zqf (fun hb => ?_) (fun hb => ?_) <;> (have hb2 := hb; try simp only [z09] at hb2) <;> ((first | have F : (_ : Bool) = _ := hb2 | have F := eq_false hb2 | have F := eq_true hb2); (simp (disch := omega) only [go_sem, Nat.reduceBEq, Nat.reduceEqDiff, ↓reduceIte, reduceCtorEq, Nat.reduceAdd, Nat.reduceLeDiff, F, q0, q2, q4, q8, q11, qH0, z0r, z0a]); clear hb F; (try (exfalso; omega)))))
 ·exact z03 (zkk (i := i) (by omega) (by simp [*])).symm
 ·(refine Exists.intro _ (And.intro ?_ ⟨i + 1, rfl, ?_⟩)); rotate_left; (simp (disch := omega) only [go_sem, Nat.reduceBEq, q0, q1, q2, q4, q8, q11, qH0, true_and, Int.natCast_add, Int.natCast_one, z0a]); rotate_left
  ·omega
  ·exact ⟨by omega, by omega, z52 (by omega) qp2 (by simp [*])⟩
 ·exact z03 (zkk (i := i) (by omega) (by simp [*])).symm
 ·(refine Exists.intro _ (And.intro ?_ ⟨i + 1, rfl, ?_⟩)); rotate_left; (simp (disch := omega) only [go_sem, Nat.reduceBEq, q0, q1, q2, q4, q8, q11, qH0, true_and, Int.natCast_add, Int.natCast_one, z0a]); rotate_left
  ·omega
  ·exact ⟨by omega, by omega, z52 (by omega) qp2 (by simp [*])⟩
 ·(refine Exists.intro _ (And.intro ?_ ⟨i + 1, rfl, ?_⟩)); rotate_left; (simp (disch := omega) only [go_sem, Nat.reduceBEq, q0, q1, q2, q4, q8, q11, qH0, true_and, Int.natCast_add, Int.natCast_one, z0a]); rotate_left
  ·omega
  ·exact ⟨by omega, by omega, z52 (by omega) qp2 (by simp [*])⟩
 ·exact z03 (zkl (i := i) (by omega) qp2).symm
theorem zrp (t : T) (hs : szB t = true) (V : depT t <= 1000000000) (id : Idv) : PC Tryz.prog 151 [z0h t, z19 id] (.int .i64 (z78 id t).length) := by
 have c1 := pc_Above id t hs V
 refine z14 1 (by simp only [pureD.pureL, z01]; rfl) rfl (z10 [] Tryz.func151 rfl (by decide +kernel) z0e (by decide +kernel) (by simp [Tryz.ntmps151]) ?_)
 show awp _ _ (Code.seq _ _) _ _
 repeat' (first | ((first | refine zqh fun K J => ?_ | refine zqs (c1) ?_); (simp (disch := omega) only [go_sem, Nat.reduceBEq, ↓reduceIte, Nat.reduceAdd, Nat.reduceLeDiff, z15])) | refine nxt ?_ | refine zqu (by (simp (disch := omega) only [go_sem]); rfl) rfl ?_ | (refine J _ ?_; clear J K))
 exact z1j rfl
theorem pc_putR (l : List T) (hl : l.length <= 1000000) (i : Nat) (hi : i <= l.length) (x : T) : PC Tryz.prog 189 [z0r l, .int .i64 i, z0h x] (z0r (l.take i ++ x :: l.drop i)) := by
 refine z14 3 (by simp only [pureD.pureL, z3k, z01, pureD, Bool.and_self]) (z3k _) (z10 [8] Tryz.func189 rfl (by decide +kernel) z0e (by decide +kernel) (by simp [Tryz.ntmps189]) ?_)
 show awp _ _ (Code.seq _ _) _ _
 repeat' (first | ((refine zqh fun K J => ?_); (simp (disch := omega) only [go_sem, Nat.reduceBEq, ↓reduceIte, reduceCtorEq, Nat.reduceAdd, Nat.reduceMul, Nat.reduceLeDiff, z0r, z2q])) | refine nxt ?_ | refine zqu (by (simp (disch := omega) only [go_sem]); rfl) rfl ?_ | (refine J _ ?_; clear J K))
 refine z3h (z16 (f := z0b) (l := l.take i ++ x :: l.drop i) 1 ?_ ?_ z0k z2s z0d z04)
 ·simp; omega
 ·(simp (disch := omega) only [go_sem, Nat.reduceBEq, List.flatMap_append, List.flatMap_cons, List.append_assoc])
end
section
open Abs Facts Go.Lib
variable {P : Program}
theorem z81 (w : World) (dT sT ty elem : TypeId) (sz g o dLen dCap : Nat) (cur : Array Value) (a : Addr) (sLen sCap : Nat) (cs : List Value)
  (hu : P.underlying dT = some (.slice elem)) (hs : (P.info? elem).map (·.size) = some sz) (hn : cs.length = Nat.min sLen dLen * sz)
  (hsrc : ∀ j v, cs[j]? = some v -> w.cell? (a.add j) = some v) (hg : w.heap[g]? = some (.cells cur elem (0, 0))) (hfit : o + cs.length <= cur.size) (h1 : ∀ v ∈ cs, v.oneCell' = true) :
  (Builtin.copy_ #[dT, sT] ty #[.slice (some ⟨g, o, none⟩) dLen dCap, .slice (some a) sLen sCap]).run P w = .ok (goInt (Nat.min sLen dLen)) (w.setRow g (cur.toList.take o ++ cs ++ cur.toList.drop (o + cs.length)).toArray) := by
 have hl := run_loadCells_list (P := P) w a cs hsrc
 have hst := run_storeCells_at P g o elem cs 0 cur w hg (by simpa using hfit) h1
 simp only [Nat.add_zero] at hst
 cases hq : P.info? elem with
 | none => simp [hq] at hs
 | some i =>
  have hi : i.size = sz := by simpa [hq] using hs
  simp [Builtin.copy_, run_underlying hu, Builtin.lenOf, Builtin.firstCells, sizeOf, typeInfo, hq, hi, <- hn, hl, hst]
theorem zd9 (w : World) (t e ty : TypeId) (z : Value) (sz g o n c : Nat) (cur : Array Value) (ht : P.underlying t = some (.slice e)) (hv : ∀ w, (zeroValue e).run P w = .ok z w) (hz : z.cells.size = sz) (h1 : ∀ v ∈ z.cells.toList, v.oneCell' = true)
    (hn : 0 < n) (hg : w.heap[g]? = some (.cells cur e (0, 0))) (hfit : o + n * sz <= cur.size) :
    (Builtin.clear_ #[t] ty #[.slice (some ⟨g, o, none⟩) n c]).run P w = .ok (.tuple #[]) (w.setRow g (cur.toList.take o ++ (Builtin.zeroCells z.cells n).toList ++ cur.toList.drop (o + n * sz)).toArray) := by
  have hlen : (Builtin.zeroCells z.cells n).toList.length = n * sz := by rw [Array.length_toList, size_zeroCells, hz]
  have hst := run_storeCells_at P g o e (Builtin.zeroCells z.cells n).toList 0 cur w hg (by rw [hlen]; omega) (by
    intro v hv'
    simp only [Builtin.zeroCells, Array.toList_map, Array.toList_range, List.mem_map, List.mem_range] at hv'
    obtain ⟨k, O, rfl⟩ := hv'
    have h0 : 0 < z.cells.size := by rcases Nat.eq_zero_or_pos z.cells.size with h | h; · rw [h] at O; omega
                                     · exact h
    have hkm := Nat.mod_lt k h0
    rw [getElem!_pos z.cells _ hkm]
    exact h1 _ (by simp))
  simp only [Nat.add_zero, hlen] at hst
  obtain ⟨m, rfl⟩ : ∃ m, n = m + 1 := ⟨n - 1, by omega⟩
  simp [Builtin.clear_, run_underlying ht, hv, hst]
theorem z8p (w : World) {ops : Array Oper} {rest : List Oper} {o : Oper} {a : Act} {Q : Exit -> Act -> World -> Prop} (hgd : o.guard = none) (d : Operand) (t : TypeId)
  (ho : o.op = .call { callee := .builtin .clear, args := #[d], argTypes := #[t] }) (v : Value) (V : a.eval d = v) {v' : Value} {w' : World}
  (hr : (Builtin.clear_ #[t] o.type #[v]).run P w = .ok v' w') (h : wpList P ops Q rest (a.put o.dst v') w') : wpList P ops Q (o :: rest) a w := by
 refine wpList_plain hgd fun K J => ?_
 unfold Oper.wp execOp
 simp only [ho, resolve, invoke, builtin, Sem.run_bind, Sem.run_pure, Result.andThen_ok, List.map_toArray, List.map_cons, List.map_nil, V, hr]
 exact J _ _ h
theorem zda {α β : Type} (x : α) (f : α -> Sem β) : (pure x : Sem α).bind f = f x := rfl
theorem zf7 (w : World) (tS tR e : TypeId) (ht : P.underlying tS = some (.slice e)) (size : Nat) (hz : ∀ w, (Go.sizeOf e).run P w = .ok size w)
  (a b : Addr) (la ca lb cb : Nat) (hne : a.block ≠ b.block) (tA tB : TypeId) (kA kB : Nat)
  (hsa : w.shape? a.block = some (tA, kA)) (hsb : w.shape? b.block = some (tB, kB)) (hkA : kA ≠ 0)
  (hfb : w.frozen? b = false) (hfe : w.frozen? { block := b.block, off := kB } = false) :
  (Extern.SlicesOverlaps.overlaps #[tS, tS] #[tR] #[.slice (some a) la ca, .slice (some b) lb cb]).run P w = .ok (.bool false) w := by
 have hnb : (a.block != b.block) = true := by simpa using hne
 have hnb' : (a.block == b.block) = false := by simpa using hne
 conv => lhs; arg 2; whnf
 by_cases h0 : la = 0 \/ lb = 0 \/ size = 0
 ·simp [Sem.run, Sem.bind, zda, ht, hz, h0]
 ·cases kA with
  | zero => exact absurd rfl hkA
  | succ kA =>
   simp [Sem.bind, zda, ht, hz, h0, hnb, hnb', frozen, noView, viewAt, mayBeOne, stringish, shape, Sem.run, hsa, hsb, hfb, hfe]
theorem zdb (w : World) (g : Nat) (a b : Array Value) : (w.setRow g a).setRow g b = w.setRow g b := by
 have : ((w.setRow g a).setRow g b).heap = (w.setRow g b).heap := by
  apply Array.ext_getElem?
  intro k
  simp only [World.setRow, Array.getElem?_modify]
  by_cases h : g = k
  ·rw [if_pos h, if_pos h, if_pos h, Option.map_map]
   congr 1
   funext o
   cases o <;> rfl
  ·rw [if_neg h, if_neg h, if_neg h]
 show ({ w with heap := ((w.setRow g a).setRow g b).heap } : World) = _
 rw [this]
 rfl
theorem zp3 (a : Array Obj) (x : Obj) (f : Obj -> Obj) : (a.push x).modify a.size f = a.push (f x) := by
 apply Array.ext_getElem?
 intro k
 simp only [Array.getElem?_modify, Array.getElem?_push]
 by_cases h : a.size = k
 ·subst h; simp
 ·rw [if_neg h]
  by_cases h2 : k = a.size
  ·exact absurd h2.symm h
  ·rw [if_neg h2, if_neg h2]
theorem zyn {α : Type} {A B Z vs : List α} {i k m : Nat} (hA : A.length = i) (hB : B.length = k) (hv : vs.length = m) (hZ : m + k <= Z.length) :
  let c1 := (A ++ Z).take i ++ vs ++ (A ++ Z).drop (i + m)
  c1.take (i + m) ++ B ++ c1.drop (i + m + k) = A ++ vs ++ B ++ Z.drop (m + k) := by
 intro c1
 have h1 : (A ++ Z).take i = A := by rw [List.take_append_of_le_length (by omega), List.take_of_length_le (by omega)]
 have h2 : (A ++ Z).drop (i + m) = Z.drop m := by rw [List.drop_append, List.drop_of_length_le (by omega), List.nil_append]; congr 1; omega
 have hc : c1 = A ++ vs ++ Z.drop m := by show _ ++ vs ++ _ = _; rw [h1, h2]
 have hl : (A ++ vs).length = i + m := by rw [List.length_append]; omega
 rw [hc]
 have e1 : (A ++ vs ++ Z.drop m).take (i + m) = A ++ vs := by rw [List.take_append_of_le_length (by omega), List.take_of_length_le (by omega)]
 have e2 : (A ++ vs ++ Z.drop m).drop (i + m + k) = Z.drop (m + k) := by
  rw [List.drop_append, List.drop_of_length_le (by omega), List.nil_append, List.drop_drop]; congr 1; omega
 rw [e1, e2]
theorem zu4 {α : Type} {A B R vs : List α} {i k m : Nat} (hA : A.length = i) (hB : B.length = k) (hv : vs.length = m) (hm : m <= R.length) :
  let c1 := (A ++ B ++ R).take (i + m) ++ B ++ (A ++ B ++ R).drop (i + m + k)
  c1.take i ++ vs ++ c1.drop (i + m) = A ++ vs ++ B ++ R.drop m := by
 intro c1
 have h1 : (A ++ B ++ R).take (i + m) = A ++ (B ++ R).take m := by rw [List.append_assoc, List.take_append, hA, List.take_of_length_le (by omega)]; congr 2; omega
 have h2 : (A ++ B ++ R).drop (i + m + k) = R.drop m := by rw [List.drop_append, List.drop_of_length_le (by rw [List.length_append]; omega), List.nil_append, List.length_append]; congr 1; omega
 have hl : ((B ++ R).take m).length = m := by rw [List.length_take, List.length_append]; omega
 have hc : c1 = A ++ ((B ++ R).take m ++ (B ++ R.drop m)) := by show _ ++ B ++ _ = _; rw [h1, h2]; simp only [List.append_assoc]
 rw [hc]
 have e1 : (A ++ ((B ++ R).take m ++ (B ++ R.drop m))).take i = A := by rw [List.take_append_of_le_length (by omega), List.take_of_length_le (by omega)]
 have e2 : (A ++ ((B ++ R).take m ++ (B ++ R.drop m))).drop (i + m) = B ++ R.drop m := by
  rw [List.drop_append, List.drop_of_length_le (by omega), List.nil_append, hA, Nat.add_sub_cancel_left, List.drop_append, List.drop_of_length_le (by omega), List.nil_append, hl, Nat.sub_self, List.drop_zero]
 rw [e1, e2]
 simp only [List.append_assoc]
end
section
open Abs Facts Go.Lib Go.Shelf Go.RowKit
set_option maxHeartbeats 4000000 in
theorem ins_end {w : World} {v : Value} {n m : Nat} {a : Addr} {c : Nat} {cap : Nat} {ba : Option Addr} (hm : 0 < m) (hv : v = .slice ba n cap) (v' : Value) (w' : World)
  (hr : ∀ ty, (Builtin.append_ #[25, 25] ty #[v, .slice (some a) m c]).run Tryz.prog w = .ok v' w') :
  Calls Tryz.prog 180 #[v, .int .i64 n, .slice (some a) m c] w fun e w2 => e = .returned v' /\ w2 = w' := by
 subst hv
 have hz1 : ¬ ((m : Int) = 0) := by omega
 go_enter Tryz.func180, Tryz.ntmps180
 go_wp2_with (at_builtin; refine Lib.wpList_append_run _ rfl _ _ _ _ rfl _ _ rfl rfl _ _ (hr _) ?_)
 all_goals (go_ret; exact ⟨rfl, rfl⟩)
set_option maxHeartbeats 4000000 in
theorem zwq {w : World} {g n cap i m vc : Nat} {va : Addr} {cur : Array Value} {A B R vs : List Value} (hi : i < n) (hm : 0 < m) (hroom : n + m <= cap) (hc63 : cap <= 9223372036854775807)
  (hg : w.heap[g]? = some (.cells cur 27 (0, 0))) (hcur : cur.toList = A ++ B ++ R) (hA : A.length = i * 8) (hB : B.length = (n - i) * 8) (hR : m * 8 <= R.length)
  (hvb : va.block ≠ g) (hvl : vs.length = m * 8) (hvs : ∀ j v, vs[j]? = some v -> w.cell? (va.add j) = some v) (h1c : ∀ v ∈ B, v.oneCell' = true) (h1v : ∀ v ∈ vs, v.oneCell' = true)
  (tA : TypeId) (kA : Nat) (hsa : w.shape? va.block = some (tA, kA)) (hkA : kA ≠ 0) :
  Calls Tryz.prog 180 #[.slice (some ⟨g, 0, none⟩) n cap, .int .i64 i, .slice (some va) m vc] w fun e w2 => e = .returned (.slice (some ⟨g, 0, none⟩) (n + m) cap) /\ w2 = w.drew.setRow g (A ++ vs ++ B ++ R.drop (m * 8)).toArray := by
 have hz1 : ¬ ((m : Int) = 0) := by omega
 have hz2 : ¬ ((i : Int) = (n : Int)) := by omega
 have t25 : Tryz.prog.underlying 25 = some (.slice 27) := rfl
 have hsz : (Tryz.prog.info? 27).map (·.size) = some 8 := rfl
 have hw1 : IntKind.i64.wrap ((i : Int) + (m : Int)) = (i : Int) + (m : Int) := by rw [IntKind.wrap_i64]; omega
 have hb1 : (0 : Int) <= (i : Int) + (m : Int) := by omega
 have hin : i <= n := by omega
 have htn : ((i : Int) + (m : Int)).toNat = i + m := by omega
 have hb2 : ¬ (cap = i + m) := by omega
 have F : (i : Int) <= (n : Int) + (m : Int) := by omega
 have hb4 : ¬ (cap = i) := by omega
 have hsl : cur.size = i * 8 + (n - i) * 8 + R.length := by rw [<- Array.length_toList, hcur, List.length_append, List.length_append, hA, hB]
 have hov : ∀ lb cb, (callFunc 200 #[.slice (some va) m vc, .slice (some ⟨g, (i + m) * 8, none⟩) lb cb]).run Tryz.prog w = .ok (.value (.bool false)) w := fun lb cb => by
  rw [run_callFunc_extern Tryz.func200 (by kernel_rfl) (by kernel_rfl) (by kernel_rfl) (e := Extern.SlicesOverlaps.overlaps #[25, 25] #[4]) (by kernel_rfl),
   zf7 w 25 4 27 t25 8 (fun _ => rfl) va ⟨g, (i + m) * 8, none⟩ m vc lb cb hvb tA 27 kA cur.size hsa (by simp [World.shape?, hg]) hkA (by simp [World.frozen?, hg]) (by simp [World.frozen?, hg])]
  rfl
 have hcp1 : ∀ ty dc sc, (Builtin.copy_ #[25, 25] ty #[.slice (some ⟨g, (i + m) * 8, none⟩) (n + m - (i + m)) dc, .slice (some ⟨g, i * 8, none⟩) (n + m - i) sc]).run Tryz.prog w.drew = .ok (goInt (Nat.min (n + m - i) (n + m - (i + m)))) (w.drew.setRow g ((A ++ B ++ R).take (i * 8 + m * 8) ++ B ++ (A ++ B ++ R).drop (i * 8 + m * 8 + (n - i) * 8)).toArray) := fun ty dc sc => by
  have h := z81 (P := Tryz.prog) w.drew 25 25 ty 27 8 g ((i + m) * 8) (n + m - (i + m)) dc cur ⟨g, i * 8, none⟩ (n + m - i) sc B t25 hsz (by rw [hB]; congr 1; simp only [Nat.min_def]; split <;> omega)
   (fun j v hj => by
    rw [Addr.add_lit]
    show w.cell? _ = _
    have : cur.toList[i * 8 + j]? = some v := by rw [hcur, List.append_assoc, List.getElem?_append_right (by omega), hA, Nat.add_sub_cancel_left, List.getElem?_append_left ((List.getElem?_eq_some_iff.1 hj).1)]; exact hj
    simp only [World.cell?, hg]
    simpa using this) hg (by omega) h1c
  rw [hcur, hB, Nat.add_mul] at h
  rw [Nat.add_mul]
  exact h
 obtain ⟨c1, hc1⟩ : ∃ c1, c1 = (A ++ B ++ R).take (i * 8 + m * 8) ++ B ++ (A ++ B ++ R).drop (i * 8 + m * 8 + (n - i) * 8) := ⟨_, rfl⟩
 rw [<- hc1] at hcp1
 have hg1 : (w.drew.setRow g c1.toArray).heap[g]? = some (.cells c1.toArray 27 (0, 0)) := by
  have hgg : w.drew.heap[g]? = some (.cells cur 27 (0, 0)) := hg
  simp [World.setRow, Array.getElem?_modify, hgg]
 have hcl : c1.length = cur.size := by
  rw [hc1, List.length_append, List.length_append, List.length_take, List.length_drop, List.length_append, List.length_append, hA, hB, hsl]; omega
 have hcp2 : ∀ ty dc, (Builtin.copy_ #[25, 25] ty #[.slice (some ⟨g, i * 8, none⟩) (n + m - i) dc, .slice (some va) m vc]).run Tryz.prog (w.drew.setRow g c1.toArray) = .ok (goInt (Nat.min m (n + m - i))) (w.drew.setRow g (A ++ vs ++ B ++ R.drop (m * 8)).toArray) := fun ty dc => by
  have h := z81 (P := Tryz.prog) (w.drew.setRow g c1.toArray) 25 25 ty 27 8 g (i * 8) (n + m - i) dc c1.toArray va m vc vs t25 hsz (by rw [hvl]; congr 1; simp only [Nat.min_def]; split <;> omega)
   (fun j v hj => by
    rw [World.cell?_of_block (w := w)]
    ·exact hvs j v hj
    ·show (w.drew.setRow g c1.toArray).heap[(va.add j).block]? = _
     have : (va.add j).block = va.block := by unfold Addr.add; split <;> rfl
     rw [this]
     simp only [World.setRow, Array.getElem?_modify]
     rw [if_neg (fun h => hvb h.symm)]
     rfl) hg1 (by simp; omega) h1v
  have h2 := zu4 (α := Value) (A := A) (B := B) (R := R) (vs := vs) (i := i * 8) (k := (n - i) * 8) (m := m * 8) hA hB hvl hR
  simp only at h2
  rw [<- hc1] at h2
  rw [hvl, show c1.toArray.toList = c1 from rfl, h2, zdb] at h
  exact h
 clear hc1 hg1 hcl
 have z0e : Tryz.prog.follows .mixedOrders = true := by kernel_rfl
 go_enter Tryz.func180, Tryz.ntmps180
 go_wp2_with (simp only [hov])
 go_region_law_o (refine step_copy_runI rfl _ _ 25 25 rfl _ _ (by simp [Act.eval, Act.put]) (by simp [Act.eval, Act.put]) (hcp1 _ _ _) ?_)
 go_wp2_with (at_builtin; refine wpList_copy_runI _ rfl _ _ 25 25 rfl _ _ rfl rfl (hcp2 _ _) ?_)
 all_goals (go_ret; exact ⟨rfl, by simp only [List.append_assoc]⟩)
def GrewTo (w : World) (k : Nat) (xs : List Value) (e : Ending) (w2 : World) : Prop :=
 ∃ G Y, e = .returned (.slice (some ⟨w.heap.size, 0, none⟩) k G) /\ k <= G /\ G <= maxLen /\ Y.length = (G - k) * 8 /\
  w2.heap = w.heap.push (.cells (xs ++ Y).toArray 27 (0, 0)) /\ w2.os = w.os /\ w2.tape = w.tape /\ w2.output = w.output
set_option maxHeartbeats 4000000 in
theorem ins_grow {w : World} {g n cap i m vc : Nat} {va : Addr} {A B vs : List Value} (hi : i < n) (hm : 0 < m) (hnc : n <= cap) (hroom : cap < n + m) (hbig : (n + m) * z0t Tryz.prog 27 <= 140737488355328) (h63 : n + m <= maxLen)
  (hA : A.length = i * 8) (hB : B.length = (n - i) * 8) (hcs : ∀ j v, (A ++ B)[j]? = some v -> w.cell? ⟨g, j, none⟩ = some v)
  (hvl : vs.length = m * 8) (hvs : ∀ j v, vs[j]? = some v -> w.cell? (va.add j) = some v) (h1c : ∀ v ∈ B, v.oneCell' = true) (h1v : ∀ v ∈ vs, v.oneCell' = true) :
  Calls Tryz.prog 180 #[.slice (some ⟨g, 0, none⟩) n cap, .int .i64 i, .slice (some va) m vc] w (GrewTo w (n + m) (A ++ vs ++ B)) := by
 have hz1 : ¬ ((m : Int) = 0) := by omega
 have hz2 : ¬ ((i : Int) = (n : Int)) := by omega
 have hz3 : (cap : Int) < (n : Int) + (m : Int) := by omega
 have t25 : Tryz.prog.underlying 25 = some (.slice 27) := rfl
 have t3 : Tryz.prog.underlying 3 = some (.int .i64) := rfl
 have hsz : (Tryz.prog.info? 27).map (·.size) = some 8 := rfl
 obtain ⟨i0, z, hi0, hz0, hzs⟩ := z5y (P := Tryz.prog) (t := 27) (by kernel_rfl)
 have hi8 : i0.size = 8 := by rw [hi0] at hsz; simpa using hsz
 have hzs8 : z.cells.size = 8 := by rw [hzs]; exact z2s
 have hby : i0.bytes = z0t Tryz.prog 27 := by simp [z0t, hi0]
 have hik : i + (n + m - i) = n + m := by omega
 have hAv : ∀ j v, A[j]? = some v -> w.cell? ⟨g, j, none⟩ = some v := fun j v h => hcs j v (by rw [List.getElem?_append_left ((List.getElem?_eq_some_iff.1 h).1)]; exact h)
 have hBv : ∀ j v, B[j]? = some v -> w.cell? ⟨g, i * 8 + j, none⟩ = some v := fun j v h => hcs _ v (by rw [List.getElem?_append_right (by omega), hA, Nat.add_sub_cancel_left]; exact h)
 have hbw : g < w.heap.size := by
  have h0 : 0 < B.length := by rw [hB]; omega
  exact block_lt_of_cell (hBv 0 _ (List.getElem?_eq_getElem h0))
 have hvw : va.block < w.heap.size := by
  have h0 : 0 < vs.length := by rw [hvl]; omega
  have := block_lt_of_cell (hvs 0 _ (List.getElem?_eq_getElem h0))
  have h2 : (va.add 0).block = va.block := by unfold Addr.add; split <;> rfl
  rwa [h2] at this
 have hold : (Builtin.firstCells i0.size i (.slice (some ⟨g, 0, none⟩) i cap)).run Tryz.prog w.drew = .ok A.toArray w.drew := by
  rw [hi8]
  exact run_firstCells_some w.drew 8 i ⟨g, 0, none⟩ i cap A (by rw [hA]) (fun j v hj => by rw [Addr.add_lit, Nat.zero_add]; exact hAv j v hj)
 obtain ⟨G, hG⟩ : ∃ G, G = grownCap w (n + m) cap 27 := ⟨_, rfl⟩
 obtain ⟨Z, hZ⟩ : ∃ Z, Z = (Builtin.zeroCells z.cells (n + m - i) ++ Builtin.zeroCells z.cells (G - (n + m))).toList := ⟨_, rfl⟩
 have hGn : n + m <= G := by rw [hG]; exact grownCap_ge w _ _ _
 have hG63 : G <= maxLen := by rw [hG]; exact grownCap_le_maxLen w (n + m) cap 27 h63
 have hZl : Z.length = (G - i) * 8 := by
  rw [hZ, Array.length_toList, Array.size_append, size_zeroCells, size_zeroCells, hzs8, <- Nat.add_mul]; congr 1; omega
 have hrz : ∀ ty, (Builtin.append_ #[25, 3] ty #[.slice (some ⟨g, 0, none⟩) i cap, .int .i64 ((n : Int) + (m : Int) - (i : Int))]).run Tryz.prog w =
   .ok (.slice (some ⟨w.heap.size, 0, none⟩) (n + m) G) (w.drew.alloc (.cells (A ++ Z).toArray 27)) := fun ty => by
  have h := Lib.run_append_grow_zeros (P := Tryz.prog) w 25 3 ty 27 i0 z .i64 .i64 t25 t3 hi0 hz0 (some ⟨g, 0, none⟩) i cap A hold (n + m - i) (by omega) (by omega) (by omega) (by simp only [maxLen] at h63; omega)
   (by rw [hby]; have := Nat.mul_le_mul_right (z0t Tryz.prog 27) (show n + m - i <= n + m by omega); omega) (by rw [hby, hik]; exact growslice_fits hroom hbig)
  rw [hik, <- hG] at h
  rw [show (n : Int) + (m : Int) - (i : Int) = ((n + m - i : Nat) : Int) by omega, h, hZ]
  congr 3
  apply Array.ext'
  simp
 obtain ⟨W1, hW1⟩ : ∃ W1, W1 = w.drew.alloc (.cells (A ++ Z).toArray 27) := ⟨_, rfl⟩
 have hheap : W1.heap = w.heap.push (.cells (A ++ Z).toArray 27 (0, 0)) := by rw [hW1]; rfl
 have hOb : ∀ (W : World) (x : List Value) (j : Nat) (b : Nat) (v : Value), W.heap = w.heap.push (.cells x.toArray 27 (0, 0)) -> b < w.heap.size -> ∀ sp, w.cell? ⟨b, j, sp⟩ = some v -> W.cell? ⟨b, j, sp⟩ = some v := fun W x j b v hW hb sp h => by
  rw [World.cell?_of_block (w := w)]
  ·exact h
  ·show W.heap[b]? = _
   rw [hW, Array.getElem?_push, if_neg (by omega)]
 obtain ⟨c1, hc1⟩ : ∃ c1, c1 = (A ++ Z).take (i * 8) ++ vs ++ (A ++ Z).drop (i * 8 + m * 8) := ⟨_, rfl⟩
 have hcl : c1.length = A.length + Z.length := by
  rw [hc1, List.length_append, List.length_append, List.length_take, List.length_drop, List.length_append, hA, hvl, hZl]; omega
 obtain ⟨Y, hY⟩ : ∃ Y, Y = Z.drop (m * 8 + (n - i) * 8) := ⟨_, rfl⟩
 have hYl : Y.length = (G - (n + m)) * 8 := by rw [hY, List.length_drop, hZl]; omega
 have hrow : ∀ (W : World) (x y : List Value), W.heap = w.heap.push (.cells x.toArray 27 (0, 0)) -> (W.setRow w.heap.size y.toArray).heap = w.heap.push (.cells y.toArray 27 (0, 0)) := fun W x y hW => by
  unfold World.setRow
  simp only
  rw [hW, zp3]
 have hcpA : ∀ (W : World), W.heap = W1.heap -> ∀ ty dc, (Builtin.copy_ #[25, 25] ty #[.slice (some ⟨w.heap.size, i * 8, none⟩) (n + m - i) dc, .slice (some va) m vc]).run Tryz.prog W = .ok (goInt (Nat.min m (n + m - i))) (W.setRow w.heap.size c1.toArray) := fun W hW ty dc => by
  rw [hheap] at hW
  have hgW : W.heap[w.heap.size]? = some (.cells (A ++ Z).toArray 27 (0, 0)) := by rw [hW, Array.getElem?_push, if_pos rfl]
  have h := z81 (P := Tryz.prog) W 25 25 ty 27 8 w.heap.size (i * 8) (n + m - i) dc (A ++ Z).toArray va m vc vs t25 hsz (by rw [hvl]; congr 1; simp only [Nat.min_def]; split <;> omega)
   (fun j v hj => by
    have := hvs j v hj
    unfold Addr.add at this ⊢
    split at this <;> rename_i hsp <;> simp only [hsp] <;> exact hOb W _ _ _ _ hW hvw _ this) hgW (by rw [List.size_toArray, List.length_append, hA, hvl, hZl]; omega) h1v
  rw [hvl] at h
  rw [hc1]
  exact h
 have hcpB : ∀ (W : World), W.heap = (W1.setRow w.heap.size c1.toArray).heap -> ∀ ty dc sc, (Builtin.copy_ #[25, 25] ty #[.slice (some ⟨w.heap.size, (i + m) * 8, none⟩) (n + m - (i + m)) dc, .slice (some ⟨g, i * 8, none⟩) (n - i) sc]).run Tryz.prog W = .ok (goInt (Nat.min (n - i) (n + m - (i + m)))) (W.setRow w.heap.size (A ++ vs ++ B ++ Y).toArray) := fun W hW ty dc sc => by
  rw [hrow W1 _ _ hheap] at hW
  have hgW : W.heap[w.heap.size]? = some (.cells c1.toArray 27 (0, 0)) := by rw [hW, Array.getElem?_push, if_pos rfl]
  have h := z81 (P := Tryz.prog) W 25 25 ty 27 8 w.heap.size ((i + m) * 8) (n + m - (i + m)) dc c1.toArray ⟨g, i * 8, none⟩ (n - i) sc B t25 hsz (by rw [hB]; congr 1; simp only [Nat.min_def]; split <;> omega)
   (fun j v hj => by rw [Addr.add_lit]; exact hOb W _ _ _ _ hW hbw _ (hBv j v hj)) hgW (by rw [List.size_toArray, hcl, hA, hB, hZl]; omega) h1c
  have h2 := zyn (α := Value) (A := A) (B := B) (Z := Z) (vs := vs) (i := i * 8) (k := (n - i) * 8) (m := m * 8) hA hB hvl (by rw [hZl]; omega)
  simp only at h2
  rw [<- hc1, <- hY] at h2
  rw [hB, show c1.toArray.toList = c1 from rfl, Nat.add_mul, h2] at h
  rw [Nat.add_mul]
  exact h
 have hfin : ∀ (W : World), W.heap = (W1.setRow w.heap.size c1.toArray).heap -> (W.setRow w.heap.size (A ++ vs ++ B ++ Y).toArray).heap = w.heap.push (.cells (A ++ vs ++ B ++ Y).toArray 27 (0, 0)) := fun W hW => hrow W c1 _ (hW.trans (hrow W1 _ _ hheap))
 have hGi : ¬ (G = i) := by omega
 have hGim : ¬ (G = i + m) := by omega
 have hci : ¬ (cap = i) := by omega
 have hw1 : IntKind.i64.wrap ((i : Int) + (m : Int)) = (i : Int) + (m : Int) := by simp only [maxLen] at h63; rw [IntKind.wrap_i64]; omega
 have h63b : n + m <= 9223372036854775807 := h63
 have hG63b : G <= 9223372036854775807 := hG63
 have hb1 : (0 : Int) <= (i : Int) + (m : Int) := by omega
 have hin : i <= n := by omega
 have htn : ((i : Int) + (m : Int)).toNat = i + m := by omega
 have F : (i : Int) <= (n : Int) := by omega
 have z0e : Tryz.prog.follows .mixedOrders = true := by kernel_rfl
 have hfinal : ∀ (W : World), W.heap = (W1.setRow w.heap.size c1.toArray).heap -> W.os = w.os -> W.tape = w.tape -> W.output = w.output -> GrewTo w (n + m) (A ++ vs ++ B) (.returned (.slice (some ⟨w.heap.size, 0, none⟩) (n + m) G)) (W.setRow w.heap.size (A ++ vs ++ B ++ Y).toArray) := fun W hW h1 h2 h3 => ⟨G, Y, rfl, hGn, hG63, hYl, hfin W hW, h1, h2, h3⟩
 clear hfin
 subst hW1
 obtain ⟨r0, hr0⟩ : ∃ r0 : Array Value, r0 = (A ++ Z).toArray := ⟨_, rfl⟩
 obtain ⟨r1, hr1⟩ : ∃ r1 : Array Value, r1 = c1.toArray := ⟨_, rfl⟩
 obtain ⟨r2, hr2⟩ : ∃ r2 : Array Value, r2 = (A ++ vs ++ B ++ Y).toArray := ⟨_, rfl⟩
 simp only [<- hr0, <- hr1, <- hr2] at *
 clear hcs h63 hG63 hik hold hG hZ hZl hc1 hY hrow hheap hOb hAv hBv hcl hr0 hr1 hr2 hvs
 have hE : ((w.alloc (.cells r0 27)).drew).heap = (w.drew.alloc (.cells r0 27)).heap := rfl
 have hF : (((w.alloc (.cells r0 27)).drew.setRow w.heap.size r1).drew).heap = ((w.drew.alloc (.cells r0 27)).setRow w.heap.size r1).heap := rfl
 go_enter Tryz.func180, Tryz.ntmps180
 go_wp2_with (first
  | (at_builtin; refine Lib.wpList_append_run _ rfl _ _ _ _ rfl _ _ rfl rfl _ _ (hrz _) ?_)
  | (at_builtin; refine wpList_copy_runI _ rfl _ _ 25 25 rfl _ _ rfl rfl (hcpA _ hE _ _) ?_))
 go_region_law_o (refine step_copy_runI rfl _ _ 25 25 rfl (.slice (some ⟨w.heap.size, (i + m) * 8, none⟩) (n + m - (i + m)) (G - (i + m))) (.slice (some ⟨g, i * 8, none⟩) (n - i) (cap - i)) (by simp [Act.eval, Act.put]) (by simp [Act.eval, Act.put]) (hcpB _ hF _ _ _) ?_)
 go_wp2
 all_goals (go_ret; first | exact hfinal _ hF rfl rfl rfl | (simp only [List.append_assoc] at hfinal ⊢; exact hfinal _ hF rfl rfl rfl))
set_option maxHeartbeats 1000000 in
theorem zte {w : World} {v : Value} {n i m vc : Nat} {va : Addr} {xs vs : List Value} (hi : i <= n) (hm : 0 < m) (hown : w.ownsRow 0 27 8 v n xs) (hox : z6f xs)
  (hbig : (n + m) * z0t Tryz.prog 27 <= 140737488355328) (h63 : n + m <= maxLen) (hvb : v.ownBlock ≠ some va.block)
  (hvl : vs.length = m * 8) (hvs : ∀ j u, vs[j]? = some u -> w.cell? (va.add j) = some u) (h1v : z6f vs) :
  Calls Tryz.prog 180 #[v, .int .i64 i, .slice (some va) m vc] w fun e w' => ∃ v', e = .returned v' /\ w'.ownsRow 0 27 8 v' (n + m) (xs.take (i * 8) ++ vs ++ xs.drop (i * 8)) /\ w.grownBy w' v.ownBlock /\
   (∀ b, blockOf v' = some b -> blockOf v = some b \/ w.heap.size <= b) := by
 have hxl := hown.1
 obtain ⟨tA, kA, hsa, hkA⟩ : ∃ tA kA, w.shape? va.block = some (tA, kA) /\ kA ≠ 0 := by
  have h0 : 0 < vs.length := by rw [hvl]; omega
  have h1 := hvs 0 _ (List.getElem?_eq_getElem h0)
  have h2 : (va.add 0).block = va.block := by unfold Addr.add; split <;> rfl
  unfold World.cell? at h1
  rw [h2] at h1
  unfold World.shape?
  split at h1
  ·rename_i c t fz hh
   refine ⟨t, c.size, rfl, fun h3 => ?_⟩
   split at h1
   ·cases h1
   ·rw [Array.getElem?_eq_none (by omega)] at h1; cases h1
  ·cases h1
 by_cases hin : i = n
 ·subst hin
  obtain ⟨v', w', hr, hown', hg, hbl, _⟩ := z84 (P := Tryz.prog) (ty := 0) (t := 25) (e := 27) rfl (by rw [z2s]; omega) (by kernel_rfl) (v := v) (n := i) (m := m) (xs := xs) (vs := vs) (by rw [z2s]; exact hown) hbig h63 (.inr ⟨va, vc, rfl, h1v, by rw [z2s]; exact hvl, hvs⟩)
  rw [z2s] at hown'
  obtain ⟨a, c, hvv⟩ := za1 hown
  refine (ins_end (v' := v') (w' := w') hm hvv (fun ty => hr)).mono ?_
  rintro e w2 ⟨rfl, rfl⟩
  refine ⟨v', rfl, ?_, hg, hbl⟩
  rw [List.take_of_length_le (by omega), List.drop_of_length_le (by omega), List.append_nil]
  exact hown'
 ·rcases hown.2 with ⟨rfl, rfl⟩ | ⟨g, cap, cur, rfl, _, hg, hnc, hcm, hcs, htake⟩
  ·omega
  ·have hA : (xs.take (i * 8)).length = i * 8 := by rw [List.length_take, hxl]; omega
   have hB : (xs.drop (i * 8)).length = (n - i) * 8 := by rw [List.length_drop, hxl]; omega
   have hcl : cur.toList.length = cap * 8 := by rw [Array.length_toList]; exact hcs
   by_cases hroom : n + m <= cap
   ·refine (zwq (w := w) (g := g) (n := n) (cap := cap) (i := i) (m := m) (vc := vc) (va := va) (cur := cur) (A := xs.take (i * 8)) (B := xs.drop (i * 8)) (R := cur.toList.drop (n * 8)) (vs := vs) (by omega) hm hroom (by simp only [maxLen] at hcm; omega) hg
     (by rw [List.take_append_drop, <- htake, List.take_append_drop]) hA hB (by rw [List.length_drop, hcl]; omega) (fun h => hvb (by rw [Value.ownBlock, h])) hvl hvs (fun u hu => hox u (List.mem_of_mem_drop hu)) h1v tA kA hsa hkA).mono ?_
    rintro e w2 ⟨rfl, rfl⟩
    refine ⟨_, rfl, ⟨?_, .inr ⟨g, cap, (xs.take (i * 8) ++ vs ++ xs.drop (i * 8) ++ (cur.toList.drop (n * 8)).drop (m * 8)).toArray, rfl, Nat.zero_le _, ?_, hroom, hcm, ?_, ?_⟩⟩, ⟨rfl, rfl, rfl, by simp [World.setRow], fun k O hne => ?_⟩, fun b hb => .inl hb⟩
    ·rw [List.length_append, List.length_append, hA, hB, hvl]; omega
    ·have hgg : w.drew.heap[g]? = some (.cells cur 27 (0, 0)) := hg
     simp [World.setRow, Array.getElem?_modify, hgg]
    ·rw [List.size_toArray, List.length_append, List.length_append, List.length_append, hA, hB, hvl, List.length_drop, List.length_drop, hcl]; omega
    ·exact List.take_left' (by rw [List.length_append, List.length_append, hA, hB, hvl]; omega)
    ·simp only [World.setRow, Array.getElem?_modify]
     rw [if_neg (fun h => hne (by rw [Value.ownBlock, h]))]
     rfl
   ·refine (ins_grow (w := w) (g := g) (n := n) (cap := cap) (i := i) (m := m) (vc := vc) (va := va) (A := xs.take (i * 8)) (B := xs.drop (i * 8)) (vs := vs) (by omega) hm hnc (by omega) hbig h63 hA hB
     (by rw [List.take_append_drop]; intro j u hj; have := hown.cells (g := g) rfl j u hj; rwa [Addr.add_lit, Nat.zero_add] at this) hvl hvs (fun u hu => hox u (List.mem_of_mem_drop hu)) h1v).mono ?_
    rintro e w2 ⟨G, Y, rfl, hG, hG63, hY, hh, h1, h2, h3⟩
    refine ⟨_, rfl, ⟨?_, .inr ⟨w.heap.size, G, _, rfl, Nat.zero_le _, by rw [hh, Array.getElem?_push, if_pos rfl], hG, hG63, ?_, ?_⟩⟩, ⟨h1, h2, h3, by rw [hh, Array.size_push]; omega, fun k O hne => by rw [hh, Array.getElem?_push, if_neg (by omega)]⟩, fun b hb => .inr ?_⟩
    ·rw [List.length_append, List.length_append, hA, hB, hvl]; omega
    ·rw [List.size_toArray, List.length_append, List.length_append, List.length_append, hA, hB, hvl, hY]; omega
    ·exact List.take_left' (by rw [List.length_append, List.length_append, hA, hB, hvl]; omega)
    ·simp only [blockOf, Option.some.injEq] at hb; omega
end
end Go.Proofs.YtlfohdkfpdkhhaaGreatDoor
