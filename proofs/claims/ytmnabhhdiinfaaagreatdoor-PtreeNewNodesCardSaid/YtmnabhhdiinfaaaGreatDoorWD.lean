import Derived.Test.YtmnabhhdiinfaaaGreatDoorWC
import Derived.WalkKit
import Derived.Lib.Walk
import Derived.Lib.SliceRun
import Derived.Lib.AppendZerosOnto
import Derived.Lib.Overlaps
import Derived.Laws.Externs
import Derived.Laws.NewBlocks
import Derived.Shelf.Spec.SlicesInsert
/-
 Lemmas of the claim. No condition but those that each names.
-/
set_option linter.unusedSimpArgs false
set_option linter.unusedVariables false
set_option maxRecDepth 100000
set_option maxHeartbeats 8000000
set_option linter.unusedSectionVars false
namespace Go.Proofs.YtmnabhhdiinfaaaGreatDoor
open _root_.Go.Proofs.Tryz
section
open Abs Facts Tr
attribute [local irreducible] awp
namespace Tr
def zei (l : List Nat) : Nat := l.foldl (fun d x => max d (1 + x)) 0
def depT (t : T) : Nat := zhl (fun _ l => zei l) t
theorem z5w (t : T) : depT t = zei (t.kids.map depT) := by unfold depT; rw [z4i]
theorem zmm (l : List Nat) (x : Nat) : zei (l ++ [x]) = max (zei l) (1 + x) := by unfold zei; rw [List.foldl_append]; rfl
theorem depF_le {l : List Nat} : ∀ (a : Nat), (a <= l.foldl (fun d x => max d (1 + x)) a) /\ ∀ x ∈ l, 1 + x <= l.foldl (fun d x => max d (1 + x)) a := by
 induction l with
 | nil => intro a; simp
 | cons y l ih =>
  intro a
  simp only [List.foldl_cons]
  obtain ⟨h1, h2⟩ := ih (max a (1 + y))
  refine ⟨by omega, fun x hx => ?_⟩
  rcases List.mem_cons.1 hx with rfl | hx
  ·omega
  ·exact h2 x hx
theorem z5g {t k : T} (h : k ∈ t.kids) : 1 + depT k <= depT t := by
 rw [z5w t]
 exact (depF_le 0).2 _ (List.mem_map.2 ⟨k, h, rfl⟩)
end Tr
theorem zk4 : ∀ t : T, fitB t = true -> depT t <= 1000000000 -> PC prog 76 [z0m t] (.int .i64 (depT t)) := by
 refine z5c fun t ih hfit hd => ?_
 obtain ⟨h1, h2, h3, h4⟩ := (zbj t).1 hfit
 unfold maxLen at h3
 refine z1g 1 (by simp only [pureD.pureL, z02, Bool.and_self]) rfl (z14 [] func76 rfl (by decide +kernel) rfl ?_)
 show awp _ _ (Code.seq _ _) _ _
 repeat' (first | refine zqj ?_ | ((refine zqh fun K J => ?_); (simp (disch := omega) only [go_sem, Nat.reduceBEq, ↓reduceIte, reduceCtorEq, Nat.reduceAdd])) | refine zqa ?_ | (refine J _ ?_; clear J K))
 (refine z4m (fun U st => ∃ (i : _), U = t.kids.length - i /\ st.t 3 = .int .i64 (zei ((t.kids.take i).map depT) : Nat) /\ st.t 7 = z13 t.kids /\ st.t 8 = .int .i64 t.kids.length /\ st.t 9 = .int .i64 i /\ (i <= t.kids.length) /\ (1 <= st.nx)) ?_ ?_); rotate_left; (rintro U st ⟨i, rfl, q3, q7, q8, q9, qp0, qp1⟩); rotate_left
 ·(refine ⟨_, 0, rfl, ?_⟩); (simp (disch := omega) only [go_sem, Nat.reduceBEq, Nat.reduceLeDiff, true_and, and_true, and_self, Int.natCast_zero, List.map_nil, z13])
  rfl
 have hin := fun (h : i < t.kids.length) => ih t.kids[i] (List.getElem_mem h) (h4 _ (List.getElem_mem h)) (by have := z5g (List.getElem_mem h); omega)
 have hk := fun (h : i < t.kids.length) => z5g (t := t) (List.getElem_mem h)
 have hsn : ∀ h : i < t.kids.length, zei ((t.kids.take (i + 1)).map depT) = max (zei ((t.kids.take i).map depT)) (1 + depT t.kids[i]) := fun h => by
  rw [List.take_succ_eq_append_getElem h, List.map_append, List.map_cons, List.map_nil, zmm]
 repeat' (first | ((first | refine zqh fun K J => ?_ | refine zqr fun K J => ?_ | refine zqs (hin (by omega)) ?_); (simp (disch := omega) only [go_sem, Nat.reduceBEq, ↓reduceIte, reduceCtorEq, Nat.reduceAdd, Nat.reduceLeDiff, q3, q7, q8, q9, z13])) | ((refine zqd _ rfl (fun hc => ?_) (fun hc => ?_)) <;> (((try simp only [z0b] at hc); (try omega)))) | refine zqa ?_ | refine zqb ?_ | refine zqc ?_ | refine zqn ?_ | refine zqv ?_ | refine zqy ?_ | refine zqz ?_ | refine zqp ?_ | refine zqu (by simp only [go_sem]; rfl) rfl ?_ | (refine J _ ?_; clear J K))
 ·have hs := hsn (by omega)
  (refine Exists.intro _ (And.intro ?_ ⟨i + 1, rfl, ?_⟩)); rotate_left; (simp (disch := omega) only [go_sem, Nat.reduceBEq, Nat.reduceLeDiff, q3, q7, q8, q9, true_and, and_true, Int.natCast_add, Int.natCast_one, hs]); rotate_left
  ·omega
  ·have := hk (by omega); refine ⟨?_, by omega⟩
   rw [zsq (by omega)]; omega
 ·refine z1e ?_
  have hi : i = t.kids.length := by omega
  subst hi
  rw [List.take_length, <- z5w]
namespace Tr
def z1t (id : Idv) (t : T) : List T := zhl (fun t l => if t.id = id then [t] else match l.find? (fun w => !w.isEmpty) with
 | some w => t :: w
 | none => []) t
theorem za8 (id : Idv) (t : T) : z1t id t = if t.id = id then [t] else match (t.kids.map (z1t id)).find? (fun w => !w.isEmpty) with
  | some w => t :: w
  | none => [] := by
 unfold z1t; rw [z4i]
theorem zgm {α β : Type} (f : α -> List β) : ∀ {l : List α} {i : Nat}, (∀ j, (hj : j < i) -> (h : j < l.length) -> f l[j] = []) -> l.length <= i -> (l.map f).find? (fun w => !w.isEmpty) = none
 | [], _, _, _ => rfl
 | x :: l, i, h, hi => by
  rw [List.map_cons, List.find?_cons]
  have h0 := h 0 (by simp at hi; omega) (by simp)
  simp only [List.getElem_cons_zero] at h0
  rw [h0]
  exact zgm f (l := l) (i := i - 1) (fun j hj hl => h (j + 1) (by omega) (by simpa using hl)) (by simp at hi; omega)
theorem zgn {α β : Type} (f : α -> List β) : ∀ {l : List α} {i : Nat} (hi : i < l.length), (∀ j, (hj : j < i) -> (h : j < l.length) -> f l[j] = []) -> f l[i] ≠ [] -> (l.map f).find? (fun w => !w.isEmpty) = some (f l[i])
 | x :: l, 0, _, _, hn => by
  simp only [List.getElem_cons_zero] at hn ⊢
  rw [List.map_cons, List.find?_cons]
  cases hf : f x with
  | nil => exact (hn hf).elim
  | cons a b => rfl
 | x :: l, i + 1, hi, h, hn => by
  rw [List.map_cons, List.find?_cons]
  have h0 := h 0 (by omega) (by simp)
  simp only [List.getElem_cons_zero] at h0
  rw [h0]
  simp only [List.getElem_cons_succ] at hn ⊢
  exact zgn f (l := l) (i := i) (by simpa using hi) (fun j hj hl => h (j + 1) (by omega) (by simpa using hl)) hn
end Tr
theorem z6x : ∀ w : List T, z1s 8 (w.map z0m) = some (w.flatMap z0h)
 | [] => rfl
 | t :: w => by
  rw [List.map_cons, List.flatMap_cons]
  unfold z1s
  rw [z6x w]
  simp only [z0m, z46, z0q, if_true]
theorem zb0 (id : Idv) : ∀ t : T, (z1t id t).length <= 1 + depT t := by
 refine z5c fun t ih => ?_
 rw [za8]
 split
 ·simp
 ·split
  ·rename_i w hw
   have hm := List.mem_of_find?_eq_some hw
   obtain ⟨k, hk, rfl⟩ := List.mem_map.1 hm
   have h1 := ih k hk
   have h2 := z5g hk
   simp only [List.length_cons]; omega
  ·simp
def zcu (w : List T) : D := if w = [] then .nil else .rsl true 8 (w.map z0m)
theorem zom (w : List T) : pureD (zcu w) = true := by
 unfold zcu
 split
 ·rfl
 ·simp only [pureD]; exact z0x z02 w
theorem le_nn {sz : Nat} {els : List D} (h : els ≠ []) : Le (.rsl false sz els) (.rsl true sz els) := fun s v hr => by
 simp only [rel] at hr ⊢
 rcases hr with ⟨_, h1, _⟩ | hr
 ·exact (h h1).elim
 ·exact .inr hr
theorem zr9 (id : Idv) : ∀ t : T, fitB t = true -> depT t <= 1000000000 -> PC prog 126 [z0m t, z0n id] (zcu (z1t id t)) := by
 refine z5c fun t ih hfit hd => ?_
 obtain ⟨h1, h2, h3, h4⟩ := (zbj t).1 hfit
 unfold maxLen at h3
 refine z1g 3 (by simp only [pureD.pureL, z02]; rfl) (zom _) (z14 [27] func126 rfl (by decide +kernel) rfl ?_)
 show awp _ _ (Code.seq _ _) _ _
 rw [za8]
 repeat' (first | refine zqj ?_ | ((refine zqh fun K J => ?_); (simp (disch := omega) only [go_sem, Nat.reduceBEq, ↓reduceIte, reduceCtorEq, Nat.reduceAdd, Nat.reduceMul, Nat.reduceLeDiff])) | ((refine zqd _ rfl (fun hc => ?_) (fun hc => ?_)) <;> (((try simp only [z0b] at hc); (try omega)))) | refine zqa ?_ | refine zqb ?_ | refine zqg ?_ | refine zqu (by simp only [go_sem]; rfl) rfl ?_ | (refine J _ ?_; clear J K))
 ·rw [if_pos (by assumption), zcu, if_neg (by simp)]
  exact z0a (z0x z02 [t]) (Le.refl _)
 ·rw [if_neg (by assumption)]
  (refine z4m (fun U st => ∃ (i : _), U = t.kids.length - i /\ st.t 2 = .ptr 0 0 /\ st.t 3 = .ptr 1 0 /\ st.t 15 = z13 t.kids /\ st.t 16 = .int .i64 t.kids.length /\ st.t 17 = .int .i64 i /\ st.H 0 = some (.box 27 (z0h t)) /\ st.H 1 = some (.box 23 (z07 id)) /\ (i <= t.kids.length) /\ (2 <= st.nx) /\ (∀ j, (hj : j < i) -> (h : j < t.kids.length) -> z1t id t.kids[j] = [])) ?_ ?_); rotate_left; (rintro U st ⟨i, rfl, q2, q3, q15, q16, q17, qH0, qH1, qp0, qp1, qp2⟩); rotate_left
  ·(refine ⟨_, 0, rfl, ?_⟩); (simp (disch := omega) only [go_sem, Nat.reduceBEq, Nat.reduceLeDiff, true_and, Int.natCast_zero, z13, z07])
   intro j hj; omega
  have hin := fun (h : i < t.kids.length) => ih t.kids[i] (List.getElem_mem h) (h4 _ (List.getElem_mem h)) (by have := z5g (List.getElem_mem h); omega)
  have hlen := fun (h : i < t.kids.length) => zb0 id t.kids[i]
  have hdk := fun (h : i < t.kids.length) => z5g (t := t) (List.getElem_mem h)
  by_cases hw : ∃ h : i < t.kids.length, z1t id t.kids[i] = []
  ·obtain ⟨hi, hw⟩ := hw
   have hin := hin hi
   rw [hw, zcu, if_pos rfl] at hin
   repeat' (first | ((first | refine zqh fun K J => ?_ | refine zqr fun K J => ?_ | refine zqs (hin) ?_); (simp (disch := omega) only [go_sem, Nat.reduceBEq, ↓reduceIte, reduceCtorEq, Nat.reduceAdd, Nat.reduceLeDiff, q3, q15, q16, q17, qH1, z13, z07])) | ((first | refine zqd _ rfl (fun hc => ?_) (fun hc => ?_) | refine zqm _ rfl (fun hc => ?_) (fun hc => ?_)) <;> (first | (cases hc; done) | ((try simp only [z0b] at hc); (try omega)))) | refine zqa ?_ | refine zqb ?_ | refine zqk ?_ | refine zqv ?_ | refine zqy ?_ | (refine J _ ?_; clear J K))
   (refine Exists.intro _ (And.intro ?_ ⟨i + 1, rfl, ?_⟩)); rotate_left; (simp (disch := omega) only [go_sem, Nat.reduceBEq, Nat.reduceLeDiff, q2, q3, q15, q16, q17, qH0, qH1, true_and, Int.natCast_add, Int.natCast_one]); rotate_left
   ·omega
   ·refine ⟨by omega, by omega, fun j hj h => ?_⟩
    by_cases e : j = i
    ·subst e; exact hw
    ·exact qp2 j (by omega) h
  ·have hin := fun h => by
    have := hin h
    rw [zcu, if_neg (fun hh => hw ⟨h, hh⟩)] at this
    exact this
   by_cases hi : i < t.kids.length
   ·have hl := hlen hi
    have hdk := hdk hi
    have hne : z1t id t.kids[i] ≠ [] := fun hh => hw ⟨hi, hh⟩
    rw [zgn (z1t id) hi qp2 hne]
    repeat' (first | ((first | refine zqh fun K J => ?_ | refine zqs (hin hi) ?_); (simp (disch := omega) only [go_sem, Nat.reduceBEq, ↓reduceIte, reduceCtorEq, Nat.reduceAdd, Nat.reduceMul, Nat.reduceLeDiff, q2, q3, q15, q16, q17, qH0, qH1, z13, z07, z6x])) | ((first | refine zqd _ rfl (fun hc => ?_) (fun hc => ?_) | refine zqm _ rfl (fun hc => ?_) (fun hc => ?_)) <;> (first | (cases hc; done) | ((try simp only [z0b] at hc); (try omega)))) | refine zqa ?_ | refine zqb ?_ | refine zqn ?_ | refine zqx ?_ | refine z6q ?_ | refine zqo ?_ | refine zqu (by simp only [go_sem]; rfl) rfl ?_ | (refine J _ ?_; clear J K))
    have he : zcu (t :: z1t id t.kids[i]) = .rsl true 8 ((t :: z1t id t.kids[i]).map z0m) := if_neg (List.cons_ne_nil _ _)
    simp only [he]
    (simp (disch := omega) only [go_sem, Nat.reduceBEq, Nat.add_comm 1])
    refine ⟨_, z2j (l := t :: z1t id t.kids[i]) (f := z0h) 1 ?_ z0l z30 z0q z04, le_nn (by simp)⟩
    (simp (disch := omega) only [go_sem])
    rw [List.append_nil, List.flatMap_cons]
   ·rw [zgm (z1t id) qp2 (by omega)]
    repeat' (first | ((refine zqh fun K J => ?_); (simp (disch := omega) only [go_sem, Nat.reduceBEq, ↓reduceIte, q16, q17])) | ((refine zqd _ rfl (fun hc => ?_) (fun hc => ?_)) <;> (((try simp only [z0b] at hc); (try omega)))) | refine zqc ?_ | refine zqn ?_ | refine zqv ?_ | refine zqz ?_ | refine zqp ?_ | refine zqu (by simp only [go_sem]; rfl) rfl ?_ | (refine J _ ?_; clear J K))
    exact z0a rfl (Le.refl _)
theorem PC_nn {P : Program} {f : FuncId} {sz : Nat} {els ds : List D} {r : D} (h1 : els = [] -> PC P f (.nil :: ds) r) (h2 : PC P f (.rsl true sz els :: ds) r) : PC P f (.rsl false sz els :: ds) r := by
 refine ⟨?_, h2.2.1, h2.2.2.1, fun s w vs e1 e2 e3 e4 => ?_⟩
 ·have := h2.1
  simpa only [pureD.pureL, pureD] using this
 ·simp only [relAll, rel] at e4
  obtain ⟨v, q, rfl, hv, hq⟩ := e4
  rcases hv with ⟨_, he, rfl⟩ | hv
  ·exact (h1 he).2.2.2 s w _ e1 e2 e3 (z0w (by simp only [rel]) hq)
  ·exact h2.2.2.2 s w _ e1 e2 e3 (z0w (by simp only [rel]; exact .inr hv) hq)
theorem z4p : ∀ l : List Wd, z1s 4 (l.map z7c) = some (l.flatMap z4j)
 | [] => rfl
 | t :: w => by
  rw [List.map_cons, List.flatMap_cons]
  unfold z1s
  rw [z4p w]
  rfl
theorem za0 (l : List Wd) : pureD.pureL (l.flatMap z4j) = true := z2d (fun _ => rfl) l
theorem z92 (l : List Wd) : z31 true 4 l.length (l.flatMap z4j) = l.map z7c := zax (f := z4j) (sz := 4) (fun _ => rfl) l
theorem z6a (l : List Wd) (hl : l.length <= 1000000000000) : PC prog 88 [z0r l] (z0r l) := by
  refine PC_nn (fun he => ?_) ?_
  · refine z1g 2 rfl (z0d l) (z14 [1000005, 1000007] func88 rfl (by decide +kernel) rfl ?_)
    show awp _ _ (Code.seq _ _) _ _
    repeat' (first | refine zqj ?_ | ((refine zqh fun K J => ?_); (simp (disch := omega) only [go_sem, Nat.reduceBEq, ↓reduceIte])) | ((refine zqd _ rfl (fun hc => ?_) (fun hc => ?_)) <;> (first | (cases hc; done) | ((try simp only [] at hc); (try omega)))) | refine zqg ?_ | refine zqu (by simp only [go_sem]; rfl) rfl ?_ | (refine J _ ?_; clear J K))
    exact z0a rfl (by have h2 : z0r l = .rsl false 4 [] := by unfold z0r; rw [he]
                      rw [h2]; exact Le.nil 4)
  · refine z1g 2 (by simp only [pureD.pureL, pureD, z0x (f := z7c) (fun _ => rfl) l, Bool.and_self]) (z0d l) (z14 [1000005, 1000007] func88 rfl (by decide +kernel) rfl ?_)
    show awp _ _ (Code.seq _ _) _ _
    repeat' (first | refine zqj ?_ | ((refine zqh fun K J => ?_); (simp (disch := omega) only [go_sem, Nat.reduceBEq, ↓reduceIte, reduceCtorEq, Nat.reduceAdd, Nat.reduceMul, z4p, za0, z92])) | ((refine zqd _ rfl (fun hc => ?_) (fun hc => ?_)) <;> (first | (cases hc; done) | ((try simp only [] at hc); (try omega)))) | refine zqb ?_ | refine zqn ?_ | refine zqu (by simp only [go_sem]; rfl) rfl ?_ | (refine J _ ?_; clear J K))
    exact z0a (z0d l) (Le.refl _)
namespace Tr
def smB (t : T) : Bool := zhl (fun t l => decide (t.head.length <= 1000000) && (decide (t.words.length <= 1000000) && (decide (t.kids.length <= 1000000) && l.all id))) t
theorem zlp (t : T) : smB t = true ↔ t.head.length <= 1000000 /\ t.words.length <= 1000000 /\ t.kids.length <= 1000000 /\ ∀ k ∈ t.kids, smB k = true := by
 unfold smB
 rw [z4i]
 simp only [List.all_map, Bool.and_eq_true, decide_eq_true_iff, List.all_eq_true]
 rfl
theorem zlq : ∀ t : T, smB t = true -> fitB t = true := by
 refine z5c fun t ih h => ?_
 obtain ⟨h1, h2, h3, h4⟩ := (zlp t).1 h
 exact (zbj t).2 ⟨by unfold maxLen; omega, by unfold maxLen; omega, by unfold maxLen; omega, fun k hk => ih k hk (h4 k hk)⟩
end Tr
theorem zwa : ∀ t : T, smB t = true -> PC prog 127 [z0m t] (z0m t) := by
 refine z5c fun t ih hfit => ?_
 obtain ⟨h1, h2, h3, h4⟩ := (zlp t).1 hfit
 have hc1 := z6a t.head (by omega)
 have hc2 := z6a t.words (by omega)
 refine z1g 4 (by simp only [pureD.pureL, z02, Bool.and_self]) (z02 _) (z14 [3] func127 rfl (by decide +kernel) rfl ?_)
 show awp _ _ (Code.seq _ _) _ _
 rw [show Tryz.f127.results.toList = [.cell 2 27] from rfl]
 rw [z0m, z0f]
 repeat' (first | refine zqj ?_ | ((first | refine zqh fun K J => ?_ | refine zqe (by decide +kernel) fun K J => ?_ | refine zqt (hc1) ?_ | refine zqt (hc2) ?_); (simp (disch := omega) only [go_sem, Nat.reduceBEq, ↓reduceIte, reduceCtorEq, Nat.reduceAdd])) | refine zqa ?_ | (refine J _ ?_; clear J K))
 (refine z4m (fun U st => ∃ (i : _), U = t.kids.length - i /\ st.t 1 = .ptr 0 0 /\ st.t 2 = .ptr 1 0 /\ st.t 3 = .osl 2 i /\ st.t 15 = z13 t.kids /\ st.t 16 = .int .i64 t.kids.length /\ st.t 17 = .int .i64 i /\ st.H 2 = some (.row 27 i ((t.kids.take i).flatMap z0h)) /\ st.H 0 = some (.box 27 [.int .i64 t.id.act, .int .i64 t.id.item, .int .i64 t.id.n, .int .i64 t.kind, .str t.label, z0r t.head, z0r t.words, z13 t.kids]) /\ st.H 1 = some (.box 27 [.int .i64 0, .int .i64 0, .int .i64 0, .int .i64 0, .str ByteArray.empty, .nil, .nil, .nil]) /\ (i <= t.kids.length) /\ (3 <= st.nx)) ?_ ?_); rotate_left; (rintro U st ⟨i, rfl, q1, q2, q3, q15, q16, q17, qH2, qH0, qH1, qp0, qp1⟩); rotate_left
 ·(refine ⟨_, 0, rfl, ?_⟩); (simp (disch := omega) only [go_sem, Nat.reduceBEq, Nat.reduceLeDiff, true_and, and_true, and_self, Int.natCast_zero, List.flatMap_nil, z13])
  all_goals rfl
 have hin := fun (h : i < t.kids.length) => ih t.kids[i] (List.getElem_mem h) (h4 _ (List.getElem_mem h))
 repeat' (first | ((first | refine zqh fun K J => ?_ | refine zqr fun K J => ?_ | refine zqs (hin (by omega)) ?_); (simp (disch := omega) only [go_sem, Nat.reduceBEq, ↓reduceIte, reduceCtorEq, Nat.reduceAdd, Nat.reduceMul, Nat.reduceLeDiff, Nat.reduceLT, q1, q2, q3, q15, q16, q17, qH2, qH0, qH1, z13])) | ((refine zqd _ rfl (fun hc => ?_) (fun hc => ?_)) <;> (((try simp only [z0b] at hc); (try omega)))) | refine zqa ?_ | refine zqb ?_ | refine zqc ?_ | refine zqn ?_ | refine zqv ?_ | refine zqy ?_ | refine zqz ?_ | refine zqp ?_ | refine zqu (by (simp (disch := omega) only [go_sem, Nat.reduceBEq, ↓reduceIte, Nat.reduceAdd, Nat.reduceLeDiff, q2, qH1]); rfl) rfl ?_ | (refine J _ ?_; clear J K))
 ·have htk := List.take_succ_eq_append_getElem (l := t.kids) (i := i) (by omega)
  (refine Exists.intro _ (And.intro ?_ ⟨i + 1, rfl, ?_⟩)); rotate_left; (simp (disch := omega) only [go_sem, Nat.reduceBEq, Nat.reduceLeDiff, q1, q2, q3, q15, q16, q17, qH2, qH0, qH1, true_and, Int.natCast_add, Int.natCast_one, List.flatMap_append, List.flatMap_cons, List.flatMap_nil, List.append_nil, htk]); rotate_left
  all_goals omega
 have hi : i = t.kids.length := by omega
 subst hi
 rw [List.take_length] at qH2
 refine z50 (z5d (k := 3) (by simp [pureD.pureL, pureD]) ?_)
 simp only [z13]
 refine z00 (z08 2 rfl) (z00 (z08 2 rfl) (z00 (z08 2 rfl) (z00 (z08 2 rfl) (z00 (z08 2 rfl) (z00 (z08 2 (z0d _)) (z00 (z08 2 (z0d _)) (z00 ?_ z0c)))))))
 refine z2j (f := z0h) (l := t.kids) 1 ?_ z0l z30 z0q z04
 (simp (disch := omega) only [go_sem, Nat.reduceBEq, qH2])
namespace Tr
def szB (t : T) : Bool := zhl (fun t l => decide (t.label.size <= 1000000) && (decide (t.head.length <= 1000000) && ((t.head.all fun w => decide (w.text.size <= 1000000)) && (decide (t.words.length <= 1000000) && ((t.words.all fun w => decide (w.text.size <= 1000000)) && (decide (t.kids.length <= 1000000) && l.all id)))))) t
theorem z2i (t : T) : szB t = true ↔ t.label.size <= 1000000 /\ t.head.length <= 1000000 /\ (∀ w ∈ t.head, w.text.size <= 1000000) /\ t.words.length <= 1000000 /\ (∀ w ∈ t.words, w.text.size <= 1000000) /\ t.kids.length <= 1000000 /\ ∀ k ∈ t.kids, szB k = true := by
 unfold szB
 rw [z4i]
 simp only [List.all_map, Bool.and_eq_true, decide_eq_true_iff, List.all_eq_true]
 rfl
theorem z8b : ∀ t : T, szB t = true -> smB t = true := by
 refine z5c fun t ih h => ?_
 obtain ⟨_, h1, _, h2, _, h3, h4⟩ := (z2i t).1 h
 exact (zlp t).2 ⟨h1, h2, h3, fun k hk => ih k hk (h4 k hk)⟩
theorem zb8 (t : T) (h : szB t = true) : fitB t = true := zlq t (z8b t h)
def z7u : ByteArray := ⟨#[]⟩
def z3d (t : T) : Bool := decide (0 <= t.kind /\ t.kind <= 7) && (decide (t.kids.length <= 64) && (zij t.head && (zij t.words && (if t.kind = 0 then decide (t.label = z7u) && (decide (t.head.length = 0) && decide (t.words.length = 0)) else z4f t.label))))
def z6p (t : T) : Int × ByteArray := (t.kind, t.label)
def z3r (t : T) : Bool := zhl (fun t l => z3d t && ((t.kids.all fun k => z1o t.kind k.kind) && (l.all id && decide ((t.kids.map z6p).Nodup)))) t
theorem z4n (t : T) : z3r t = (z3d t && ((t.kids.all fun k => z1o t.kind k.kind) && (t.kids.all z3r && decide ((t.kids.map z6p).Nodup)))) := by
 unfold z3r
 rw [z4i, List.all_map]; rfl
theorem zde {α β : Type} {f : α -> β} {l : List α} {k : Nat} (hk : k < l.length) (h : ((l.take k).map f).Nodup) (h2 : ∀ j, (hj : j < k) -> f (l[j]'(by omega)) ≠ f l[k]) : ((l.take (k + 1)).map f).Nodup := by
 rw [List.take_succ_eq_append_getElem hk, List.map_append, List.nodup_append]
 refine ⟨h, by simp, fun a ha b hb => ?_⟩
 simp only [List.map_cons, List.map_nil, List.mem_singleton] at hb
 subst hb
 obtain ⟨x, hx, rfl⟩ := List.mem_map.1 ha
 obtain ⟨j, hj, rfl⟩ := List.getElem_of_mem hx
 rw [List.length_take] at hj
 rw [List.getElem_take]
 exact h2 j (by omega)
theorem zj7 {α β : Type} {f : α -> β} {l : List α} {j k : Nat} (hj : j < k) (hk : k < l.length) (h : f (l[j]'(by omega)) = f l[k]) : ¬ (l.map f).Nodup := fun hn => by
 have h2 := (List.pairwise_iff_getElem.1 hn) j k (by simp; omega) (by simpa using hk) hj
 simp only [List.getElem_map] at h2
 exact h2 h
end Tr
theorem zj8 (p k : Int) : PC prog 148 [.int .i64 p, .int .i64 k] (.bool (z1o p k)) := by
 refine z1g 1 rfl rfl (z14 [] func148 rfl (by decide +kernel) rfl ?_)
 show awp _ _ (Code.seq _ _) _ _
 by_cases hk : 0 <= p /\ p < 8
 ·rcases zw6 hk with rfl | rfl | rfl | rfl | rfl | rfl | rfl | rfl
  all_goals clear hk
  all_goals (repeat' (first | refine zqj ?_ | ((refine zqh fun K J => ?_); (simp (disch := omega) only [go_sem, Nat.reduceBEq, ↓reduceIte, Int.reduceEq])) | ((first | refine zqd _ rfl (fun hc => ?_) (fun hc => ?_) | refine zqm _ rfl (fun hc => ?_) (fun hc => ?_)) <;> (first | (cases hc; done) | ((try simp only [] at hc); (try omega)))) | refine zqa ?_ | refine zqb ?_ | refine zqk ?_ | refine zqn ?_ | refine zqv ?_ | refine zqx ?_ | refine zqy ?_ | refine z6q ?_ | refine zqu (by simp only [go_sem]; rfl) rfl ?_ | (refine J _ ?_; clear J K) | (refine zqf (fun hb => ?_) (fun hb => ?_) <;> (have hb2 := hb; try simp only [z0b] at hb2) <;> ((first | have hb3 := eq_false hb2 | have hb3 := eq_true hb2); (simp (disch := omega) only [go_sem, Nat.reduceBEq, ↓reduceIte, hb3]); clear hb hb3; (try omega)))))
  all_goals refine z03 ?_
  all_goals (simp_all [z1o, belowL]; done)
 ·rw [show z1o p k = false from if_neg hk]
  repeat' (first | refine zqj ?_ | ((refine zqh fun K J => ?_); (simp (disch := omega) only [go_sem, Nat.reduceBEq, ↓reduceIte])) | ((first | refine zqd _ rfl (fun hc => ?_) (fun hc => ?_) | refine zqm _ rfl (fun hc => ?_) (fun hc => ?_)) <;> (((try simp only [z0b] at hc); (try omega)))) | refine zqa ?_ | refine zqk ?_ | refine zqn ?_ | refine zqv ?_ | refine zqy ?_ | refine zqu (by simp only [go_sem]; rfl) rfl ?_ | (refine J _ ?_; clear J K))
  all_goals exact z03 rfl
theorem zuv (t : T) (hs : szB t = true) : PC prog 147 [z0m t] (.bool (z3d t)) := by
 obtain ⟨h0, h1, g1, h2, g2, h3, _⟩ := (z2i t).1 hs
 have r1 := zxc t.head h1 (fun w hw => by have := g1 w hw; unfold maxLen; omega)
 have r2 := zxc t.words h2 (fun w hw => by have := g2 w hw; unfold maxLen; omega)
 have r3 := zqw t.label (by unfold maxLen; omega)
 refine z1g 1 (by simp only [pureD.pureL, z02, Bool.and_self]) rfl (z14 [] func147 rfl (by decide +kernel) rfl ?_)
 show awp _ _ (Code.seq _ _) _ _
 repeat' (first | refine zqj ?_ | ((first | refine zqh fun K J => ?_ | refine zqs (r1) ?_ | refine zqs (r2) ?_ | refine zqs (r3) ?_); (simp (disch := omega) only [go_sem, Nat.reduceBEq, ↓reduceIte, reduceCtorEq, Nat.reduceAdd])) | ((refine zqd _ rfl (fun hc => ?_) (fun hc => ?_)) <;> (first | (cases hc; done) | ((try simp only [z0b] at hc); (try omega)))) | refine zqb ?_ | refine zqg ?_ | refine zqn ?_ | refine zqu (by simp only [go_sem]; rfl) rfl ?_ | (refine J _ ?_; clear J K) | (refine zqf (fun hb => ?_) (fun hb => ?_) <;> (have hb2 := hb; try simp only [z0b] at hb2) <;> ((first | have hb3 : (_ : Bool) = _ := hb2 | have hb3 := eq_false hb2 | have hb3 := eq_true hb2); (simp (disch := omega) only [go_sem, Nat.reduceBEq, ↓reduceIte, reduceCtorEq, Nat.reduceAdd, hb3, z0r, z13]); clear hb hb3; (try omega))))
 all_goals refine z03 ?_
 all_goals unfold z3d
 all_goals first
  | (rw [decide_eq_false (by omega)]; rfl)
  | (rw [decide_eq_true (by omega), decide_eq_false (by omega)]; rfl)
  | (rw [decide_eq_true (by omega), decide_eq_true (by omega)]; simp_all [z7u]; done)
  | (rw [decide_eq_true (show 0 <= t.kind /\ t.kind <= 7 by omega), decide_eq_true (show t.kids.length <= 64 by omega)]; simp_all [z7u]; done)
  | skip
theorem zzp : ∀ t : T, szB t = true -> PC prog 93 [z0m t] (.bool (z3r t)) := by
 refine z5c fun t ih hs => ?_
 have ha := zuv t hs
 obtain ⟨h0, h1, g1, h2, g2, h3, h4⟩ := (z2i t).1 hs
 rw [z4n]
 refine z1g 1 (by simp only [pureD.pureL, z02, Bool.and_self]) rfl (z14 [] func93 rfl (by decide +kernel) rfl ?_)
 show awp _ _ (Code.seq _ _) _ _
 repeat' (first | refine zqj ?_ | ((first | refine zqh fun K J => ?_ | refine zqs (ha) ?_); (simp (disch := omega) only [go_sem, Nat.reduceBEq, ↓reduceIte, Nat.reduceAdd, Nat.reduceLeDiff])) | ((refine zqd _ rfl (fun hc => ?_) (fun hc => ?_)) <;> (((try simp only [z0b] at hc); (try omega)))) | refine zqa ?_ | refine zqb ?_ | refine zqg ?_ | refine zqu (by simp only [go_sem]; rfl) rfl ?_ | (refine J _ ?_; clear J K))
 ·exact z03 (by simp_all)
 rw [‹z3d t = true›, Bool.true_and]
 (refine z4m (fun U st => ∃ (i : _), U = t.kids.length - i /\ st.t 1 = .ptr 0 0 /\ st.t 3 = .int .i64 i /\ st.H 0 = some (.box 27 (z0h t)) /\ (i <= t.kids.length) /\ (1 <= st.nx) /\ ((t.kids.take i).all (fun k => z1o t.kind k.kind) = true) /\ ((t.kids.take i).all z3r = true) /\ (((t.kids.take i).map z6p).Nodup)) ?_ ?_); rotate_left; (rintro U st ⟨i, rfl, q1, q3, qH0, qp0, qp1, qp2, qp3, qp4⟩); rotate_left
 ·(refine ⟨_, 0, rfl, ?_⟩); (simp (disch := omega) only [go_sem, Nat.reduceBEq, Nat.reduceLeDiff, true_and, Int.natCast_zero, List.map_nil])
  all_goals simp
 have hin := fun (h : i < t.kids.length) => ih t.kids[i] (List.getElem_mem h) (h4 _ (List.getElem_mem h))
 have hn := fun (h : i < t.kids.length) => zj8 t.kind t.kids[i].kind
 repeat' (first | refine zqj ?_ | ((first | refine zqh fun K J => ?_ | refine zqe (by decide +kernel) fun K J => ?_ | refine zqt (hn (by omega)) ?_ | refine zqt (hin (by omega)) ?_); (simp (disch := omega) only [go_sem, Nat.reduceBEq, ↓reduceIte, reduceCtorEq, Nat.reduceAdd, q1, q3, qH0, z13])) | ((refine zqd _ rfl (fun hc => ?_) (fun hc => ?_)) <;> (first | (cases hc; done) | ((try simp only [z0b] at hc); (try omega)))) | refine zqa ?_ | refine zqi ?_ | refine zqb ?_ | refine zqg ?_ | refine zqc ?_ | refine zqn ?_ | refine zqv ?_ | refine zqx ?_ | refine zqz ?_ | refine z6q ?_ | refine zqp ?_ | refine zqo ?_ | refine zqu (by simp only [go_sem]; rfl) rfl ?_ | (refine J _ ?_; clear J K) | (refine zqf (fun hb => ?_) (fun hb => ?_) <;> (have hb2 := hb; try simp only [z0b] at hb2) <;> ((have hb3 : (_ : Bool) = _ := hb2); (simp (disch := omega) only [go_sem, Nat.reduceBEq, ↓reduceIte, reduceCtorEq, Nat.reduceAdd, hb3, q1, q3, qH0, z13]); clear hb hb3; (try omega))))
 ·exact z03 (by rw [zaa (f := z3r) (k := i) (by omega) (by assumption), Bool.false_and, Bool.and_false])
 ·(refine z4m (fun U st => ∃ (k : _), U = i - k /\ st.t 1 = .ptr 0 0 /\ st.t 3 = .int .i64 i /\ st.t 4 = .int .i64 k /\ st.H 0 = some (.box 27 (z0h t)) /\ (k <= i) /\ (1 <= st.nx) /\ (∀ j, (hj : j < k) -> (h : j < t.kids.length) -> (h2 : i < t.kids.length) -> z6p t.kids[j] ≠ z6p t.kids[i])) ?_ ?_); rotate_left; (rintro U st ⟨k, rfl, r1, r3, r4, rH0, rp0, rp1, rp2⟩); rotate_left
  ·(refine ⟨_, 0, rfl, ?_⟩); (simp (disch := omega) only [go_sem, Nat.reduceBEq, q1, q3, qH0, true_and, Int.natCast_zero])
   exact ⟨by omega, fun j hj => by omega⟩
  repeat' (first | refine zqj ?_ | ((first | refine zqh fun K J => ?_ | refine zqe (by decide +kernel) fun K J => ?_ | refine zqr fun K J => ?_); (simp (disch := omega) only [go_sem, Nat.reduceBEq, ↓reduceIte, reduceCtorEq, Nat.reduceAdd, r1, r3, r4, rH0, z13])) | ((first | refine zqd _ rfl (fun hc => ?_) (fun hc => ?_) | refine zqm _ rfl (fun hc => ?_) (fun hc => ?_)) <;> (first | (cases hc; done) | ((try simp only [z0b] at hc); (try omega)))) | refine zqa ?_ | refine zqb ?_ | refine zqc ?_ | refine zqk ?_ | refine zqn ?_ | refine zqv ?_ | refine zqx ?_ | refine zqy ?_ | refine zqz ?_ | refine z6q ?_ | refine zqp ?_ | refine zqo ?_ | refine zqu (by simp only [go_sem]; rfl) rfl ?_ | (refine J _ ?_; clear J K) | (refine zqf (fun hb => ?_) (fun hb => ?_) <;> (have hb2 := hb; try simp only [z0b] at hb2) <;> ((first | have hb3 := eq_false hb2 | have hb3 := eq_true hb2); (simp (disch := omega) only [go_sem, Nat.reduceBEq, ↓reduceIte, reduceCtorEq, Nat.reduceAdd, hb3, r1, r3, r4, rH0, z13]); clear hb hb3; (try omega))))
  ·refine z03 ?_
   have hno := zj7 (f := z6p) (l := t.kids) (j := k) (k := i) (by omega) (by omega) (by unfold z6p; rw [‹t.kids[k].kind = t.kids[i].kind›, ‹t.kids[k].label = t.kids[i].label›])
   rw [decide_eq_false hno, Bool.and_false, Bool.and_false]
  ·(refine Exists.intro _ (And.intro ?_ ⟨k + 1, rfl, ?_⟩)); rotate_left; (simp (disch := omega) only [go_sem, Nat.reduceBEq, r1, r3, r4, rH0, true_and, Int.natCast_add, Int.natCast_one]); rotate_left
   ·omega
   ·refine ⟨by omega, by omega, fun j hj h h2 => ?_⟩
    by_cases e : j = k
    ·subst e; exact fun h => absurd (congrArg Prod.snd h) (by assumption)
    ·exact rp2 j (by omega) h h2
  ·(refine Exists.intro _ (And.intro ?_ ⟨k + 1, rfl, ?_⟩)); rotate_left; (simp (disch := omega) only [go_sem, Nat.reduceBEq, r1, r3, r4, rH0, true_and, Int.natCast_add, Int.natCast_one]); rotate_left
   ·omega
   ·refine ⟨by omega, by omega, fun j hj h h2 => ?_⟩
    by_cases e : j = k
    ·subst e; exact fun h => absurd (congrArg Prod.fst h) (by assumption)
    ·exact rp2 j (by omega) h h2
  ·skip
   have hi : i < t.kids.length := by omega
   (refine Exists.intro _ (And.intro ?_ ⟨i + 1, rfl, ?_⟩)); rotate_left; (simp (disch := omega) only [go_sem, Nat.reduceBEq, true_and, Int.natCast_add, Int.natCast_one, r1, r3, rH0]); rotate_left
   ·omega
   ·exact ⟨by omega, by omega, z6y (by omega) qp2 (by assumption), z6y (by omega) qp3 (by assumption), zde hi qp4 (fun j hj => rp2 j (by omega) (by omega) hi)⟩
 ·exact z03 (by rw [zaa (f := fun k : T => z1o t.kind k.kind) (k := i) (by omega) (by assumption), Bool.false_and])
 ·refine z03 ?_
  rw [z6z (by omega) qp2, z6z (by omega) qp3]
  rw [List.take_of_length_le (by omega)] at qp4
  rw [decide_eq_true qp4]; rfl
namespace Tr
theorem zdf (t : T) : cntT t = 1 + (t.kids.flatMap z0j).length := by unfold cntT; rw [z1n, List.length_cons, Nat.add_comm]
theorem z8s (l : List T) (i : Nat) : ((l.take i).flatMap z0j).length <= (l.flatMap z0j).length := by
 have : l.flatMap z0j = (l.take i).flatMap z0j ++ (l.drop i).flatMap z0j := by rw [<- List.flatMap_append, List.take_append_drop]
 rw [this, List.length_append]; omega
theorem z8t (l : List T) (i : Nat) (h : i < l.length) : ((l.take (i + 1)).flatMap z0j).length = ((l.take i).flatMap z0j).length + cntT l[i] := by
 rw [List.take_succ_eq_append_getElem h, List.flatMap_append, List.length_append]; simp [cntT]
theorem znk {t k : T} (h : k ∈ t.kids) : 1 + cntT k <= cntT t := by
 rw [zdf t]
 obtain ⟨i, hi, rfl⟩ := List.getElem_of_mem h
 have h1 := z8t t.kids i hi
 have h2 := z8s t.kids (i + 1)
 omega
theorem znl (t : T) : 1 <= cntT t := by rw [zdf]; omega
theorem z1j (t : T) : idsT t = t.id :: t.kids.flatMap idsT := by
 unfold idsT
 rw [z1n, List.map_cons, List.map_flatMap]
theorem z2n (t : T) : (idsT t).length = cntT t := by unfold idsT cntT; rw [List.length_map]
def zyv (t : T) : Bool := (idsT t).all (fun i => decide (i = Idv.zero)) || (decide ((t.id = Idv.zero) ↔ (t.kind = 0)) && decide ((idsT t).Nodup))
def z9i (t : T) : Bool := z3r t && (decide (depT t <= 8) && (decide (cntT t <= 1024) && zyv t))
end Tr
theorem zfj : ∀ t : T, szB t = true -> cntT t <= 1000000000 -> PC prog 16 [z0m t] (.int .i64 (cntT t)) := by
 refine z5c fun t ih hs hc => ?_
 obtain ⟨h0, h1, g1, h2, g2, h3, h4⟩ := (z2i t).1 hs
 have hce := zdf t
 refine z1g 1 (by simp only [pureD.pureL, z02, Bool.and_self]) rfl (z14 [] func16 rfl (by decide +kernel) rfl ?_)
 show awp _ _ (Code.seq _ _) _ _
 repeat' (first | refine zqj ?_ | ((refine zqh fun K J => ?_); (simp (disch := omega) only [go_sem])) | refine zqa ?_ | (refine J _ ?_; clear J K))
 (refine z4m (fun U st => ∃ (i : _), U = t.kids.length - i /\ st.t 1 = .ptr 0 0 /\ st.t 3 = .int .i64 (1 + ((t.kids.take i).flatMap z0j).length : Nat) /\ st.t 4 = .int .i64 i /\ st.H 0 = some (.box 27 (z0h t)) /\ (i <= t.kids.length) /\ (1 <= st.nx)) ?_ ?_); rotate_left; (rintro U st ⟨i, rfl, q1, q3, q4, qH0, qp0, qp1⟩); rotate_left
 ·(refine ⟨_, 0, rfl, ?_⟩); (simp (disch := omega) only [go_sem, Nat.reduceBEq, Nat.reduceLeDiff, and_self, Int.natCast_one, Int.natCast_zero, List.flatMap_nil])
  try simp
 have hin := fun (h : i < t.kids.length) => ih t.kids[i] (List.getElem_mem h) (h4 _ (List.getElem_mem h)) (by have := znk (List.getElem_mem h); omega)
 have hb := z8s t.kids (i + 1)
 have hsu := fun (h : i < t.kids.length) => z8t t.kids i h
 repeat' (first | refine zqj ?_ | ((first | refine zqh fun K J => ?_ | refine zqr fun K J => ?_ | refine zqs (hin (by omega)) ?_); (simp (disch := omega) only [go_sem, Nat.reduceBEq, ↓reduceIte, reduceCtorEq, Nat.reduceAdd, q1, q3, q4, qH0, z13])) | ((refine zqd _ rfl (fun hc => ?_) (fun hc => ?_)) <;> (((try simp only [z0b] at hc); (try omega)))) | refine zqa ?_ | refine zqb ?_ | refine zqc ?_ | refine zqn ?_ | refine zqv ?_ | refine zqy ?_ | refine zqz ?_ | refine zqp ?_ | refine zqu (by simp only [go_sem]; rfl) rfl ?_ | (refine J _ ?_; clear J K))
 ·have hsu := hsu (by omega)
  (refine Exists.intro _ (And.intro ?_ ⟨i + 1, rfl, ?_⟩)); rotate_left; (simp (disch := omega) only [go_sem, Nat.reduceBEq, q1, q3, q4, qH0, true_and, Int.natCast_add, Int.natCast_one, hsu]); rotate_left
  ·omega
  ·exact ⟨by omega, by omega, by omega⟩
 ·have hi : i = t.kids.length := by omega
  subst hi
  refine z1e ?_
  rw [List.take_length, hce]
theorem zfk : ∀ t : T, szB t = true -> depT t <= 1000000000 -> PC prog 94 [z0m t] (.int .i64 (depT t)) := by
 refine z5c fun t ih hs hd => ?_
 obtain ⟨h0, h1, g1, h2, g2, h3, h4⟩ := (z2i t).1 hs
 refine z1g 1 (by simp only [pureD.pureL, z02, Bool.and_self]) rfl (z14 [] func94 rfl (by decide +kernel) rfl ?_)
 show awp _ _ (Code.seq _ _) _ _
 repeat' (first | refine zqj ?_ | ((refine zqh fun K J => ?_); (simp (disch := omega) only [go_sem])) | refine zqa ?_ | (refine J _ ?_; clear J K))
 (refine z4m (fun U st => ∃ (i : _), U = t.kids.length - i /\ st.t 1 = .ptr 0 0 /\ st.t 3 = .int .i64 (zei ((t.kids.take i).map depT) : Nat) /\ st.t 4 = .int .i64 i /\ st.H 0 = some (.box 27 (z0h t)) /\ (i <= t.kids.length) /\ (1 <= st.nx)) ?_ ?_); rotate_left; (rintro U st ⟨i, rfl, q1, q3, q4, qH0, qp0, qp1⟩); rotate_left
 ·(refine ⟨_, 0, rfl, ?_⟩); (simp (disch := omega) only [go_sem, Nat.reduceBEq, Nat.reduceLeDiff, true_and, and_true, and_self, Int.natCast_zero, List.map_nil])
  rfl
 have hin := fun (h : i < t.kids.length) => ih t.kids[i] (List.getElem_mem h) (h4 _ (List.getElem_mem h)) (by have := z5g (List.getElem_mem h); omega)
 have hk := fun (h : i < t.kids.length) => z5g (t := t) (List.getElem_mem h)
 have hsn : ∀ h : i < t.kids.length, zei ((t.kids.take (i + 1)).map depT) = max (zei ((t.kids.take i).map depT)) (1 + depT t.kids[i]) := fun h => by
  rw [List.take_succ_eq_append_getElem h, List.map_append, List.map_cons, List.map_nil, zmm]
 repeat' (first | refine zqj ?_ | ((first | refine zqh fun K J => ?_ | refine zqr fun K J => ?_ | refine zqs (hin (by omega)) ?_); (simp (disch := omega) only [go_sem, Nat.reduceBEq, ↓reduceIte, reduceCtorEq, Nat.reduceAdd, q1, q3, q4, qH0, z13])) | ((refine zqd _ rfl (fun hc => ?_) (fun hc => ?_)) <;> (((try simp only [z0b] at hc); (try omega)))) | refine zqa ?_ | refine zqb ?_ | refine zqc ?_ | refine zqn ?_ | refine zqv ?_ | refine zqy ?_ | refine zqz ?_ | refine zqp ?_ | refine zqu (by simp only [go_sem]; rfl) rfl ?_ | (refine J _ ?_; clear J K))
 ·have hs := hsn (by omega)
  (refine Exists.intro _ (And.intro ?_ ⟨i + 1, rfl, ?_⟩)); rotate_left; (simp (disch := omega) only [go_sem, Nat.reduceBEq, q1, q3, q4, qH0, true_and, Int.natCast_add, Int.natCast_one, hs]); rotate_left
  ·omega
  ·have := hk (by omega); refine ⟨?_, by omega⟩
   rw [zsq (by omega)]; omega
 ·refine z1e ?_
  have hi : i = t.kids.length := by omega
  subst hi
  rw [List.take_length, <- z5w]
theorem z63 : ∀ l : List Idv, z1s 3 (l.map z0n) = some (l.flatMap z07)
 | [] => rfl
 | t :: w => by
  rw [List.map_cons, List.flatMap_cons]
  unfold z1s
  rw [z63 w]
  rfl
theorem zpf : ∀ t : T, szB t = true -> cntT t <= 1000000000 -> PC prog 53 [z0m t] (z22 (idsT t)) := by
 refine z5c fun t ih hs hc => ?_
 obtain ⟨h0, h1, g1, h2, g2, h3, h4⟩ := (z2i t).1 hs
 have hce := zdf t
 have hle0 := z2n t
 refine z1g 2 (by simp only [pureD.pureL, z02, Bool.and_self]) (z4y _) (z14 [7] func53 rfl (by decide +kernel) rfl ?_)
 show awp _ _ (Code.seq _ _) _ _
 repeat' (first | refine zqj ?_ | ((refine zqh fun K J => ?_); (simp (disch := omega) only [go_sem, Nat.reduceBEq, ↓reduceIte, reduceCtorEq, Nat.reduceAdd, Nat.reduceMul, Nat.reduceLeDiff])) | refine zqa ?_ | (refine J _ ?_; clear J K))
 (refine z4m (fun U st => ∃ (i : _), U = t.kids.length - i /\ st.t 1 = .ptr 0 0 /\ st.t 3 = .osl 1 (1 + ((t.kids.take i).flatMap z0j).length) /\ st.t 4 = .int .i64 i /\ st.H 0 = some (.box 27 (z0h t)) /\ st.H 1 = some (.row 23 (1 + ((t.kids.take i).flatMap z0j).length) (([t.id] ++ (t.kids.take i).flatMap idsT).flatMap z07)) /\ (i <= t.kids.length) /\ (2 <= st.nx)) ?_ ?_); rotate_left; (rintro U st ⟨i, rfl, q1, q3, q4, qH0, qH1, qp0, qp1⟩); rotate_left
 ·(refine ⟨_, 0, rfl, ?_⟩); (simp (disch := omega) only [go_sem, Nat.reduceBEq, Nat.reduceLeDiff, true_and, and_true, and_self, Int.natCast_zero, List.flatMap_nil, List.append_nil])
  try simp [z07]
 have hin := fun (h : i < t.kids.length) => ih t.kids[i] (List.getElem_mem h) (h4 _ (List.getElem_mem h)) (by have := znk (List.getElem_mem h); omega)
 have hb := z8s t.kids (i + 1)
 by_cases hi : i < t.kids.length
 ·have hsu := z8t t.kids i hi
  have hil := z2n t.kids[i]
  have htk : (t.kids.take (i + 1)).flatMap idsT = (t.kids.take i).flatMap idsT ++ idsT t.kids[i] := by
   rw [List.take_succ_eq_append_getElem hi, List.flatMap_append]; simp
  repeat' (first | refine zqj ?_ | ((first | refine zqh fun K J => ?_ | refine zqr fun K J => ?_ | refine zqs (hin hi) ?_); (simp (disch := omega) only [go_sem, Nat.reduceBEq, ↓reduceIte, reduceCtorEq, Nat.reduceAdd, q1, q3, q4, qH0, qH1, z13, z22, z63])) | ((refine zqd _ rfl (fun hc => ?_) (fun hc => ?_)) <;> (((try simp only [z0b] at hc); (try omega)))) | refine zqa ?_ | refine zqb ?_ | refine zqv ?_ | refine zqy ?_ | (refine J _ ?_; clear J K))
  (refine Exists.intro _ (And.intro ?_ ⟨i + 1, rfl, ?_⟩)); rotate_left; (simp (disch := omega) only [go_sem, Nat.reduceBEq, q1, q3, q4, qH0, qH1, true_and, Int.natCast_add, Int.natCast_one, List.flatMap_append, List.flatMap_cons, List.cons_append, List.nil_append, hsu, htk, hil, Nat.add_assoc, List.append_assoc]); rotate_left
  ·omega
  ·omega
 ·repeat' (first | refine zqj ?_ | ((refine zqh fun K J => ?_); (simp (disch := omega) only [go_sem, Nat.reduceBEq, ↓reduceIte, reduceCtorEq, Nat.reduceAdd, q1, q3, q4, qH0, z13])) | ((refine zqd _ rfl (fun hc => ?_) (fun hc => ?_)) <;> (((try simp only [z0b] at hc); (try omega)))) | refine zqc ?_ | refine zqn ?_ | refine zqv ?_ | refine zqz ?_ | refine zqp ?_ | refine zqu (by simp only [go_sem]; rfl) rfl ?_ | (refine J _ ?_; clear J K))
  have hi2 : i = t.kids.length := by omega
  subst hi2
  rw [List.take_length] at qH1
  have hle : 1 + (t.kids.flatMap z0j).length = (idsT t).length := by rw [hle0, hce]
  rw [hle, List.singleton_append, <- z1j] at qH1
  rw [List.take_length, hle]
  refine z50 (z2j 0 ?_ z1i z99 (fun _ => rfl) (fun _ => rfl))
  simp (disch := omega) only [go_sem, qH1]
namespace Tr
theorem zcp {α : Type} (f : α -> Bool) {l : List α} {k : Nat} (h : k < l.length) : (l.take (k + 1)).all f = ((l.take k).all f && f l[k]) := by
 rw [List.take_succ_eq_append_getElem h, List.all_append, List.all_cons, List.all_nil, Bool.and_true]
theorem zoj {α : Type} {l : List α} {k : Nat} (hk : k < l.length) (h : (l.take k).Nodup) (h2 : ∀ j, (hj : j < k) -> l[j]'(by omega) ≠ l[k]) : (l.take (k + 1)).Nodup := by
 have := zde (f := id) hk (by simpa using h) h2
 simpa using this
theorem zxg {α : Type} {l : List α} {j k : Nat} (hj : j < k) (hk : k < l.length) (h : l[j]'(by omega) = l[k]) : ¬ l.Nodup := fun hn => by
 have := zj7 (f := id) hj hk h
 simp at this; exact this hn
end Tr
theorem pc_IdsR (t : T) (hs : szB t = true) (hc : cntT t <= 1000000000) : PC prog 95 [z0m t] (.bool (zyv t)) := by
 have ha := zpf t hs hc
 have hl := z2n t
 have hp := znl t
 have hid0 : ∀ h, (idsT t)[Int.toNat 0]'h = t.id := fun h => by simp [z1j]
 refine z1g 1 (by simp only [pureD.pureL, z02, Bool.and_self]) rfl (z14 [] func95 rfl (by decide +kernel) rfl ?_)
 show awp _ _ (Code.seq _ _) _ _
 repeat' (first | refine zqj ?_ | ((first | refine zqh fun K J => ?_ | refine zqs (ha) ?_); (simp (disch := omega) only [go_sem, Nat.reduceBEq, ↓reduceIte, Nat.reduceAdd, Nat.reduceLeDiff])) | refine zqa ?_ | (refine J _ ?_; clear J K))
 (refine z4m (fun U st => ∃ (i : _), U = (idsT t).length - i /\ st.t 1 = .ptr 0 0 /\ st.t 3 = z22 (idsT t) /\ st.t 4 = .bool (((idsT t).take i).all fun i => decide (i = Idv.zero)) /\ st.t 5 = .int .i64 i /\ st.H 0 = some (.box 27 (z0h t)) /\ (i <= (idsT t).length) /\ (1 <= st.nx)) ?_ ?_); rotate_left; (rintro U st ⟨i, rfl, q1, q3, q4, q5, qH0, qp0, qp1⟩); rotate_left
 ·(refine ⟨_, 0, rfl, ?_⟩); (simp (disch := omega) only [go_sem, Nat.reduceBEq, Nat.reduceLeDiff, true_and, and_true, and_self, Int.natCast_zero, z22])
  try simp
 repeat' (first | refine zqj ?_ | ((first | refine zqh fun K J => ?_ | refine zqe (by decide +kernel) fun K J => ?_ | refine zqr fun K J => ?_); (simp (disch := omega) only [go_sem, Nat.reduceBEq, ↓reduceIte, reduceCtorEq, Nat.reduceAdd, q1, q3, q4, q5, qH0, z22, hid0])) | ((refine zqd _ rfl (fun hc => ?_) (fun hc => ?_)) <;> (((try simp only [z0b] at hc); (try omega)))) | refine zqa ?_ | refine zqb ?_ | refine zqg ?_ | refine zqc ?_ | refine zqv ?_ | refine zqy ?_ | refine zqz ?_ | refine zqp ?_ | refine zqu (by simp only [go_sem]; rfl) rfl ?_ | (refine J _ ?_; clear J K) | (refine zqf (fun hb => ?_) (fun hb => ?_) <;> (have hb2 := hb; try simp only [z0b] at hb2) <;> ((have hb3 : (_ : Bool) = _ := hb2); (simp (disch := omega) only [go_sem, Nat.reduceBEq, ↓reduceIte, reduceCtorEq, Nat.reduceAdd, hb, q3, q5, z22]); clear hb hb3; (try omega))))
 ·(refine Exists.intro _ (And.intro ?_ ⟨i + 1, rfl, ?_⟩)); rotate_left; (simp (disch := omega) only [go_sem, Nat.reduceBEq, q1, q3, q4, q5, qH0, true_and, Int.natCast_add, Int.natCast_one]); rotate_left
  ·omega
  ·rw [zcp _ (by omega), ‹((idsT t).take i).all _ = true›]
   exact ⟨rfl, by omega, by omega⟩
 ·(refine Exists.intro _ (And.intro ?_ ⟨i + 1, rfl, ?_⟩)); rotate_left; (simp (disch := omega) only [go_sem, Nat.reduceBEq, q1, q3, q4, q5, qH0, true_and, Int.natCast_add, Int.natCast_one]); rotate_left
  ·omega
  ·rw [zcp _ (by omega), ‹((idsT t).take i).all _ = false›]
   exact ⟨rfl, by omega, by omega⟩
 ·refine z03 ?_
  have hz : ((idsT t).all fun i => decide (i = Idv.zero)) = true := by rw [<- List.take_of_length_le (l := idsT t) (i := i) (by omega)]; assumption
  unfold zyv; rw [hz]; rfl
 ·refine z03 ?_
  have hz : ((idsT t).all fun i => decide (i = Idv.zero)) = false := by rw [<- List.take_of_length_le (l := idsT t) (i := i) (by omega)]; assumption
  have hk : ¬ (t.id = Idv.zero ↔ t.kind = 0) := fun h => by
   have : decide (t.id = Idv.zero) = decide (t.kind = 0) := decide_eq_decide.2 h
   contradiction
  unfold zyv
  rw [hz, decide_eq_false hk]; rfl
 ·have hz : ((idsT t).all fun i => decide (i = Idv.zero)) = false := by rw [<- List.take_of_length_le (l := idsT t) (i := i) (by omega)]; assumption
  have hbne : ∀ {a b : Bool}, (a != b) = false -> a = b := fun {a b} h => by cases a <;> cases b <;> first | rfl | cases h
  have hk : (t.id = Idv.zero ↔ t.kind = 0) := by
   have h := hbne ‹(decide (t.id = Idv.zero) != decide (t.kind = 0)) = false›
   exact decide_eq_decide.1 h
  rw [show zyv t = decide ((idsT t).Nodup) from by unfold zyv; rw [hz, decide_eq_true hk]; rfl]
  (refine z4m (fun U st => ∃ (j : Nat), U = (idsT t).length - j /\ st.t 1 = .ptr 0 0 /\ st.t 3 = z22 (idsT t) /\ st.t 6 = .int .i64 j /\ st.H 0 = some (.box 27 (z0h t)) /\ (j <= (idsT t).length) /\ (((idsT t).take j).Nodup) /\ (1 <= st.nx)) ?_ ?_); rotate_left; (rintro U st ⟨j, rfl, r1, r3, r6, rH0, rp0, rp1, rp2⟩); rotate_left
  ·(refine ⟨_, 0, rfl, ?_⟩); (simp (disch := omega) only [go_sem, Nat.reduceBEq, true_and, Int.natCast_zero, z22, q1, q3, qH0])
   (repeat' (first | omega | refine And.intro ?_ ?_))
   all_goals simp
  repeat' (first | refine zqj ?_ | ((refine zqh fun K J => ?_); (simp (disch := omega) only [go_sem, Nat.reduceBEq, ↓reduceIte, r3, r6, z22])) | ((refine zqd _ rfl (fun hc => ?_) (fun hc => ?_)) <;> (((try simp only [z0b] at hc); (try omega)))) | refine zqa ?_ | refine zqi ?_ | refine zqb ?_ | refine zqc ?_ | refine zqn ?_ | refine zqv ?_ | refine zqz ?_ | refine zqp ?_ | refine zqu (by simp only [go_sem]; rfl) rfl ?_ | (refine J _ ?_; clear J K))
  ·(refine z4m (fun U st => ∃ (k : Nat), U = j - k /\ st.t 1 = .ptr 0 0 /\ st.t 3 = z22 (idsT t) /\ st.t 6 = .int .i64 j /\ st.t 7 = .int .i64 k /\ st.H 0 = some (.box 27 (z0h t)) /\ (k <= j) /\ (1 <= st.nx) /\ (∀ m, (hm : m < k) -> (h : m < (idsT t).length) -> (h2 : j < (idsT t).length) -> (idsT t)[m] ≠ (idsT t)[j])) ?_ ?_); rotate_left; (rintro U st ⟨k, rfl, w1, w3, w6, w7, wH0, wp0, wp1, wp2⟩); rotate_left
   ·(refine ⟨_, 0, rfl, ?_⟩); (simp (disch := omega) only [go_sem, Nat.reduceBEq, r1, r3, r6, rH0, true_and, Int.natCast_zero, z22])
    (repeat' (first | omega | refine And.intro ?_ ?_))
    all_goals exact fun m hm => by omega
   repeat' (first | refine zqj ?_ | ((first | refine zqh fun K J => ?_ | refine zqe (by decide +kernel) fun K J => ?_ | refine zqr fun K J => ?_); (simp (disch := omega) only [go_sem, Nat.reduceBEq, ↓reduceIte, reduceCtorEq, Nat.reduceAdd, w3, w6, w7, z22])) | ((first | refine zqd _ rfl (fun hc => ?_) (fun hc => ?_) | refine zqm _ rfl (fun hc => ?_) (fun hc => ?_)) <;> (((try simp only [z0b] at hc); (try omega)))) | refine zqa ?_ | refine zqb ?_ | refine zqc ?_ | refine zqk ?_ | refine zqn ?_ | refine zqv ?_ | refine zqx ?_ | refine zqy ?_ | refine zqz ?_ | refine z6q ?_ | refine zqp ?_ | refine zqo ?_ | refine zqu (by simp only [go_sem]; rfl) rfl ?_ | (refine J _ ?_; clear J K))
   ·exact z03 (decide_eq_false (zxg (j := k) (k := j) (by omega) (by omega) (by assumption))).symm
   ·(refine Exists.intro _ (And.intro ?_ ⟨k + 1, rfl, ?_⟩)); rotate_left; (simp (disch := omega) only [go_sem, Nat.reduceBEq, w1, w3, w6, w7, wH0, true_and, Int.natCast_add, Int.natCast_one, z22]); rotate_left
    ·omega
    ·refine ⟨by omega, by omega, fun m hm h h2 => ?_⟩
     by_cases e : m = k
     ·subst e; assumption
     ·exact wp2 m (by omega) h h2
   ·skip
    have hj : j < (idsT t).length := by omega
    (refine Exists.intro _ (And.intro ?_ ⟨j + 1, rfl, ?_⟩)); rotate_left; (simp (disch := omega) only [go_sem, Nat.reduceBEq, true_and, Int.natCast_add, Int.natCast_one, w1, w3, wH0]); rotate_left
    ·omega
    ·exact ⟨by omega, zoj hj rp1 (fun m hm => wp2 m (by omega) (by omega) hj), by omega⟩
  ·refine z03 ?_
   rw [List.take_of_length_le (by omega)] at rp1
   exact (decide_eq_true rp1).symm
theorem pc_May (t : T) (hs : szB t = true) (hc : cntT t <= 1000000000) (hd : depT t <= 1000000000) : PC prog 38 [z0m t] (.bool (z9i t)) := by
 have h1 := zzp t hs
 have h2 := zfk t hs hd
 have h3 := zfj t hs hc
 have h4 := pc_IdsR t hs hc
 refine z1g 1 (by simp only [pureD.pureL, z02, Bool.and_self]) rfl (z14 [] func38 rfl (by decide +kernel) rfl ?_)
 show awp _ _ (Code.seq _ _) _ _
 repeat' (first | ((first | refine zqh fun K J => ?_ | refine zqs (h1) ?_ | refine zqs (h2) ?_ | refine zqs (h3) ?_ | refine zqs (h4) ?_); (simp (disch := omega) only [go_sem, Nat.reduceBEq, ↓reduceIte, Nat.reduceAdd, Nat.reduceLeDiff])) | refine zqn ?_ | refine zqu (by simp only [go_sem]; rfl) rfl ?_ | (refine J _ ?_; clear J K) | (refine zqf (fun hb => ?_) (fun hb => ?_) <;> (have hb2 := hb; try simp only [z0b] at hb2) <;> ((first | have hb3 : (_ : Bool) = _ := hb2 | have hb3 := eq_false hb2 | have hb3 := eq_true hb2); (simp (disch := omega) only [go_sem, Nat.reduceBEq, ↓reduceIte, Nat.reduceAdd, Nat.reduceLeDiff, hb, hb3]); clear hb hb3; (try omega))))
 all_goals refine z03 ?_
 all_goals unfold z9i
 all_goals (simp (disch := omega) only [decide_eq_true, decide_eq_false, Bool.true_and, Bool.false_and, Bool.and_false, *])
theorem z06 {P : Program} {H : HM} {id e : Nat} {cs : List D} (k : Nat) (hH : H id = some (.box e cs)) (ha : z0g P e = true) (hp : pureD.pureL cs = true) : z2y P H (k + 2) (.ptr id 0) = some (.rptr (.agg cs)) := by
 unfold z2y
 simp only [pureD, Bool.false_eq_true, if_false, hH, ha, true_or, and_self, if_true, zch k cs hp, Option.map_some]
namespace Tr
theorem zpx : ∀ t : T, smB t = true -> ∀ x ∈ z0j t, smB x = true := by
 refine z5c fun t ih h x hx => ?_
 rw [z1n] at hx
 rcases List.mem_cons.1 hx with rfl | hx
 ·exact h
 ·obtain ⟨k, hk, hx⟩ := List.mem_flatMap.1 hx
  exact ih k hk ((zlp t).1 h |>.2.2.2 k hk) x hx
theorem zdr (id : Idv) : ∀ t : T, ∀ x ∈ z1t id t, x ∈ z0j t := by
 refine z5c fun t ih x hx => ?_
 rw [za8] at hx
 split at hx
 ·rw [List.mem_singleton.1 hx]; exact z1r t
 ·split at hx
  ·rename_i w hw
   obtain ⟨k, hk, rfl⟩ := List.mem_map.1 (List.mem_of_find?_eq_some hw)
   rcases List.mem_cons.1 hx with rfl | hx
   ·exact z1r _
   ·exact z2g hk (ih k hk x hx)
  ·cases hx
def T.zero : T := .mk Idv.zero 0 ByteArray.empty [] [] []
def z05 (id : Idv) (t : T) : T × Bool := match (z1t id t).getLast? with
 | some x => (x, true)
 | none => (T.zero, false)
def z4w (id : Idv) (t : T) : Idv × Int × Bool :=
 let w := z1t id t
 if h : w.length < 2 then (Idv.zero, -1, false) else
  let p := w[w.length - 2]
  let n := z2v (fun k => !(z1t id k).isEmpty) p.kids
  (p.id, if n < p.kids.length then (n : Int) else -1, true)
def z20 (id : Idv) (t : T) : List Idv := ((z1t id t).dropLast.map T.id).reverse
end Tr
theorem zaw {w : List T} (h : w = []) : zcu w = .nil := if_pos h
theorem z7d {w : List T} (h : w ≠ []) : zcu w = .rsl true 8 (w.map z0m) := if_neg h
theorem zcf {α : Type} : ∀ (l : List α) (h : l ≠ []), l.getLast? = some (l[l.length - 1]'(by have := List.length_pos_iff.2 h; omega))
 | l, h => by rw [List.getLast?_eq_getElem?, List.getElem?_eq_getElem (by have := List.length_pos_iff.2 h; omega)]
theorem z12 : Le (.agg [.int .i64 0, .int .i64 0, .int .i64 0, .int .i64 0, .str ByteArray.empty, .nil, .nil, .nil]) (z0m T.zero) := by
 rw [z0m, z0f]
 exact Le.agg ⟨Le.refl _, Le.refl _, Le.refl _, Le.refl _, Le.refl _, Le.nil 4, Le.nil 4, Le.nil 8, trivial⟩
theorem z93 (t : T) (hs : smB t = true) (hd : depT t <= 1000000000) (id : Idv) : PC prog 68 [z0m t, z0n id] (.tup [z0m (z05 id t).1, .bool (z05 id t).2]) := by
 have hw := zr9 id t (zlq t hs) hd
 have hl := zb0 id t
 refine z1g 3 (by simp only [pureD.pureL, z02]; rfl) (by simp only [pureD, pureD.pureL, z02, Bool.and_self]) (z14 [] func68 rfl (by decide +kernel) rfl ?_)
 show awp _ _ (Code.seq _ _) _ _
 rw [show Tryz.f68.results.toList = [.cell 4 27, .tmp 5] from rfl]
 by_cases h0 : z1t id t = []
 ·rw [zaw h0] at hw
  have hf : z05 id t = (T.zero, false) := by unfold z05; rw [h0]; rfl
  rw [hf]
  repeat' (first | refine zqj ?_ | ((first | refine zqh fun K J => ?_ | refine zqs (hw) ?_); (simp (disch := omega) only [go_sem, Nat.reduceBEq, ↓reduceIte, Nat.reduceAdd, Nat.reduceLeDiff])) | ((refine zqd _ rfl (fun hc => ?_) (fun hc => ?_)) <;> (first | (cases hc; done) | ((try simp only [] at hc); (try omega)))) | refine zqg ?_ | refine zqu (by (simp (disch := omega) only [go_sem, Nat.reduceBEq, ↓reduceIte, Nat.reduceAdd, Nat.reduceLeDiff]); rfl) rfl ?_ | (refine J _ ?_; clear J K))
  exact z0a (by simp only [pureD, pureD.pureL, Bool.and_self]) (Le.tup ⟨z12, Le.refl _, trivial⟩)
 ·rw [z7d h0] at hw
  have hpos := List.length_pos_iff.2 h0
  have hi : (((z1t id t).length : Int) - 1).toNat = (z1t id t).length - 1 := by omega
  have hcp := zwa ((z1t id t)[(z1t id t).length - 1]'(by omega)) (zpx t hs _ (zdr id t _ (List.getElem_mem _)))
  have hf : z05 id t = ((z1t id t)[(z1t id t).length - 1]'(by omega), true) := by unfold z05; rw [zcf _ h0]
  rw [hf]
  repeat' (first | refine zqj ?_ | ((first | refine zqh fun K J => ?_ | refine zqs (hw) ?_ | refine zqs (hcp) ?_); (simp (disch := omega) only [go_sem, Nat.reduceBEq, ↓reduceIte, reduceCtorEq, Nat.reduceAdd, Nat.reduceLeDiff, hi])) | ((refine zqd _ rfl (fun hc => ?_) (fun hc => ?_)) <;> (((try simp only [z0b] at hc); (try omega)))) | refine zqb ?_ | refine zqn ?_ | refine zqu (by (simp (disch := omega) only [go_sem, Nat.reduceBEq, ↓reduceIte, Nat.reduceLeDiff]); rfl) rfl ?_ | (refine J _ ?_; clear J K))
  exact z0a (by simp only [pureD, pureD.pureL, z04, Bool.and_self]) (Le.refl _)
theorem zsp (t : T) (hs : smB t = true) (hd : depT t <= 1000000000) (id : Idv) : PC prog 138 [z0m t, .rptr (z0n id)] (.bool (!(z1t id t).isEmpty)) := by
 have hw := zr9 id t (zlq t hs) hd
 refine z1g 1 (by simp only [pureD.pureL, z02, pureD]; rfl) rfl (z14 [] func138 rfl (by decide +kernel) rfl ?_)
 show awp _ _ (Code.seq _ _) _ _
 by_cases h0 : z1t id t = []
 ·rw [zaw h0] at hw
  rw [h0]
  repeat' (first | ((first | refine zqh fun K J => ?_ | refine zqs (hw) ?_); (simp (disch := omega) only [go_sem, Nat.reduceBEq, ↓reduceIte, Nat.reduceAdd, Nat.reduceLeDiff])) | refine zqn ?_ | refine zqu (by simp only [go_sem]; rfl) rfl ?_ | (refine J _ ?_; clear J K))
  exact z03 rfl
 ·rw [z7d h0] at hw
  rw [show (z1t id t).isEmpty = false from by simpa using h0]
  repeat' (first | ((first | refine zqh fun K J => ?_ | refine zqs (hw) ?_); (simp (disch := omega) only [go_sem, Nat.reduceBEq, ↓reduceIte, Nat.reduceAdd, Nat.reduceLeDiff])) | refine zqn ?_ | refine zqu (by simp only [go_sem]; rfl) rfl ?_ | (refine J _ ?_; clear J K))
  exact z03 rfl
theorem zwg : ∀ t : T, ∀ x ∈ z0j t, depT x <= depT t := by
 refine z5c fun t ih x hx => ?_
 rw [z1n] at hx
 rcases List.mem_cons.1 hx with rfl | hx
 ·exact Nat.le_refl _
 ·obtain ⟨k, hk, hx⟩ := List.mem_flatMap.1 hx
  have := ih k hk x hx
  have := z5g hk
  omega
theorem zcg (t : T) (hs : smB t = true) (hd : depT t <= 1000000000) (id : Idv) : PC prog 82 [z0m t, z0n id] (.tup [z0n (z4w id t).1, .int .i64 (z4w id t).2.1, .bool (z4w id t).2.2]) := by
 have hw := zr9 id t (zlq t hs) hd
 have hl := zb0 id t
 refine z1g 3 (by simp only [pureD.pureL, z02]; rfl) rfl (z14 [] func82 rfl (by decide +kernel) rfl ?_)
 show awp _ _ (Code.seq _ _) _ _
 rw [show Tryz.f82.results.toList = [.cell 4 23, .tmp 5, .tmp 6] from rfl]
 by_cases h2 : (z1t id t).length < 2
 ·have hp : z4w id t = (Idv.zero, -1, false) := by unfold z4w; exact dif_pos h2
  rw [hp]
  by_cases h0 : z1t id t = []
  ·rw [zaw h0] at hw
   repeat' (first | refine zqj ?_ | ((first | refine zqh fun K J => ?_ | refine zqs (hw) ?_); (simp (disch := omega) only [go_sem, Nat.reduceBEq, ↓reduceIte, Nat.reduceAdd, Nat.reduceLeDiff, Int.reduceLT])) | ((refine zqd _ rfl (fun hc => ?_) (fun hc => ?_)) <;> (first | (cases hc; done) | ((try simp only [] at hc); (try omega)))) | refine zqg ?_ | refine zqu (by (simp (disch := omega) only [go_sem, Nat.reduceBEq, ↓reduceIte, Nat.reduceAdd, Nat.reduceLeDiff]); rfl) rfl ?_ | (refine J _ ?_; clear J K))
   exact z0a rfl (Le.refl _)
  ·rw [z7d h0] at hw
   repeat' (first | refine zqj ?_ | ((first | refine zqh fun K J => ?_ | refine zqs (hw) ?_); (simp (disch := omega) only [go_sem, Nat.reduceBEq, ↓reduceIte, Nat.reduceAdd, Nat.reduceLeDiff])) | ((refine zqd _ rfl (fun hc => ?_) (fun hc => ?_)) <;> (((try simp only [z0b] at hc); (try omega)))) | refine zqg ?_ | refine zqu (by (simp (disch := omega) only [go_sem, Nat.reduceBEq, ↓reduceIte, Nat.reduceAdd, Nat.reduceLeDiff]); rfl) rfl ?_ | (refine J _ ?_; clear J K))
   exact z0a rfl (Le.refl _)
 ·have h0 : z1t id t ≠ [] := fun h => by rw [h] at h2; simp at h2
  rw [z7d h0] at hw
  have hi : (((z1t id t).length : Int) - 2).toNat = (z1t id t).length - 2 := by omega
  obtain ⟨p, hpe⟩ : ∃ p, p = ((z1t id t)[(z1t id t).length - 2]'(by omega)) := ⟨_, rfl⟩
  have hpm : p ∈ z0j t := by rw [hpe]; exact zdr id t _ (List.getElem_mem _)
  have hsp := zpx t hs p hpm
  have hdp := zwg t p hpm
  obtain ⟨_, _, h3, h4⟩ := (zlp p).1 hsp
  have hpar : z4w id t = (p.id, (if z2v (fun k => !(z1t id k).isEmpty) p.kids < p.kids.length then (z2v (fun k => !(z1t id k).isEmpty) p.kids : Int) else -1), true) := by unfold z4w; rw [dif_neg h2, <- hpe]
  rw [hpar]
  have hix := zck false p.kids (by unfold maxLen; omega) (g := 138) (cap := [.rptr (z0n id)]) (fun k => !(z1t id k).isEmpty) rfl (fun k hk => zsp k (h4 k hk) (by have := z5g hk; omega) id)
  repeat' (first | refine zqj ?_ | ((first | refine zqh fun K J => ?_ | refine zqs (hw) ?_); (simp (disch := omega) only [go_sem, Nat.reduceBEq, ↓reduceIte, reduceCtorEq, Nat.reduceAdd, Nat.reduceLeDiff, hi, <- hpe])) | ((refine zqd _ rfl (fun hc => ?_) (fun hc => ?_)) <;> (((try simp only [z0b] at hc); (try omega)))) | refine zqb ?_ | (refine J _ ?_; clear J K))
  refine z1d (PC.borrow hix rfl 4 (z00 (z08 3 (z0t _)) (z00 (zf8 3 rfl (z00 (z06 (e := 23) (cs := z07 id) 1 ?_ z1i rfl) z0c)) z0c))) ?_
  ·(simp (disch := omega) only [go_sem, Nat.reduceBEq, z07])
  (try (simp (disch := omega) only [go_sem, Nat.reduceBEq])); repeat' (first | ((refine zqh fun K J => ?_); (simp (disch := omega) only [go_sem, Nat.reduceBEq, ↓reduceIte, reduceCtorEq, Nat.reduceAdd, Nat.reduceLeDiff])) | refine zqn ?_ | refine zqu (by (simp (disch := omega) only [go_sem, Nat.reduceBEq, ↓reduceIte, Nat.reduceAdd, Nat.reduceLeDiff]); rfl) rfl ?_ | (refine J _ ?_; clear J K))
  exact z0a rfl (Le.refl _)
theorem zlu (t : T) (hs : smB t = true) (hd : depT t <= 1000000000) (id : Idv) : PC prog 131 [z0m t, z0n id] (z22 (z20 id t)) := by
 have hw := zr9 id t (zlq t hs) hd
 have hl := zb0 id t
 refine z1g 3 (by simp only [pureD.pureL, z02]; rfl) (z4y _) (z14 [5] func131 rfl (by decide +kernel) rfl ?_)
 show awp _ _ (Code.seq _ _) _ _
 by_cases h0 : z1t id t = []
 ·rw [zaw h0] at hw
  have ha : z20 id t = [] := by unfold z20; rw [h0]; rfl
  rw [ha]
  repeat' (first | refine zqj ?_ | ((first | refine zqh fun K J => ?_ | refine zqs (hw) ?_); (simp (disch := omega) only [go_sem, Nat.reduceBEq, ↓reduceIte, Nat.reduceAdd, Nat.reduceLeDiff])) | refine zqa ?_ | (refine J _ ?_; clear J K))
  (refine z4m (fun U st => ∃ (i : Nat), U = i - i /\ st.t 5 = .osl 2 0 /\ st.t 7 = .int .i64 (-2) /\ st.H 2 = some (.row 23 0 []) /\ (i = 0)) ?_ ?_); rotate_left; (rintro U st ⟨i, rfl, q5, q7, qH2, qp0⟩); rotate_left
  ·(refine ⟨_, 0, rfl, ?_⟩); (simp (disch := omega) only [go_sem, Nat.reduceBEq, true_and, and_true, and_self])
   rfl
  repeat' (first | refine zqj ?_ | ((refine zqh fun K J => ?_); (simp (disch := omega) only [go_sem, Nat.reduceBEq, ↓reduceIte, Int.reduceLE, q5, q7])) | ((refine zqd _ rfl (fun hc => ?_) (fun hc => ?_)) <;> (first | (cases hc; done) | ((try simp only [] at hc); (try omega)))) | refine zqc ?_ | refine zqn ?_ | refine zqv ?_ | refine zqz ?_ | refine zqp ?_ | refine zqu (by simp only [go_sem]; rfl) rfl ?_ | (refine J _ ?_; clear J K))
  refine z50 (z2j (l := []) (f := fun i : Idv => z07 i) 1 ?_ z1i z99 (fun _ => rfl) (fun _ => rfl))
  (simp (disch := omega) only [go_sem, qH2])
  rfl
 ·rw [z7d h0] at hw
  have hpos := List.length_pos_iff.2 h0
  have hal : (z20 id t).length = (z1t id t).length - 1 := by unfold z20; simp
  have hag : ∀ k (h : k < (z20 id t).length), (z20 id t)[k] = ((z1t id t)[(z1t id t).length - 2 - k]'(by omega)).id := fun k h => by
   have h1 : k < (z1t id t).length - 1 := by omega
   have h2 := List.getElem_reverse (l := (z1t id t).dropLast.map T.id) (i := k) (by simp; omega)
   refine h2.trans ?_
   simp only [List.getElem_map, List.getElem_dropLast, List.length_map, List.length_dropLast]
   congr 1
  repeat' (first | refine zqj ?_ | ((first | refine zqh fun K J => ?_ | refine zqs (hw) ?_); (simp (disch := omega) only [go_sem, Nat.reduceBEq, ↓reduceIte, Nat.reduceAdd, Nat.reduceLeDiff])) | refine zqa ?_ | (refine J _ ?_; clear J K))
  (refine z4m (fun U st => ∃ (k : _), U = (z1t id t).length - k /\ st.t 5 = .osl 2 k /\ st.t 6 = .rsl true 8 ((z1t id t).map z0m) /\ st.t 7 = .int .i64 ((z1t id t).length - 2 - k) /\ st.H 2 = some (.row 23 k (((z20 id t).take k).flatMap z07)) /\ (k <= (z20 id t).length) /\ (2 <= st.nx)) ?_ ?_); rotate_left; (rintro U st ⟨k, rfl, q5, q6, q7, qH2, qp0, qp1⟩); rotate_left
  ·(refine ⟨_, 0, rfl, ?_⟩); (simp (disch := omega) only [go_sem, Nat.reduceBEq, Nat.reduceLeDiff, true_and, and_true, and_self, Int.natCast_zero, List.flatMap_nil])
   omega
  by_cases hk : k < (z20 id t).length
  ·have hidx : (((z1t id t).length : Int) - 2 - k).toNat = (z1t id t).length - 2 - k := by omega
   have hag := hag k hk
   have htk := List.take_succ_eq_append_getElem hk
   rw [hag] at htk
   repeat' (first | refine zqj ?_ | ((first | refine zqh fun K J => ?_ | refine zqr fun K J => ?_); (simp (disch := omega) only [go_sem, Nat.reduceBEq, ↓reduceIte, reduceCtorEq, Nat.reduceAdd, Nat.reduceMul, Nat.reduceLeDiff, q5, q6, q7, qH2, hidx])) | ((refine zqd _ rfl (fun hc => ?_) (fun hc => ?_)) <;> (((try simp only [z0b] at hc); (try omega)))) | refine zqa ?_ | refine zqb ?_ | refine zqv ?_ | refine zqy ?_ | (refine J _ ?_; clear J K))
   (refine Exists.intro _ (And.intro ?_ ⟨k + 1, rfl, ?_⟩)); rotate_left; (simp (disch := omega) only [go_sem, Nat.reduceBEq, q5, q6, q7, qH2, true_and, Int.natCast_add, Int.natCast_one, List.flatMap_append, List.flatMap_cons, List.flatMap_nil, List.append_nil, htk, z07]); rotate_left
   ·omega
   ·refine ⟨by omega, by omega, by omega⟩
  ·repeat' (first | refine zqj ?_ | ((refine zqh fun K J => ?_); (simp (disch := omega) only [go_sem, Nat.reduceBEq, ↓reduceIte, q5, q7])) | ((refine zqd _ rfl (fun hc => ?_) (fun hc => ?_)) <;> (((try simp only [z0b] at hc); (try omega)))) | refine zqc ?_ | refine zqn ?_ | refine zqv ?_ | refine zqz ?_ | refine zqp ?_ | refine zqu (by simp only [go_sem]; rfl) rfl ?_ | (refine J _ ?_; clear J K))
   have hk2 : k = (z20 id t).length := by omega
   subst hk2
   rw [List.take_length] at qH2
   exact z50 (z2j 1 (by (simp (disch := omega) only [go_sem, qH2])) z1i z99 (fun _ => rfl) (fun _ => rfl))
end
section
open Abs Facts Tr
theorem zdu {P : Program} {kt : TypeId} {α : Type} [DecidableEq α] (enc : α -> D) (he : ∀ a b, eqK P kt (enc a) (enc b) = some (decide (a = b))) (v : α -> D) (k : α) :
  ∀ l : List α, z7r P kt (enc k) (l.map fun a => (enc a, v a)) = some (if k ∈ l then some (l.idxOf k, v k) else none)
 | [] => by simp [z7r]
 | a :: l => by
  simp only [List.map_cons, z7r, he]
  by_cases h : k = a
  ·subst h; simp
  ·rw [decide_eq_false h]
   simp only
   rw [zdu enc he v k l]
   by_cases h2 : k ∈ l
   ·simp only [h2, if_true, Option.map_some, List.mem_cons, or_true]
    rw [List.idxOf_cons, show (a == k) = false from by simpa using fun e => h e.symm]; rfl
   ·simp [h, h2]
theorem z7f {α : Type} [DecidableEq α] (enc : α -> D) (v : α -> D) (k : α) (x : D) : ∀ l : List α, l.Nodup -> k ∈ l -> z7z (l.map fun a => (enc a, v a)) (l.idxOf k) x = l.map fun a => (enc a, if a = k then x else v a)
 | [], _, h => by cases h
 | a :: l, hn, h => by
  simp only [List.map_cons, List.idxOf_cons]
  by_cases e : a = k
  ·subst e
   simp only [beq_self_eq_true, cond_true, z7z, if_true, List.cons.injEq, true_and]
   refine List.map_congr_left fun b hb => ?_
   have : b ≠ a := fun e => by subst e; exact (List.nodup_cons.1 hn).1 hb
   rw [if_neg this]
  ·rw [show (a == k) = false from by simpa using e]
   simp only [cond_false, z7z, if_neg e, List.cons.injEq, true_and]
   refine z7f enc v k x l (List.nodup_cons.1 hn).2 ?_
   rcases List.mem_cons.1 h with h | h
   ·exact (e h.symm).elim
   ·exact h
namespace Tr
def z3f {α : Type} [DecidableEq α] (l : List α) : List α := l.foldl (fun a x => if x ∈ a then a else a ++ [x]) []
theorem zia {α : Type} [DecidableEq α] (l : List α) (x : α) : z3f (l ++ [x]) = if x ∈ z3f l then z3f l else z3f l ++ [x] := by unfold z3f; rw [List.foldl_append]; rfl
theorem zsv {α : Type} [DecidableEq α] {l : List α} {i : Nat} (h : i < l.length) : z3f (l.take (i + 1)) = if l[i] ∈ z3f (l.take i) then z3f (l.take i) else z3f (l.take i) ++ [l[i]] := by
 rw [List.take_succ_eq_append_getElem h, zia]
theorem snoc_ind {α : Type} {p : List α -> Prop} (h0 : p []) (h1 : ∀ l x, p l -> p (l ++ [x])) : ∀ l, p l := fun l => by
 rw [<- List.reverse_reverse l]
 induction l.reverse with
 | nil => exact h0
 | cons x l ih => rw [List.reverse_cons]; exact h1 _ _ ih
theorem zib {α : Type} [DecidableEq α] (l : List α) : (z3f l).Nodup /\ (∀ x, x ∈ z3f l ↔ x ∈ l) /\ (z3f l).length <= l.length /\ ((z3f l).length = l.length ↔ l.Nodup) := by
 refine snoc_ind (p := fun l => (z3f l).Nodup /\ (∀ x, x ∈ z3f l ↔ x ∈ l) /\ (z3f l).length <= l.length /\ ((z3f l).length = l.length ↔ l.Nodup)) ?_ ?_ l
 ·exact ⟨by simp [z3f], by simp [z3f], by simp [z3f], by simp [z3f]⟩
 ·intro l x ih
  obtain ⟨h1, h2, h3, h4⟩ := ih
  rw [zia]
  by_cases h : x ∈ z3f l
  ·rw [if_pos h]
   refine ⟨h1, fun y => ?_, by simp; omega, ?_⟩
   ·rw [h2, List.mem_append, List.mem_singleton]
    refine ⟨.inl, fun hy => ?_⟩
    rcases hy with hy | rfl
    ·exact hy
    ·exact (h2 _).1 h
   ·constructor
    ·intro hl; simp at hl; omega
    ·intro hn
     rw [List.nodup_append] at hn
     exact (hn.2.2 x ((h2 x).1 h) x (by simp) rfl).elim
  ·rw [if_neg h]
   refine ⟨?_, fun y => by rw [List.mem_append, List.mem_append, h2], by simp; omega, ?_⟩
   ·rw [List.nodup_append]
    refine ⟨h1, by simp, fun a ha b hb => ?_⟩
    rw [List.mem_singleton] at hb
    subst hb
    intro e; subst e; exact h ha
   ·rw [List.length_append, List.length_append, List.nodup_append]
    constructor
    ·intro hl
     refine ⟨h4.1 (by simpa using hl), by simp, fun a ha b hb => ?_⟩
     rw [List.mem_singleton] at hb
     subst hb
     intro e; subst e; exact h ((h2 a).2 ha)
    ·intro hn
     rw [h4.2 hn.1]
end Tr
end
section
open Abs Facts Tr
attribute [local irreducible] awp
def encC (c : Int × ByteArray) : D := .agg [.int .i64 c.1, .str c.2]
def setC (l : List (Int × ByteArray)) : List (D × D) := l.map fun c => (encC c, .bool true)
def zu8 (l : List Idv) : List (D × D) := l.map fun c => (z0n c, .bool true)
theorem eqK_C (a b : Int × ByteArray) : eqK prog 176 (encC a) (encC b) = some (decide (a = b)) := by
 have h : ∀ c, z85 prog 176 (encC c) = true := fun c => by simp only [encC, z85, zxj, sizeT176]; rfl
 unfold eqK
 rw [if_pos ⟨h a, h b⟩]
 refine (eqU176 a.1 b.1 a.2 b.2).trans ?_
 obtain ⟨a1, a2⟩ := a; obtain ⟨b1, b2⟩ := b
 simp [Prod.mk.injEq]
theorem eqK_I (a b : Idv) : eqK prog 23 (z0n a) (z0n b) = some (decide (a = b)) := by
 have h : ∀ c, z85 prog 23 (z0n c) = true := fun c => by simp only [z0n, z07, z85, z1i, z99]; rfl
 unfold eqK
 rw [if_pos ⟨h a, h b⟩]
 refine (eqU23 a.act b.act a.item b.item a.n b.n).trans ?_
 rw [idEq']
theorem find_C (c : Int × ByteArray) (l : List (Int × ByteArray)) : (c ∈ l -> ∃ n, z7r prog 176 (.agg [.int .i64 c.1, .str c.2]) (setC l) = some (some (n, .bool true))) /\ (c ∉ l -> z7r prog 176 (.agg [.int .i64 c.1, .str c.2]) (setC l) = some none) := by
 haveI : DecidableEq (Int × ByteArray) := fun a b => decidable_of_iff (a.1 = b.1 /\ a.2 = b.2) ⟨fun h => Prod.ext h.1 h.2, fun h => by subst h; exact ⟨rfl, rfl⟩⟩
 have h := zdu encC (fun a b => (eqK_C a b).trans (by congr 1; exact decide_eq_decide.2 Iff.rfl)) (fun _ => .bool true) c l
 refine ⟨fun hm => ?_, fun hm => ?_⟩
 ·rw [if_pos hm] at h; exact ⟨_, h⟩
 ·rw [if_neg hm] at h; exact h
theorem find_I (c : Idv) (l : List Idv) : z7r prog 23 (.agg [.int .i64 c.act, .int .i64 c.item, .int .i64 c.n]) (zu8 l) = some (if c ∈ l then some (l.idxOf c, .bool true) else none) := zdu z0n eqK_I (fun _ => .bool true) c l
theorem zy0 (l : List (Int × ByteArray)) (c : Int × ByteArray) : setC l ++ [(.agg [.int .i64 c.1, .str c.2], .bool true)] = setC (l ++ [c]) := by unfold setC; rw [List.map_append]; rfl
theorem zy1 (l : List Idv) (c : Idv) : zu8 l ++ [(.agg [.int .i64 c.act, .int .i64 c.item, .int .i64 c.n], .bool true)] = zu8 (l ++ [c]) := by unfold zu8; rw [List.map_append]; rfl
theorem zti {l : List Idv} {c : Idv} (hn : l.Nodup) (h : c ∈ l) : z7z (zu8 l) (l.idxOf c) (.bool true) = zu8 l := by
 unfold zu8
 rw [z7f z0n (fun _ => .bool true) c (.bool true) l hn h]
 refine List.map_congr_left fun a _ => ?_
 simp
namespace Tr
theorem zct : ∀ t : T, szB t = true -> ∀ x ∈ z0j t, szB x = true := by
 refine z5c fun t ih h x hx => ?_
 rw [z1n] at hx
 rcases List.mem_cons.1 hx with rfl | hx
 ·exact h
 ·obtain ⟨k, hk, hx⟩ := List.mem_flatMap.1 hx
  obtain ⟨_, _, _, _, _, _, h4⟩ := (z2i t).1 h
  exact ih k hk (h4 k hk) x hx
theorem allz_iff {l : List Idv} (hne : l ≠ []) : (l.all fun i => decide (i = Idv.zero)) = (decide (Idv.zero ∈ z3f l) && decide ((z3f l).length = 1)) := by
 obtain ⟨h1, h2, _, _⟩ := zib l
 rw [Bool.eq_iff_iff]
 simp only [List.all_eq_true, Bool.and_eq_true, decide_eq_true_eq]
 constructor
 ·intro h
  obtain ⟨x, hx⟩ := List.exists_mem_of_ne_nil l hne
  have hz : Idv.zero ∈ z3f l := by rw [<- h x hx]; exact (h2 x).2 hx
  refine ⟨hz, ?_⟩
  have ha : ∀ y ∈ z3f l, y = Idv.zero := fun y hy => h y ((h2 y).1 hy)
  generalize z3f l = o at h1 hz ha
  match o, h1, hz, ha with
  | [], _, hz, _ => cases hz
  | [a], _, _, _ => rfl
  | a :: b :: r, h1, _, ha =>
   have e1 := ha a (by simp)
   have e2 := ha b (by simp)
   rw [e1, e2] at h1
   simp at h1
 ·rintro ⟨hz, hl⟩ x hx
  have hm := (h2 x).2 hx
  generalize z3f l = o at hz hl hm
  match o, hl, hz, hm with
  | [a], _, hz, hm =>
   rw [List.mem_singleton] at hz hm
   rw [hm, <- hz]
theorem zy2 {p q : Prop} [Decidable p] [Decidable q] : (decide p == decide q) = decide (q ↔ p) := by
 by_cases hp : p <;> by_cases hq : q <;> simp [hp, hq]
def ownB (t : T) : Bool := (if t.kind = 0 then decide (t.label = z7u) && decide (t.head.length + t.words.length = 0) else decide (zo6 t.kind ≠ z7u) && (z4f t.label && (zij t.head && zij t.words)))
def zgl (t : T) : Bool := ownB t && ((t.kids.all fun k => z1o t.kind k.kind) && (decide ((t.kids.map z6p).Nodup) && decide (t.kids.length <= 64)))
end Tr
theorem pc_alone (t : T) (hs : szB t = true) : PC prog 171 [z0m t] (.bool (zgl t)) := by
  obtain ⟨h0, h1, g1, h2, g2, h3, h4⟩ := (z2i t).1 hs
  have k1 := zo7 t.kind
  have k2 := zcm t.label (by unfold maxLen; omega)
  have k3 := zw5 t.head h1 (fun w hw => by have := g1 w hw; unfold maxLen; omega)
  have k4 := zw5 t.words h2 (fun w hw => by have := g2 w hw; unfold maxLen; omega)
  refine z1g 1 (by simp only [pureD.pureL, z02, Bool.and_self]) rfl (z14 [] func171 rfl (by decide +kernel) rfl ?_)
  show awp _ _ (Code.seq _ _) _ _
  repeat' (first | refine zqj ?_ | ((first | refine zqh fun K J => ?_ | refine zqs (k1) ?_ | refine zqs (k2) ?_ | refine zqs (k3) ?_ | refine zqs (k4) ?_); (simp (disch := omega) only [go_sem, Nat.reduceBEq, ↓reduceIte, reduceCtorEq, Nat.reduceAdd, z13])) | ((refine zqd _ rfl (fun hc => ?_) (fun hc => ?_)) <;> (first | (cases hc; done) | ((try simp only [z0b] at hc); (try omega)))) | refine zqa ?_ | refine zqb ?_ | refine zqg ?_ | refine zqu (by simp only [go_sem]; rfl) rfl ?_ | (refine J _ ?_; clear J K) | (refine zqf (fun hb => ?_) (fun hb => ?_) <;> (have hb2 := hb; try simp only [z0b] at hb2) <;> ((first | have hb3 : (_ : Bool) = _ := hb2 | have hb3 := eq_false hb2 | have hb3 := eq_true hb2); (simp (disch := omega) only [go_sem, Nat.reduceBEq, ↓reduceIte, reduceCtorEq, Nat.reduceAdd, hb3, z0r]); clear hb hb3; (try omega))))
  all_goals first
    | (refine z03 ?_
       unfold zgl ownB
       have hemp : ByteArray.empty = z7u := rfl
       first
         | ((simp (disch := omega) only [decide_eq_false, Bool.false_and, Bool.and_false, if_true, if_false, *]); done)
         | (simp_all [z7u]; done)
         | (simp_all [z7u]; omega))
    | skip
  all_goals
    have hown : ownB t = true := by
      unfold ownB
      first
        | (simp_all [z7u]; done)
        | (have e1 : t.head = [] := List.eq_nil_of_length_eq_zero (by omega)
           have e2 : t.words = [] := List.eq_nil_of_length_eq_zero (by omega)
           simp_all [z7u])
    unfold zgl
    rw [hown, Bool.true_and]
    (refine z4m (fun U st => ∃ (i : _), U = t.kids.length - i /\ st.t 1 = .ptr 0 0 /\ st.t 3 = .mp 1 /\ st.t 47 = z13 t.kids /\ st.t 48 = .int .i64 t.kids.length /\ st.t 49 = .int .i64 i /\ st.H 0 = some (.box 27 (z0h t)) /\ st.H 1 = some (.map (setC ((t.kids.take i).map z6p))) /\ (i <= t.kids.length) /\ (2 <= st.nx) /\ ((t.kids.take i).all (fun k => z1o t.kind k.kind) = true) /\ (((t.kids.take i).map z6p).Nodup)) ?_ ?_); rotate_left; (rintro U st ⟨i, rfl, q1, q3, q47, q48, q49, qH0, qH1, qp0, qp1, qp2, qp3⟩); rotate_left
    · (refine ⟨_, 0, rfl, ?_⟩); (simp (disch := omega) only [go_sem, Nat.reduceBEq, Nat.reduceLeDiff, true_and, Int.natCast_zero, List.map_nil, z13, setC])
      try simp
    by_cases hi : i < t.kids.length
    · have hcc := z91 t.kind t.kids[i].kind
      by_cases hm : z6p t.kids[i] ∈ (t.kids.take i).map z6p
      · obtain ⟨n, hfd⟩ := (find_C (z6p t.kids[i]) ((t.kids.take i).map z6p)).1 hm
        have hno : ¬ (t.kids.map z6p).Nodup := fun hn => by
          obtain ⟨x, hx, he⟩ := List.mem_map.1 hm
          obtain ⟨j, hj, rfl⟩ := List.getElem_of_mem hx
          rw [List.length_take] at hj
          rw [List.getElem_take] at he
          exact zj7 (f := z6p) (j := j) (k := i) (by omega) hi he hn
        simp only [z6p] at hfd
        repeat' (first | refine zqj ?_ | ((first | refine zqh fun K J => ?_ | refine zqs (hcc) ?_); (simp (disch := omega) only [go_sem, Nat.reduceBEq, ↓reduceIte, reduceCtorEq, Nat.reduceAdd, Nat.reduceLeDiff, q1, q47, q48, q49, qH0, z13])) | ((refine zqd _ rfl (fun hc => ?_) (fun hc => ?_)) <;> (first | (cases hc; done) | ((try simp only [z0b] at hc); (try omega)))) | refine zqa ?_ | refine zqb ?_ | refine zqg ?_ | refine zqx ?_ | refine z6q ?_ | refine zqo ?_ | refine zqu (by simp only [go_sem]; rfl) rfl ?_ | (refine J _ ?_; clear J K) | (refine zqf (fun hb => ?_) (fun hb => ?_) <;> (have hb2 := hb; try simp only [z0b] at hb2) <;> ((have hb3 : (_ : Bool) = _ := hb2); (simp (disch := omega) only [go_sem, Nat.reduceBEq, ↓reduceIte, Nat.reduceAdd, Nat.reduceLeDiff, hb3, q3, qH1, hfd]); clear hb hb3; (try omega))))
        all_goals exact z03 (by rw [decide_eq_false hno, Bool.false_and, Bool.and_false])
      · have hfd := (find_C (z6p t.kids[i]) ((t.kids.take i).map z6p)).2 hm
        have hsn : setC ((t.kids.take i).map z6p) ++ [(.agg [.int .i64 t.kids[i].kind, .str t.kids[i].label], .bool true)] = setC ((t.kids.take i).map z6p ++ [z6p t.kids[i]]) := zy0 ((t.kids.take i).map z6p) (z6p t.kids[i])
        have htk : (t.kids.take (i + 1)).map z6p = (t.kids.take i).map z6p ++ [z6p t.kids[i]] := by rw [List.take_succ_eq_append_getElem hi, List.map_append]; rfl
        simp only [show z6p t.kids[i] = (t.kids[i].kind, t.kids[i].label) from rfl] at hfd
        repeat' (first | refine zqj ?_ | ((first | refine zqh fun K J => ?_ | refine zqr fun K J => ?_ | refine zqs (hcc) ?_); (simp (disch := omega) only [go_sem, Nat.reduceBEq, ↓reduceIte, reduceCtorEq, Nat.reduceAdd, Nat.reduceLeDiff, q1, q3, q47, q48, q49, qH0, qH1, z13, hfd])) | ((refine zqd _ rfl (fun hc => ?_) (fun hc => ?_)) <;> (first | (cases hc; done) | ((try simp only [z0b] at hc); (try omega)))) | refine zqa ?_ | refine zqb ?_ | refine zqg ?_ | refine zqv ?_ | refine zqx ?_ | refine zqy ?_ | refine z6q ?_ | refine zqo ?_ | refine zqu (by simp only [go_sem]; rfl) rfl ?_ | (refine J _ ?_; clear J K) | (refine zqf (fun hb => ?_) (fun hb => ?_) <;> (have hb2 := hb; try simp only [z0b] at hb2) <;> ((have hb3 : (_ : Bool) = _ := hb2); (simp (disch := omega) only [go_sem, Nat.reduceBEq, ↓reduceIte, Nat.reduceAdd, Nat.reduceLeDiff, hb3, q3, qH1, hfd]); clear hb hb3; (try omega))))
        · (refine Exists.intro _ (And.intro ?_ ⟨i + 1, rfl, ?_⟩)); rotate_left; (simp (disch := omega) only [go_sem, Nat.reduceBEq, Nat.reduceLeDiff, q1, q3, q47, q48, q49, qH0, qH1, true_and, Int.natCast_add, Int.natCast_one, hsn, htk]); rotate_left
          · omega
          · (repeat' (first | omega | refine And.intro ?_ ?_))
            · exact z6y hi qp2 (by assumption)
            rw [<- htk]
            exact zde hi qp3 (fun j hj e => hm (by rw [<- e]; exact List.mem_map.2 ⟨_, List.mem_iff_getElem.2 ⟨j, by rw [List.length_take]; omega, List.getElem_take⟩, rfl⟩))
        · exact z03 (by rw [zaa (f := fun k : T => z1o t.kind k.kind) (k := i) hi (by assumption), Bool.false_and])
    · repeat' (first | ((refine zqh fun K J => ?_); (simp (disch := omega) only [go_sem, Nat.reduceBEq, ↓reduceIte, reduceCtorEq, Nat.reduceAdd, q1, q48, q49, qH0, z13])) | ((refine zqd _ rfl (fun hc => ?_) (fun hc => ?_)) <;> (((try simp only [z0b] at hc); (try omega)))) | refine zqc ?_ | refine zqn ?_ | refine zqv ?_ | refine zqz ?_ | refine zqp ?_ | refine zqu (by simp only [go_sem]; rfl) rfl ?_ | (refine J _ ?_; clear J K))
      rw [List.take_of_length_le (by omega)] at qp3
      refine z03 ?_
      rw [z6z (by omega) qp2, decide_eq_true qp3, Bool.true_and, Bool.true_and]
      exact decide_eq_decide.2 (by omega)
theorem pc_ids (t : T) (hs : szB t = true) (hc : cntT t <= 1000000000) : PC prog 172 [z0m t] (.bool (zyv t)) := by
 have ha := zw2 t (zb8 t hs) (by omega)
 have hl := z2n t
 refine z1g 1 (by simp only [pureD.pureL, z02, Bool.and_self]) rfl (z14 [] func172 rfl (by decide +kernel) rfl ?_)
 show awp _ _ (Code.seq _ _) _ _
 repeat' (first | refine zqj ?_ | ((first | refine zqh fun K J => ?_ | refine zqs (ha) ?_); (simp (disch := omega) only [go_sem, Nat.reduceBEq, ↓reduceIte, Nat.reduceAdd, Nat.reduceLeDiff])) | refine zqa ?_ | (refine J _ ?_; clear J K))
 (refine z4m (fun U st => ∃ (i : _), U = (idsT t).length - i /\ st.t 1 = .ptr 0 0 /\ st.t 3 = z22 (idsT t) /\ st.t 4 = .mp 1 /\ st.t 11 = z22 (idsT t) /\ st.t 12 = .int .i64 (idsT t).length /\ st.t 13 = .int .i64 i /\ st.H 0 = some (.box 27 (z0h t)) /\ st.H 1 = some (.map (zu8 (z3f ((idsT t).take i)))) /\ (i <= (idsT t).length) /\ (2 <= st.nx)) ?_ ?_); rotate_left; (rintro U st ⟨i, rfl, q1, q3, q4, q11, q12, q13, qH0, qH1, qp0, qp1⟩); rotate_left
 ·(refine ⟨_, 0, rfl, ?_⟩); (simp (disch := omega) only [go_sem, Nat.reduceBEq, Nat.reduceLeDiff, true_and, and_true, and_self, Int.natCast_zero, z22, zu8])
  rfl
 obtain ⟨on1, on2, on3, on4⟩ := zib ((idsT t).take i)
 by_cases hi : i < (idsT t).length
 ·have hfd := find_I (idsT t)[i] (z3f ((idsT t).take i))
  have hot := zsv hi
  by_cases hm : (idsT t)[i] ∈ z3f ((idsT t).take i)
  ·rw [if_pos hm] at hfd hot
   have hsv := zti on1 hm
   repeat' (first | ((first | refine zqh fun K J => ?_ | refine zqr fun K J => ?_); (simp (disch := omega) only [go_sem, Nat.reduceBEq, ↓reduceIte, reduceCtorEq, Nat.reduceAdd, Nat.reduceLeDiff, q4, q11, q12, q13, qH1, z22, hfd, hsv])) | ((refine zqd _ rfl (fun hc => ?_) (fun hc => ?_)) <;> (((try simp only [z0b] at hc); (try omega)))) | refine zqa ?_ | refine zqb ?_ | refine zqv ?_ | refine zqy ?_ | (refine J _ ?_; clear J K))
   (refine Exists.intro _ (And.intro ?_ ⟨i + 1, rfl, ?_⟩)); rotate_left; (simp (disch := omega) only [go_sem, Nat.reduceBEq, Nat.reduceLeDiff, q1, q3, q4, q11, q12, q13, qH0, qH1, true_and, Int.natCast_add, Int.natCast_one, hot]); rotate_left
   ·omega
   ·omega
  ·rw [if_neg hm] at hfd hot
   have hsn := zy1 (z3f ((idsT t).take i)) (idsT t)[i]
   repeat' (first | ((first | refine zqh fun K J => ?_ | refine zqr fun K J => ?_); (simp (disch := omega) only [go_sem, Nat.reduceBEq, ↓reduceIte, reduceCtorEq, Nat.reduceAdd, Nat.reduceLeDiff, q4, q11, q12, q13, qH1, z22, hfd])) | ((refine zqd _ rfl (fun hc => ?_) (fun hc => ?_)) <;> (((try simp only [z0b] at hc); (try omega)))) | refine zqa ?_ | refine zqb ?_ | refine zqv ?_ | refine zqy ?_ | (refine J _ ?_; clear J K))
   (refine Exists.intro _ (And.intro ?_ ⟨i + 1, rfl, ?_⟩)); rotate_left; (simp (disch := omega) only [go_sem, Nat.reduceBEq, Nat.reduceLeDiff, q1, q3, q4, q11, q12, q13, qH0, qH1, true_and, Int.natCast_add, Int.natCast_one, hot, hsn]); rotate_left
   ·omega
   ·omega
 ·rw [List.take_of_length_le (by omega)] at qH1 on1 on2 on3 on4
  have hfd : z7r prog 23 (.agg [.int .i64 0, .int .i64 0, .int .i64 0]) (zu8 (z3f (idsT t))) = some (if Idv.zero ∈ z3f (idsT t) then some ((z3f (idsT t)).idxOf Idv.zero, .bool true) else none) := find_I Idv.zero (z3f (idsT t))
  have hsl : (zu8 (z3f (idsT t))).length = (z3f (idsT t)).length := by unfold zu8; simp
  have hne : idsT t ≠ [] := by rw [z1j]; simp
  have hz := allz_iff hne
  have hb : zyv t = ((idsT t).all (fun i => decide (i = Idv.zero)) || (decide ((t.id = Idv.zero) ↔ (t.kind = 0)) && decide ((idsT t).Nodup))) := rfl
  by_cases hm : Idv.zero ∈ z3f (idsT t)
  ·rw [if_pos hm] at hfd
   rw [decide_eq_true hm, Bool.true_and] at hz
   repeat' (first | ((first | refine zqh fun K J => ?_ | refine zqe (by decide +kernel) fun K J => ?_); (simp (disch := omega) only [go_sem, Nat.reduceBEq, ↓reduceIte, Nat.reduceAdd, q4, q12, q13, qH1, hfd, hsl])) | ((refine zqd _ rfl (fun hc => ?_) (fun hc => ?_)) <;> (((try simp only [z0b] at hc); (try omega)))) | refine zqc ?_ | refine zqn ?_ | refine zqv ?_ | refine zqz ?_ | refine zqp ?_ | refine zqu (by simp only [go_sem]; rfl) rfl ?_ | (refine J _ ?_; clear J K) | (refine zqf (fun hb => ?_) (fun hb => ?_) <;> (have hb2 := hb; try simp only [z0b] at hb2) <;> ((first | have hb3 := eq_false hb2 | have hb3 := eq_true hb2); (simp (disch := omega) only [go_sem, Nat.reduceBEq, ↓reduceIte, reduceCtorEq, Nat.reduceAdd, Nat.reduceLeDiff, hb3, q1, q3, q4, qH0, qH1, z22, hsl]); clear hb hb3; (try omega))))
   ·have hn : (idsT t).Nodup := on4.1 (by omega)
    refine z03 ?_
    rw [hb, hz, decide_eq_false (show ¬ (z3f (idsT t)).length = 1 by omega), decide_eq_true hn, Bool.false_or, Bool.and_true, <- zy2]
   ·have hn : ¬ (idsT t).Nodup := fun h => by have := on4.2 h; omega
    exact z03 (by rw [hb, hz, decide_eq_false (show ¬ (z3f (idsT t)).length = 1 by omega), decide_eq_false hn, Bool.false_or, Bool.and_false])
   ·exact z03 (by rw [hb, hz, decide_eq_true (by omega), Bool.true_or])
  ·rw [if_neg hm] at hfd
   rw [decide_eq_false hm, Bool.false_and] at hz
   repeat' (first | ((first | refine zqh fun K J => ?_ | refine zqe (by decide +kernel) fun K J => ?_); (simp (disch := omega) only [go_sem, Nat.reduceBEq, ↓reduceIte, Nat.reduceAdd, q3, q4, q12, q13, qH1, z22, hfd, hsl])) | ((refine zqd _ rfl (fun hc => ?_) (fun hc => ?_)) <;> (((try simp only [z0b] at hc); (try omega)))) | refine zqc ?_ | refine zqn ?_ | refine zqv ?_ | refine zqz ?_ | refine zqp ?_ | refine zqu (by simp only [go_sem]; rfl) rfl ?_ | (refine J _ ?_; clear J K) | (refine zqf (fun hb => ?_) (fun hb => ?_) <;> (have hb2 := hb; try simp only [z0b] at hb2) <;> ((first | have hb3 := eq_false hb2 | have hb3 := eq_true hb2); (simp (disch := omega) only [go_sem, Nat.reduceBEq, ↓reduceIte, reduceCtorEq, Nat.reduceAdd, Nat.reduceLeDiff, hb3, q1, qH0]); clear hb hb3; (try omega))))
   ·have hn : (idsT t).Nodup := on4.1 (by omega)
    refine z03 ?_
    rw [hb, hz, decide_eq_true hn, Bool.false_or, Bool.and_true, <- zy2]
   ·have hn : ¬ (idsT t).Nodup := fun h => by have := on4.2 h; omega
    exact z03 (by rw [hb, hz, decide_eq_false hn, Bool.false_or, Bool.and_false])
theorem zy3 (t : T) (hs : szB t = true) (hc : cntT t <= 1000000000) (hd : depT t <= 1000000000) : PC prog 125 [z0m t] (.bool ((z0j t).all zgl && (decide (depT t <= 8) && (decide (cntT t <= 1024) && zyv t)))) := by
 have h1 := pc_every (g := 171) (cap := []) zgl rfl t (zb8 t hs) (fun x hx => pc_alone x (zct t hs x hx))
 have h2 := zk4 t (zb8 t hs) hd
 have h3 := zje t (zb8 t hs) hc
 have h4 := pc_ids t hs hc
 refine z1g 1 (by simp only [pureD.pureL, z02, Bool.and_self]) rfl (z14 [] func125 rfl (by decide +kernel) rfl ?_)
 show awp _ _ (Code.seq _ _) _ _
 repeat' (first | ((first | refine zqh fun K J => ?_ | refine zqs (h1) ?_ | refine zqs (h2) ?_ | refine zqs (h3) ?_ | refine zqs (h4) ?_); (simp (disch := omega) only [go_sem, Nat.reduceBEq, ↓reduceIte, Nat.reduceAdd, Nat.reduceLeDiff])) | refine zqn ?_ | refine zqu (by simp only [go_sem]; rfl) rfl ?_ | (refine J _ ?_; clear J K) | (refine zqf (fun hb => ?_) (fun hb => ?_) <;> (have hb2 := hb; try simp only [z0b] at hb2) <;> ((first | have hb3 : (_ : Bool) = _ := hb2 | have hb3 := eq_false hb2 | have hb3 := eq_true hb2); (simp (disch := omega) only [go_sem, Nat.reduceBEq, ↓reduceIte, Nat.reduceAdd, Nat.reduceLeDiff, hb, hb3]); clear hb hb3; (try omega))))
 all_goals refine z03 ?_
 all_goals (simp (disch := omega) only [decide_eq_true, decide_eq_false, Bool.true_and, Bool.false_and, Bool.and_false, *])
namespace Tr
instance : DecidableEq ByteArray := inferInstance
def zmj : List (T -> Bool) -> List T -> Bool
 | [], [] => true
 | f :: fs, t :: ts => f t && zmj fs ts
 | _, _ => false
def zte (a : T) : T -> Bool := zhl (fun a l b => decide (a.id = b.id) && (decide (a.kind = b.kind) && (decide (a.label = b.label) && (decide (a.head = b.head) && (decide (a.words = b.words) && (decide (a.kids.length = b.kids.length) && zmj l b.kids)))))) a
theorem sameT_eq (a b : T) : zte a b = (decide (a.id = b.id) && (decide (a.kind = b.kind) && (decide (a.label = b.label) && (decide (a.head = b.head) && (decide (a.words = b.words) && (decide (a.kids.length = b.kids.length) && zmj (a.kids.map zte) b.kids)))))) := by
 unfold zte; rw [z4i]
theorem zmk : ∀ (l m : List T), (∀ k ∈ l, ∀ b, zte k b = true ↔ k = b) -> (zmj (l.map zte) m = true ↔ l = m)
 | [], [], _ => by simp [zmj]
 | [], _ :: _, _ => by simp [zmj]
 | _ :: _, [], _ => by simp [zmj]
 | a :: l, b :: m, h => by
  simp only [List.map_cons, zmj, Bool.and_eq_true, List.cons.injEq]
  rw [h a (by simp) b, zmk l m (fun k hk => h k (List.mem_cons_of_mem _ hk))]
theorem zxv : ∀ a b : T, zte a b = true ↔ a = b := by
 refine z5c fun a ih b => ?_
 rw [sameT_eq]
 simp only [Bool.and_eq_true, decide_eq_true_eq]
 rw [zmk a.kids b.kids ih]
 constructor
 ·rintro ⟨h1, h2, h3, h4, h5, _, h6⟩
  rw [<- T.eta a, <- T.eta b, h1, h2, h3, h4, h5, h6]
 ·rintro rfl; exact ⟨rfl, rfl, rfl, rfl, rfl, rfl, rfl⟩
instance : DecidableEq T := fun a b => decidable_of_iff _ (zxv a b)
end Tr
namespace Tr
theorem z4r {id : Idv} {t : T} (h : t.id = id) : z1t id t = [t] := by rw [za8, if_pos h]
theorem z4x {id : Idv} {t : T} {i : Nat} (h0 : ¬ t.id = id) (hi : i < t.kids.length) (h1 : ∀ j, (hj : j < i) -> (h : j < t.kids.length) -> z1t id t.kids[j] = []) (h2 : z1t id t.kids[i] ≠ []) : z1t id t = t :: z1t id t.kids[i] := by
 rw [za8, if_neg h0, zgn (z1t id) hi h1 h2]
theorem zcr {id : Idv} {t : T} {i : Nat} (h0 : ¬ t.id = id) (hi : t.kids.length <= i) (h1 : ∀ j, (hj : j < i) -> (h : j < t.kids.length) -> z1t id t.kids[j] = []) : z1t id t = [] := by
 rw [za8, if_neg h0, zgm (z1t id) h1 hi]
theorem zr5 {id : Idv} {t : T} (h : z1t id t ≠ []) : (z05 id t).2 = true := by unfold z05; rw [zcf _ h]
theorem z9a {id : Idv} {t : T} (h : z1t id t = []) : z05 id t = (T.zero, false) := by unfold z05; rw [h]; rfl
theorem zgj {id : Idv} {t : T} : (z05 id t).2 = false ↔ z1t id t = [] := by
 constructor
 ·intro h
  by_cases h2 : z1t id t = []
  ·exact h2
  ·rw [zr5 h2] at h; cases h
 ·intro h; rw [z9a h]
theorem z75 {id : Idv} {t : T} : (z05 id t).2 = true ↔ z1t id t ≠ [] := by
 rw [<- Bool.not_eq_false, zgj]
theorem z34 {id : Idv} {t : T} (h : t.id = id) : z05 id t = (t, true) := by unfold z05; rw [z4r h]; rfl
theorem z4d {id : Idv} {t k : T} (h : z1t id t = t :: z1t id k) (h2 : z1t id k ≠ []) : z05 id t = z05 id k := by
 unfold z05
 rw [h, List.getLast?_cons_of_ne_nil h2]
end Tr
theorem z5f (id : Idv) : ∀ t : T, szB t = true -> PC prog 18 [z0m t, z0n id] (.tup [z0m (z05 id t).1, .bool (z05 id t).2]) := by
 refine z5c fun t ih hs => ?_
 obtain ⟨h0, h1, g1, h2, g2, h3, h4⟩ := (z2i t).1 hs
 refine z1g 3 (by simp only [pureD.pureL, z02]; rfl) (by simp only [pureD, pureD.pureL, z02, Bool.and_self]) (z14 [3000023, 3000025, 3000026, 3000027, 5000028] func18 rfl (by decide +kernel) rfl ?_)
 show awp _ _ (Code.seq _ _) _ _
 rw [show Tryz.f18.results.toList = [.cell 4 27, .tmp 5] from rfl]
 repeat' (first | refine zqj ?_ | ((refine zqh fun K J => ?_); (simp (disch := omega) only [go_sem, Nat.reduceBEq, ↓reduceIte, reduceCtorEq, Nat.reduceAdd, Nat.reduceLeDiff])) | ((refine zqd _ rfl (fun hc => ?_) (fun hc => ?_)) <;> (((try simp only [z0b] at hc); (try omega)))) | refine zqa ?_ | refine zqb ?_ | refine zqg ?_ | refine zqu (by (simp (disch := omega) only [go_sem, Nat.reduceBEq, ↓reduceIte, Nat.reduceLeDiff]); rfl) rfl ?_ | (refine J _ ?_; clear J K))
 ·rw [z34 (by assumption)]
  exact z0a (by simp only [pureD, pureD.pureL, z04, Bool.and_self]) (Le.refl _)
 ·have hne : ¬ t.id = id := by assumption
  (refine z4m (fun U st => ∃ (i : _), U = t.kids.length - i /\ st.t 2 = .ptr 0 0 /\ st.t 3 = .ptr 1 0 /\ st.t 4 = .ptr 2 0 /\ st.t 6 = .int .i64 i /\ st.H 0 = some (.box 27 (z0h t)) /\ st.H 1 = some (.box 23 (z07 id)) /\ st.H 2 = some (.box 27 [.int .i64 0, .int .i64 0, .int .i64 0, .int .i64 0, .str ByteArray.empty, .nil, .nil, .nil]) /\ (i <= t.kids.length) /\ (3 <= st.nx) /\ (∀ j, (hj : j < i) -> (h : j < t.kids.length) -> z1t id t.kids[j] = [])) ?_ ?_); rotate_left; (rintro U st ⟨i, rfl, q2, q3, q4, q6, qH0, qH1, qH2, qp0, qp1, qp2⟩); rotate_left
  ·(refine ⟨_, 0, rfl, ?_⟩); (simp (disch := omega) only [go_sem, Nat.reduceBEq, Nat.reduceLeDiff, true_and, Int.natCast_zero, z07])
   (repeat' (omega))
  by_cases hi : i < t.kids.length
  ·have hin := ih t.kids[i] (List.getElem_mem hi) (h4 _ (List.getElem_mem hi))
   repeat' (first | refine zqj ?_ | ((first | refine zqh fun K J => ?_ | refine zqe (by decide +kernel) fun K J => ?_ | refine zqr fun K J => ?_ | refine zqt (hin) ?_); (simp (disch := omega) only [go_sem, Nat.reduceBEq, Nat.reduceEqDiff, ↓reduceIte, reduceCtorEq, Nat.reduceAdd, Nat.reduceLeDiff, q2, q3, q4, q6, qH0, qH1, qH2, z13, z07])) | ((first | refine zqd _ rfl (fun hc => ?_) (fun hc => ?_) | refine zqm _ rfl (fun hc => ?_) (fun hc => ?_)) <;> (((try simp only [z0b] at hc); (try omega)))) | refine zqa ?_ | refine zqb ?_ | refine zqk ?_ | refine zqn ?_ | refine zqv ?_ | refine zqx ?_ | refine zqy ?_ | refine z6q ?_ | refine zqo ?_ | refine zqu (by (simp (disch := omega) only [go_sem, Nat.reduceBEq, ↓reduceIte, Nat.reduceLeDiff, q4, qH2]); rfl) rfl ?_ | (refine J _ ?_; clear J K))
   ·have hf := z75.1 ‹(z05 id t.kids[i]).2 = true›
    rw [z4d (z4x hne hi qp2 hf) hf, ‹(z05 id t.kids[i]).2 = true›]
    exact z0a (by simp only [pureD, pureD.pureL, z04, Bool.and_self]) (Le.refl _)
   ·have hf := zgj.1 ‹(z05 id t.kids[i]).2 = false›
    (refine Exists.intro _ (And.intro ?_ ⟨i + 1, rfl, ?_⟩)); rotate_left; (simp (disch := omega) only [go_sem, Nat.reduceBEq, Nat.reduceLeDiff, q2, q3, q4, q6, qH0, qH1, qH2, true_and, Int.natCast_add, Int.natCast_one, z07]); rotate_left
    ·omega
    ·refine ⟨by omega, by omega, fun j hj h => ?_⟩
     by_cases e : j = i
     ·subst e; exact hf
     ·exact qp2 j (by omega) h
  ·repeat' (first | refine zqj ?_ | ((refine zqh fun K J => ?_); (simp (disch := omega) only [go_sem, Nat.reduceBEq, ↓reduceIte, reduceCtorEq, Nat.reduceAdd, Nat.reduceLeDiff, q2, q4, q6, qH0, qH2, z13])) | ((refine zqd _ rfl (fun hc => ?_) (fun hc => ?_)) <;> (((try simp only [z0b] at hc); (try omega)))) | refine zqc ?_ | refine zqn ?_ | refine zqv ?_ | refine zqz ?_ | refine zqp ?_ | refine zqu (by (simp (disch := omega) only [go_sem, Nat.reduceBEq, ↓reduceIte, Nat.reduceAdd, Nat.reduceLeDiff, q4, qH2]); rfl) rfl ?_ | (refine J _ ?_; clear J K))
   rw [z9a (zcr hne (by omega) qp2)]
   exact z0a (by simp only [pureD, pureD.pureL, Bool.and_self]) (Le.tup ⟨z12, Le.refl _, trivial⟩)
namespace Tr
theorem zin {id : Idv} {t : T} (h : (z1t id t).length < 2) : z4w id t = (Idv.zero, -1, false) := by unfold z4w; exact dif_pos h
theorem z7i {id : Idv} {t : T} (h : t.id = id) : z4w id t = (Idv.zero, -1, false) := zin (by rw [z4r h]; simp)
theorem zxw {id : Idv} {t : T} (h : z1t id t = []) : z4w id t = (Idv.zero, -1, false) := zin (by rw [h]; simp)
theorem zgk {id : Idv} {t : T} {i : Nat} (h0 : ¬ t.id = id) (hi : i < t.kids.length) (h1 : ∀ j, (hj : j < i) -> (h : j < t.kids.length) -> z1t id t.kids[j] = []) (h2 : t.kids[i].id = id) : z4w id t = (t.id, (i : Int), true) := by
 have hw := z4r h2
 have hw2 := z4x h0 hi h1 (by rw [hw]; simp)
 rw [hw] at hw2
 have hn : z2v (fun k => !(z1t id k).isEmpty) t.kids = i := z39 (by omega) (fun j hj => by rw [h1 j hj (by omega)]; rfl) (fun h => by rw [hw]; rfl)
 unfold z4w
 simp only [hw2, List.length_cons, List.length_nil]
 rw [dif_neg (by omega)]
 simp only [show 0 + 1 + 1 - 2 = 0 from rfl, List.getElem_cons_zero, hn, hi, if_true]
theorem zok {id : Idv} {t : T} {i : Nat} (h0 : ¬ t.id = id) (hi : i < t.kids.length) (h1 : ∀ j, (hj : j < i) -> (h : j < t.kids.length) -> z1t id t.kids[j] = []) (h2 : ¬ t.kids[i].id = id) (h3 : z1t id t.kids[i] ≠ []) : z4w id t = z4w id t.kids[i] := by
 have hw2 := z4x h0 hi h1 h3
 have hl : 2 <= (z1t id t.kids[i]).length := by
  rw [za8, if_neg h2] at h3 ⊢
  split
  ·rename_i w hw
   have := List.find?_some hw
   cases w with
   | nil => simp at this
   | cons a w => simp
  ·rename_i hw; rw [hw] at h3; exact (h3 rfl).elim
 unfold z4w
 simp only [hw2, List.length_cons]
 rw [dif_neg (by omega), dif_neg (by omega)]
 have e : (z1t id t.kids[i]).length + 1 - 2 = (z1t id t.kids[i]).length - 2 + 1 := by omega
 simp only [e, List.getElem_cons_succ]
theorem z8k {id : Idv} {t : T} (h : t.id = id) : z20 id t = [] := by unfold z20; rw [z4r h]; rfl
theorem zxx {id : Idv} {t : T} (h : z1t id t = []) : z20 id t = [] := by unfold z20; rw [h]; rfl
theorem zfc {id : Idv} {t : T} {i : Nat} (h0 : ¬ t.id = id) (hi : i < t.kids.length) (h1 : ∀ j, (hj : j < i) -> (h : j < t.kids.length) -> z1t id t.kids[j] = []) (h3 : z1t id t.kids[i] ≠ []) : z20 id t = z20 id t.kids[i] ++ [t.id] := by
 unfold z20
 rw [z4x h0 hi h1 h3, List.dropLast_cons_of_ne_nil h3, List.map_cons, List.reverse_cons]
end Tr
theorem ztf (id : Idv) : ∀ t : T, szB t = true -> PC prog 162 [z0m t, z0n id] (.tup [z0n (z4w id t).1, .int .i64 (z4w id t).2.1, .bool (z4w id t).2.2]) := by
 refine z5c fun t ih hs => ?_
 obtain ⟨h0, h1, g1, h2, g2, h3, h4⟩ := (z2i t).1 hs
 refine z1g 3 (by simp only [pureD.pureL, z02]; rfl) rfl (z14 [3000035, 3000037, 3000038, 3000039, 5000040] func162 rfl (by decide +kernel) rfl ?_)
 show awp _ _ (Code.seq _ _) _ _
 rw [show Tryz.f162.results.toList = [.cell 4 23, .tmp 5, .tmp 6] from rfl]
 repeat' (first | refine zqj ?_ | ((refine zqh fun K J => ?_); (simp (disch := omega) only [go_sem, Nat.reduceBEq, ↓reduceIte, reduceCtorEq, Nat.reduceAdd, Nat.reduceLeDiff])) | ((refine zqd _ rfl (fun hc => ?_) (fun hc => ?_)) <;> (((try simp only [z0b] at hc); (try omega)))) | refine zqa ?_ | refine zqb ?_ | refine zqg ?_ | refine zqu (by (simp (disch := omega) only [go_sem, Nat.reduceBEq, ↓reduceIte, Nat.reduceAdd, Nat.reduceLeDiff]); rfl) rfl ?_ | (refine J _ ?_; clear J K))
 ·rw [z7i (by assumption)]
  exact z0a rfl (Le.refl _)
 ·have hne : ¬ t.id = id := by assumption
  (refine z4m (fun U st => ∃ (i : _), U = t.kids.length - i /\ st.t 2 = .ptr 0 0 /\ st.t 3 = .ptr 1 0 /\ st.t 4 = .ptr 2 0 /\ st.t 7 = .int .i64 i /\ st.H 0 = some (.box 27 (z0h t)) /\ st.H 1 = some (.box 23 (z07 id)) /\ st.H 2 = some (.box 23 (z07 Idv.zero)) /\ (i <= t.kids.length) /\ (3 <= st.nx) /\ (∀ j, (hj : j < i) -> (h : j < t.kids.length) -> z1t id t.kids[j] = [])) ?_ ?_); rotate_left; (rintro U st ⟨i, rfl, q2, q3, q4, q7, qH0, qH1, qH2, qp0, qp1, qp2⟩); rotate_left
  ·(refine ⟨_, 0, rfl, ?_⟩); (simp (disch := omega) only [go_sem, Nat.reduceBEq, Nat.reduceLeDiff, true_and, Int.natCast_zero, z07, Idv.zero])
   (repeat' (omega))
   all_goals intro j hj; omega
  by_cases hi : i < t.kids.length
  ·have hin := ih t.kids[i] (List.getElem_mem hi) (h4 _ (List.getElem_mem hi))
   have hfn := z5f id t.kids[i] (h4 _ (List.getElem_mem hi))
   repeat' (first | refine zqj ?_ | ((first | refine zqh fun K J => ?_ | refine zqe (by decide +kernel) fun K J => ?_ | refine zqr fun K J => ?_ | refine zqt (hfn) ?_ | refine zqt (hin) ?_); (simp (disch := omega) only [go_sem, Nat.reduceBEq, Nat.reduceEqDiff, ↓reduceIte, reduceCtorEq, Nat.reduceAdd, Nat.reduceLeDiff, q2, q3, q4, q7, qH0, qH1, qH2, z13, z07, Idv.zero])) | ((first | refine zqd _ rfl (fun hc => ?_) (fun hc => ?_) | refine zqm _ rfl (fun hc => ?_) (fun hc => ?_)) <;> (((try simp only [z0b] at hc); (try omega)))) | refine zqa ?_ | refine zqb ?_ | refine zqg ?_ | refine zqk ?_ | refine zqn ?_ | refine zqv ?_ | refine zqx ?_ | refine zqy ?_ | refine z6q ?_ | refine zqo ?_ | refine zqu (by (simp (disch := omega) only [go_sem, Nat.reduceBEq, ↓reduceIte, Nat.reduceAdd, Nat.reduceLeDiff, q4, qH2, z07, Idv.zero]); rfl) rfl ?_ | (refine J _ ?_; clear J K))
   ·rw [zgk hne hi qp2 (by assumption)]
    exact z0a rfl (Le.refl _)
   ·rw [zok hne hi qp2 (by assumption) (z75.1 (by assumption))]
    exact z0a rfl (Le.refl _)
   ·have hf := zgj.1 ‹(z05 id t.kids[i]).2 = false›
    (refine Exists.intro _ (And.intro ?_ ⟨i + 1, rfl, ?_⟩)); rotate_left; (simp (disch := omega) only [go_sem, Nat.reduceBEq, Nat.reduceLeDiff, q2, q3, q4, q7, qH0, qH1, qH2, true_and, Int.natCast_add, Int.natCast_one, z07, Idv.zero]); rotate_left
    ·omega
    ·refine ⟨by omega, by omega, fun j hj h => ?_⟩
     by_cases e : j = i
     ·subst e; exact hf
     ·exact qp2 j (by omega) h
  ·repeat' (first | refine zqj ?_ | ((refine zqh fun K J => ?_); (simp (disch := omega) only [go_sem, Nat.reduceBEq, ↓reduceIte, reduceCtorEq, Nat.reduceAdd, Nat.reduceLeDiff, q2, q4, q7, qH0, qH2, z13, z07, Idv.zero])) | ((refine zqd _ rfl (fun hc => ?_) (fun hc => ?_)) <;> (((try simp only [z0b] at hc); (try omega)))) | refine zqc ?_ | refine zqn ?_ | refine zqv ?_ | refine zqz ?_ | refine zqp ?_ | refine zqu (by (simp (disch := omega) only [go_sem, Nat.reduceBEq, ↓reduceIte, Nat.reduceAdd, Nat.reduceLeDiff, q4, qH2, z07, Idv.zero]); rfl) rfl ?_ | (refine J _ ?_; clear J K))
   rw [zxw (zcr hne (by omega) qp2)]
   exact z0a rfl (Le.refl _)
theorem zr6 (id : Idv) : ∀ t : T, szB t = true -> depT t <= 1000000000 -> (z20 id t = [] -> PC prog 106 [z0m t, z0n id] .nil) /\
  (z20 id t ≠ [] -> OC prog 106 [z0m t, z0n id] [.row 23 (z20 id t).length ((z20 id t).flatMap z07)] (.osl 0 (z20 id t).length)) := by
 refine z5c fun t ih hs hd => ⟨fun ha => ?_, fun ha => ?_⟩
 ·obtain ⟨h0, h1, g1, h2, g2, h3, h4⟩ := (z2i t).1 hs
  refine z1g 3 (by simp only [pureD.pureL, z02]; rfl) rfl (z14 [3000021, 3000023, 3000024, 3000025, 5000026] func106 rfl (by decide +kernel) rfl ?_)
  show awp _ _ (Code.seq _ _) _ _
  repeat' (first | refine zqj ?_ | ((refine zqh fun K J => ?_); (simp (disch := omega) only [go_sem, Nat.reduceBEq, ↓reduceIte, reduceCtorEq, Nat.reduceAdd, Nat.reduceLeDiff])) | ((refine zqd _ rfl (fun hc => ?_) (fun hc => ?_)) <;> (((try simp only [z0b] at hc); (try omega)))) | refine zqa ?_ | refine zqb ?_ | refine zqg ?_ | refine zqu (by simp only [go_sem]; rfl) rfl ?_ | (refine J _ ?_; clear J K))
  ·exact z0a rfl (Le.refl _)
  ·have hne : ¬ t.id = id := by assumption
   (refine z4m (fun U st => ∃ (i : _), U = t.kids.length - i /\ st.t 2 = .ptr 0 0 /\ st.t 3 = .ptr 1 0 /\ st.t 5 = .int .i64 i /\ st.H 0 = some (.box 27 (z0h t)) /\ st.H 1 = some (.box 23 (z07 id)) /\ (i <= t.kids.length) /\ (2 <= st.nx) /\ (∀ j, (hj : j < i) -> (h : j < t.kids.length) -> z1t id t.kids[j] = [])) ?_ ?_); rotate_left; (rintro U st ⟨i, rfl, q2, q3, q5, qH0, qH1, qp0, qp1, qp2⟩); rotate_left
   ·(refine ⟨_, 0, rfl, ?_⟩); (simp (disch := omega) only [go_sem, Nat.reduceBEq, Nat.reduceLeDiff, true_and, Int.natCast_zero, z07])
    (repeat' (omega))
    all_goals intro j hj; omega
   by_cases hi : i < t.kids.length
   ·have hno : z1t id t.kids[i] = [] := by
     by_cases e : z1t id t.kids[i] = []
     ·exact e
     ·rw [zfc hne hi qp2 e] at ha; simp at ha
    have hfn := z5f id t.kids[i] (h4 _ (List.getElem_mem hi))
    rw [z9a hno] at hfn
    repeat' (first | refine zqj ?_ | ((first | refine zqh fun K J => ?_ | refine zqe (by decide +kernel) fun K J => ?_ | refine zqr fun K J => ?_ | refine zqt (hfn) ?_); (simp (disch := omega) only [go_sem, Nat.reduceBEq, Nat.reduceEqDiff, ↓reduceIte, reduceCtorEq, Nat.reduceAdd, Nat.reduceLeDiff, q2, q3, q5, qH0, qH1, z13, z07])) | ((first | refine zqd _ rfl (fun hc => ?_) (fun hc => ?_) | refine zqm _ rfl (fun hc => ?_) (fun hc => ?_)) <;> (first | (cases hc; done) | ((try simp only [z0b] at hc); (try omega)))) | refine zqa ?_ | refine zqb ?_ | refine zqk ?_ | refine zqv ?_ | refine zqy ?_ | (refine J _ ?_; clear J K))
    (refine Exists.intro _ (And.intro ?_ ⟨i + 1, rfl, ?_⟩)); rotate_left; (simp (disch := omega) only [go_sem, Nat.reduceBEq, Nat.reduceLeDiff, q2, q3, q5, qH0, qH1, true_and, Int.natCast_add, Int.natCast_one, z07]); rotate_left
    ·omega
    ·refine ⟨by omega, by omega, fun j hj h => ?_⟩
     by_cases e : j = i
     ·subst e; exact hno
     ·exact qp2 j (by omega) h
   ·repeat' (first | refine zqj ?_ | ((refine zqh fun K J => ?_); (simp (disch := omega) only [go_sem, Nat.reduceBEq, ↓reduceIte, reduceCtorEq, Nat.reduceAdd, q2, q5, qH0, z13])) | ((refine zqd _ rfl (fun hc => ?_) (fun hc => ?_)) <;> (((try simp only [z0b] at hc); (try omega)))) | refine zqc ?_ | refine zqn ?_ | refine zqv ?_ | refine zqz ?_ | refine zqp ?_ | refine zqu (by simp only [go_sem]; rfl) rfl ?_ | (refine J _ ?_; clear J K))
    exact z0a rfl (Le.refl _)
 ·obtain ⟨h0, h1, g1, h2, g2, h3, h4⟩ := (z2i t).1 hs
  refine zjj (by simp only [pureD.pureL, z02]; rfl) rfl (fun o ho => by simp at ho; subst ho; exact z2d (fun _ => rfl) _) (z14 [3000021, 3000023, 3000024, 3000025, 5000026, 3000038, 4000036] func106 rfl (by decide +kernel) rfl ?_)
  show awp _ _ (Code.seq _ _) _ _
  repeat' (first | refine zqj ?_ | ((refine zqh fun K J => ?_); (simp (disch := omega) only [go_sem, Nat.reduceBEq, ↓reduceIte, reduceCtorEq, Nat.reduceAdd, Nat.reduceLeDiff])) | ((refine zqd _ rfl (fun hc => ?_) (fun hc => ?_)) <;> (((try simp only [z0b] at hc); (try omega)))) | refine zqa ?_ | refine zqb ?_ | refine zqg ?_ | refine zqu (by simp only [go_sem]; rfl) rfl ?_ | (refine J _ ?_; clear J K))
  ·exact (ha (z8k (by assumption))).elim
  ·have hne : ¬ t.id = id := by assumption
   (refine z4m (fun U st => ∃ (i : _), U = t.kids.length - i /\ st.t 2 = .ptr 0 0 /\ st.t 3 = .ptr 1 0 /\ st.t 5 = .int .i64 i /\ st.H 0 = some (.box 27 (z0h t)) /\ st.H 1 = some (.box 23 (z07 id)) /\ (i <= t.kids.length) /\ (2 <= st.nx) /\ (∀ j, (hj : j < i) -> (h : j < t.kids.length) -> z1t id t.kids[j] = [])) ?_ ?_); rotate_left; (rintro U st ⟨i, rfl, q2, q3, q5, qH0, qH1, qp0, qp1, qp2⟩); rotate_left
   ·(refine ⟨_, 0, rfl, ?_⟩); (simp (disch := omega) only [go_sem, Nat.reduceBEq, Nat.reduceLeDiff, true_and, Int.natCast_zero, z07])
    (repeat' (omega))
    all_goals intro j hj; omega
   by_cases hi : i < t.kids.length
   ·have hfn := z5f id t.kids[i] (h4 _ (List.getElem_mem hi))
    by_cases hno : z1t id t.kids[i] = []
    ·rw [z9a hno] at hfn
     repeat' (first | refine zqj ?_ | ((first | refine zqh fun K J => ?_ | refine zqe (by decide +kernel) fun K J => ?_ | refine zqr fun K J => ?_ | refine zqt (hfn) ?_); (simp (disch := omega) only [go_sem, Nat.reduceBEq, Nat.reduceEqDiff, ↓reduceIte, reduceCtorEq, Nat.reduceAdd, Nat.reduceLeDiff, q2, q3, q5, qH0, qH1, z13, z07])) | ((first | refine zqd _ rfl (fun hc => ?_) (fun hc => ?_) | refine zqm _ rfl (fun hc => ?_) (fun hc => ?_)) <;> (first | (cases hc; done) | ((try simp only [z0b] at hc); (try omega)))) | refine zqa ?_ | refine zqb ?_ | refine zqk ?_ | refine zqv ?_ | refine zqy ?_ | (refine J _ ?_; clear J K))
     (refine Exists.intro _ (And.intro ?_ ⟨i + 1, rfl, ?_⟩)); rotate_left; (simp (disch := omega) only [go_sem, Nat.reduceBEq, Nat.reduceLeDiff, q2, q3, q5, qH0, qH1, true_and, Int.natCast_add, Int.natCast_one, z07]); rotate_left
     ·omega
     ·refine ⟨by omega, by omega, fun j hj h => ?_⟩
      by_cases e : j = i
      ·subst e; exact hno
      ·exact qp2 j (by omega) h
    ·obtain ⟨hk1, hk2⟩ := ih t.kids[i] (List.getElem_mem hi) (h4 _ (List.getElem_mem hi)) (by have := z5g (List.getElem_mem hi); omega)
     have hf2 := zr5 hno
     have hak := zfc hne hi qp2 hno
     by_cases hka : z20 id t.kids[i] = []
     ·have hk1 := hk1 hka
      repeat' (first | refine zqj ?_ | ((first | refine zqh fun K J => ?_ | refine zqe (by decide +kernel) fun K J => ?_ | refine zqt (hfn) ?_ | refine zqt (hk1) ?_); (simp (disch := omega) only [go_sem, Nat.reduceBEq, Nat.reduceEqDiff, ↓reduceIte, reduceCtorEq, Nat.reduceAdd, Nat.reduceMul, Nat.reduceLeDiff, q2, q3, q5, qH0, qH1, z13, z07, hf2])) | ((first | refine zqd _ rfl (fun hc => ?_) (fun hc => ?_) | refine zqm _ rfl (fun hc => ?_) (fun hc => ?_)) <;> (first | (cases hc; done) | ((try simp only [z0b] at hc); (try omega)))) | refine zqa ?_ | refine zqb ?_ | refine zqn ?_ | refine zqx ?_ | refine z6q ?_ | refine zqo ?_ | refine zqu (by simp only [go_sem]; rfl) rfl ?_ | (refine J _ ?_; clear J K))
      refine ⟨fun _ => st.nx + 1, fun i j hi hj _ => by simp at hi hj; omega, ?_, fun j hj => ?_⟩
      ·(simp (disch := omega) only [go_sem, Nat.reduceBEq, hak, hka, List.length_cons, List.length_nil, renD])
      ·obtain rfl : j = 0 := by simp at hj; omega
       (simp (disch := omega) only [go_sem, hak, hka, z07, List.length_cons, List.length_nil, List.flatMap_cons, List.flatMap_nil, List.append_nil, List.nil_append])
       try rfl
     ·have hk2 := hk2 hka
      have hal : (z20 id t.kids[i]).length <= 1000000000 := by
       have h1 := zb0 id t.kids[i]
       have h2 := z5g (List.getElem_mem hi)
       have h3 : (z20 id t.kids[i]).length = (z1t id t.kids[i]).length - 1 := by unfold z20; simp
       omega
      repeat' (first | refine zqj ?_ | ((first | refine zqh fun K J => ?_ | refine zqe (by decide +kernel) fun K J => ?_ | refine zqt (hfn) ?_ | refine z94 (hk2) rfl rfl rfl ?_); (simp (disch := omega) only [go_sem, Nat.reduceBEq, Nat.reduceEqDiff, ↓reduceIte, reduceCtorEq, Nat.reduceAdd, Nat.reduceMul, Nat.reduceLeDiff, q2, q3, q5, qH0, qH1, z13, z07, hf2])) | ((first | refine zqd _ rfl (fun hc => ?_) (fun hc => ?_) | refine zqm _ rfl (fun hc => ?_) (fun hc => ?_)) <;> (first | (cases hc; done) | ((try simp only [z0b] at hc); (try omega)))) | refine zqa ?_ | refine zqb ?_ | refine zqn ?_ | refine zqx ?_ | refine z6q ?_ | refine zqo ?_ | refine zqu (by simp only [go_sem]; rfl) rfl ?_ | (refine J _ ?_; clear J K))
      refine ⟨fun _ => st.nx + 1, fun i j hi hj _ => by simp at hi hj; omega, ?_, fun j hj => ?_⟩
      ·(simp (disch := omega) only [go_sem, Nat.reduceBEq, hak, List.length_append, List.length_cons, List.length_nil, renD])
      ·obtain rfl : j = 0 := by simp at hj; omega
       (simp (disch := omega) only [go_sem, hak, z07, List.length_append, List.length_cons, List.length_nil, List.flatMap_append, List.flatMap_cons, List.flatMap_nil, List.append_nil])
       try rfl
   ·exact (ha (zxx (zcr hne (by omega) qp2))).elim
end
section
open Abs Facts Tr Go.RowKit
namespace Abs
theorem zfr : ∀ (vs a b : List D) (off : Nat), off + vs.length <= a.length -> z1z (a ++ b) off vs = z1z a off vs ++ b
 | [], a, b, off, _ => rfl
 | v :: vs, a, b, off, h => by
  simp only [List.length_cons] at h
  unfold z1z
  rw [List.set_append_left _ _ (by omega), zfr vs (a.set off v) b (off + 1) (by rw [List.length_set]; omega)]
theorem zfs : ∀ (vs a b : List D) (off : Nat), z1z (a ++ b) (a.length + off) vs = a ++ z1z b off vs
 | [], a, b, off => rfl
 | v :: vs, a, b, off => by
  unfold z1z
  rw [List.set_append_right _ _ (by omega), show a.length + off - a.length = off from by omega, Nat.add_assoc, zfs vs a (b.set off v) (off + 1)]
section
variable {α : Type} {f : α -> List D} {sz : Nat}
theorem z58 (h : ∀ x, (f x).length = sz) : ∀ l : List α, (l.flatMap f).length = l.length * sz
 | [] => by simp
 | x :: l => by rw [List.flatMap_cons, List.length_append, h, z58 h l, List.length_cons, Nat.add_mul]; omega
theorem zbv (h : ∀ x, (f x).length = sz) : ∀ (l : List α) (i : Nat), (l.flatMap f).drop (i * sz) = (l.drop i).flatMap f
 | l, 0 => by simp
 | [], i + 1 => by simp
 | x :: l, i + 1 => by
  rw [List.flatMap_cons, List.drop_succ_cons, <- zbv h l i, Nat.add_mul, Nat.one_mul, Nat.add_comm, <- List.drop_drop]
  congr 1
  rw [List.drop_append_of_le_length (by rw [h]; omega), List.drop_of_length_le (by rw [h]; omega), List.nil_append]
theorem zft (h : ∀ x, (f x).length = sz) {l : List α} {i : Nat} (hi : i < l.length) : ((l.flatMap f).drop (i * sz)).take sz = f l[i] := by
 rw [zbv h, List.drop_eq_getElem_cons hi, List.flatMap_cons, List.take_append_of_le_length (by rw [h]; omega), List.take_of_length_le (by rw [h]; omega)]
theorem zfu (h : ∀ x, (f x).length = sz) {y : α} {vs : List D} {o : Nat} : ∀ {l : List α} {i : Nat} (hi : i < l.length), o + vs.length <= sz -> z1z (f l[i]) o vs = f y -> z1z (l.flatMap f) (i * sz + o) vs = (l.set i y).flatMap f
 | x :: l, 0, _, ho, hs => by
  rw [Nat.zero_mul, Nat.zero_add, List.flatMap_cons, zfr _ _ _ _ (by rw [h]; exact ho), List.set_cons_zero, List.flatMap_cons]
  simp only [List.getElem_cons_zero] at hs
  rw [hs]
 | x :: l, i + 1, hi, ho, hs => by
  rw [List.flatMap_cons, show (i + 1) * sz + o = (f x).length + (i * sz + o) from by rw [h, Nat.add_mul]; omega, zfs, List.set_cons_succ, List.flatMap_cons]
  rw [zfu h (l := l) (i := i) (by simpa using hi) ho (by simpa using hs)]
theorem zs0 : ∀ (vs cs : List D), vs.length = cs.length -> z1z cs 0 vs = vs := by
 intro vs cs h
 rw [zaj vs cs 0 (by omega)]
 simp [<- h]
theorem ze5 (h : ∀ x, (f x).length = sz) {y : α} {l : List α} {i : Nat} (hi : i < l.length) : z1z (l.flatMap f) (i * sz) (f y) = (l.set i y).flatMap f := by
 have := zfu h (y := y) (vs := f y) (o := 0) hi (by rw [h]; omega) (zs0 _ _ (by rw [h, h]))
 simpa using this
end
variable {P : Program}
theorem z1y {α : Type} {P : Program} {H : HM} {id e sz n : Nat} {f : α -> List D} {l : List α} (k : Nat) (hn : l.length = n) (hH : H id = some (.row e n (l.flatMap f))) (ha : z0g P e = true) (hs : z09 P e = sz) (h : ∀ x, (f x).length = sz) (hp : ∀ x, pureD.pureL (f x) = true) :
  z2y P H (k + 2) (.osl id n) = some (.rsl false sz (l.map fun x => .agg (f x))) := by
 subst hn
 exact z2j k hH ha hs h hp
theorem zl4 {f : FuncId} {ds : List D} {H : HM} {nx : Nat} {K : D -> HM -> Nat -> Prop} (e : TypeId) (h : AC P f ds H nx fun r H' nx' => r = .nil /\ K (.osl nx' 0) (z0k H' nx' (some (.row e 0 []))) (nx' + 1)) : AC P f ds H nx K := by
 refine ⟨h.1, fun s w vs h1 h2 h3 h4 => (h.2 s w vs h1 h2 h3 h4).mono fun x w' ⟨v, r, s', he, ⟨hr, J⟩, hstep, hRH, hrel⟩ => ?_⟩
 subst hr
 simp only [rel] at hrel
 subst hrel
 obtain ⟨g1, g2⟩ := z7k hRH (Grew.refl w') (.row e 0 []) (.slice none 0 0) (fun b hb => by cases hb) ⟨[], ⟨by simp, .inl ⟨rfl, rfl⟩⟩, z15, by intro v hv; cases hv⟩
 refine ⟨.slice none 0 0, .osl s'.nx 0, s'.add (.slice none 0 0) (.row e 0 []), he, J, hstep.trans g1, g2, ?_⟩
 simp only [rel]
 refine ⟨Nat.lt_succ_self _, ⟨none, 0, rfl⟩, fun e' k cs hH => ?_⟩
 simp only [RS.add, z0k, if_true, Option.some.injEq, HObj.row.injEq] at hH
 obtain ⟨_, rfl, _⟩ := hH
 exact ⟨Nat.le_refl _, fun _ => by simp [RS.add]⟩
theorem z71 {st : St} {b off : Nat} {e : TypeId} {cs : List D} (e' : TypeId) (hb : st.H b = some (.box e cs)) (hoff : cs[off]? = some .nil) :
  SealTo P st { st with H := z0k (z0k st.H st.nx (some (.row e' 0 []))) b (some (.box e (cs.set off (.osl st.nx 0)))), nx := st.nx + 1 } := by
 intro N s a w hf
 have hHb : s.H b = some (.box e cs) := by rw [hf.H]; exact hb
 have hne : b ≠ s.nx := by have := (hf.heap.obj b _ hHb).1; omega
 obtain ⟨g1, g2⟩ := z7k hf.heap (Grew.refl w) (.row e' 0 []) (.slice none 0 0) (fun b hb => by cases hb) ⟨[], ⟨by simp, .inl ⟨rfl, rfl⟩⟩, z15, by intro v hv; cases hv⟩
 have hb2 : (s.add (.slice none 0 0) (.row e' 0 [])).H b = some (.box e cs) := by simp [RS.add, z0k, hne, hHb]
 obtain ⟨_, q2⟩ := g2.obj b _ hb2
 obtain ⟨g3, g4⟩ := z87 (w' := w) g2 b _ (.box e (cs.set off (.osl s.nx 0))) ((s.add (.slice none 0 0) (.row e' 0 [])).κ b) hb2 rfl rfl rfl (Nat.le_refl _) (fun _ _ _ => rfl) (.inr ⟨_, rfl, rfl⟩) (fun b hb => .inl hb) (fun hl => by
  obtain ⟨b', vs, u1, u2, u3, u4⟩ := q2
  refine ⟨b', vs, u1, u2, ?_, u4⟩
  have hlen := z0e u3
  refine z5h (by rw [List.length_set]; exact hlen) fun i d v hd hv => ?_
  rw [List.getElem?_set] at hd
  split at hd
  ·rename_i hio
   subst hio
   split at hd
   ·cases hd
    obtain ⟨v', hv', hr⟩ := z2t u3 _ _ hoff
    rw [hv'] at hv
    cases hv
    simp only [rel] at hr ⊢
    subst hr
    refine ⟨by simp [RS.set, RS.add], ⟨_, _, rfl⟩, fun e2 k cs hH => ⟨Nat.zero_le _, fun _ => ?_⟩⟩
    simp only [RS.set, RS.add]
    rw [if_neg (fun h => hne h.symm)]
    simp
   ·cases hd
  ·obtain ⟨v', hv', hr⟩ := z2t u3 _ _ hd
   rw [hv'] at hv
   cases hv
   exact rel.later hl _ _ hr)
 refine ⟨_, ⟨?_, ?_, hf.size, hf.defers, fun i => rel.later (g1.trans g3).later _ _ (hf.tmps i), g4⟩, g1.trans g3⟩
 ·simp only [RS.set, RS.add, hf.H, hf.nx]
 ·simp only [RS.set, RS.add, hf.nx]
theorem z36 {N id : Nat} {l : List Oper} {b : Code} {own : List Nat} {Q : Exit -> St -> Prop} {st : St} (_hid : (id == N) = false) (h : ∀ K : St -> Prop, (∀ st, awp P own b Q st -> K st) -> z2p P own (l.map (·.dst)) l K st) : awp P own (.seq (.region id l.toArray false) b) Q st := zqh h
theorem zbw {N id : Nat} {l : List Oper} {b : Code} {own : List Nat} {Q : Exit -> St -> Prop} {st : St} (_hid : (id == N) = false) (h0 : zi4 own l.toArray = true) (h : ∀ K : St -> Prop, (∀ st, awp P own b Q st -> K st) -> z3t P own (l.map (·.dst)) l K st) : awp P own (.seq (.region id l.toArray true) b) Q st := zqe h0 h
end Abs
end
section
open Abs Facts Tr
attribute [local irreducible] awp
namespace Tr
end Tr
namespace Tr
theorem zzy (k : Int) : (zo6 k ≠ z7u) ↔ (0 <= k /\ k <= 7) := by
 by_cases h : 0 <= k /\ k < 8
 ·have : zo6 k ≠ z7u := by
   rcases zw6 h with rfl | rfl | rfl | rfl | rfl | rfl | rfl | rfl <;> decide
  exact ⟨fun _ => by omega, fun _ => this⟩
 ·have : zo6 k = z7u := if_neg h
  exact ⟨fun h2 => absurd this h2, fun h2 => by omega⟩
theorem zv8 (t : T) : (ownB t && decide (t.kids.length <= 64)) = z3d t := by
 unfold ownB z3d
 by_cases h0 : t.kind = 0
 ·rw [if_pos h0, if_pos h0, decide_eq_true (show 0 <= t.kind /\ t.kind <= 7 by omega)]
  by_cases h1 : t.head.length = 0
  ·by_cases h2 : t.words.length = 0
   ·have e1 : zij t.head = true := by unfold zij; rw [List.eq_nil_of_length_eq_zero h1]; rfl
    have e2 : zij t.words = true := by unfold zij; rw [List.eq_nil_of_length_eq_zero h2]; rfl
    rw [e1, e2, decide_eq_true h1, decide_eq_true h2, decide_eq_true (show t.head.length + t.words.length = 0 by omega)]
    simp [Bool.and_comm]
   ·rw [decide_eq_false h2, decide_eq_false (show ¬ t.head.length + t.words.length = 0 by omega)]; simp
  ·rw [decide_eq_false h1, decide_eq_false (show ¬ t.head.length + t.words.length = 0 by omega)]; simp
 ·rw [if_neg h0, if_neg h0]
  have : decide (zo6 t.kind ≠ z7u) = decide (0 <= t.kind /\ t.kind <= 7) := decide_eq_decide.2 (zzy t.kind)
  rw [this]
  cases decide (0 <= t.kind /\ t.kind <= 7) <;> cases z4f t.label <;> cases zij t.head <;> cases zij t.words <;> cases decide (t.kids.length <= 64) <;> rfl
theorem zv9 (f : T -> Bool) (t : T) : (z0j t).all f = (f t && t.kids.all fun k => (z0j k).all f) := by
 rw [z1n, List.all_cons, List.all_flatMap]
theorem zhw {α : Type} {f g : α -> Bool} : ∀ {l : List α}, (∀ x ∈ l, f x = g x) -> l.all f = l.all g
 | [], _ => rfl
 | x :: l, h => by rw [List.all_cons, List.all_cons, h x (by simp), zhw fun y hy => h y (List.mem_cons_of_mem _ hy)]
theorem zno : ∀ t : T, (z0j t).all zgl = z3r t := by
 refine z5c fun t ih => ?_
 rw [zv9, zhw ih, z4n, <- zv8]
 unfold zgl
 cases ownB t <;> cases (t.kids.all fun k => z1o t.kind k.kind) <;> cases decide ((t.kids.map z6p).Nodup) <;> cases decide (t.kids.length <= 64) <;> cases t.kids.all z3r <;> rfl
end Tr
theorem zzz (t : T) (hs : szB t = true) (hc : cntT t <= 1000000000) (hd : depT t <= 1000000000) : PC prog 125 [z0m t] (.bool (z9i t)) := by
 have h := zy3 t hs hc hd
 rw [zno] at h
 exact h
def zot (l : List Wd) : HObj := .row 72 l.length (l.flatMap z4j)
theorem zyi (l : List Wd) (hl : l.length <= 1000000) (H : HM) (nx : Nat) : AC prog 88 [z0r l] H nx fun r H' nx' => r = .osl nx l.length /\ H' = z0k H nx (some (zot l)) /\ nx' = nx + 1 := by
 refine AC.split (pre := []) (post := []) (sz := 4) (els := l.map z7c) (fun he => ?_) ?_
 ·have hl0 : l = [] := by simpa using he
  subst hl0
  have hp : PC prog 88 [.nil] .nil := by
   refine z1g 2 rfl rfl (z14 [] func88 rfl (by decide +kernel) rfl ?_)
   show awp _ _ (Code.seq _ _) _ _
   repeat' (first | refine zqj ?_ | ((refine zqh fun K J => ?_); (simp (disch := omega) only [go_sem, Nat.reduceBEq, ↓reduceIte])) | ((refine zqd _ rfl (fun hc => ?_) (fun hc => ?_)) <;> (first | (cases hc; done) | ((try simp only [] at hc); (try omega)))) | refine zqg ?_ | refine zqu (by simp only [go_sem]; rfl) rfl ?_ | (refine J _ ?_; clear J K))
   exact z0a rfl (Le.refl _)
  exact zl4 72 (hp.ac ⟨rfl, rfl, rfl, rfl⟩)
 ·have ho : OC prog 88 [.rsl true 4 (l.map z7c)] [zot l] (.osl 0 l.length) := by
   refine zjj (by simp only [pureD.pureL, pureD, z0x (f := z7c) (fun _ => rfl) l, Bool.and_self]) rfl (fun o ho => by simp at ho; subst ho; exact z2d (fun _ => rfl) _) (z14 [5] func88 rfl (by decide +kernel) rfl ?_)
   show awp _ _ (Code.seq _ _) _ _
   repeat' (first | refine zqj ?_ | ((refine zqh fun K J => ?_); (simp (disch := omega) only [go_sem, Nat.reduceBEq, ↓reduceIte, reduceCtorEq, Nat.reduceAdd, Nat.reduceMul, z4p])) | ((refine zqd _ rfl (fun hc => ?_) (fun hc => ?_)) <;> (first | (cases hc; done) | ((try simp only [] at hc); (try omega)))) | refine zqb ?_ | refine zqn ?_ | refine zqu (by simp only [go_sem]; rfl) rfl ?_ | (refine J _ ?_; clear J K))
   refine ⟨fun _ => 0, fun i j hi hj _ => by simp at hi hj; omega, ?_, fun j hj => ?_⟩
   ·(simp (disch := omega) only [go_sem, Nat.reduceBEq, renD])
   ·obtain rfl : j = 0 := by simp at hj; omega
    (simp (disch := omega) only [go_sem, zot])
    try rfl
  exact ho.ac ⟨by simp [renD], rfl, rfl⟩
theorem zd0 (l : List Wd) (hl : l.length <= 1000000) : OC prog 88 [z0r l] [zot l] (.osl 0 l.length) :=
 ⟨by simp only [pureD.pureL, z0d, Bool.and_self], rfl, fun o ho => by simp at ho; subst ho; exact z2d (fun _ => rfl) _, fun H nx => (zyi l hl H nx).mono fun r H' nx' ⟨h1, h2, h3⟩ => ⟨by rw [h1]; rfl, h2, h3⟩⟩
def zmy (l : List T) : HObj := .row 27 l.length (l.flatMap z0h)
def zff (t : T) (a b c : Nat) : List D := [.int .i64 t.id.act, .int .i64 t.id.item, .int .i64 t.id.n, .int .i64 t.kind, .str t.label, .osl a t.head.length, .osl b t.words.length, .osl c t.kids.length]
namespace Tr
end Tr
def zeroC : List D := [.int .i64 0, .int .i64 0, .int .i64 0, .int .i64 0, .str ByteArray.empty, .nil, .nil, .nil]
namespace Abs
theorem zih : ∀ {ds es : List D}, LeL ds es -> ds.length = es.length
 | [], [], _ => rfl
 | [], _ :: _, h => h.elim
 | _ :: _, [], h => h.elim
 | _ :: ds, _ :: es, h => by simp only [List.length_cons]; rw [zih h.2]
theorem Le.rslL {nn : Bool} {sz : Nat} {els els' : List D} (h : LeL els els') : Le (.rsl nn sz els) (.rsl false sz els') := fun s v hr => by
 have hl := zih h
 simp only [rel] at hr ⊢
 rcases hr with ⟨_, he, hv⟩ | ⟨a, cap, vs, h1, h2, h3, h4, h5⟩
 ·subst he
  exact .inl ⟨trivial, List.eq_nil_of_length_eq_zero hl.symm, hv⟩
 ·exact .inr ⟨a, cap, vs, by rw [<- hl]; exact h1, by rw [<- hl]; exact h2, h3, z8g h h4, h5⟩
theorem PC.weaken {P : Program} {f : FuncId} {ds : List D} {r r2 : D} (h : PC P f ds r) (hle : Le r r2) (hr : pureD r2 = true) : PC P f ds r2 :=
 z1g 1 h.1 hr (h.2.2.mono fun _ _ _ e => by subst e; exact z0a h.2.1 hle)
end Abs
namespace Tr
theorem zii (deep most : Int) : ∀ (l : List T), (∀ k ∈ l, ∀ (d m : Int), 0 <= m -> 1 <= z4e k d m) -> ∀ n : Int, n <= z3x deep most (l.map z4e) n
 | [], _, n => by simp [z3x]
 | k :: l, h, n => by
  simp only [List.map_cons, z3x]
  split
  ·have h1 := h k (by simp) (deep + 1) (most - n) (by omega)
   have h2 := zii deep most l (fun q hq => h q (List.mem_cons_of_mem _ hq)) (n + z4e k (deep + 1) (most - n))
   omega
  ·omega
theorem zge (deep most : Int) : ∀ (l : List T), (∀ k ∈ l, ∀ (m : Int), 0 <= m -> z4e k (deep + 1) m <= m -> (cntT k : Int) = z4e k (deep + 1) m /\ deep + 1 + depT k <= 20) -> ∀ n : Int, z3x deep most (l.map z4e) n <= most ->
  ((l.flatMap z0j).length : Int) + n = z3x deep most (l.map z4e) n /\ ∀ k ∈ l, deep + 1 + depT k <= 20
 | [], _, n, _ => by simp [z3x]
 | k :: l, h, n, hn => by
  simp only [List.map_cons, z3x] at hn ⊢
  split at hn
  ·rename_i hle
   rw [if_pos hle]
   have hm := zii deep most l (fun q _ d m hm => (z7y q d m hm).1) (n + z4e k (deep + 1) (most - n))
   obtain ⟨h1, h2⟩ := h k (by simp) (most - n) (by omega) (by omega)
   obtain ⟨h3, h4⟩ := zge deep most l (fun q hq => h q (List.mem_cons_of_mem _ hq)) _ hn
   refine ⟨?_, fun q hq => ?_⟩
   ·rw [List.flatMap_cons, List.length_append]
    have : (z0j k).length = cntT k := rfl
    omega
   ·rcases List.mem_cons.1 hq with rfl | hq
    ·exact h2
    ·exact h4 q hq
  ·omega
theorem zt9 (l : List T) (d : Int) (b : Int) (hb : d <= b) (h : ∀ k ∈ l, d + 1 + depT k <= b) : ∀ a : Nat, d + a <= b -> d + ((l.map depT).foldl (fun d x => max d (1 + x)) a : Nat) <= b := by
 induction l with
 | nil => intro a ha; simpa using ha
 | cons k l ih =>
  intro a ha
  rw [List.map_cons, List.foldl_cons]
  have := h k (by simp)
  exact ih (fun q hq => h q (List.mem_cons_of_mem _ hq)) _ (by omega)
theorem zoi : ∀ t : T, ∀ (deep most : Int), 0 <= most -> z4e t deep most <= most -> (cntT t : Int) = z4e t deep most /\ deep + depT t <= 20 := by
 refine z5c fun t ih deep most hm h => ?_
 rw [zk6] at h ⊢
 split at h
 ·omega
 ·rename_i hd
  rw [if_neg hd]
  obtain ⟨h1, h2⟩ := zge deep most t.kids (fun k hk m hm h => ih k hk (deep + 1) m hm h) 1 h
  refine ⟨?_, ?_⟩
  ·rw [zdf]; omega
  ·rw [z5w]
   exact zt9 t.kids deep 20 (by omega) h2 0 (by omega)
theorem kids_cnt (t : T) : t.kids.length <= cntT t := by
 rw [zdf]
 have : ∀ l : List T, l.length <= (l.flatMap z0j).length := by
  intro l
  induction l with
  | nil => simp
  | cons k l ih =>
   rw [List.flatMap_cons, List.length_append, List.length_cons]
   have := znl k
   unfold cntT at this
   omega
 have := this t.kids
 omega
theorem zx8 (l : List Wd) : za9 l = true ↔ (∀ w ∈ l, w.text.size <= 100) /\ l.length <= 300 := by
 unfold za9
 simp only [Bool.and_eq_true, List.all_eq_true, decide_eq_true_eq]
theorem words_sz : ∀ t : T, zgo t = true -> cntT t <= 1000000 -> szB t = true := by
 refine z5c fun t ih h hc => ?_
 rw [zmo] at h
 simp only [Bool.and_eq_true, decide_eq_true_eq, List.all_eq_true, zx8] at h
 obtain ⟨h1, ⟨h2, h3⟩, ⟨h4, h5⟩, h6⟩ := h
 rw [z2i]
 have hk := kids_cnt t
 refine ⟨by omega, by omega, fun w hw => ?_, by omega, fun w hw => ?_, by omega, fun k hk => ih k hk (h6 k hk) ?_⟩
 ·have := h2 w hw; omega
 ·have := h4 w hw; omega
 ·have := znk hk; omega
theorem few_sz {t : T} {most : Int} (h0 : 0 <= most) (h1 : most <= 1000) (h : fewB t most = true) : szB t = true /\ (cntT t : Int) <= most /\ depT t <= 20 := by
 unfold fewB at h
 simp only [Bool.and_eq_true, decide_eq_true_eq] at h
 obtain ⟨g1, g2⟩ := zoi t 0 most h0 h.1
 exact ⟨words_sz t h.2 (by omega), by omega, by omega⟩
end Tr
theorem zjx (id : Idv) (t : T) (hs : szB t = true) (hd : depT t <= 1000000000) : PC prog 106 [z0m t, z0n id] (z22 (z20 id t)) := by
 obtain ⟨h1, h2⟩ := zr6 id t hs hd
 by_cases h : z20 id t = []
 ·have hp := h1 h
  rw [h]
  exact hp.weaken (Le.nil 3) rfl
 ·exact (h2 h).pc 2 (z4y _) (z2j 0 (by simp [zst, z0k]) z1i z99 (fun _ => rfl) (fun _ => rfl))
namespace Tr
theorem zo8 : szB T.zero = true := by decide +kernel
theorem z6k (id : Idv) (t : T) (hs : szB t = true) : szB (z05 id t).1 = true := by
 by_cases h : z1t id t = []
 ·rw [z9a h]; exact zo8
 ·unfold z05
  rw [zcf _ h]
  exact zct t hs _ (zdr id t _ (List.getElem_mem _))
theorem z4v (id : Idv) (t : T) : (z20 id t).length <= depT t := by
 have h1 := zb0 id t
 have h3 : (z20 id t).length = (z1t id t).length - 1 := by unfold z20; simp
 omega
end Tr
end
section
open Abs Facts Tr
namespace Tr
theorem z5l (id : Idv) : ∀ t : T, z1t id t = [] ↔ id ∉ idsT t := by
 refine z5c fun t ih => ?_
 rw [z1j, List.mem_cons, List.mem_flatMap]
 by_cases h0 : t.id = id
 ·rw [z4r h0]; simp [h0]
 ·rw [za8, if_neg h0]
  constructor
  ·intro h hm
   rcases hm with hm | ⟨k, hk, hm⟩
   ·exact h0 hm.symm
   ·have hne : z1t id k ≠ [] := fun e => (ih k hk).1 e hm
    split at h
    ·cases h
    ·rename_i hf
     have := List.find?_eq_none.1 hf (z1t id k) (List.mem_map.2 ⟨k, hk, rfl⟩)
     simp at this
     exact hne this
  ·intro hm
   have : (t.kids.map (z1t id)).find? (fun w => !w.isEmpty) = none := by
    rw [List.find?_eq_none]
    intro w hw
    obtain ⟨k, hk, rfl⟩ := List.mem_map.1 hw
    have := (ih k hk).2 fun h => hm (.inr ⟨k, hk, h⟩)
    rw [this]; simp
   rw [this]
theorem z5o {id : Idv} {t : T} : z1t id t ≠ [] ↔ id ∈ idsT t := by
 rw [ne_eq, z5l, Classical.not_not]
theorem zal {id : Idv} {t : T} (h0 : ¬ t.id = id) (h : z1t id t ≠ []) : ∃ i, ∃ hi : i < t.kids.length, (∀ j, (hj : j < i) -> (h : j < t.kids.length) -> z1t id t.kids[j] = []) /\ z1t id t.kids[i] ≠ [] /\ z1t id t = t :: z1t id t.kids[i] := by
 have hex : ∃ i, ∃ hi : i < t.kids.length, z1t id t.kids[i] ≠ [] := by
  rcases Classical.em (∃ i, ∃ hi : i < t.kids.length, z1t id t.kids[i] ≠ []) with h1 | h1
  ·exact h1
  ·exfalso
   refine h (zcr h0 (Nat.le_refl _) fun j _ hj => ?_)
   rcases Classical.em (z1t id t.kids[j] = []) with h2 | h2
   ·exact h2
   ·exact (h1 ⟨j, hj, h2⟩).elim
 let p : Nat -> Prop := fun i => ∃ hi : i < t.kids.length, z1t id t.kids[i] ≠ []
 obtain ⟨i, hi, hmin⟩ : ∃ i, p i /\ ∀ j, j < i -> ¬ p j := by
  obtain ⟨i, hi⟩ := hex
  induction i using Nat.strongRecOn with
  | ind i ih =>
   rcases Classical.em (∃ j, j < i /\ p j) with ⟨j, hj, hp⟩ | h2
   ·exact ih j hj hp
   ·exact ⟨i, hi, fun j hj hp => h2 ⟨j, hj, hp⟩⟩
 obtain ⟨hl, hw⟩ := hi
 have h1 : ∀ j, (hj : j < i) -> (h : j < t.kids.length) -> z1t id t.kids[j] = [] := fun j hj h => by
  rcases Classical.em (z1t id t.kids[j] = []) with h2 | h2
  ·exact h2
  ·exact (hmin j hj ⟨h, h2⟩).elim
 exact ⟨i, hl, h1, hw, z4x h0 hl h1 hw⟩
theorem zkc (id : Idv) : ∀ t : T, ∀ h : z1t id t ≠ [], ((z1t id t)[(z1t id t).length - 1]'(by have := List.length_pos_iff.2 h; omega)).id = id := by
 refine z5c fun t ih h => ?_
 by_cases h0 : t.id = id
 ·simp only [z4r h0, List.length_cons, List.length_nil, List.getElem_cons_zero]; exact h0
 ·obtain ⟨i, hi, _, hne, hw⟩ := zal h0 h
  have h2 := ih _ (List.getElem_mem hi) hne
  have hp := List.length_pos_iff.2 hne
  simp only [hw, List.length_cons]
  have e : (z1t id t.kids[i]).length + 1 - 1 = (z1t id t.kids[i]).length - 1 + 1 := by omega
  simp only [e, List.getElem_cons_succ]
  exact h2
theorem z5z {t : T} (h : (idsT t).Nodup) : (∀ k ∈ t.kids, t.id ∉ idsT k) /\ (∀ k ∈ t.kids, (idsT k).Nodup) /\ ∀ i j, (hi : i < t.kids.length) -> (hj : j < t.kids.length) -> i ≠ j -> ∀ x ∈ idsT t.kids[i], x ∉ idsT t.kids[j] := by
 rw [z1j, List.nodup_cons] at h
 obtain ⟨h1, h2⟩ := h
 refine ⟨fun k hk hm => h1 (List.mem_flatMap.2 ⟨k, hk, hm⟩), fun k hk => ?_, fun i j hi hj hij x hx hx2 => ?_⟩
 ·exact (List.pairwise_flatMap.1 h2).1 k hk
 ·have hp := (List.pairwise_flatMap.1 h2).2
  rw [List.pairwise_iff_getElem] at hp
  rcases Nat.lt_or_gt_of_ne hij with h3 | h3
  ·exact hp i j hi hj h3 x hx x hx2 rfl
  ·exact hp j i hj hi h3 x hx2 x hx rfl
end Tr
end
section
open Abs Facts Tr
namespace Tr
def T.setKids (t : T) (l : List T) : T := .mk t.id t.kind t.label t.head t.words l
theorem z7s (t : T) : t.setKids t.kids = t := T.eta t
inductive Ctx where
 | hole
 | node (t : T) (l : List T) (c : Ctx) (r : List T)
def z2f : Ctx -> T -> T
 | .hole, x => x
 | .node t l c r, x => t.setKids (l ++ z2f c x :: r)
def z79 : Ctx -> List Idv
 | .hole => []
 | .node t l c _ => t.id :: (l.flatMap idsT ++ z79 c)
def z3z : Ctx -> List Idv
 | .hole => []
 | .node _ _ c r => z3z c ++ r.flatMap idsT
def zz4 : Ctx -> Nat
 | .hole => 0
 | .node _ _ c _ => zz4 c + 1
def depC : Ctx -> Nat
 | .hole => 0
 | .node _ l c r => max (zei ((l ++ r).map depT)) (1 + depC c)
def zhu : Ctx -> List Idv
 | .hole => []
 | .node t _ c _ => zhu c ++ [t.id]
theorem zki : ∀ C, (zhu C).length = zz4 C
 | .hole => rfl
 | .node t l c r => by simp [zhu, zz4, zki c]
theorem z2m (x : T) : ∀ C, idsT (z2f C x) = z79 C ++ (idsT x ++ z3z C)
 | .hole => by simp [z2f, z79, z3z]
 | .node t l c r => by
  rw [z2f, z1j]
  show t.id :: (l ++ z2f c x :: r).flatMap idsT = _
  rw [List.flatMap_append, List.flatMap_cons, z2m x c, z79, z3z]
  simp only [List.cons_append, List.append_assoc]
theorem z62 (C : Ctx) (x : T) : cntT (z2f C x) = (z79 C).length + cntT x + (z3z C).length := by
 rw [<- z2n, z2m, List.length_append, List.length_append, z2n]; omega
theorem zkj (l : List Nat) : ∀ a : Nat, l.foldl (fun d x => max d (1 + x)) a = max a (zei l) := by
 unfold zei
 induction l with
 | nil => intro a; simp
 | cons y l ih =>
  intro a
  rw [List.foldl_cons, List.foldl_cons, ih, ih (max 0 (1 + y))]; omega
theorem z8o (l r : List Nat) : zei (l ++ r) = max (zei l) (zei r) := by
 conv => lhs; unfold zei
 rw [List.foldl_append, zkj r]; rfl
theorem zbq (a : Nat) (l : List Nat) : zei (a :: l) = max (1 + a) (zei l) := by
 conv => lhs; unfold zei
 rw [List.foldl_cons, zkj l]; omega
theorem z8p (x : T) : ∀ C, depT (z2f C x) = max (depC C) (zz4 C + depT x)
 | .hole => by simp [z2f, depC, zz4]
 | .node t l c r => by
  rw [z2f, z5w]
  show zei ((l ++ z2f c x :: r).map depT) = _
  rw [List.map_append, List.map_cons, z8o, zbq, z8p x c, depC, zz4, List.map_append, z8o]
  omega
def keyC : Ctx -> Int × ByteArray -> Int × ByteArray
 | .hole, k => k
 | .node t _ _ _, _ => z6p t
theorem zz5 (C : Ctx) (x : T) : z6p (z2f C x) = keyC C (z6p x) := by cases C <;> rfl
def ctxR : Ctx -> Int × ByteArray -> Prop
 | .hole, _ => True
 | .node t l c r, k => (z3d (t.setKids (l ++ t :: r)) = true /\ (∀ y ∈ l ++ r, z1o t.kind y.kind = true /\ z3r y = true) /\ z1o t.kind (keyC c k).1 = true /\ ((l ++ r).map z6p).Nodup /\ keyC c k ∉ (l ++ r).map z6p) /\ ctxR c k
theorem zrk (t : T) {l m : List T} (h : l.length = m.length) : z3d (t.setKids l) = z3d (t.setKids m) := by
 unfold z3d
 show (_ && (decide (l.length <= 64) && _)) = (_ && (decide (m.length <= 64) && _))
 rw [h]; rfl
theorem zua {α : Type} (l r : List α) (a : α) : (l ++ a :: r).Nodup ↔ (l ++ r).Nodup /\ a ∉ l ++ r := by
 rw [List.perm_middle.nodup_iff, List.nodup_cons]; exact And.comm
theorem zbr (t p : T) (l r : List T) : z3r (t.setKids (l ++ p :: r)) = true ↔
  (z3d (t.setKids (l ++ t :: r)) = true /\ (∀ y ∈ l ++ r, z1o t.kind y.kind = true /\ z3r y = true) /\ z1o t.kind p.kind = true /\ ((l ++ r).map z6p).Nodup /\ z6p p ∉ (l ++ r).map z6p) /\ z3r p = true := by
 have hk : ((l ++ p :: r).map z6p).Nodup ↔ ((l ++ r).map z6p).Nodup /\ z6p p ∉ (l ++ r).map z6p := by
  rw [List.map_append, List.map_cons, zua, List.map_append]
 rw [z4n]
 show (z3d (t.setKids (l ++ p :: r)) && (((l ++ p :: r).all fun k => z1o t.kind k.kind) && ((l ++ p :: r).all z3r && decide (((l ++ p :: r).map z6p).Nodup)))) = true ↔ _
 rw [zrk t (l := l ++ p :: r) (m := l ++ t :: r) (by simp)]
 simp only [Bool.and_eq_true, decide_eq_true_eq, List.all_eq_true, hk]
 constructor
 ·rintro ⟨h1, h2, h3, h4, h5⟩
  refine ⟨⟨h1, fun y hy => ?_, h2 p (by simp), h4, h5⟩, h3 p (by simp)⟩
  have : y ∈ l ++ p :: r := by
   rcases List.mem_append.1 hy with h | h
   ·exact List.mem_append_left _ h
   ·exact List.mem_append_right _ (List.mem_cons_of_mem _ h)
  exact ⟨h2 y this, h3 y this⟩
 ·rintro ⟨⟨h1, h2, h3, h4, h5⟩, h6⟩
  have hm : ∀ y ∈ l ++ p :: r, y = p \/ y ∈ l ++ r := fun y hy => by
   rcases List.mem_append.1 hy with h | h
   ·exact .inr (List.mem_append_left _ h)
   ·rcases List.mem_cons.1 h with h | h
    ·exact .inl h
    ·exact .inr (List.mem_append_right _ h)
  refine ⟨h1, fun y hy => ?_, fun y hy => ?_, h4, h5⟩
  ·rcases hm y hy with rfl | h
   ·exact h3
   ·exact (h2 y h).1
  ·rcases hm y hy with rfl | h
   ·exact h6
   ·exact (h2 y h).2
theorem z3c (x : T) : ∀ C, z3r (z2f C x) = true ↔ ctxR C (z6p x) /\ z3r x = true
 | .hole => by simp [z2f, ctxR]
 | .node t l c r => by
  rw [z2f, zbr, z3c x c, ctxR, <- zz5]
  exact (and_assoc).symm
theorem zdb {id : Idv} {l r : List T} {p : T} : id ∈ (l ++ p :: r).flatMap idsT ↔ id ∈ l.flatMap idsT \/ id ∈ idsT p \/ id ∈ r.flatMap idsT := by
 rw [List.flatMap_append, List.flatMap_cons, List.mem_append, List.mem_append]
theorem zkk (l r : List T) (p : T) : ∃ h : l.length < (l ++ p :: r).length, (l ++ p :: r)[l.length] = p := ⟨by simp, by simp⟩
theorem zaq {id : Idv} {l : List T} (h : id ∉ l.flatMap idsT) (p : T) (r : List T) : ∀ j, (hj : j < l.length) -> (hl : j < (l ++ p :: r).length) -> z1t id (l ++ p :: r)[j] = [] := fun j hj hl => by
 rw [List.getElem_append_left hj, z5l]
 exact fun hm => h (List.mem_flatMap.2 ⟨_, List.getElem_mem hj, hm⟩)
section
variable {id : Idv} {t p : T} {l r : List T}
theorem way_mid (h0 : ¬ t.id = id) (hl : id ∉ l.flatMap idsT) (hp : id ∈ idsT p) : z1t id (t.setKids (l ++ p :: r)) = t.setKids (l ++ p :: r) :: z1t id p := by
 obtain ⟨h1, h2⟩ := zkk l r p
 have := z4x (id := id) (t := t.setKids (l ++ p :: r)) (i := l.length) h0 h1 (zaq hl p r) (by
  show z1t id (l ++ p :: r)[l.length] ≠ []
  rw [h2]; exact z5o.2 hp)
 refine this.trans ?_
 show _ :: z1t id (l ++ p :: r)[l.length] = _
 rw [h2]
theorem zj1 (h0 : ¬ t.id = id) (hl : id ∉ l.flatMap idsT) (hp : id ∈ idsT p) : z05 id (t.setKids (l ++ p :: r)) = z05 id p :=
 z4d (way_mid h0 hl hp) (z5o.2 hp)
theorem zn7 (h0 : ¬ t.id = id) (hl : id ∉ l.flatMap idsT) (hp : id ∈ idsT p) : z20 id (t.setKids (l ++ p :: r)) = z20 id p ++ [t.id] := by
 obtain ⟨h1, h2⟩ := zkk l r p
 have := zfc (id := id) (t := t.setKids (l ++ p :: r)) (i := l.length) h0 h1 (zaq hl p r) (by
  show z1t id (l ++ p :: r)[l.length] ≠ []
  rw [h2]; exact z5o.2 hp)
 refine this.trans ?_
 show z20 id (l ++ p :: r)[l.length] ++ _ = _
 rw [h2]; rfl
theorem zp7 (h0 : ¬ t.id = id) (hl : id ∉ l.flatMap idsT) (hp : p.id = id) : z4w id (t.setKids (l ++ p :: r)) = (t.id, (l.length : Int), true) := by
 obtain ⟨h1, h2⟩ := zkk l r p
 exact zgk (id := id) (t := t.setKids (l ++ p :: r)) (i := l.length) h0 h1 (zaq hl p r) (by
  show (l ++ p :: r)[l.length].id = id
  rw [h2]; exact hp)
theorem par_mid (h0 : ¬ t.id = id) (hl : id ∉ l.flatMap idsT) (hp : ¬ p.id = id) (hm : id ∈ idsT p) : z4w id (t.setKids (l ++ p :: r)) = z4w id p := by
 obtain ⟨h1, h2⟩ := zkk l r p
 have := zok (id := id) (t := t.setKids (l ++ p :: r)) (i := l.length) h0 h1 (zaq hl p r) (by
  show ¬ (l ++ p :: r)[l.length].id = id
  rw [h2]; exact hp) (by
  show z1t id (l ++ p :: r)[l.length] ≠ []
  rw [h2]; exact z5o.2 hm)
 refine this.trans ?_
 show z4w id (l ++ p :: r)[l.length] = _
 rw [h2]
end
theorem z1q (x : T) : x.id ∈ idsT x := by rw [z1j]; exact List.mem_cons_self
theorem z56 {id : Idv} {t : T} {l r : List T} {c : Ctx} (h : id ∉ z79 (.node t l c r)) : ¬ t.id = id /\ id ∉ l.flatMap idsT /\ id ∉ z79 c := by
 rw [z79, List.mem_cons, List.mem_append] at h
 exact ⟨fun e => h (.inl e.symm), fun e => h (.inr (.inl e)), fun e => h (.inr (.inr e))⟩
theorem zkl {id : Idv} {t : T} {l r : List T} {c : Ctx} (h : id ∉ z3z (.node t l c r)) : id ∉ z3z c /\ id ∉ r.flatMap idsT := by
 rw [z3z, List.mem_append] at h
 exact ⟨fun e => h (.inl e), fun e => h (.inr e)⟩
theorem z8q {id : Idv} (C : Ctx) {x : T} (h : id ∈ idsT x) : id ∈ idsT (z2f C x) := by
 rw [z2m]; exact List.mem_append_right _ (List.mem_append_left _ h)
theorem z9q {id : Idv} {x : T} (hx : id ∈ idsT x) : ∀ C, id ∉ z79 C -> z05 id (z2f C x) = z05 id x
 | .hole, _ => rfl
 | .node t l c r, h => by
  obtain ⟨h1, h2, h3⟩ := z56 h
  rw [z2f, zj1 h1 h2 (z8q c hx), z9q hx c h3]
theorem zf2 {id : Idv} {x : T} (hx : id ∈ idsT x) : ∀ C, id ∉ z79 C -> z20 id (z2f C x) = z20 id x ++ zhu C
 | .hole, _ => by simp [z2f, zhu]
 | .node t l c r, h => by
  obtain ⟨h1, h2, h3⟩ := z56 h
  rw [z2f, zn7 h1 h2 (z8q c hx), zf2 hx c h3, zhu, List.append_assoc]
theorem zj2 {id : Idv} {x : T} (hx : id ∈ idsT x) (hn : ¬ x.id = id) : ∀ C, id ∉ z79 C -> z4w id (z2f C x) = z4w id x
 | .hole, _ => rfl
 | .node t l c r, h => by
  obtain ⟨h1, h2, h3⟩ := z56 h
  have h4 : ¬ (z2f c x).id = id := by
   cases c with
   | hole => exact hn
   | node t' l' c' r' => exact (z56 h3).1
  rw [z2f, par_mid h1 h2 h4 (z8q c hx), zj2 hx hn c h3]
theorem focus (id : Idv) : ∀ u : T, id ∈ idsT u -> ∃ C, u = z2f C (z05 id u).1 /\ (z05 id u).1.id = id /\ id ∉ z79 C /\ (z05 id u).2 = true := by
 refine z5c fun u ih hm => ?_
 by_cases h0 : u.id = id
 ·rw [z34 h0]
  exact ⟨.hole, rfl, h0, by simp [z79], rfl⟩
 ·obtain ⟨i, hi, h1, h2, h3⟩ := zal h0 (z5o.2 hm)
  rw [z4d h3 h2]
  obtain ⟨C, g1, g2, g3, g4⟩ := ih _ (List.getElem_mem hi) (z5o.1 h2)
  refine ⟨.node u (u.kids.take i) C (u.kids.drop (i + 1)), ?_, g2, ?_, g4⟩
  ·rw [z2f, <- g1, <- List.drop_eq_getElem_cons hi, List.take_append_drop, z7s]
  ·rw [z79, List.mem_cons, List.mem_append]
   rintro (h | h | h)
   ·exact h0 h.symm
   ·obtain ⟨k, hk, hki⟩ := List.mem_flatMap.1 h
    obtain ⟨j, hj, rfl⟩ := List.getElem_of_mem hk
    rw [List.getElem_take] at hki
    rw [List.length_take] at hj
    have := h1 j (by omega) (by omega)
    rw [z5l] at this
    exact this hki
   ·exact g3 h
theorem zfg {id : Idv} {u : T} (h : id ∉ idsT u) : z05 id u = (T.zero, false) := z9a ((z5l id u).2 h)
theorem z27 {id : Idv} {u : T} : (z05 id u).2 = decide (id ∈ idsT u) := by
 by_cases h : id ∈ idsT u
 ·obtain ⟨_, _, _, _, h4⟩ := focus id u h
  rw [h4, decide_eq_true h]
 ·rw [zfg h, decide_eq_false h]
theorem zkm {id : Idv} {u : T} (h0 : ¬ u.id = id) (hm : id ∈ idsT u) : ∃ (C : Ctx) (q : T) (l : List T) (x : T) (r : List T), u = z2f C (q.setKids (l ++ x :: r)) /\ x.id = id /\ ¬ q.id = id /\ id ∉ z79 C /\ id ∉ l.flatMap idsT /\ z05 id u = (x, true) /\ z4w id u = (q.id, (l.length : Int), true) := by
 obtain ⟨C, h1, h2, h3, h4⟩ := focus id u hm
 -- the last frame of C
 have last : ∀ C : Ctx, ∀ x : T, ¬ (z2f C x).id = id -> x.id = id -> id ∉ z79 C -> ∃ (C' : Ctx) (q : T) (l r : List T), z2f C x = z2f C' (q.setKids (l ++ x :: r)) /\ ¬ q.id = id /\ id ∉ z79 C' /\ id ∉ l.flatMap idsT := by
  intro C x
  induction C with
  | hole => intro h hx _; exact (h hx).elim
  | node t l c r ih =>
   intro h hx hn
   obtain ⟨n1, n2, n3⟩ := z56 hn
   by_cases hc : (z2f c x).id = id
   ·cases c with
    | hole => exact ⟨.hole, t, l, r, rfl, n1, by simp [z79], n2⟩
    | node t' l' c' r' => exact ((z56 n3).1 hc).elim
   ·obtain ⟨C', q, l', r', e, g1, g2, g3⟩ := ih hc hx n3
    refine ⟨.node t l C' r, q, l', r', ?_, g1, ?_, g3⟩
    ·rw [z2f, e, z2f]
    ·rw [z79, List.mem_cons, List.mem_append]
     rintro (h | h | h)
     ·exact n1 h.symm
     ·exact n2 h
     ·exact g2 h
 generalize hx : (z05 id u).1 = x at h1 h2
 obtain ⟨C', q, l, r, e, g1, g2, g3⟩ := last C x (by rw [<- h1]; exact h0) h2 h3
 refine ⟨C', q, l, x, r, h1.trans e, h2, g1, g2, g3, ?_, ?_⟩
 ·rw [<- hx, <- h4]
 ·rw [h1, e, zj2 (x := q.setKids (l ++ x :: r)) (by rw [z1j, List.mem_cons]; exact .inr (zdb.2 (.inr (.inl (h2 ▸ z1q x))))) g1 C' g2, zp7 g1 g3 h2]
end Tr
end
section
open Abs Facts Tr
namespace Tr
def z0p (id : Idv) (f : T -> T) (t : T) : T := zhl (fun t l => if t.id = id then f t else t.setKids l) t
theorem z4b (id : Idv) (f : T -> T) (t : T) : z0p id f t = if t.id = id then f t else t.setKids (t.kids.map (z0p id f)) := by
 unfold z0p; rw [z4i]
def atR (id : Idv) (f : T -> T) (t : T) : T × Bool := zhl (fun t l => if t.id = id then (f t, true) else
 match l[z2v (fun q : T × Bool => q.2) l]? with
 | some q => (t.setKids (t.kids.set (z2v (fun q : T × Bool => q.2) l) q.1), true)
 | none => (t, false)) t
theorem zv0 (id : Idv) (f : T -> T) (t : T) : atR id f t = if t.id = id then (f t, true) else
  match (t.kids.map (atR id f))[z2v (fun q : T × Bool => q.2) (t.kids.map (atR id f))]? with
  | some q => (t.setKids (t.kids.set (z2v (fun q : T × Bool => q.2) (t.kids.map (atR id f))) q.1), true)
  | none => (t, false) := by
 unfold atR; rw [z4i]
theorem zpi {id : Idv} {f : T -> T} {t : T} (h : t.id = id) : atR id f t = (f t, true) := by rw [zv0, if_pos h]
theorem zv1 {id : Idv} {f : T -> T} {t : T} {i : Nat} (h0 : ¬ t.id = id) (hi : i < t.kids.length) (h1 : ∀ j, (hj : j < i) -> (h : j < t.kids.length) -> (atR id f t.kids[j]).2 = false) (h2 : (atR id f t.kids[i]).2 = true) :
  atR id f t = (t.setKids (t.kids.set i (atR id f t.kids[i]).1), true) := by
 have hf : z2v (fun q : T × Bool => q.2) (t.kids.map (atR id f)) = i := z39 (by rw [List.length_map]; omega) (fun j hj => by rw [List.getElem_map]; exact h1 j hj (by omega)) (fun h => by rw [List.getElem_map]; exact h2)
 rw [zv0, if_neg h0, hf, List.getElem?_eq_getElem (by rw [List.length_map]; exact hi), List.getElem_map]
theorem zpj {id : Idv} {f : T -> T} {t : T} (h0 : ¬ t.id = id) (h1 : ∀ j, (h : j < t.kids.length) -> (atR id f t.kids[j]).2 = false) : atR id f t = (t, false) := by
 have hf : z2v (fun q : T × Bool => q.2) (t.kids.map (atR id f)) = t.kids.length := z39 (by rw [List.length_map]; omega) (fun j hj => by rw [List.getElem_map]; exact h1 j hj) (fun h => by rw [List.length_map] at h; omega)
 rw [zv0, if_neg h0, hf, List.getElem?_eq_none (by rw [List.length_map]; omega)]
theorem at_no {id : Idv} (f : T -> T) : ∀ t : T, id ∉ idsT t -> atR id f t = (t, false) := by
 refine z5c fun t ih h => ?_
 rw [z1j, List.mem_cons] at h
 refine zpj (fun e => h (.inl e.symm)) fun j hj => ?_
 rw [ih _ (List.getElem_mem hj) fun hm => h (.inr (List.mem_flatMap.2 ⟨_, List.getElem_mem hj, hm⟩))]
theorem znn {id : Idv} (f : T -> T) {q : T} (hq : q.id = id) : ∀ C, id ∉ z79 C -> atR id f (z2f C q) = (z2f C (f q), true)
 | .hole, _ => zpi hq
 | .node t l c r, h => by
  obtain ⟨h1, h2, h3⟩ := z56 h
  obtain ⟨k1, k2⟩ := zkk l r (z2f c q)
  have ih := znn f hq c h3
  have hk : (t.setKids (l ++ z2f c q :: r)).kids[l.length]'k1 = z2f c q := k2
  rw [z2f, zv1 (t := t.setKids (l ++ z2f c q :: r)) (i := l.length) h1 k1 (fun j hj hl' => by
   have hl : j < (l ++ z2f c q :: r).length := hl'
   show (atR id f ((l ++ z2f c q :: r)[j]'hl)).2 = false
   rw [List.getElem_append_left hj, at_no f _ fun hm => h2 (List.mem_flatMap.2 ⟨_, List.getElem_mem hj, hm⟩)]) (by rw [hk, ih]), hk, ih, z2f]
  show (t.setKids ((l ++ z2f c q :: r).set l.length (z2f c (f q))), true) = _
  rw [List.set_append_right _ _ (Nat.le_refl _), Nat.sub_self, List.set_cons_zero]
theorem edit_no {id : Idv} (f : T -> T) : ∀ t : T, id ∉ idsT t -> z0p id f t = t := by
 refine z5c fun t ih h => ?_
 rw [z1j, List.mem_cons] at h
 rw [z4b, if_neg fun e => h (.inl e.symm)]
 have : t.kids.map (z0p id f) = t.kids := by
  conv => rhs; rw [<- List.map_id t.kids]
  exact List.map_congr_left fun k hk => ih k hk fun hm => h (.inr (List.mem_flatMap.2 ⟨_, hk, hm⟩))
 rw [this, z7s]
theorem zpk {id : Idv} (f : T -> T) {l : List T} (h : id ∉ l.flatMap idsT) : l.map (z0p id f) = l := by
 conv => rhs; rw [<- List.map_id l]
 exact List.map_congr_left fun k hk => edit_no f k fun hm => h (List.mem_flatMap.2 ⟨_, hk, hm⟩)
theorem z57 {id : Idv} (f : T -> T) {q : T} (hq : q.id = id) : ∀ C, id ∉ z79 C -> id ∉ z3z C -> z0p id f (z2f C q) = z2f C (f q)
 | .hole, _, _ => by rw [z2f, z2f, z4b, if_pos hq]
 | .node t l c r, h, h' => by
  obtain ⟨h1, h2, h3⟩ := z56 h
  obtain ⟨h4, h5⟩ := zkl h'
  rw [z2f, z4b, if_neg (show ¬ (t.setKids _).id = id from h1), z2f]
  show t.setKids ((l ++ z2f c q :: r).map (z0p id f)) = _
  rw [List.map_append, List.map_cons, z57 f hq c h3 h4, zpk f h2, zpk f h5]
def z4g (id : Idv) (k : T) : Bool := decide (k.id ≠ id)
theorem zdh {id : Idv} {k : T} (h : ¬ k.id = id) : z4g id k = true := decide_eq_true h
theorem zv2 {id : Idv} {k : T} (h : k.id = id) : z4g id k = false := decide_eq_false fun g => g h
def z0i (id : Idv) (t : T) : T := zhl (fun t l => t.setKids (((t.kids.zip l).filter fun p => z4g id p.1).map (·.2))) t
theorem zdi (p : T -> Bool) (g : T -> T) : ∀ l : List T, ((l.zip (l.map g)).filter fun q => p q.1).map (·.2) = (l.filter p).map g
 | [] => rfl
 | x :: l => by
  rw [List.map_cons, List.zip_cons_cons, List.filter_cons, List.filter_cons]
  show (if p x = true then _ else _ : List (T × T)).map (·.2) = _
  split
  ·rw [List.map_cons, List.map_cons, zdi p g l]
  ·rw [zdi p g l]
theorem z4u (id : Idv) (t : T) : z0i id t = t.setKids ((t.kids.filter (z4g id)).map (z0i id)) := by
 conv => lhs; unfold z0i; rw [z4i]
 show t.setKids (((t.kids.zip (t.kids.map (z0i id))).filter fun p => z4g id p.1).map (·.2)) = _
 rw [zdi (z4g id) (z0i id)]
theorem zv3 {id : Idv} : ∀ t : T, (∀ k ∈ t.kids, id ∉ idsT k) -> z0i id t = t := by
 refine z5c fun t ih h => ?_
 rw [z4u]
 have h1 : t.kids.filter (z4g id) = t.kids := List.filter_eq_self.2 fun k hk => zdh fun e => h k hk (e ▸ z1q k)
 have h2 : t.kids.map (z0i id) = t.kids := by
  conv => rhs; rw [<- List.map_id t.kids]
  exact List.map_congr_left fun k hk => ih k hk fun k' hk' hm => h k hk (by rw [z1j]; exact List.mem_cons_of_mem _ (List.mem_flatMap.2 ⟨_, hk', hm⟩))
 rw [h1, h2, z7s]
theorem zf4 {id : Idv} {l : List T} (h : id ∉ l.flatMap idsT) : (l.filter (z4g id)).map (z0i id) = l := by
 have h1 : l.filter (z4g id) = l := List.filter_eq_self.2 fun k hk => zdh fun e => h (List.mem_flatMap.2 ⟨_, hk, e ▸ z1q k⟩)
 rw [h1]
 conv => rhs; rw [<- List.map_id l]
 refine List.map_congr_left fun k hk => zv3 k fun k' hk' hm => h (List.mem_flatMap.2 ⟨k, hk, ?_⟩)
 rw [z1j]; exact List.mem_cons_of_mem _ (List.mem_flatMap.2 ⟨_, hk', hm⟩)
theorem zv4 {id : Idv} {q x : T} {l r : List T} (hx : x.id = id) (hl : id ∉ l.flatMap idsT) (hr : id ∉ r.flatMap idsT) : z0i id (q.setKids (l ++ x :: r)) = q.setKids (l ++ r) := by
 rw [z4u]
 show q.setKids (((l ++ x :: r).filter (z4g id)).map (z0i id)) = _
 rw [List.filter_append, List.filter_cons, if_neg (by rw [zv2 hx]; simp), List.map_append, zf4 hl, zf4 hr]
theorem z9u {id : Idv} {q x : T} {l r : List T} (hq : ¬ q.id = id) (hx : x.id = id) (hl : id ∉ l.flatMap idsT) (hr : id ∉ r.flatMap idsT) : ∀ C, id ∉ z79 C -> id ∉ z3z C -> z0i id (z2f C (q.setKids (l ++ x :: r))) = z2f C (q.setKids (l ++ r))
 | .hole, _, _ => zv4 hx hl hr
 | .node t a c b, h, h' => by
  obtain ⟨h1, h2, h3⟩ := z56 h
  obtain ⟨h4, h5⟩ := zkl h'
  have hc : ¬ (z2f c (q.setKids (l ++ x :: r))).id = id := by
   cases c with
   | hole => exact hq
   | node t' l' c' r' => exact (z56 h3).1
  rw [z2f, z4u]
  show t.setKids (((a ++ z2f c (q.setKids (l ++ x :: r)) :: b).filter (z4g id)).map (z0i id)) = _
  rw [List.filter_append, List.filter_cons, if_pos (zdh hc), List.map_append, List.map_cons, zf4 h2, zf4 h5, z9u hq hx hl hr c h3 h4, z2f]
def z40 (i : Nat) (x : T) (p : T) : T := p.setKids (p.kids.take i ++ x :: p.kids.drop i)
def zzs (i : Nat) (p : T) : T := p.setKids (p.kids.eraseIdx i)
theorem zpl (q x : T) (l r : List T) : z40 l.length x (q.setKids (l ++ r)) = q.setKids (l ++ x :: r) := by
 unfold z40
 show q.setKids ((l ++ r).take l.length ++ x :: (l ++ r).drop l.length) = _
 rw [List.take_left, List.drop_left]
theorem zzt (q x : T) (l r : List T) : zzs l.length (q.setKids (l ++ x :: r)) = q.setKids (l ++ r) := by
 unfold zzs
 show q.setKids ((l ++ x :: r).eraseIdx l.length) = _
 rw [List.eraseIdx_append_of_length_le (Nat.le_refl _), Nat.sub_self, List.eraseIdx_cons_zero]
theorem z2z {C : Ctx} {x : T} (h : (idsT (z2f C x)).Nodup) {id : Idv} (hid : id ∈ idsT x) : id ∉ z79 C /\ id ∉ z3z C := by
 rw [z2m, List.nodup_append] at h
 obtain ⟨_, h2, h3⟩ := h
 rw [List.nodup_append] at h2
 exact ⟨fun hm => h3 id hm id (List.mem_append_left _ hid) rfl, fun hm => h2.2.2 id hid id hm rfl⟩
theorem z8c {C : Ctx} {x : T} (h : (idsT (z2f C x)).Nodup) : (idsT x).Nodup := by
 rw [z2m, List.nodup_append] at h
 exact (List.nodup_append.1 h.2.1).1
theorem z2l (t : T) (l : List T) : idsT (t.setKids l) = t.id :: l.flatMap idsT := z1j _
theorem zbu {q x : T} {l r : List T} (h : (idsT (q.setKids (l ++ x :: r))).Nodup) : (∀ i ∈ idsT x, i ≠ q.id /\ i ∉ l.flatMap idsT /\ i ∉ r.flatMap idsT) /\ (idsT x).Nodup /\ (idsT (q.setKids (l ++ r))).Nodup := by
 rw [z2l, List.flatMap_append, List.flatMap_cons] at h
 rw [z2l, List.flatMap_append]
 rw [List.nodup_cons, List.nodup_append, List.nodup_append] at h
 obtain ⟨h0, h1, ⟨h2, h3, h4⟩, h5⟩ := h
 refine ⟨fun i hi => ⟨fun e => h0 ?_, fun hm => h5 i hm i (List.mem_append_left _ hi) rfl, fun hm => h4 i hi i hm rfl⟩, h2, ?_⟩
 ·rw [<- e]; exact List.mem_append_right _ (List.mem_append_left _ hi)
 ·rw [List.nodup_cons, List.nodup_append]
  refine ⟨fun hm => h0 ?_, h1, h3, fun a ha b hb => h5 a ha b (List.mem_append_right _ hb)⟩
  rcases List.mem_append.1 hm with h | h
  ·exact List.mem_append_left _ h
  ·exact List.mem_append_right _ (List.mem_append_right _ h)
theorem zfn {id : Idv} (f : T -> T) {u : T} (hn : (idsT u).Nodup) (hm : id ∈ idsT u) : atR id f u = (z0p id f u, true) := by
 obtain ⟨C, h1, h2, h3, _⟩ := focus id u hm
 generalize (z05 id u).1 = x at h1 h2
 subst h1
 rw [znn f h2 C h3, z57 f h2 C h3 (z2z hn (h2 ▸ z1q x)).2]
theorem at_wipe {id : Idv} {u : T} (hn : (idsT u).Nodup) (h0 : ¬ u.id = id) (hm : id ∈ idsT u) : ∃ i : Nat, (z4w id u).2.1 = i /\ (z4w id u).2.2 = true /\ atR (z4w id u).1 (zzs i) u = (z0i id u, true) /\ (∃ q, z05 (z4w id u).1 u = (q, true) /\ i < q.kids.length /\ q ∈ z0j u) := by
 obtain ⟨C, q, l, x, r, e, hx, hq, n1, n2, hf, hp⟩ := zkm h0 hm
 rw [hp]
 refine ⟨l.length, rfl, rfl, ?_⟩
 subst e
 obtain ⟨m1, m2⟩ := z2z hn (id := q.id) (by rw [z2l]; exact List.mem_cons_self)
 have hxm : id ∈ idsT (q.setKids (l ++ x :: r)) := by rw [z2l]; exact List.mem_cons_of_mem _ (zdb.2 (.inr (.inl (hx ▸ z1q x))))
 obtain ⟨k1, k2⟩ := z2z hn hxm
 have ns := (zbu (z8c hn)).1 id (hx ▸ z1q x)
 refine ⟨?_, q.setKids (l ++ x :: r), ?_, by show _ < (l ++ x :: r).length; simp, ?_⟩
 ·show atR q.id (zzs l.length) _ = _
  rw [znn (id := q.id) (zzs l.length) (q := q.setKids (l ++ x :: r)) rfl C m1, zzt, z9u hq hx n2 ns.2.2 C k1 k2]
 ·rw [z9q (by rw [z2l]; exact List.mem_cons_self) C m1]; exact z34 rfl
 ·clear hf hp hn hm h0 n1 m1 m2 hxm k1 k2 ns
  induction C with
  | hole => exact z1r _
  | node t a c b ih => exact z2g (t := z2f (.node t a c b) _) (k := z2f c _) (by show _ ∈ a ++ _ :: b; simp) ih
end Tr
end
section
open Abs Facts Tr
attribute [local irreducible] awp
theorem zl0 (u : T) (hs : smB u = true) (hd : depT u <= 1000000000) (id : Idv) : PC prog 66 [z0m u, z0n id] (.bool (z05 id u).2) := by
 have h1 := z93 u hs hd id
 refine z1g 1 (by simp only [pureD.pureL, z02]; rfl) rfl (z14 [] func66 rfl (by decide +kernel) rfl ?_)
 show awp _ _ (Code.seq _ _) _ _
 repeat' (first | ((first | refine zqh fun K J => ?_ | refine zqs (h1) ?_); (simp (disch := omega) only [go_sem, Nat.reduceBEq, ↓reduceIte, Nat.reduceAdd, Nat.reduceLeDiff])) | refine zqn ?_ | refine zqu (by simp only [go_sem]; rfl) rfl ?_ | (refine J _ ?_; clear J K))
 first | exact z03 rfl | exact z1e rfl
theorem zpm (u : T) (hs : smB u = true) (hd : depT u <= 1000000000) (id : Idv) : PC prog 75 [z0m u, z0n id] (.int .i64 (z20 id u).length) := by
 have h1 := zlu u hs hd id
 refine z1g 1 (by simp only [pureD.pureL, z02]; rfl) rfl (z14 [] func75 rfl (by decide +kernel) rfl ?_)
 show awp _ _ (Code.seq _ _) _ _
 repeat' (first | ((first | refine zqh fun K J => ?_ | refine zqs (h1) ?_); (simp (disch := omega) only [go_sem, Nat.reduceBEq, ↓reduceIte, Nat.reduceAdd, Nat.reduceLeDiff])) | refine zqn ?_ | refine zqu (by (simp (disch := omega) only [go_sem, Nat.reduceBEq]); rfl) rfl ?_ | (refine J _ ?_; clear J K))
 first | exact z03 rfl | exact z1e rfl
namespace Tr
def z3b (l : List T) (kind : Int) (name : ByteArray) : Bool := l.any fun k => decide (k.kind = kind) && decide (k.label = name)
def standsT (u : T) : Bool := z9i u && !((if u.kind = 0 then (idsT u).drop 1 else idsT u).any fun x => decide (x = Idv.zero))
end Tr
theorem zv5 (k : T) (kind : Int) (name : ByteArray) : PC prog 133 [z0m k, .rptr (.int .i64 kind), .rptr (.str name)] (.bool (decide (k.kind = kind) && decide (k.label = name))) := by
 refine z1g 1 (by simp only [pureD.pureL, z02, pureD, Bool.and_self]) rfl (z14 [] func133 rfl (by decide +kernel) rfl ?_)
 show awp _ _ (Code.seq _ _) _ _
 repeat' (first | ((refine zqh fun K J => ?_); (simp (disch := omega) only [go_sem, Nat.reduceBEq, ↓reduceIte, reduceCtorEq, Nat.reduceAdd])) | refine zqn ?_ | refine zqu (by simp only [go_sem]; rfl) rfl ?_ | (refine J _ ?_; clear J K) | (refine zqf (fun hb => ?_) (fun hb => ?_) <;> (have hb2 := hb; try simp only [z0b] at hb2) <;> ((first | have hb3 := eq_false hb2 | have hb3 := eq_true hb2); (simp (disch := omega) only [go_sem, Nat.reduceBEq, ↓reduceIte, reduceCtorEq, Nat.reduceAdd, hb3]); clear hb hb3; (try omega))))
 all_goals exact z03 (by simp [hb2])
theorem zjc (l : List T) (hl : l.length <= 1000000) (kind : Int) (name : ByteArray) : PC prog 79 [z13 l, .int .i64 kind, .str name] (.bool (z3b l kind name)) := by
 have h1 := zey false l (by unfold maxLen; omega) (g := 133) (cap := [.rptr (.int .i64 kind), .rptr (.str name)]) (fun k => decide (k.kind = kind) && decide (k.label = name)) rfl (fun k _ => zv5 k kind name)
 refine z1g 1 (by simp only [pureD.pureL, z0t, pureD, Bool.and_self]) rfl (z14 [] func79 rfl (by decide +kernel) rfl ?_)
 show awp _ _ (Code.seq _ _) _ _
 repeat' (first | ((refine zqh fun K J => ?_); (simp (disch := omega) only [go_sem, Nat.reduceBEq, Nat.reduceAdd])) | (refine J _ ?_; clear J K))
 refine z1d (PC.borrow h1 rfl 4 (z00 (z08 3 (z0t _)) (z00 (zf8 3 rfl (z00 (z2c (e := 3) 2 ?_ z5u (z08 1 rfl)) (z00 (z2c (e := 9) 2 ?_ z98 (z08 1 rfl)) z0c))) z0c))) ?_
 ·(simp (disch := omega) only [go_sem, Nat.reduceBEq])
 ·(simp (disch := omega) only [go_sem, Nat.reduceBEq])
 (try (simp (disch := omega) only [go_sem, Nat.reduceBEq])); repeat' (first | refine zqn ?_ | refine zqu (by simp only [go_sem]; rfl) rfl ?_ | (refine J _ ?_; clear J K))
 exact z03 rfl
theorem zhv (x : Idv) : PC prog 124 [z0n x] (.bool (decide (x = Idv.zero))) := by
 refine z1g 1 rfl rfl (z14 [] func124 rfl (by decide +kernel) rfl ?_)
 show awp _ _ (Code.seq _ _) _ _
 repeat' (first | ((refine zqh fun K J => ?_); (simp (disch := omega) only [go_sem, Nat.reduceBEq, ↓reduceIte, Nat.reduceAdd, Nat.reduceLeDiff])) | refine zqn ?_ | refine zqu (by simp only [go_sem]; rfl) rfl ?_ | (refine J _ ?_; clear J K))
 exact z03 rfl
theorem z8d (u : T) (hs : szB u = true) (hc : cntT u <= 1000000000) (hd : depT u <= 1000000000) : PC prog 64 [z0m u] (.bool (standsT u)) := by
 have h1 := zw2 u (zb8 _ hs) (by omega)
 have h2 := zzz u hs hc hd
 have hln : (idsT u).length = cntT u := by unfold idsT cntT; rw [List.length_map]
 have hcp := znl u
 have c1 := z6l false (idsT u) (by unfold maxLen; omega) (g := 124) (cap := []) (fun x => decide (x = Idv.zero)) rfl (fun x _ => zhv x)
 have c2 := z6l false ((idsT u).drop 1) (by rw [List.length_drop]; unfold maxLen; omega) (g := 124) (cap := []) (fun x => decide (x = Idv.zero)) rfl (fun x _ => zhv x)
 have hdm : List.drop 1 ((idsT u).map z0n) = ((idsT u).drop 1).map z0n := by rw [List.map_drop]
 refine z1g 1 (by simp only [pureD.pureL, z02, Bool.and_self]) rfl (z14 [] func64 rfl (by decide +kernel) rfl ?_)
 show awp _ _ (Code.seq _ _) _ _
 by_cases hk : u.kind = 0
 ·rw [show standsT u = (z9i u && !(((idsT u).drop 1).any fun x => decide (x = Idv.zero))) from by unfold standsT; rw [if_pos hk]]
  repeat' (first | refine zqj ?_ | ((first | refine zqh fun K J => ?_ | refine zqs (h1) ?_ | refine zqs (h2) ?_ | refine zqs (c2) ?_); (simp (disch := omega) only [go_sem, Nat.reduceBEq, ↓reduceIte, reduceCtorEq, Nat.reduceAdd, Nat.reduceLeDiff, Int.reduceLE, z22, Int.toNat_one])) | ((refine zqd _ rfl (fun hc => ?_) (fun hc => ?_)) <;> (((try simp only [z0b] at hc); (try omega)))) | refine zqn ?_ | refine zqu (by simp only [go_sem]; rfl) rfl ?_ | (refine J _ ?_; clear J K) | (refine zqf (fun hb => ?_) (fun hb => ?_) <;> (have hb2 := hb; try simp only [z0b] at hb2) <;> ((have hb3 : (_ : Bool) = _ := hb2); (simp (disch := omega) only [go_sem, Nat.reduceBEq, ↓reduceIte, hb]); clear hb hb3; (try omega))))
  all_goals exact z03 (by rw [hb2]; rfl)
 ·rw [show standsT u = (z9i u && !((idsT u).any fun x => decide (x = Idv.zero))) from by unfold standsT; rw [if_neg hk]]
  repeat' (first | refine zqj ?_ | ((first | refine zqh fun K J => ?_ | refine zqs (h1) ?_ | refine zqs (h2) ?_ | refine zqs (c1) ?_); (simp (disch := omega) only [go_sem, Nat.reduceBEq, ↓reduceIte, reduceCtorEq, Nat.reduceAdd, Nat.reduceLeDiff, z22])) | ((refine zqd _ rfl (fun hc => ?_) (fun hc => ?_)) <;> (((try simp only [z0b] at hc); (try omega)))) | refine zqb ?_ | refine zqn ?_ | refine zqu (by simp only [go_sem]; rfl) rfl ?_ | (refine J _ ?_; clear J K) | (refine zqf (fun hb => ?_) (fun hb => ?_) <;> (have hb2 := hb; try simp only [z0b] at hb2) <;> ((have hb3 : (_ : Bool) = _ := hb2); (simp (disch := omega) only [go_sem, Nat.reduceBEq, ↓reduceIte, hb]); clear hb hb3; (try omega))))
  all_goals exact z03 (by rw [hb2]; rfl)
end
section
open Abs Facts Tr
namespace Tr
theorem nest0 (p : Int) : z1o p 0 = false := by
 by_cases h : 0 <= p /\ p < 8
 ·rcases zw6 h with rfl | rfl | rfl | rfl | rfl | rfl | rfl | rfl <;> decide
 ·exact if_neg h
def zfh (t : T) : Bool := zhl (fun t l => (decide (t.kind = 0) || decide (t.id ≠ Idv.zero)) && l.all id) t
theorem zkq (t : T) : zfh t = ((decide (t.kind = 0) || decide (t.id ≠ Idv.zero)) && t.kids.all zfh) := by
 unfold zfh; rw [z4i, List.all_map]; rfl
theorem zbt {t : T} (h : z3r t = true) : ∀ k ∈ t.kids, z1o t.kind k.kind = true /\ z3r k = true := fun k hk => by
 rw [z4n] at h
 simp only [Bool.and_eq_true, List.all_eq_true] at h
 exact ⟨h.2.1 k hk, h.2.2.1 k hk⟩
theorem kid_no0 {t : T} (h : z3r t = true) : ∀ k ∈ t.kids, k.kind ≠ 0 := fun k hk e => by
 have := (zbt h k hk).1
 rw [e, nest0] at this; cases this
theorem zbe : ∀ t : T, z3r t = true -> (zfh t = true ↔ (t.kind = 0 \/ t.id ≠ Idv.zero) /\ Idv.zero ∉ t.kids.flatMap idsT) := by
 refine z5c fun t ih h => ?_
 rw [zkq]
 simp only [Bool.and_eq_true, Bool.or_eq_true, decide_eq_true_eq, List.all_eq_true]
 refine and_congr_right fun _ => ?_
 constructor
 ·intro hk hm
  obtain ⟨k, hkm, hz⟩ := List.mem_flatMap.1 hm
  obtain ⟨g1, g2⟩ := (ih k hkm (zbt h k hkm).2).1 (hk k hkm)
  rw [z1j, List.mem_cons] at hz
  rcases hz with hz | hz
  ·rcases g1 with g1 | g1
   ·exact kid_no0 h k hkm g1
   ·exact g1 hz.symm
  ·exact g2 hz
 ·intro hz k hkm
  refine (ih k hkm (zbt h k hkm).2).2 ⟨.inr fun e => hz (List.mem_flatMap.2 ⟨k, hkm, e ▸ z1q k⟩), fun hm => hz (List.mem_flatMap.2 ⟨k, hkm, ?_⟩)⟩
  rw [z1j]; exact List.mem_cons_of_mem _ hm
theorem zzf (l : List Idv) : (l.any fun x => decide (x = Idv.zero)) = decide (Idv.zero ∈ l) := by
 rw [Bool.eq_iff_iff, List.any_eq_true, decide_eq_true_eq]
 constructor
 ·rintro ⟨x, hx, h⟩; rw [decide_eq_true_eq] at h; exact h ▸ hx
 ·exact fun h => ⟨_, h, decide_eq_true rfl⟩
theorem zp9 (t : T) : (idsT t).drop 1 = t.kids.flatMap idsT := by rw [z1j]; rfl
theorem ze3 (t : T) : standsT t = (z9i t && zfh t) := by
 unfold standsT
 by_cases hv : z9i t = true
 ·have hr : z3r t = true := by unfold z9i at hv; simp only [Bool.and_eq_true] at hv; exact hv.1
  rw [hv, Bool.true_and, Bool.true_and, zzf, Bool.eq_iff_iff, zbe t hr]
  simp only [Bool.not_eq_true', decide_eq_false_iff_not]
  by_cases h0 : t.kind = 0
  ·rw [if_pos h0, zp9]
   exact ⟨fun h => ⟨.inl h0, h⟩, fun h => h.2⟩
  ·rw [if_neg h0, z1j, List.mem_cons]
   exact ⟨fun h => ⟨.inr fun e => h (.inl e.symm), fun hm => h (.inr hm)⟩, fun ⟨h1, h2⟩ hm => by
    rcases hm with hm | hm
    ·rcases h1 with h1 | h1
     ·exact h0 h1
     ·exact h1 hm.symm
    ·exact h2 hm⟩
 ·rw [Bool.not_eq_true] at hv; rw [hv]; rfl
theorem z1v (t : T) : standsT t = true ↔ z3r t = true /\ depT t <= 8 /\ cntT t <= 1024 /\ (idsT t).Nodup /\ (t.id = Idv.zero ↔ t.kind = 0) /\ Idv.zero ∉ t.kids.flatMap idsT := by
 rw [ze3, Bool.and_eq_true]
 unfold z9i zyv
 simp only [Bool.and_eq_true, decide_eq_true_eq, Bool.or_eq_true]
 constructor
 ·rintro ⟨⟨h1, h2, h3, h4⟩, h5⟩
  rw [zbe t h1] at h5
  refine ⟨h1, h2, h3, ?_⟩
  rcases h4 with h4 | ⟨h4, h4'⟩
  ·have ha : ∀ i ∈ idsT t, i = Idv.zero := fun i hi => by simpa using List.all_eq_true.1 h4 i hi
   have h0 : t.id = Idv.zero := ha _ (z1q t)
   have hk : t.kind = 0 := by
    rcases h5.1 with h | h
    ·exact h
    ·exact (h h0).elim
   have hn : t.kids.flatMap idsT = [] := by
    cases hl : t.kids.flatMap idsT with
    | nil => rfl
    | cons i l =>
     exfalso
     refine h5.2 ?_
     have : i = Idv.zero := ha i (by rw [z1j, hl]; simp)
     rw [hl, this]; exact List.mem_cons_self
   rw [z1j, hn]
   exact ⟨by simp, ⟨fun _ => hk, fun _ => h0⟩, by simp⟩
  ·exact ⟨h4', h4, h5.2⟩
 ·rintro ⟨h1, h2, h3, h4, h5, h6⟩
  refine ⟨⟨h1, h2, h3, .inr ⟨h5, h4⟩⟩, (zbe t h1).2 ⟨?_, h6⟩⟩
  by_cases h0 : t.kind = 0
  ·exact .inl h0
  ·exact .inr fun e => h0 (h5.1 e)
theorem zkr {t : T} (h : z3d t = true) {m : List T} (hm : m.length <= 64) : z3d (t.setKids m) = true := by
 unfold z3d at h ⊢
 simp only [Bool.and_eq_true, decide_eq_true_eq] at h ⊢
 exact ⟨h.1, hm, h.2.2⟩
theorem z9r {t : T} (h : z3r t = true) : z3d t = true /\ t.kids.length <= 64 := by
 rw [z4n] at h
 simp only [Bool.and_eq_true] at h
 refine ⟨h.1, ?_⟩
 have := h.1
 unfold z3d at this
 simp only [Bool.and_eq_true, decide_eq_true_eq] at this
 exact this.2.1
theorem zpa {l : List T} {x : T} : z3b l x.kind x.label = false ↔ z6p x ∉ l.map z6p := by
 unfold z3b
 rw [List.any_eq_false]
 simp only [Bool.and_eq_true, decide_eq_true_eq, List.mem_map, not_exists, not_and]
 constructor
 ·intro h k hk e
  exact h k hk (congrArg Prod.fst e) (congrArg Prod.snd e)
 ·intro h k hk e1 e2
  exact h k hk (by unfold z6p; rw [e1, e2])
theorem znd (q x : T) (l r : List T) : depT (q.setKids (l ++ x :: r)) = max (depT (q.setKids (l ++ r))) (1 + depT x) := by
 rw [z5w, z5w (q.setKids (l ++ r))]
 show zei ((l ++ x :: r).map depT) = max (zei ((l ++ r).map depT)) _
 rw [List.map_append, List.map_cons, z8o, zbq, List.map_append, z8o]; omega
theorem zj5 (q x : T) (l r : List T) : cntT (q.setKids (l ++ x :: r)) = cntT (q.setKids (l ++ r)) + cntT x := by
 rw [<- z2n, <- z2n, <- z2n, z2l, z2l, List.flatMap_append, List.flatMap_cons, List.flatMap_append]
 simp only [List.length_cons, List.length_append]; omega
theorem z9s (C : Ctx) {x y : T} (h1 : x.id = y.id) (h2 : x.kind = y.kind) : (z2f C x).id = (z2f C y).id /\ (z2f C x).kind = (z2f C y).kind := by
 cases C with
 | hole => exact ⟨h1, h2⟩
 | node t l c r => exact ⟨rfl, rfl⟩
theorem z7t (C : Ctx) (x : T) : (z2f C x).kids.flatMap idsT = (z79 C ++ (idsT x ++ z3z C)).drop 1 := by rw [<- zp9, z2m]
theorem zrm {C : Ctx} {q x : T} {l r : List T} (hu : standsT (z2f C (q.setKids (l ++ r))) = true) (hx : standsT x = true) (hk : x.kind ≠ 0) (hn : z1o q.kind x.kind = true) (ht : z3b (l ++ r) x.kind x.label = false)
  (h64 : (l ++ r).length < 64) (hd : zz4 C + 1 + depT x <= 8) (hc : cntT (z2f C (q.setKids (l ++ r))) + cntT x <= 1024) (hs : ∀ i ∈ idsT x, i ∉ idsT (z2f C (q.setKids (l ++ r)))) : standsT (z2f C (q.setKids (l ++ x :: r))) = true := by
 rw [z1v] at hu hx ⊢
 obtain ⟨u1, u2, u3, u4, u5, u6⟩ := hu
 obtain ⟨x1, x2, x3, x4, x5, x6⟩ := hx
 rw [z3c] at u1
 obtain ⟨hr, hp⟩ := z9s C (x := q.setKids (l ++ x :: r)) (y := q.setKids (l ++ r)) rfl rfl
 have hids : idsT (q.setKids (l ++ x :: r)) = q.id :: (l.flatMap idsT ++ (idsT x ++ r.flatMap idsT)) := by rw [z2l, List.flatMap_append, List.flatMap_cons]
 have hids0 : idsT (q.setKids (l ++ r)) = q.id :: (l.flatMap idsT ++ r.flatMap idsT) := by rw [z2l, List.flatMap_append]
 refine ⟨?_, ?_, ?_, ?_, ?_, ?_⟩
 ·rw [z3c]
  refine ⟨u1.1, ?_⟩
  obtain ⟨a1, _⟩ := z9r u1.2
  have hkd := zbt u1.2
  have hnd : ((l ++ r).map z6p).Nodup := by
   have := u1.2
   rw [z4n] at this
   simp only [Bool.and_eq_true, decide_eq_true_eq] at this
   exact this.2.2.2
  rw [zbr]
  refine ⟨⟨?_, hkd, hn, hnd, zpa.1 ht⟩, x1⟩
  exact zkr (t := q.setKids (l ++ r)) a1 (m := l ++ q :: r) (by simp at h64 ⊢; omega)
 ·rw [z8p] at u2 ⊢
  rw [znd]; omega
 ·rw [z62] at u3 hc ⊢
  rw [zj5]; omega
 ·rw [z2m, hids]
  rw [z2m, hids0] at u4 hs
  have hp : (z79 C ++ (q.id :: (l.flatMap idsT ++ (idsT x ++ r.flatMap idsT)) ++ z3z C)).Perm (idsT x ++ (z79 C ++ (q.id :: (l.flatMap idsT ++ r.flatMap idsT) ++ z3z C))) := by
   simp only [List.cons_append, List.append_assoc]
   have e1 : (z79 C ++ q.id :: (l.flatMap idsT ++ (idsT x ++ (r.flatMap idsT ++ z3z C)))) = (z79 C ++ q.id :: l.flatMap idsT) ++ (idsT x ++ (r.flatMap idsT ++ z3z C)) := by simp
   have e2 : (z79 C ++ q.id :: (l.flatMap idsT ++ (r.flatMap idsT ++ z3z C))) = (z79 C ++ q.id :: l.flatMap idsT) ++ (r.flatMap idsT ++ z3z C) := by simp
   rw [e1, e2]
   exact List.perm_append_comm_assoc _ _ _
  rw [hp.nodup_iff, List.nodup_append]
  exact ⟨x4, u4, fun a ha b hb e => hs a ha (e ▸ hb)⟩
 ·rw [hr, hp]; exact u5
 ·intro hm
  have hz : Idv.zero ∉ idsT x := by
   rw [z1j, List.mem_cons]
   rintro (h | h)
   ·exact hk (x5.1 h.symm)
   ·exact x6 h
  rw [z7t, hids] at hm
  rw [z7t, hids0] at u6
  cases hC : z79 C with
  | nil =>
   rw [hC] at hm u6
   simp only [List.nil_append, List.cons_append, List.drop_succ_cons, List.drop_zero, List.mem_append, List.append_assoc] at hm u6
   rcases hm with h | h | h | h
   ·exact u6 (.inl h)
   ·exact hz h
   ·exact u6 (.inr (.inl h))
   ·exact u6 (.inr (.inr h))
  | cons i p =>
   rw [hC] at hm u6
   simp only [List.cons_append, List.drop_succ_cons, List.drop_zero, List.mem_append, List.mem_cons, List.append_assoc] at hm u6
   rcases hm with h | h | h | h | h | h
   ·exact u6 (.inl h)
   ·exact u6 (.inr (.inl h))
   ·exact u6 (.inr (.inr (.inl h)))
   ·exact hz h
   ·exact u6 (.inr (.inr (.inr (.inl h))))
   ·exact u6 (.inr (.inr (.inr (.inr h))))
theorem zrn {C : Ctx} {q x : T} {l r : List T} (hu : standsT (z2f C (q.setKids (l ++ x :: r))) = true) : standsT (z2f C (q.setKids (l ++ r))) = true /\ standsT x = true /\ x.kind ≠ 0 /\ z1o q.kind x.kind = true /\ z3b (l ++ r) x.kind x.label = false /\
  (l ++ r).length < 64 /\ zz4 C + 1 + depT x <= 8 /\ cntT (z2f C (q.setKids (l ++ r))) + cntT x <= 1024 /\ (∀ i ∈ idsT x, i ∉ idsT (z2f C (q.setKids (l ++ r)))) := by
 rw [z1v] at hu
 obtain ⟨u1, u2, u3, u4, u5, u6⟩ := hu
 rw [z3c, zbr] at u1
 obtain ⟨uC, ⟨a1, a2, a3, a4, a5⟩, uX⟩ := u1
 obtain ⟨hr, hp⟩ := z9s C (x := q.setKids (l ++ x :: r)) (y := q.setKids (l ++ r)) rfl rfl
 have hids : idsT (q.setKids (l ++ x :: r)) = q.id :: (l.flatMap idsT ++ (idsT x ++ r.flatMap idsT)) := by rw [z2l, List.flatMap_append, List.flatMap_cons]
 have hids0 : idsT (q.setKids (l ++ r)) = q.id :: (l.flatMap idsT ++ r.flatMap idsT) := by rw [z2l, List.flatMap_append]
 rw [z8p, znd] at u2
 rw [z62, zj5] at u3
 have h65 : (l ++ q :: r).length <= 64 := by
  have := a1
  unfold z3d at this
  simp only [Bool.and_eq_true, decide_eq_true_eq] at this
  exact this.2.1
 have hp2 : (z79 C ++ (q.id :: (l.flatMap idsT ++ (idsT x ++ r.flatMap idsT)) ++ z3z C)).Perm (idsT x ++ (z79 C ++ (q.id :: (l.flatMap idsT ++ r.flatMap idsT) ++ z3z C))) := by
  simp only [List.cons_append, List.append_assoc]
  have e1 : (z79 C ++ q.id :: (l.flatMap idsT ++ (idsT x ++ (r.flatMap idsT ++ z3z C)))) = (z79 C ++ q.id :: l.flatMap idsT) ++ (idsT x ++ (r.flatMap idsT ++ z3z C)) := by simp
  have e2 : (z79 C ++ q.id :: (l.flatMap idsT ++ (r.flatMap idsT ++ z3z C))) = (z79 C ++ q.id :: l.flatMap idsT) ++ (r.flatMap idsT ++ z3z C) := by simp
  rw [e1, e2]
  exact List.perm_append_comm_assoc _ _ _
 rw [z2m, hids, hp2.nodup_iff, List.nodup_append] at u4
 obtain ⟨n1, n2, n3⟩ := u4
 have hz6 : Idv.zero ∉ idsT x /\ Idv.zero ∉ (z79 C ++ (q.id :: (l.flatMap idsT ++ r.flatMap idsT) ++ z3z C)).drop 1 := by
  rw [z7t, hids] at u6
  cases hC : z79 C with
  | nil =>
   rw [hC] at u6
   simp only [List.nil_append, List.cons_append, List.drop_succ_cons, List.drop_zero, List.mem_append, List.append_assoc] at u6 ⊢
   exact ⟨fun h => u6 (.inr (.inl h)), fun h => by
    rcases h with h | h | h
    ·exact u6 (.inl h)
    ·exact u6 (.inr (.inr (.inl h)))
    ·exact u6 (.inr (.inr (.inr h)))⟩
  | cons i p =>
   rw [hC] at u6
   simp only [List.cons_append, List.drop_succ_cons, List.drop_zero, List.mem_append, List.mem_cons, List.append_assoc] at u6 ⊢
   exact ⟨fun h => u6 (.inr (.inr (.inr (.inl h)))), fun h => by
    rcases h with h | h | h | h | h
    ·exact u6 (.inl h)
    ·exact u6 (.inr (.inl h))
    ·exact u6 (.inr (.inr (.inl h)))
    ·exact u6 (.inr (.inr (.inr (.inr (.inl h)))))
    ·exact u6 (.inr (.inr (.inr (.inr (.inr h)))))⟩
 have hk0 : x.kind ≠ 0 := fun e => by rw [e, nest0] at a3; cases a3
 refine ⟨?_, ?_, hk0, a3, zpa.2 a5, by simp at h65 ⊢; omega, by omega, by rw [z62]; omega, fun i hi hm => ?_⟩
 ·rw [z1v]
  refine ⟨?_, by rw [z8p]; omega, by rw [z62]; omega, ?_, by rw [<- hr, <- hp]; exact u5, ?_⟩
  ·rw [z3c]
   refine ⟨uC, ?_⟩
   rw [z4n]
   show (z3d (q.setKids (l ++ r)) && (((l ++ r).all fun k => z1o q.kind k.kind) && ((l ++ r).all z3r && decide (((l ++ r).map z6p).Nodup)))) = true
   simp only [Bool.and_eq_true, List.all_eq_true, decide_eq_true_eq]
   exact ⟨zkr (t := q.setKids (l ++ q :: r)) a1 (m := l ++ r) (by simp at h65 ⊢; omega), fun y hy => (a2 y hy).1, fun y hy => (a2 y hy).2, a4⟩
  ·rw [z2m, hids0]; exact n2
  ·rw [z7t, hids0]; exact hz6.2
 ·rw [z1v]
  refine ⟨uX, by omega, by omega, n1, ⟨fun h => (hz6.1 (h ▸ z1q x)).elim, fun h => (hk0 h).elim⟩, fun h => hz6.1 ?_⟩
  rw [z1j]; exact List.mem_cons_of_mem _ h
 ·rw [z2m, hids0] at hm
  exact n3 i hi i hm rfl
theorem zpb {t : T} (h : szB t = true) {l : List T} (hl : l.length <= 1000000) (hk : ∀ k ∈ l, szB k = true) : szB (t.setKids l) = true := by
 obtain ⟨h0, h1, h2, h3, h4, _, _⟩ := (z2i t).1 h
 exact (z2i _).2 ⟨h0, h1, h2, h3, h4, hl, hk⟩
theorem z6j {t : T} (h : szB t = true) : t.kids.length <= 1000000 /\ ∀ k ∈ t.kids, szB k = true := by
 obtain ⟨_, _, _, _, _, h5, h6⟩ := (z2i t).1 h
 exact ⟨h5, h6⟩
theorem zuh {x y : T} (hy : szB y = true) : ∀ C, szB (z2f C x) = true -> szB (z2f C y) = true
 | .hole, _ => hy
 | .node t l c r, h => by
  obtain ⟨h1, h2⟩ := z6j h
  have h3 := zuh (x := x) hy c (h2 _ (by show z2f c x ∈ l ++ z2f c x :: r; simp))
  refine zpb (t := z2f (.node t l c r) x) h (l := l ++ z2f c y :: r) (by simpa [z2f, T.setKids, T.kids] using h1) fun k hk => ?_
  rcases List.mem_append.1 hk with hk | hk
  ·exact h2 k (List.mem_append_left _ hk)
  ·rcases List.mem_cons.1 hk with rfl | hk
   ·exact h3
   ·exact h2 k (List.mem_append_right _ (List.mem_cons_of_mem _ hk))
theorem sz_in {x : T} : ∀ C, szB (z2f C x) = true -> szB x = true
 | .hole, h => h
 | .node t l c r, h => sz_in c ((z6j h).2 _ (by show z2f c x ∈ l ++ z2f c x :: r; simp))
theorem zne {id : Idv} {f : T -> T} (hf : ∀ q, szB q = true -> q.id = id -> szB (f q) = true) : ∀ u : T, szB u = true -> szB (z0p id f u) = true := by
 refine z5c fun u ih h => ?_
 rw [z4b]
 split
 ·exact hf u h ‹_›
 ·obtain ⟨h1, h2⟩ := z6j h
  refine zpb h (by rw [List.length_map]; exact h1) fun k hk => ?_
  obtain ⟨k', hk', rfl⟩ := List.mem_map.1 hk
  exact ih k' hk' (h2 k' hk')
theorem zfi {id : Idv} : ∀ u : T, szB u = true -> szB (z0i id u) = true := by
 refine z5c fun u ih h => ?_
 rw [z4u]
 obtain ⟨h1, h2⟩ := z6j h
 refine zpb h (by rw [List.length_map]; have := List.length_filter_le (z4g id) u.kids; omega) fun k hk => ?_
 obtain ⟨k', hk', rfl⟩ := List.mem_map.1 hk
 exact ih k' (List.mem_filter.1 hk').1 (h2 k' (List.mem_filter.1 hk').1)
end Tr
end
section
open Abs Facts Tr
attribute [local irreducible] awp
namespace Tr
theorem zjv {α : Type} {f : α -> Bool} {l : List α} {i : Nat} (h : i < l.length) (hf : f l[i] = true) : l.any f = true := List.any_eq_true.2 ⟨_, List.getElem_mem h, hf⟩
theorem z59 {α : Type} {f : α -> Bool} {l : List α} {i : Nat} (hi : i < l.length) (h : (l.take i).any f = false) (hf : f l[i] = false) : (l.take (i + 1)).any f = false := by
 rw [List.take_succ_eq_append_getElem hi, List.any_append, h]; simp [hf]
theorem zjw {α : Type} {f : α -> Bool} {l : List α} {i : Nat} (hi : ¬ i < l.length) (h : (l.take i).any f = false) : l.any f = false := by
 rw [List.take_of_length_le (by omega)] at h; exact h
def zmb (l : List T) (kind : Int) (name : ByteArray) (but : Idv) (any : Bool) : Bool := l.any fun k => decide (k.kind = kind) && (decide (k.label = name) && (any || decide (k.id ≠ but)))
end Tr
theorem pc_named : ∀ t : T, szB t = true -> PC prog 39 [z0m t] (.bool (zfh t)) := by
 refine z5c fun t ih hs => ?_
 obtain ⟨h0, h1, g1, h2, g2, h3, h4⟩ := (z2i t).1 hs
 rw [zkq]
 refine z1g 1 (by simp only [pureD.pureL, z02, Bool.and_self]) rfl (z14 [] func39 rfl (by decide +kernel) rfl ?_)
 show awp _ _ (Code.seq _ _) _ _
 repeat' (first | refine zqj ?_ | ((refine zqh fun K J => ?_); (simp (disch := omega) only [go_sem, Nat.reduceBEq, ↓reduceIte, reduceCtorEq, Nat.reduceAdd])) | ((refine zqd _ rfl (fun hc => ?_) (fun hc => ?_)) <;> (first | (cases hc; done) | ((try simp only [z0b] at hc); (try omega)))) | refine zqa ?_ | refine zqb ?_ | refine zqg ?_ | refine zqu (by simp only [go_sem]; rfl) rfl ?_ | (refine J _ ?_; clear J K) | (refine zqf (fun hb => ?_) (fun hb => ?_) <;> (have hb2 := hb; try simp only [z0b] at hb2) <;> ((first | have hb3 := eq_false hb2 | have hb3 := eq_true hb2); (simp (disch := omega) only [go_sem, Nat.reduceBEq, ↓reduceIte, reduceCtorEq, Nat.reduceAdd, Nat.reduceLeDiff, hb3]); clear hb hb3; (try omega))))
 ·exact z03 (by rw [decide_eq_false ‹¬ t.kind = 0›, decide_eq_false (fun h => h ‹t.id = Idv.zero›)]; rfl)
 all_goals
  have hq : (decide (t.kind = 0) || decide (t.id ≠ Idv.zero)) = true := by first | rw [decide_eq_true ‹t.kind = 0›]; rfl | rw [decide_eq_true (p := t.id ≠ Idv.zero) ‹¬ t.id = Idv.zero›, Bool.or_true]
  rw [hq, Bool.true_and]
  (refine z4m (fun U st => ∃ (i : _), U = t.kids.length - i /\ st.t 1 = .ptr 0 0 /\ st.t 3 = .int .i64 i /\ st.H 0 = some (.box 27 (z0h t)) /\ (i <= t.kids.length) /\ (1 <= st.nx) /\ ((t.kids.take i).all zfh = true)) ?_ ?_); rotate_left; (rintro U st ⟨i, rfl, q1, q3, qH0, qp0, qp1, qp2⟩); rotate_left
  ·(refine ⟨_, 0, rfl, ?_⟩); (simp (disch := omega) only [go_sem, Nat.reduceBEq, Nat.reduceLeDiff, true_and, Int.natCast_zero])
   try simp
  have hin := fun (h : i < t.kids.length) => ih t.kids[i] (List.getElem_mem h) (h4 _ (List.getElem_mem h))
  repeat' (first | refine zqj ?_ | ((first | refine zqh fun K J => ?_ | refine zqr fun K J => ?_ | refine zqs (hin (by omega)) ?_); (simp (disch := omega) only [go_sem, Nat.reduceBEq, ↓reduceIte, reduceCtorEq, Nat.reduceAdd, q1, q3, qH0, z13])) | ((first | refine zqd _ rfl (fun hc => ?_) (fun hc => ?_) | refine zqm _ rfl (fun hc => ?_) (fun hc => ?_)) <;> (((try simp only [z0b] at hc); (try omega)))) | refine zqa ?_ | refine zqb ?_ | refine zqc ?_ | refine zqk ?_ | refine zqn ?_ | refine zqv ?_ | refine zqx ?_ | refine zqy ?_ | refine zqz ?_ | refine z6q ?_ | refine zqp ?_ | refine zqo ?_ | refine zqu (by simp only [go_sem]; rfl) rfl ?_ | (refine J _ ?_; clear J K))
  ·exact z03 (zaa (k := i) (by omega) (by assumption)).symm
  ·(refine Exists.intro _ (And.intro ?_ ⟨i + 1, rfl, ?_⟩)); rotate_left; (simp (disch := omega) only [go_sem, Nat.reduceBEq, q1, q3, qH0, true_and, Int.natCast_add, Int.natCast_one]); rotate_left
   ·omega
   ·exact ⟨by omega, by omega, z6y (by omega) qp2 (by assumption)⟩
  ·exact z03 (z6z (by omega) qp2).symm
theorem z5t (t : T) (hs : szB t = true) (hc : cntT t <= 1000000000) (hd : depT t <= 1000000000) : PC prog 12 [z0m t] (.bool (standsT t)) := by
 have c1 := pc_May t hs hc hd
 have c2 := pc_named t hs
 rw [ze3]
 refine z1g 1 (by simp only [pureD.pureL, z02, Bool.and_self]) rfl (z14 [] func12 rfl (by decide +kernel) rfl ?_)
 show awp _ _ (Code.seq _ _) _ _
 repeat' (first | ((first | refine zqh fun K J => ?_ | refine zqs (c1) ?_ | refine zqs (c2) ?_); (simp (disch := omega) only [go_sem, Nat.reduceBEq, ↓reduceIte, Nat.reduceAdd, Nat.reduceLeDiff])) | refine zqn ?_ | refine zqu (by simp only [go_sem]; rfl) rfl ?_ | (refine J _ ?_; clear J K) | (refine zqf (fun hb => ?_) (fun hb => ?_) <;> (have hb2 := hb; try simp only [z0b] at hb2) <;> ((have hb3 : (_ : Bool) = _ := hb2); (simp (disch := omega) only [go_sem, Nat.reduceBEq, ↓reduceIte, Nat.reduceAdd, Nat.reduceLeDiff, hb]); clear hb hb3; (try omega))))
 ·exact z03 (by rw [‹z9i t = true›]; rfl)
 ·exact z03 (by rw [‹z9i t = false›]; rfl)
theorem zx7 (t : T) (hs : szB t = true) (id : Idv) : PC prog 158 [z0m t, z0n id] (.bool (z05 id t).2) := by
 have c1 := z5f id t hs
 refine z1g 1 (by simp only [pureD.pureL, z02]; rfl) rfl (z14 [] func158 rfl (by decide +kernel) rfl ?_)
 show awp _ _ (Code.seq _ _) _ _
 repeat' (first | ((first | refine zqh fun K J => ?_ | refine zqs (c1) ?_); (simp (disch := omega) only [go_sem, Nat.reduceBEq, ↓reduceIte, Nat.reduceAdd, Nat.reduceLeDiff])) | refine zqn ?_ | refine zqu (by simp only [go_sem]; rfl) rfl ?_ | (refine J _ ?_; clear J K))
 exact z03 rfl
theorem zgd (l : List T) (hl : l.length <= 1000000) (kind : Int) (name : ByteArray) (but : Idv) (any : Bool) : PC prog 159 [z13 l, .int .i64 kind, .str name, z0n but, .bool any] (.bool (zmb l kind name but any)) := by
 refine z1g 1 (by simp only [pureD.pureL, z0t, pureD, Bool.and_self]; rfl) rfl (z14 [3000022, 3000030, 3000041, 3000042] func159 rfl (by decide +kernel) rfl ?_)
 show awp _ _ (Code.seq _ _) _ _
 repeat' (first | refine zqj ?_ | ((refine zqh fun K J => ?_); (simp (disch := omega) only [go_sem])) | refine zqa ?_ | (refine J _ ?_; clear J K))
 (refine z4m (fun U st => ∃ (i : _), U = l.length - i /\ st.t 0 = z13 l /\ st.t 1 = .int .i64 kind /\ st.t 2 = .str name /\ st.t 4 = .bool any /\ st.t 8 = .ptr 0 0 /\ st.t 11 = .int .i64 i /\ st.H 0 = some (.box 23 (z07 but)) /\ (i <= l.length) /\ (1 <= st.nx) /\ ((l.take i).any (fun k => decide (k.kind = kind) && (decide (k.label = name) && (any || decide (k.id ≠ but)))) = false)) ?_ ?_); rotate_left; (rintro U st ⟨i, rfl, q0, q1, q2, q4, q8, q11, qH0, qp0, qp1, qp2⟩); rotate_left
 ·(refine ⟨_, 0, rfl, ?_⟩); (simp (disch := omega) only [go_sem, Nat.reduceBEq, Nat.reduceLeDiff, and_self, Int.natCast_zero, z07])
  try simp
 repeat' (first | refine zqj ?_ | ((first | refine zqh fun K J => ?_ | refine zqe (by decide +kernel) fun K J => ?_ | refine zqr fun K J => ?_); (simp (disch := omega) only [go_sem, Nat.reduceBEq, Nat.reduceEqDiff, ↓reduceIte, reduceCtorEq, Nat.reduceAdd, q0, q1, q11, z13])) | ((first | refine zqd _ rfl (fun hc => ?_) (fun hc => ?_) | refine zqm _ rfl (fun hc => ?_) (fun hc => ?_)) <;> (first | (cases hc; done) | ((try simp only [z0b] at hc); (try omega)))) | refine zqa ?_ | refine zqb ?_ | refine zqc ?_ | refine zqk ?_ | refine zqn ?_ | refine zqv ?_ | refine zqx ?_ | refine zqy ?_ | refine zqz ?_ | refine z6q ?_ | refine zqp ?_ | refine zqo ?_ | refine zqu (by simp only [go_sem]; rfl) rfl ?_ | (refine J _ ?_; clear J K) | (refine zqf (fun hb => ?_) (fun hb => ?_) <;> (have hb2 := hb; try simp only [z0b] at hb2) <;> ((first | have hb3 : (_ : Bool) = _ := hb2 | have hb3 := eq_false hb2 | have hb3 := eq_true hb2); (simp (disch := omega) only [go_sem, Nat.reduceBEq, Nat.reduceEqDiff, ↓reduceIte, reduceCtorEq, Nat.reduceAdd, Nat.reduceLeDiff, hb3, q0, q2, q4, q8, q11, qH0, z13, z07]); clear hb hb3; (try omega))))
 ·exact z03 (zjv (i := i) (by omega) (by simp [*])).symm
 ·(refine Exists.intro _ (And.intro ?_ ⟨i + 1, rfl, ?_⟩)); rotate_left; (simp (disch := omega) only [go_sem, Nat.reduceBEq, q0, q1, q2, q4, q8, q11, qH0, true_and, Int.natCast_add, Int.natCast_one, z07]); rotate_left
  ·omega
  ·exact ⟨by omega, by omega, z59 (by omega) qp2 (by simp [*])⟩
 ·exact z03 (zjv (i := i) (by omega) (by simp [*])).symm
 ·(refine Exists.intro _ (And.intro ?_ ⟨i + 1, rfl, ?_⟩)); rotate_left; (simp (disch := omega) only [go_sem, Nat.reduceBEq, q0, q1, q2, q4, q8, q11, qH0, true_and, Int.natCast_add, Int.natCast_one, z07]); rotate_left
  ·omega
  ·exact ⟨by omega, by omega, z59 (by omega) qp2 (by simp [*])⟩
 ·(refine Exists.intro _ (And.intro ?_ ⟨i + 1, rfl, ?_⟩)); rotate_left; (simp (disch := omega) only [go_sem, Nat.reduceBEq, q0, q1, q2, q4, q8, q11, qH0, true_and, Int.natCast_add, Int.natCast_one, z07]); rotate_left
  ·omega
  ·exact ⟨by omega, by omega, z59 (by omega) qp2 (by simp [*])⟩
 ·exact z03 (zjw (i := i) (by omega) qp2).symm
theorem zql (t : T) (hs : szB t = true) (hd : depT t <= 1000000000) (id : Idv) : PC prog 160 [z0m t, z0n id] (.int .i64 (z20 id t).length) := by
 have c1 := zjx id t hs hd
 refine z1g 1 (by simp only [pureD.pureL, z02]; rfl) rfl (z14 [] func160 rfl (by decide +kernel) rfl ?_)
 show awp _ _ (Code.seq _ _) _ _
 repeat' (first | ((first | refine zqh fun K J => ?_ | refine zqs (c1) ?_); (simp (disch := omega) only [go_sem, Nat.reduceBEq, ↓reduceIte, Nat.reduceAdd, Nat.reduceLeDiff, z22])) | refine zqn ?_ | refine zqu (by simp only [go_sem]; rfl) rfl ?_ | (refine J _ ?_; clear J K))
 exact z1e rfl
theorem pc_putR (l : List T) (hl : l.length <= 1000000) (i : Nat) (hi : i <= l.length) (x : T) : PC prog 185 [z13 l, .int .i64 i, z0m x] (z13 (l.take i ++ x :: l.drop i)) := by
 refine z1g 3 (by simp only [pureD.pureL, z0t, z02, pureD, Bool.and_self]) (z0t _) (z14 [8] func185 rfl (by decide +kernel) rfl ?_)
 show awp _ _ (Code.seq _ _) _ _
 repeat' (first | ((refine zqh fun K J => ?_); (simp (disch := omega) only [go_sem, Nat.reduceBEq, ↓reduceIte, reduceCtorEq, Nat.reduceAdd, Nat.reduceMul, Nat.reduceLeDiff, z13, z6x])) | refine zqn ?_ | refine zqu (by simp only [go_sem]; rfl) rfl ?_ | (refine J _ ?_; clear J K))
 refine z50 (z1y (f := z0h) (l := l.take i ++ x :: l.drop i) 1 ?_ ?_ z0l z30 z0q z04)
 ·simp; omega
 ·(simp (disch := omega) only [go_sem, Nat.reduceBEq, List.flatMap_append, List.flatMap_cons, List.append_assoc])
end
section
open Abs Facts Go.Lib
variable {P : Program}
theorem z3i (w : World) (dT sT ty elem : TypeId) (sz g o dLen dCap : Nat) (cur : Array Value) (a : Addr) (sLen sCap : Nat) (cs : List Value)
  (hu : P.underlying dT = some (.slice elem)) (hs : (P.info? elem).map (·.size) = some sz) (hn : cs.length = Nat.min sLen dLen * sz)
  (hsrc : ∀ j v, cs[j]? = some v -> w.cell? (a.add j) = some v) (hg : w.heap[g]? = some (.cells cur elem (0, 0))) (hfit : o + cs.length <= cur.size) (h1 : ∀ v ∈ cs, v.oneCell' = true) :
  (Builtin.copy_ #[dT, sT] ty #[.slice (some ⟨g, o, none⟩) dLen dCap, .slice (some a) sLen sCap]).run P w = .ok (goInt (Nat.min sLen dLen)) (w.setRow g (cur.toList.take o ++ cs ++ cur.toList.drop (o + cs.length)).toArray) := by
 have hl := run_loadCells_list (P := P) w a cs hsrc
 have hst := run_storeCells_at P g o elem cs 0 cur w hg (by simpa using hfit) h1
 simp only [Nat.add_zero] at hst
 cases hq : P.info? elem with
 | none => simp [hq] at hs
 | some i =>
  have hi : i.size = sz := by simpa [hq] using hs
  simp [Builtin.copy_, run_underlying hu, Builtin.lenOf, Builtin.firstCells, sizeOf, typeInfo, hq, hi, <- hn, hl, hst]
theorem zca (w : World) (t e ty : TypeId) (z : Value) (sz g o n c : Nat) (cur : Array Value) (ht : P.underlying t = some (.slice e)) (hv : ∀ w, (zeroValue e).run P w = .ok z w) (hz : z.cells.size = sz) (h1 : ∀ v ∈ z.cells.toList, v.oneCell' = true)
    (hn : 0 < n) (hg : w.heap[g]? = some (.cells cur e (0, 0))) (hfit : o + n * sz <= cur.size) :
    (Builtin.clear_ #[t] ty #[.slice (some ⟨g, o, none⟩) n c]).run P w = .ok (.tuple #[]) (w.setRow g (cur.toList.take o ++ (Builtin.zeroCells z.cells n).toList ++ cur.toList.drop (o + n * sz)).toArray) := by
  have hlen : (Builtin.zeroCells z.cells n).toList.length = n * sz := by rw [Array.length_toList, size_zeroCells, hz]
  have hst := run_storeCells_at P g o e (Builtin.zeroCells z.cells n).toList 0 cur w hg (by rw [hlen]; omega) (by
    intro v hv'
    simp only [Builtin.zeroCells, Array.toList_map, Array.toList_range, List.mem_map, List.mem_range] at hv'
    obtain ⟨k, hk, rfl⟩ := hv'
    have h0 : 0 < z.cells.size := by rcases Nat.eq_zero_or_pos z.cells.size with h | h; · rw [h] at hk; omega
                                     · exact h
    have hkm := Nat.mod_lt k h0
    rw [getElem!_pos z.cells _ hkm]
    exact h1 _ (by simp))
  simp only [Nat.add_zero, hlen] at hst
  obtain ⟨m, rfl⟩ : ∃ m, n = m + 1 := ⟨n - 1, by omega⟩
  simp [Builtin.clear_, run_underlying ht, hv, hst]
theorem z8i (w : World) {ops : Array Oper} {rest : List Oper} {o : Oper} {a : Act} {Q : Exit -> Act -> World -> Prop} (hgd : o.guard = none) (d : Operand) (t : TypeId)
  (ho : o.op = .call { callee := .builtin .clear, args := #[d], argTypes := #[t] }) (v : Value) (hd : a.eval d = v) {v' : Value} {w' : World}
  (hr : (Builtin.clear_ #[t] o.type #[v]).run P w = .ok v' w') (h : wpList P ops Q rest (a.put o.dst v') w') : wpList P ops Q (o :: rest) a w := by
 refine wpList_plain hgd fun K J => ?_
 unfold Oper.wp execOp
 simp only [ho, resolve, invoke, builtin, Sem.run_bind, Sem.run_pure, Result.andThen_ok, List.map_toArray, List.map_cons, List.map_nil, hd, hr]
 exact J _ _ h
theorem zcb {α β : Type} (x : α) (f : α -> Sem β) : (pure x : Sem α).bind f = f x := rfl
theorem z9k (w : World) (tS tR e : TypeId) (ht : P.underlying tS = some (.slice e)) (size : Nat) (hz : ∀ w, (Go.sizeOf e).run P w = .ok size w)
  (a b : Addr) (la ca lb cb : Nat) (hne : a.block ≠ b.block) (tA tB : TypeId) (kA kB : Nat)
  (hsa : w.shape? a.block = some (tA, kA)) (hsb : w.shape? b.block = some (tB, kB)) (hkA : kA ≠ 0)
  (hfb : w.frozen? b = false) (hfe : w.frozen? { block := b.block, off := kB } = false) :
  (Extern.SlicesOverlaps.overlaps #[tS, tS] #[tR] #[.slice (some a) la ca, .slice (some b) lb cb]).run P w = .ok (.bool false) w := by
 have hnb : (a.block != b.block) = true := by simpa using hne
 have hnb' : (a.block == b.block) = false := by simpa using hne
 conv => lhs; arg 2; whnf
 by_cases h0 : la = 0 \/ lb = 0 \/ size = 0
 ·simp [Sem.run, Sem.bind, zcb, ht, hz, h0]
 ·cases kA with
  | zero => exact absurd rfl hkA
  | succ kA =>
   simp [Sem.bind, zcb, ht, hz, h0, hnb, hnb', frozen, noView, viewAt, mayBeOne, stringish, shape, Sem.run, hsa, hsb, hfb, hfe]
theorem z90 (w : World) (g : Nat) (a b : Array Value) : (w.setRow g a).setRow g b = w.setRow g b := by
 have : ((w.setRow g a).setRow g b).heap = (w.setRow g b).heap := by
  apply Array.ext_getElem?
  intro k
  simp only [World.setRow, Array.getElem?_modify]
  by_cases h : g = k
  ·rw [if_pos h, if_pos h, if_pos h, Option.map_map]
   congr 1
   funext o
   cases o <;> rfl
  ·rw [if_neg h, if_neg h, if_neg h]
 show ({ w with heap := ((w.setRow g a).setRow g b).heap } : World) = _
 rw [this]
 rfl
theorem zg3 (a : Array Obj) (x : Obj) (f : Obj -> Obj) : (a.push x).modify a.size f = a.push (f x) := by
 apply Array.ext_getElem?
 intro k
 simp only [Array.getElem?_modify, Array.getElem?_push]
 by_cases h : a.size = k
 ·subst h; simp
 ·rw [if_neg h]
  by_cases h2 : k = a.size
  ·exact absurd h2.symm h
  ·rw [if_neg h2, if_neg h2]
theorem zlj {α : Type} {A B Z vs : List α} {i k m : Nat} (hA : A.length = i) (hB : B.length = k) (hv : vs.length = m) (hZ : m + k <= Z.length) :
  let c1 := (A ++ Z).take i ++ vs ++ (A ++ Z).drop (i + m)
  c1.take (i + m) ++ B ++ c1.drop (i + m + k) = A ++ vs ++ B ++ Z.drop (m + k) := by
 intro c1
 have h1 : (A ++ Z).take i = A := by rw [List.take_append_of_le_length (by omega), List.take_of_length_le (by omega)]
 have h2 : (A ++ Z).drop (i + m) = Z.drop m := by rw [List.drop_append, List.drop_of_length_le (by omega), List.nil_append]; congr 1; omega
 have hc : c1 = A ++ vs ++ Z.drop m := by show _ ++ vs ++ _ = _; rw [h1, h2]
 have hl : (A ++ vs).length = i + m := by rw [List.length_append]; omega
 rw [hc]
 have e1 : (A ++ vs ++ Z.drop m).take (i + m) = A ++ vs := by rw [List.take_append_of_le_length (by omega), List.take_of_length_le (by omega)]
 have e2 : (A ++ vs ++ Z.drop m).drop (i + m + k) = Z.drop (m + k) := by
  rw [List.drop_append, List.drop_of_length_le (by omega), List.nil_append, List.drop_drop]; congr 1; omega
 rw [e1, e2]
theorem zi6 {α : Type} {A B R vs : List α} {i k m : Nat} (hA : A.length = i) (hB : B.length = k) (hv : vs.length = m) (hm : m <= R.length) :
  let c1 := (A ++ B ++ R).take (i + m) ++ B ++ (A ++ B ++ R).drop (i + m + k)
  c1.take i ++ vs ++ c1.drop (i + m) = A ++ vs ++ B ++ R.drop m := by
 intro c1
 have h1 : (A ++ B ++ R).take (i + m) = A ++ (B ++ R).take m := by rw [List.append_assoc, List.take_append, hA, List.take_of_length_le (by omega)]; congr 2; omega
 have h2 : (A ++ B ++ R).drop (i + m + k) = R.drop m := by rw [List.drop_append, List.drop_of_length_le (by rw [List.length_append]; omega), List.nil_append, List.length_append]; congr 1; omega
 have hl : ((B ++ R).take m).length = m := by rw [List.length_take, List.length_append]; omega
 have hc : c1 = A ++ ((B ++ R).take m ++ (B ++ R.drop m)) := by show _ ++ B ++ _ = _; rw [h1, h2]; simp only [List.append_assoc]
 rw [hc]
 have e1 : (A ++ ((B ++ R).take m ++ (B ++ R.drop m))).take i = A := by rw [List.take_append_of_le_length (by omega), List.take_of_length_le (by omega)]
 have e2 : (A ++ ((B ++ R).take m ++ (B ++ R.drop m))).drop (i + m) = B ++ R.drop m := by
  rw [List.drop_append, List.drop_of_length_le (by omega), List.nil_append, hA, Nat.add_sub_cancel_left, List.drop_append, List.drop_of_length_le (by omega), List.nil_append, hl, Nat.sub_self, List.drop_zero]
 rw [e1, e2]
 simp only [List.append_assoc]
end
section
open Abs Facts Go.Lib Go.Shelf Go.RowKit
set_option maxHeartbeats 4000000 in
theorem ins_end {w : World} {v : Value} {n m : Nat} {a : Addr} {c : Nat} {cap : Nat} {ba : Option Addr} (hm : 0 < m) (hv : v = .slice ba n cap) (v' : Value) (w' : World)
  (hr : ∀ ty, (Builtin.append_ #[25, 25] ty #[v, .slice (some a) m c]).run prog w = .ok v' w') :
  Calls prog 122 #[v, .int .i64 n, .slice (some a) m c] w fun e w2 => e = .returned v' /\ w2 = w' := by
 subst hv
 have hz1 : ¬ ((m : Int) = 0) := by omega
 go_enter func122, ntmps122
 go_wp2_with (at_builtin; refine Lib.wpList_append_run _ rfl _ _ _ _ rfl _ _ rfl rfl _ _ (hr _) ?_)
 all_goals (go_ret; exact ⟨rfl, rfl⟩)
set_option maxHeartbeats 4000000 in
theorem zuz {w : World} {g n cap i m vc : Nat} {va : Addr} {cur : Array Value} {A B R vs : List Value} (hi : i < n) (hm : 0 < m) (hroom : n + m <= cap) (hc63 : cap <= 9223372036854775807)
  (hg : w.heap[g]? = some (.cells cur 27 (0, 0))) (hcur : cur.toList = A ++ B ++ R) (hA : A.length = i * 8) (hB : B.length = (n - i) * 8) (hR : m * 8 <= R.length)
  (hvb : va.block ≠ g) (hvl : vs.length = m * 8) (hvs : ∀ j v, vs[j]? = some v -> w.cell? (va.add j) = some v) (h1c : ∀ v ∈ B, v.oneCell' = true) (h1v : ∀ v ∈ vs, v.oneCell' = true)
  (tA : TypeId) (kA : Nat) (hsa : w.shape? va.block = some (tA, kA)) (hkA : kA ≠ 0) :
  Calls prog 122 #[.slice (some ⟨g, 0, none⟩) n cap, .int .i64 i, .slice (some va) m vc] w fun e w2 => e = .returned (.slice (some ⟨g, 0, none⟩) (n + m) cap) /\ w2 = w.drew.setRow g (A ++ vs ++ B ++ R.drop (m * 8)).toArray := by
 have hz1 : ¬ ((m : Int) = 0) := by omega
 have hz2 : ¬ ((i : Int) = (n : Int)) := by omega
 have t25 : prog.underlying 25 = some (.slice 27) := rfl
 have hsz : (prog.info? 27).map (·.size) = some 8 := rfl
 have hw1 : IntKind.i64.wrap ((i : Int) + (m : Int)) = (i : Int) + (m : Int) := by rw [IntKind.wrap_i64]; omega
 have hb1 : (0 : Int) <= (i : Int) + (m : Int) := by omega
 have hin : i <= n := by omega
 have htn : ((i : Int) + (m : Int)).toNat = i + m := by omega
 have hb2 : ¬ (cap = i + m) := by omega
 have hb3 : (i : Int) <= (n : Int) + (m : Int) := by omega
 have hb4 : ¬ (cap = i) := by omega
 have hsl : cur.size = i * 8 + (n - i) * 8 + R.length := by rw [<- Array.length_toList, hcur, List.length_append, List.length_append, hA, hB]
 have hov : ∀ lb cb, (callFunc 169 #[.slice (some va) m vc, .slice (some ⟨g, (i + m) * 8, none⟩) lb cb]).run prog w = .ok (.value (.bool false)) w := fun lb cb => by
  rw [run_callFunc_extern func169 (by kernel_rfl) (by kernel_rfl) (by kernel_rfl) (e := Extern.SlicesOverlaps.overlaps #[25, 25] #[4]) (by kernel_rfl),
   z9k w 25 4 27 t25 8 (fun _ => rfl) va ⟨g, (i + m) * 8, none⟩ m vc lb cb hvb tA 27 kA cur.size hsa (by simp [World.shape?, hg]) hkA (by simp [World.frozen?, hg]) (by simp [World.frozen?, hg])]
  rfl
 have hcp1 : ∀ ty dc sc, (Builtin.copy_ #[25, 25] ty #[.slice (some ⟨g, (i + m) * 8, none⟩) (n + m - (i + m)) dc, .slice (some ⟨g, i * 8, none⟩) (n + m - i) sc]).run prog w.drew = .ok (goInt (Nat.min (n + m - i) (n + m - (i + m)))) (w.drew.setRow g ((A ++ B ++ R).take (i * 8 + m * 8) ++ B ++ (A ++ B ++ R).drop (i * 8 + m * 8 + (n - i) * 8)).toArray) := fun ty dc sc => by
  have h := z3i (P := prog) w.drew 25 25 ty 27 8 g ((i + m) * 8) (n + m - (i + m)) dc cur ⟨g, i * 8, none⟩ (n + m - i) sc B t25 hsz (by rw [hB]; congr 1; simp only [Nat.min_def]; split <;> omega)
   (fun j v hj => by
    rw [Addr.add_lit]
    show w.cell? _ = _
    have : cur.toList[i * 8 + j]? = some v := by rw [hcur, List.append_assoc, List.getElem?_append_right (by omega), hA, Nat.add_sub_cancel_left, List.getElem?_append_left ((List.getElem?_eq_some_iff.1 hj).1)]; exact hj
    simp only [World.cell?, hg]
    simpa using this) hg (by omega) h1c
  rw [hcur, hB, Nat.add_mul] at h
  rw [Nat.add_mul]
  exact h
 obtain ⟨c1, hc1⟩ : ∃ c1, c1 = (A ++ B ++ R).take (i * 8 + m * 8) ++ B ++ (A ++ B ++ R).drop (i * 8 + m * 8 + (n - i) * 8) := ⟨_, rfl⟩
 rw [<- hc1] at hcp1
 have hg1 : (w.drew.setRow g c1.toArray).heap[g]? = some (.cells c1.toArray 27 (0, 0)) := by
  have hgg : w.drew.heap[g]? = some (.cells cur 27 (0, 0)) := hg
  simp [World.setRow, Array.getElem?_modify, hgg]
 have hcl : c1.length = cur.size := by
  rw [hc1, List.length_append, List.length_append, List.length_take, List.length_drop, List.length_append, List.length_append, hA, hB, hsl]; omega
 have hcp2 : ∀ ty dc, (Builtin.copy_ #[25, 25] ty #[.slice (some ⟨g, i * 8, none⟩) (n + m - i) dc, .slice (some va) m vc]).run prog (w.drew.setRow g c1.toArray) = .ok (goInt (Nat.min m (n + m - i))) (w.drew.setRow g (A ++ vs ++ B ++ R.drop (m * 8)).toArray) := fun ty dc => by
  have h := z3i (P := prog) (w.drew.setRow g c1.toArray) 25 25 ty 27 8 g (i * 8) (n + m - i) dc c1.toArray va m vc vs t25 hsz (by rw [hvl]; congr 1; simp only [Nat.min_def]; split <;> omega)
   (fun j v hj => by
    rw [World.cell?_of_block (w := w)]
    ·exact hvs j v hj
    ·show (w.drew.setRow g c1.toArray).heap[(va.add j).block]? = _
     have : (va.add j).block = va.block := by unfold Addr.add; split <;> rfl
     rw [this]
     simp only [World.setRow, Array.getElem?_modify]
     rw [if_neg (fun h => hvb h.symm)]
     rfl) hg1 (by simp; omega) h1v
  have h2 := zi6 (α := Value) (A := A) (B := B) (R := R) (vs := vs) (i := i * 8) (k := (n - i) * 8) (m := m * 8) hA hB hvl hR
  simp only at h2
  rw [<- hc1] at h2
  rw [hvl, show c1.toArray.toList = c1 from rfl, h2, z90] at h
  exact h
 clear hc1 hg1 hcl
 have z8j : prog.follows .mixedOrders = true := by kernel_rfl
 go_enter func122, ntmps122
 go_wp2_with (simp only [hov])
 go_region_law_o (refine step_copy_runI rfl _ _ 25 25 rfl _ _ (by simp [Act.eval, Act.put]) (by simp [Act.eval, Act.put]) (hcp1 _ _ _) ?_)
 go_wp2_with (at_builtin; refine wpList_copy_runI _ rfl _ _ 25 25 rfl _ _ rfl rfl (hcp2 _ _) ?_)
 all_goals (go_ret; exact ⟨rfl, by simp only [List.append_assoc]⟩)
def GrewTo (w : World) (k : Nat) (xs : List Value) (e : Ending) (w2 : World) : Prop :=
 ∃ G Y, e = .returned (.slice (some ⟨w.heap.size, 0, none⟩) k G) /\ k <= G /\ G <= maxLen /\ Y.length = (G - k) * 8 /\
  w2.heap = w.heap.push (.cells (xs ++ Y).toArray 27 (0, 0)) /\ w2.os = w.os /\ w2.tape = w.tape /\ w2.output = w.output
set_option maxHeartbeats 4000000 in
theorem zzq {w : World} {g n cap i m vc : Nat} {va : Addr} {A B vs : List Value} (hi : i < n) (hm : 0 < m) (hnc : n <= cap) (hroom : cap < n + m) (hbig : (n + m) * z0u prog 27 <= 140737488355328) (h63 : n + m <= maxLen)
  (hA : A.length = i * 8) (hB : B.length = (n - i) * 8) (hcs : ∀ j v, (A ++ B)[j]? = some v -> w.cell? ⟨g, j, none⟩ = some v)
  (hvl : vs.length = m * 8) (hvs : ∀ j v, vs[j]? = some v -> w.cell? (va.add j) = some v) (h1c : ∀ v ∈ B, v.oneCell' = true) (h1v : ∀ v ∈ vs, v.oneCell' = true) :
  Calls prog 122 #[.slice (some ⟨g, 0, none⟩) n cap, .int .i64 i, .slice (some va) m vc] w (GrewTo w (n + m) (A ++ vs ++ B)) := by
 have hz1 : ¬ ((m : Int) = 0) := by omega
 have hz2 : ¬ ((i : Int) = (n : Int)) := by omega
 have hz3 : (cap : Int) < (n : Int) + (m : Int) := by omega
 have t25 : prog.underlying 25 = some (.slice 27) := rfl
 have t3 : prog.underlying 3 = some (.int .i64) := rfl
 have hsz : (prog.info? 27).map (·.size) = some 8 := rfl
 obtain ⟨i0, z, hi0, hz0, hzs⟩ := z53 (P := prog) (t := 27) (by kernel_rfl)
 have hi8 : i0.size = 8 := by rw [hi0] at hsz; simpa using hsz
 have hzs8 : z.cells.size = 8 := by rw [hzs]; exact z30
 have hby : i0.bytes = z0u prog 27 := by simp [z0u, hi0]
 have hik : i + (n + m - i) = n + m := by omega
 have hAv : ∀ j v, A[j]? = some v -> w.cell? ⟨g, j, none⟩ = some v := fun j v h => hcs j v (by rw [List.getElem?_append_left ((List.getElem?_eq_some_iff.1 h).1)]; exact h)
 have hBv : ∀ j v, B[j]? = some v -> w.cell? ⟨g, i * 8 + j, none⟩ = some v := fun j v h => hcs _ v (by rw [List.getElem?_append_right (by omega), hA, Nat.add_sub_cancel_left]; exact h)
 have hbw : g < w.heap.size := by
  have h0 : 0 < B.length := by rw [hB]; omega
  exact block_lt_of_cell (hBv 0 _ (List.getElem?_eq_getElem h0))
 have hvw : va.block < w.heap.size := by
  have h0 : 0 < vs.length := by rw [hvl]; omega
  have := block_lt_of_cell (hvs 0 _ (List.getElem?_eq_getElem h0))
  have h2 : (va.add 0).block = va.block := by unfold Addr.add; split <;> rfl
  rwa [h2] at this
 have hold : (Builtin.firstCells i0.size i (.slice (some ⟨g, 0, none⟩) i cap)).run prog w.drew = .ok A.toArray w.drew := by
  rw [hi8]
  exact run_firstCells_some w.drew 8 i ⟨g, 0, none⟩ i cap A (by rw [hA]) (fun j v hj => by rw [Addr.add_lit, Nat.zero_add]; exact hAv j v hj)
 obtain ⟨G, hG⟩ : ∃ G, G = grownCap w (n + m) cap 27 := ⟨_, rfl⟩
 obtain ⟨Z, hZ⟩ : ∃ Z, Z = (Builtin.zeroCells z.cells (n + m - i) ++ Builtin.zeroCells z.cells (G - (n + m))).toList := ⟨_, rfl⟩
 have hGn : n + m <= G := by rw [hG]; exact grownCap_ge w _ _ _
 have hG63 : G <= maxLen := by rw [hG]; exact grownCap_le_maxLen w (n + m) cap 27 h63
 have hZl : Z.length = (G - i) * 8 := by
  rw [hZ, Array.length_toList, Array.size_append, size_zeroCells, size_zeroCells, hzs8, <- Nat.add_mul]; congr 1; omega
 have hrz : ∀ ty, (Builtin.append_ #[25, 3] ty #[.slice (some ⟨g, 0, none⟩) i cap, .int .i64 ((n : Int) + (m : Int) - (i : Int))]).run prog w =
   .ok (.slice (some ⟨w.heap.size, 0, none⟩) (n + m) G) (w.drew.alloc (.cells (A ++ Z).toArray 27)) := fun ty => by
  have h := Lib.run_append_grow_zeros (P := prog) w 25 3 ty 27 i0 z .i64 .i64 t25 t3 hi0 hz0 (some ⟨g, 0, none⟩) i cap A hold (n + m - i) (by omega) (by omega) (by omega) (by simp only [maxLen] at h63; omega)
   (by rw [hby]; have := Nat.mul_le_mul_right (z0u prog 27) (show n + m - i <= n + m by omega); omega) (by rw [hby, hik]; exact growslice_fits hroom hbig)
  rw [hik, <- hG] at h
  rw [show (n : Int) + (m : Int) - (i : Int) = ((n + m - i : Nat) : Int) by omega, h, hZ]
  congr 3
  apply Array.ext'
  simp
 obtain ⟨W1, hW1⟩ : ∃ W1, W1 = w.drew.alloc (.cells (A ++ Z).toArray 27) := ⟨_, rfl⟩
 have hheap : W1.heap = w.heap.push (.cells (A ++ Z).toArray 27 (0, 0)) := by rw [hW1]; rfl
 have hOb : ∀ (W : World) (x : List Value) (j : Nat) (b : Nat) (v : Value), W.heap = w.heap.push (.cells x.toArray 27 (0, 0)) -> b < w.heap.size -> ∀ sp, w.cell? ⟨b, j, sp⟩ = some v -> W.cell? ⟨b, j, sp⟩ = some v := fun W x j b v hW hb sp h => by
  rw [World.cell?_of_block (w := w)]
  ·exact h
  ·show W.heap[b]? = _
   rw [hW, Array.getElem?_push, if_neg (by omega)]
 obtain ⟨c1, hc1⟩ : ∃ c1, c1 = (A ++ Z).take (i * 8) ++ vs ++ (A ++ Z).drop (i * 8 + m * 8) := ⟨_, rfl⟩
 have hcl : c1.length = A.length + Z.length := by
  rw [hc1, List.length_append, List.length_append, List.length_take, List.length_drop, List.length_append, hA, hvl, hZl]; omega
 obtain ⟨Y, hY⟩ : ∃ Y, Y = Z.drop (m * 8 + (n - i) * 8) := ⟨_, rfl⟩
 have hYl : Y.length = (G - (n + m)) * 8 := by rw [hY, List.length_drop, hZl]; omega
 have hrow : ∀ (W : World) (x y : List Value), W.heap = w.heap.push (.cells x.toArray 27 (0, 0)) -> (W.setRow w.heap.size y.toArray).heap = w.heap.push (.cells y.toArray 27 (0, 0)) := fun W x y hW => by
  unfold World.setRow
  simp only
  rw [hW, zg3]
 have hcpA : ∀ (W : World), W.heap = W1.heap -> ∀ ty dc, (Builtin.copy_ #[25, 25] ty #[.slice (some ⟨w.heap.size, i * 8, none⟩) (n + m - i) dc, .slice (some va) m vc]).run prog W = .ok (goInt (Nat.min m (n + m - i))) (W.setRow w.heap.size c1.toArray) := fun W hW ty dc => by
  rw [hheap] at hW
  have hgW : W.heap[w.heap.size]? = some (.cells (A ++ Z).toArray 27 (0, 0)) := by rw [hW, Array.getElem?_push, if_pos rfl]
  have h := z3i (P := prog) W 25 25 ty 27 8 w.heap.size (i * 8) (n + m - i) dc (A ++ Z).toArray va m vc vs t25 hsz (by rw [hvl]; congr 1; simp only [Nat.min_def]; split <;> omega)
   (fun j v hj => by
    have := hvs j v hj
    unfold Addr.add at this ⊢
    split at this <;> rename_i hsp <;> simp only [hsp] <;> exact hOb W _ _ _ _ hW hvw _ this) hgW (by rw [List.size_toArray, List.length_append, hA, hvl, hZl]; omega) h1v
  rw [hvl] at h
  rw [hc1]
  exact h
 have hcpB : ∀ (W : World), W.heap = (W1.setRow w.heap.size c1.toArray).heap -> ∀ ty dc sc, (Builtin.copy_ #[25, 25] ty #[.slice (some ⟨w.heap.size, (i + m) * 8, none⟩) (n + m - (i + m)) dc, .slice (some ⟨g, i * 8, none⟩) (n - i) sc]).run prog W = .ok (goInt (Nat.min (n - i) (n + m - (i + m)))) (W.setRow w.heap.size (A ++ vs ++ B ++ Y).toArray) := fun W hW ty dc sc => by
  rw [hrow W1 _ _ hheap] at hW
  have hgW : W.heap[w.heap.size]? = some (.cells c1.toArray 27 (0, 0)) := by rw [hW, Array.getElem?_push, if_pos rfl]
  have h := z3i (P := prog) W 25 25 ty 27 8 w.heap.size ((i + m) * 8) (n + m - (i + m)) dc c1.toArray ⟨g, i * 8, none⟩ (n - i) sc B t25 hsz (by rw [hB]; congr 1; simp only [Nat.min_def]; split <;> omega)
   (fun j v hj => by rw [Addr.add_lit]; exact hOb W _ _ _ _ hW hbw _ (hBv j v hj)) hgW (by rw [List.size_toArray, hcl, hA, hB, hZl]; omega) h1c
  have h2 := zlj (α := Value) (A := A) (B := B) (Z := Z) (vs := vs) (i := i * 8) (k := (n - i) * 8) (m := m * 8) hA hB hvl (by rw [hZl]; omega)
  simp only at h2
  rw [<- hc1, <- hY] at h2
  rw [hB, show c1.toArray.toList = c1 from rfl, Nat.add_mul, h2] at h
  rw [Nat.add_mul]
  exact h
 have hfin : ∀ (W : World), W.heap = (W1.setRow w.heap.size c1.toArray).heap -> (W.setRow w.heap.size (A ++ vs ++ B ++ Y).toArray).heap = w.heap.push (.cells (A ++ vs ++ B ++ Y).toArray 27 (0, 0)) := fun W hW => hrow W c1 _ (hW.trans (hrow W1 _ _ hheap))
 have hGi : ¬ (G = i) := by omega
 have hGim : ¬ (G = i + m) := by omega
 have hci : ¬ (cap = i) := by omega
 have hw1 : IntKind.i64.wrap ((i : Int) + (m : Int)) = (i : Int) + (m : Int) := by simp only [maxLen] at h63; rw [IntKind.wrap_i64]; omega
 have h63b : n + m <= 9223372036854775807 := h63
 have hG63b : G <= 9223372036854775807 := hG63
 have hb1 : (0 : Int) <= (i : Int) + (m : Int) := by omega
 have hin : i <= n := by omega
 have htn : ((i : Int) + (m : Int)).toNat = i + m := by omega
 have hb3 : (i : Int) <= (n : Int) := by omega
 have z8j : prog.follows .mixedOrders = true := by kernel_rfl
 have hfinal : ∀ (W : World), W.heap = (W1.setRow w.heap.size c1.toArray).heap -> W.os = w.os -> W.tape = w.tape -> W.output = w.output -> GrewTo w (n + m) (A ++ vs ++ B) (.returned (.slice (some ⟨w.heap.size, 0, none⟩) (n + m) G)) (W.setRow w.heap.size (A ++ vs ++ B ++ Y).toArray) := fun W hW h1 h2 h3 => ⟨G, Y, rfl, hGn, hG63, hYl, hfin W hW, h1, h2, h3⟩
 clear hfin
 subst hW1
 obtain ⟨r0, hr0⟩ : ∃ r0 : Array Value, r0 = (A ++ Z).toArray := ⟨_, rfl⟩
 obtain ⟨r1, hr1⟩ : ∃ r1 : Array Value, r1 = c1.toArray := ⟨_, rfl⟩
 obtain ⟨r2, hr2⟩ : ∃ r2 : Array Value, r2 = (A ++ vs ++ B ++ Y).toArray := ⟨_, rfl⟩
 simp only [<- hr0, <- hr1, <- hr2] at *
 clear hcs h63 hG63 hik hold hG hZ hZl hc1 hY hrow hheap hOb hAv hBv hcl hr0 hr1 hr2 hvs
 have hE : ((w.alloc (.cells r0 27)).drew).heap = (w.drew.alloc (.cells r0 27)).heap := rfl
 have hF : (((w.alloc (.cells r0 27)).drew.setRow w.heap.size r1).drew).heap = ((w.drew.alloc (.cells r0 27)).setRow w.heap.size r1).heap := rfl
 go_enter func122, ntmps122
 go_wp2_with (first
  | (at_builtin; refine Lib.wpList_append_run _ rfl _ _ _ _ rfl _ _ rfl rfl _ _ (hrz _) ?_)
  | (at_builtin; refine wpList_copy_runI _ rfl _ _ 25 25 rfl _ _ rfl rfl (hcpA _ hE _ _) ?_))
 go_region_law_o (refine step_copy_runI rfl _ _ 25 25 rfl (.slice (some ⟨w.heap.size, (i + m) * 8, none⟩) (n + m - (i + m)) (G - (i + m))) (.slice (some ⟨g, i * 8, none⟩) (n - i) (cap - i)) (by simp [Act.eval, Act.put]) (by simp [Act.eval, Act.put]) (hcpB _ hF _ _ _) ?_)
 go_wp2
 all_goals (go_ret; first | exact hfinal _ hF rfl rfl rfl | (simp only [List.append_assoc] at hfinal ⊢; exact hfinal _ hF rfl rfl rfl))
set_option maxHeartbeats 1000000 in
theorem zrt {w : World} {v : Value} {n i m vc : Nat} {va : Addr} {xs vs : List Value} (hi : i <= n) (hm : 0 < m) (hown : w.ownsRow 0 27 8 v n xs) (hox : z6i xs)
  (hbig : (n + m) * z0u prog 27 <= 140737488355328) (h63 : n + m <= maxLen) (hvb : v.ownBlock ≠ some va.block)
  (hvl : vs.length = m * 8) (hvs : ∀ j u, vs[j]? = some u -> w.cell? (va.add j) = some u) (h1v : z6i vs) :
  Calls prog 122 #[v, .int .i64 i, .slice (some va) m vc] w fun e w' => ∃ v', e = .returned v' /\ w'.ownsRow 0 27 8 v' (n + m) (xs.take (i * 8) ++ vs ++ xs.drop (i * 8)) /\ w.grownBy w' v.ownBlock /\
   (∀ b, blockOf v' = some b -> blockOf v = some b \/ w.heap.size <= b) := by
 have hxl := hown.1
 obtain ⟨tA, kA, hsa, hkA⟩ : ∃ tA kA, w.shape? va.block = some (tA, kA) /\ kA ≠ 0 := by
  have h0 : 0 < vs.length := by rw [hvl]; omega
  have h1 := hvs 0 _ (List.getElem?_eq_getElem h0)
  have h2 : (va.add 0).block = va.block := by unfold Addr.add; split <;> rfl
  unfold World.cell? at h1
  rw [h2] at h1
  unfold World.shape?
  split at h1
  ·rename_i c t fz hh
   refine ⟨t, c.size, rfl, fun h3 => ?_⟩
   split at h1
   ·cases h1
   ·rw [Array.getElem?_eq_none (by omega)] at h1; cases h1
  ·cases h1
 by_cases hin : i = n
 ·subst hin
  obtain ⟨v', w', hr, hown', hg, hbl, _⟩ := z65 (P := prog) (ty := 0) (t := 25) (e := 27) rfl (by rw [z30]; omega) (by kernel_rfl) (v := v) (n := i) (m := m) (xs := xs) (vs := vs) (by rw [z30]; exact hown) hbig h63 (.inr ⟨va, vc, rfl, h1v, by rw [z30]; exact hvl, hvs⟩)
  rw [z30] at hown'
  obtain ⟨a, c, hvv⟩ := z7q hown
  refine (ins_end (v' := v') (w' := w') hm hvv (fun ty => hr)).mono ?_
  rintro e w2 ⟨rfl, rfl⟩
  refine ⟨v', rfl, ?_, hg, hbl⟩
  rw [List.take_of_length_le (by omega), List.drop_of_length_le (by omega), List.append_nil]
  exact hown'
 ·rcases hown.2 with ⟨rfl, rfl⟩ | ⟨g, cap, cur, rfl, _, hg, hnc, hcm, hcs, htake⟩
  ·omega
  ·have hA : (xs.take (i * 8)).length = i * 8 := by rw [List.length_take, hxl]; omega
   have hB : (xs.drop (i * 8)).length = (n - i) * 8 := by rw [List.length_drop, hxl]; omega
   have hcl : cur.toList.length = cap * 8 := by rw [Array.length_toList]; exact hcs
   by_cases hroom : n + m <= cap
   ·refine (zuz (w := w) (g := g) (n := n) (cap := cap) (i := i) (m := m) (vc := vc) (va := va) (cur := cur) (A := xs.take (i * 8)) (B := xs.drop (i * 8)) (R := cur.toList.drop (n * 8)) (vs := vs) (by omega) hm hroom (by simp only [maxLen] at hcm; omega) hg
     (by rw [List.take_append_drop, <- htake, List.take_append_drop]) hA hB (by rw [List.length_drop, hcl]; omega) (fun h => hvb (by rw [Value.ownBlock, h])) hvl hvs (fun u hu => hox u (List.mem_of_mem_drop hu)) h1v tA kA hsa hkA).mono ?_
    rintro e w2 ⟨rfl, rfl⟩
    refine ⟨_, rfl, ⟨?_, .inr ⟨g, cap, (xs.take (i * 8) ++ vs ++ xs.drop (i * 8) ++ (cur.toList.drop (n * 8)).drop (m * 8)).toArray, rfl, Nat.zero_le _, ?_, hroom, hcm, ?_, ?_⟩⟩, ⟨rfl, rfl, rfl, by simp [World.setRow], fun k hk hne => ?_⟩, fun b hb => .inl hb⟩
    ·rw [List.length_append, List.length_append, hA, hB, hvl]; omega
    ·have hgg : w.drew.heap[g]? = some (.cells cur 27 (0, 0)) := hg
     simp [World.setRow, Array.getElem?_modify, hgg]
    ·rw [List.size_toArray, List.length_append, List.length_append, List.length_append, hA, hB, hvl, List.length_drop, List.length_drop, hcl]; omega
    ·exact List.take_left' (by rw [List.length_append, List.length_append, hA, hB, hvl]; omega)
    ·simp only [World.setRow, Array.getElem?_modify]
     rw [if_neg (fun h => hne (by rw [Value.ownBlock, h]))]
     rfl
   ·refine (zzq (w := w) (g := g) (n := n) (cap := cap) (i := i) (m := m) (vc := vc) (va := va) (A := xs.take (i * 8)) (B := xs.drop (i * 8)) (vs := vs) (by omega) hm hnc (by omega) hbig h63 hA hB
     (by rw [List.take_append_drop]; intro j u hj; have := hown.cells (g := g) rfl j u hj; rwa [Addr.add_lit, Nat.zero_add] at this) hvl hvs (fun u hu => hox u (List.mem_of_mem_drop hu)) h1v).mono ?_
    rintro e w2 ⟨G, Y, rfl, hG, hG63, hY, hh, h1, h2, h3⟩
    refine ⟨_, rfl, ⟨?_, .inr ⟨w.heap.size, G, _, rfl, Nat.zero_le _, by rw [hh, Array.getElem?_push, if_pos rfl], hG, hG63, ?_, ?_⟩⟩, ⟨h1, h2, h3, by rw [hh, Array.size_push]; omega, fun k hk hne => by rw [hh, Array.getElem?_push, if_neg (by omega)]⟩, fun b hb => .inr ?_⟩
    ·rw [List.length_append, List.length_append, hA, hB, hvl]; omega
    ·rw [List.size_toArray, List.length_append, List.length_append, List.length_append, hA, hB, hvl, hY]; omega
    ·exact List.take_left' (by rw [List.length_append, List.length_append, hA, hB, hvl]; omega)
    ·simp only [blockOf, Option.some.injEq] at hb; omega
end
section
open Abs Facts Go.Lib Go.Shelf Go.RowKit
theorem zes {P : Program} {ops : Array Oper} {o : Oper} {a : Act} {w : World} {K : Act -> World -> Prop} {Q : Exit -> Act -> World -> Prop} {E : Prop}
  (hg : o.guard = none) (d x : Operand) (dT sT : TypeId) (hop : o.op = Op.call { callee := Callee.builtin Builtin.append, args := #[d, x], argTypes := #[dT, sT] })
  (v u : Value) (hd : a.eval d = v) (hx : a.eval x = u) {v' : Value} {w' : World} (hr : (Builtin.append_ #[dT, sT] o.type #[v, u]).run P w = .ok v' w') (J : K (a.put o.dst v') w') :
  if Region.wanted o (yielded ops a.tmps) = true then Oper.wp P o a w K Q else E := by
 have hw : Region.wanted o (yielded ops a.tmps) = true := by simp [Region.wanted, hg]
 rw [if_pos hw]
 unfold Oper.wp
 simp [execOp, hop, resolve, invoke, builtin, hd, hx, hr, Result.andThen]
 exact J
theorem zzo {α : Type} {A M C R : List α} {i k m : Nat} (zs : List α) (hA : A.length = i) (hM : M.length = k) (hC : C.length = m) (hz : zs.length = k) :
  let c1 := (A ++ M ++ C ++ R).take i ++ C ++ (A ++ M ++ C ++ R).drop (i + m)
  c1.take (i + m) ++ zs ++ c1.drop (i + m + k) = A ++ C ++ zs ++ R := by
 intro c1
 have h1 : (A ++ M ++ C ++ R).take i = A := by rw [List.append_assoc, List.append_assoc, List.take_append_of_le_length (by omega), List.take_of_length_le (by omega)]
 have hl : (A ++ M ++ C ++ R).length = i + k + m + R.length := by simp only [List.length_append]; omega
 have hc : c1 = A ++ C ++ (A ++ M ++ C ++ R).drop (i + m) := by show _ ++ C ++ _ = _; rw [h1]
 have hac : (A ++ C).length = i + m := by rw [List.length_append]; omega
 rw [hc]
 have e1 : (A ++ C ++ (A ++ M ++ C ++ R).drop (i + m)).take (i + m) = A ++ C := by rw [List.take_append_of_le_length (by omega), List.take_of_length_le (by omega)]
 have e2 : (A ++ C ++ (A ++ M ++ C ++ R).drop (i + m)).drop (i + m + k) = R := by
  rw [List.drop_append, List.drop_of_length_le (by omega), List.nil_append, hac, Nat.add_sub_cancel_left, List.drop_drop, List.drop_append, List.drop_of_length_le (by simp only [List.length_append]; omega), List.nil_append]
  have : i + m + k - (A ++ M ++ C).length = 0 := by simp only [List.length_append]; omega
  rw [this, List.drop_zero]
 rw [e1, e2]
set_option maxHeartbeats 4000000 in
theorem del_row {w : World} {g n cap i j : Nat} {cur : Array Value} {A M C R : List Value} (hij : i < j) (hj : j <= n) (hnc : n <= cap) (hc63 : cap <= 9223372036854775807)
  (hg : w.heap[g]? = some (.cells cur 27 (0, 0))) (hcur : cur.toList = A ++ M ++ C ++ R) (hA : A.length = i * 8) (hM : M.length = (j - i) * 8) (hC : C.length = (n - j) * 8) (h1c : ∀ v ∈ C, v.oneCell' = true) :
  Calls prog 129 #[.slice (some ⟨g, 0, none⟩) n cap, .int .i64 i, .int .i64 j] w fun e w2 => e = .returned (.slice (some ⟨g, 0, none⟩) (i + (n - j)) cap) /\ ∃ zs : List Value, zs.length = (j - i) * 8 /\ w2 = w.drew.setRow g (A ++ C ++ zs ++ R).toArray := by
 have t25 : prog.underlying 25 = some (.slice 27) := rfl
 have hsz : (prog.info? 27).map (·.size) = some 8 := rfl
 obtain ⟨i0, z, hi0, hz0, hzs⟩ := z53 (P := prog) (t := 27) (by kernel_rfl)
 have hi8 : i0.size = 8 := by rw [hi0] at hsz; simpa using hsz
 have hzs8 : z.cells.size = 8 := by rw [hzs]; exact z30
 have hzv : ∀ w, (zeroValue 27).run prog w = .ok z w := fun w => by simp [zeroValue, typeInfo, hi0, hz0]
 have hsl : cur.size = i * 8 + (j - i) * 8 + (n - j) * 8 + R.length := by rw [<- Array.length_toList, hcur]; simp only [List.length_append]; omega
 obtain ⟨ad, had, hsrc⟩ : ∃ ad : Addr, (if cap = j then some (⟨g, 0, none⟩ : Addr) else some ⟨g, j * 8, none⟩) = some ad /\ ∀ t u, C[t]? = some u -> w.drew.cell? (ad.add t) = some u := by
  by_cases h : cap = j
  ·refine ⟨⟨g, 0, none⟩, by simp [h], fun t u hu => ?_⟩
   have : C = [] := List.eq_nil_of_length_eq_zero (by rw [hC]; omega)
   rw [this] at hu; simp at hu
  ·refine ⟨⟨g, j * 8, none⟩, by simp [h], fun t u hu => ?_⟩
   rw [Addr.add_lit]
   show w.cell? _ = _
   have h2 : cur.toList[j * 8 + t]? = some u := by
    rw [hcur, List.append_assoc, List.getElem?_append_right (by simp only [List.length_append]; omega)]
    have h3 : j * 8 + t - (A ++ M).length = t := by simp only [List.length_append]; omega
    rw [h3, List.getElem?_append_left ((List.getElem?_eq_some_iff.1 hu).1)]
    exact hu
   simp only [World.cell?, hg]
   simpa using h2
 obtain ⟨c1, hc1⟩ : ∃ c1, c1 = (A ++ M ++ C ++ R).take (i * 8) ++ C ++ (A ++ M ++ C ++ R).drop (i * 8 + (n - j) * 8) := ⟨_, rfl⟩
 have hcl : c1.length = cur.size := by
  rw [hc1]; simp only [List.length_append, List.length_take, List.length_drop]; omega
 have hap : ∀ ty dc, (Builtin.append_ #[25, 25] ty #[.slice (some ⟨g, 0, none⟩) i cap, .slice (some ad) (n - j) dc]).run prog w.drew = .ok (.slice (some ⟨g, 0, none⟩) (i + (n - j)) cap) (w.drew.setRow g c1.toArray) := fun ty dc => by
  have h := run_append_room (P := prog) w.drew 25 ty 27 i0 t25 hi0 g i cap cur hg ad (n - j) dc C (by rw [hC, hi8]) hsrc h1c (by omega) (by rw [hi8]; omega)
  rw [hi8, hcur, hC, <- hc1] at h
  exact h
 have hg1 : (w.drew.setRow g c1.toArray).heap[g]? = some (.cells c1.toArray 27 (0, 0)) := by
  have hgg : w.drew.heap[g]? = some (.cells cur 27 (0, 0)) := hg
  simp [World.setRow, Array.getElem?_modify, hgg]
 obtain ⟨zs, hzl, hze⟩ : ∃ zs : List Value, zs.length = (j - i) * 8 /\ zs = (Builtin.zeroCells z.cells (n - (i + (n - j)))).toList := ⟨_, by rw [Array.length_toList, size_zeroCells, hzs8]; congr 1; omega, rfl⟩
 have hz1 : ∀ v ∈ z.cells.toList, v.oneCell' = true := by
  have h : (prog.info? 27).bind (·.zero) = some z := by rw [hi0]; exact hz0
  have hk : ((prog.info? 27).bind (·.zero)).all (fun z => z.cells.toList.all (·.oneCell')) = true := by kernel_rfl
  rw [h] at hk
  exact fun v hv => List.all_eq_true.1 (by simpa using hk) v hv
 have hcl2 : ∀ ty dc, (Builtin.clear_ #[25] ty #[.slice (some ⟨g, (i + (n - j)) * 8, none⟩) (n - (i + (n - j))) dc]).run prog (w.drew.setRow g c1.toArray) = .ok (.tuple #[]) (w.drew.setRow g (A ++ C ++ zs ++ R).toArray) := fun ty dc => by
  have h := zca (P := prog) (w.drew.setRow g c1.toArray) 25 27 ty z 8 g ((i + (n - j)) * 8) (n - (i + (n - j))) dc c1.toArray t25 hzv hzs8 hz1 (by omega) hg1 (by rw [List.size_toArray, hcl]; omega)
  have h2 := zzo (α := Value) (A := A) (M := M) (C := C) (R := R) (i := i * 8) (k := (j - i) * 8) (m := (n - j) * 8) zs hA hM hC hzl
  simp only at h2
  rw [<- hc1] at h2
  rw [show (n - (i + (n - j))) * 8 = (j - i) * 8 by congr 1; omega, <- hze, show c1.toArray.toList = c1 from rfl, Nat.add_mul, h2, z90] at h
  rw [Nat.add_mul]
  exact h
 have hic : i <= cap := by omega
 have hjc : j <= cap := by omega
 have hne : ¬ ((i : Int) = (j : Int)) := by omega
 have z8j : prog.follows .mixedOrders = true := by kernel_rfl
 have hfin : ∃ zs2 : List Value, zs2.length = (j - i) * 8 /\ w.drew.setRow g (A ++ C ++ zs ++ R).toArray = w.drew.setRow g (A ++ C ++ zs2 ++ R).toArray := ⟨zs, hzl, rfl⟩
 clear hc1 hcl hg1 hze hsrc hcur hsl
 go_enter func129, ntmps129
 go_wp2
 go_region_law_o (refine zes rfl _ _ 25 25 rfl (.slice (some ⟨g, 0, none⟩) i cap) (.slice (some ad) (n - j) (cap - j)) (by simp [Act.eval, Act.put]) (by simp [Act.eval, Act.put, had]) (hap _ _) ?_)
 go_wp2_with (at_builtin; refine z8i _ rfl _ _ rfl _ rfl (hcl2 _ _) ?_)
 all_goals (go_ret; exact ⟨rfl, zs, hzl, by simp only [List.append_assoc]⟩)
theorem zrp {w : World} {v : Value} {n i j : Nat} {xs : List Value} (hij : i < j) (hj : j <= n) (hown : w.ownsRow 0 27 8 v n xs) (hox : z6i xs) :
  Calls prog 129 #[v, .int .i64 i, .int .i64 j] w fun e w' => ∃ v', e = .returned v' /\ w'.ownsRow 0 27 8 v' (i + (n - j)) (xs.take (i * 8) ++ xs.drop (j * 8)) /\ w.grownBy w' v.ownBlock /\ blockOf v' = blockOf v := by
 have hxl := hown.1
 rcases hown.2 with ⟨rfl, rfl⟩ | ⟨g, cap, cur, rfl, _, hg, hnc, hcm, hcs, htake⟩
 ·omega
 ·have hA : (xs.take (i * 8)).length = i * 8 := by rw [List.length_take, hxl]; omega
  have hM : ((xs.drop (i * 8)).take ((j - i) * 8)).length = (j - i) * 8 := by rw [List.length_take, List.length_drop, hxl]; omega
  have hC : (xs.drop (j * 8)).length = (n - j) * 8 := by rw [List.length_drop, hxl]; omega
  have hcl : cur.toList.length = cap * 8 := by rw [Array.length_toList]; exact hcs
  have hcur : cur.toList = xs.take (i * 8) ++ (xs.drop (i * 8)).take ((j - i) * 8) ++ xs.drop (j * 8) ++ cur.toList.drop (n * 8) := by
   have h1 : (xs.drop (i * 8)).take ((j - i) * 8) ++ xs.drop (j * 8) = xs.drop (i * 8) := by
    have h2 : xs.drop (j * 8) = (xs.drop (i * 8)).drop ((j - i) * 8) := by rw [List.drop_drop]; congr 1; omega
    rw [h2, List.take_append_drop]
   rw [List.append_assoc (xs.take (i * 8)), h1, List.take_append_drop, <- htake, List.take_append_drop]
  refine (del_row (w := w) (g := g) (n := n) (cap := cap) hij hj hnc (by simp only [maxLen] at hcm; omega) hg hcur hA hM hC (fun u hu => hox u (List.mem_of_mem_drop hu))).mono ?_
  rintro e w2 ⟨rfl, zs, hzl, rfl⟩
  refine ⟨_, rfl, ⟨?_, .inr ⟨g, cap, (xs.take (i * 8) ++ xs.drop (j * 8) ++ zs ++ cur.toList.drop (n * 8)).toArray, rfl, Nat.zero_le _, ?_, by omega, hcm, ?_, ?_⟩⟩, ⟨rfl, rfl, rfl, by simp [World.setRow], fun k hk hne => ?_⟩, rfl⟩
  ·rw [List.length_append, hA, hC]; omega
  ·have hgg : w.drew.heap[g]? = some (.cells cur 27 (0, 0)) := hg
   simp [World.setRow, Array.getElem?_modify, hgg]
  ·rw [List.size_toArray, List.length_append, List.length_append, List.length_append, hA, hC, hzl, List.length_drop, hcl]; omega
  ·have hl : (xs.take (i * 8) ++ xs.drop (j * 8)).length = (i + (n - j)) * 8 := by rw [List.length_append, hA, hC]; omega
   show List.take _ (xs.take (i * 8) ++ xs.drop (j * 8) ++ zs ++ cur.toList.drop (n * 8)) = _
   rw [List.append_assoc (xs.take (i * 8) ++ xs.drop (j * 8))]
   exact List.take_left' hl
  ·simp only [World.setRow, Array.getElem?_modify]
   rw [if_neg (fun h => hne (by rw [Value.ownBlock, h]))]
   rfl
end
section
open Abs Facts Go.Lib Go.RowKit
theorem zml {P : Program} {s : RS} {w : World} (h : RH P s w) {nn : Bool} {sz : Nat} {els : List D} {v : Value} {a : Addr} {m c : Nat} (hr : rel s (.rsl nn sz els) v) (hv : v = .slice (some a) m c) (hpos : 0 < els.length) (hsz : 0 < sz) : ¬ owned s a.block := by
 simp only [rel] at hr
 rcases hr with ⟨_, rfl, _⟩ | ⟨a', cap, vs, rfl, _, _, hra, hlies⟩
 ·simp at hpos
 ·cases hv
  have hl := z0e hra
  have h0 : vs[0]? = some vs[0] := List.getElem?_eq_getElem (by omega)
  obtain ⟨h1, h2⟩ := hlies 0 _ h0
  have h7 : 0 < (vs[0]).cells.toList.length := by rw [Array.length_toList]; omega
  have h3 := List.getElem?_eq_getElem h7
  have h4 := h2 0 _ h3
  have h5 := (h.mem _ _ h4).2
  have h6 : ((a.add (0 * sz)).add 0).block = a.block := by
   have hb : ∀ (x : Addr) (k : Nat), (x.add k).block = x.block := fun x k => by unfold Addr.add; split <;> rfl
   rw [hb, hb]
  rw [h6] at h5
  exact h5
set_option maxHeartbeats 2000000 in
theorem zxy {H : HM} {nx id n i : Nat} {nn : Bool} {cs us els : List D} (hid : H id = some (.row 27 n cs)) (hi : i <= n) (hm : 0 < els.length) (hus : z1s 8 els = some us) (hb : n + els.length <= 1000000000) :
  AC prog 122 [.osl id n, .int .i64 i, .rsl nn 8 els] H nx fun r H' nx' => r = .osl id (n + els.length) /\ H' = z0k H id (some (.row 27 (n + els.length) (cs.take (i * 8) ++ us ++ cs.drop (i * 8)))) /\ nx' = nx := by
 refine ⟨⟨_, func122, by kernel_rfl, by kernel_rfl⟩, fun s w vs h1 h2 h h4 => ?_⟩
 subst h1; subst h2
 simp only [relAll] at h4
 obtain ⟨v, r1, rfl, hv, v2, r2, rfl, hv2, v3, r3, rfl, hv3, rfl⟩ := h4
 simp only [rel] at hv hv2
 subst hv2
 obtain ⟨hidn, _, hlive⟩ := hv
 have hv := (hlive _ _ _ hid).2 rfl
 subst hv
 obtain ⟨xs, ho, hrv, hov, _, _⟩ := z3g h hid
 rw [z30] at ho
 have hsrc := z6h h (e := 27) (n := 8) (m := els.length) (news := us) (by omega) (y := .rsl nn 8 els) z30 (by simp only [z9b, if_true, hus, Option.map_some]) hv3
 rcases hsrc with ⟨_, h0, _⟩ | ⟨a, c, ws, rfl, hrw, how, hwl, hwc⟩
 ·omega
 ·have hap := zml h hv3 rfl hm (by omega)
  have hbt : z0u prog 27 <= 1000 := by
   have : decide (z0u prog 27 <= 1000) = true := by kernel_rfl
   exact of_decide_eq_true this
  have hne : (s.κ id).ownBlock ≠ some a.block := by
   rw [z54 ho]
   exact fun h5 => hap ⟨id, hidn, by rw [hid]; simp, h5⟩
  refine (zrt (w := w) (v := s.κ id) (n := n) (i := i) (m := els.length) (vc := c) (va := a) (xs := xs) (vs := ws) hi hm ho hov
   (by have := Nat.mul_le_mul hb hbt; omega) (by unfold maxLen; omega) hne hwl hwc how).mono ?_
  rintro e w' ⟨v', rfl, hown, hg, hbl⟩
  obtain ⟨g1, g2⟩ := z87 (w' := w') h id (.row 27 n cs) (.row 27 (n + els.length) (cs.take (i * 8) ++ us ++ cs.drop (i * 8))) v' hid hg.os hg.tape hg.output hg.size
   (fun k hk hne => hg.block k hk (by rw [z54 ho]; exact hne))
   (.inr ⟨n + els.length, _, rfl, Nat.le_add_right _ _, fun hnm => by omega⟩)
   (fun b hb => hbl b hb)
   (fun hl => ⟨xs.take (i * 8) ++ ws ++ xs.drop (i * 8), by rw [z30]; exact hown, relAll.later hl _ _ (z1a (z1a (z3n _ hrv) hrw) (z5x _ hrv)), z32 (z32 (z7l hov _) how) (zag hov _)⟩)
  refine ⟨v', .osl id (n + els.length), s.set id v' (.row 27 (n + els.length) (cs.take (i * 8) ++ us ++ cs.drop (i * 8))), rfl, ⟨rfl, rfl, rfl⟩, g1, g2, ?_⟩
  simp only [rel]
  obtain ⟨a2, c2, hvs⟩ := z7q hown
  refine ⟨hidn, ⟨a2, c2, hvs⟩, fun e2 k2 cs2 hH => ?_⟩
  simp only [RS.set, z0k, if_true, Option.some.injEq, HObj.row.injEq] at hH
  obtain ⟨_, rfl, _⟩ := hH
  exact ⟨Nat.le_refl _, fun _ => by simp [RS.set]⟩
def mvS (s : RS) (id : Nat) (v : Value) (o : HObj) : RS := { s with κ := fun j => if j = s.nx then v else s.κ j, H := z0k (z0k s.H id none) s.nx (some o), nx := s.nx + 1 }
theorem zr8 {P : Program} {s : RS} {w w' : World} (h : RH P s w) (id : Nat) {e : TypeId} {n : Nat} {cs : List D} (o' : HObj) (v : Value) (hid : s.H id = some (.row e n cs))
  (hos : w'.os = w.os) (ht : w'.tape = w.tape) (hout : w'.output = w.output) (hsz : w.heap.size <= w'.heap.size)
  (hold : ∀ k, k < w.heap.size -> some k ≠ blockOf (s.κ id) -> w'.heap[k]? = w.heap[k]?)
  (hb : ∀ b, blockOf v = some b -> blockOf (s.κ id) = some b \/ w.heap.size <= b) (hok : Later s (mvS s id v o') -> objOK P (mvS s id v o') w' v o') :
  Step s w (mvS s id v o') w' /\ RH P (mvS s id v o') w' := by
 have hidn := (h.obj id _ hid).1
 have hHo : ∀ j, j ≠ s.nx -> j ≠ id -> (mvS s id v o').H j = s.H j /\ (mvS s id v o').κ j = s.κ j := fun j h1 h2 => by
  simp only [mvS, z0k, if_neg h1, if_neg h2, and_self]
 have hHn : (mvS s id v o').H s.nx = some o' /\ (mvS s id v o').κ s.nx = v := by simp only [mvS, z0k, if_true, and_self]
 have hHi : (mvS s id v o').H id = none := by simp only [mvS, z0k, if_neg (show ¬ id = s.nx by omega), if_true]
 have hl : Later s (mvS s id v o') := by
  refine ⟨Nat.le_succ _, fun a u hm => hm, fun j hj => ?_⟩
  by_cases hji : j = id
  ·subst hji; rw [hHi, hid]; exact .inl rfl
  ·obtain ⟨h1, h2⟩ := hHo j (by omega) hji
   rw [h1, h2]; exact objLe.refl _ _
 have hok := hok hl
 have hown : ∀ k, owned (mvS s id v o') k -> owned s k \/ w.heap.size <= k := by
  rintro k ⟨j, hj, hH, hk⟩
  by_cases hjn : j = s.nx
  ·subst hjn
   rw [hHn.2] at hk
   rcases hb k hk with h1 | h1
   ·exact .inl ⟨id, hidn, by rw [hid]; simp, h1⟩
   ·exact .inr h1
  ·by_cases hji : j = id
   ·subst hji; exact absurd hHi hH
   ·obtain ⟨h1, h2⟩ := hHo j hjn hji
    rw [h1] at hH; rw [h2] at hk
    exact .inl ⟨j, h.fresh hH, hH, hk⟩
 refine ⟨⟨hos, ht, hout, hsz, hl.nx, hl.mem, fun a u hm => .inl hm, hl.objs, fun k hk ho => hold k hk (fun e => ho ⟨id, hidn, by rw [hid]; simp, e.symm⟩), hown⟩, ?_, ?_, ?_, fun g => rel.later hl _ _ (h.glob g)⟩
 ·intro a u hm
  have hlt := h.mem_lt hm
  obtain ⟨h1, h2⟩ := h.mem a u hm
  have hne : some a.block ≠ blockOf (s.κ id) := fun e => h2 ⟨id, hidn, by rw [hid]; simp, e.symm⟩
  refine ⟨by rw [z51 (hold _ hlt hne)]; exact h1, fun ho => ?_⟩
  rcases hown _ ho with h3 | h3
  ·exact h2 h3
  ·omega
 ·intro j oj ho'
  by_cases hjn : j = s.nx
  ·subst hjn
   rw [hHn.1] at ho'
   cases ho'
   rw [hHn.2]
   exact ⟨Nat.lt_succ_self _, hok⟩
  ·by_cases hji : j = id
   ·subst hji; rw [hHi] at ho'; cases ho'
   ·obtain ⟨g1, g2⟩ := hHo j hjn hji
    rw [g1] at ho'
    rw [g2]
    obtain ⟨h1, h2⟩ := h.obj j oj ho'
    refine ⟨Nat.lt_succ_of_lt h1, h2.mono hl fun b hb' => hold b (h2.lt hb') fun e => ?_⟩
    exact h.apart j id (by rw [ho']; simp) (by rw [hid]; simp) hji (by rw [hb']; simp) (by rw [hb', e])
 ·have key : ∀ j, j ≠ s.nx -> j ≠ id -> s.H j ≠ none -> blockOf v ≠ none -> blockOf v ≠ blockOf (s.κ j) := fun j h1 h2 h3 h4 e => by
   cases hbv : blockOf v with
   | none => exact h4 hbv
   | some b =>
    cases hs : s.H j with
    | none => exact h3 hs
    | some oj =>
     have hlt := (h.obj j oj hs).2.lt (b := b) (by rw [<- e, hbv])
     rcases hb b hbv with h5 | h5
     ·exact h.apart j id h3 (by rw [hid]; simp) h2 (by rw [<- e, hbv]; simp) (by rw [<- e, hbv, h5])
     ·omega
  intro i j hi hj hij hbi
  have hi2 : i ≠ id := fun e => hi (by rw [e]; exact hHi)
  have hj2 : j ≠ id := fun e => hj (by rw [e]; exact hHi)
  by_cases h1 : i = s.nx
  ·subst h1
   have hjn : j ≠ s.nx := fun e => hij e.symm
   rw [hHn.2] at hbi ⊢
   rw [(hHo j hjn hj2).1] at hj
   rw [(hHo j hjn hj2).2]
   exact key j hjn hj2 hj hbi
  ·rw [(hHo i h1 hi2).1] at hi
   rw [(hHo i h1 hi2).2] at hbi ⊢
   by_cases h2 : j = s.nx
   ·subst h2
    rw [hHn.2]
    exact fun e => key i h1 hi2 hi (by rw [<- e]; exact hbi) e.symm
   ·rw [(hHo j h2 hj2).1] at hj
    rw [(hHo j h2 hj2).2]
    exact h.apart i j hi hj hij hbi
set_option maxHeartbeats 2000000 in
theorem zxz {H : HM} {nx id n i j : Nat} {cs : List D} (hid : H id = some (.row 27 n cs)) (hij : i < j) (hj : j <= n) :
  AC prog 129 [.osl id n, .int .i64 i, .int .i64 j] H nx fun r H' nx' => r = .osl nx (i + (n - j)) /\ H' = z0k (z0k H id none) nx (some (.row 27 (i + (n - j)) (cs.take (i * 8) ++ cs.drop (j * 8)))) /\ nx' = nx + 1 := by
 refine ⟨⟨_, func129, by kernel_rfl, by kernel_rfl⟩, fun s w vs h1 h2 h h4 => ?_⟩
 subst h1; subst h2
 simp only [relAll] at h4
 obtain ⟨v, r1, rfl, hv, v2, r2, rfl, hv2, v3, r3, rfl, hv3, rfl⟩ := h4
 simp only [rel] at hv hv2 hv3
 subst hv2; subst hv3
 obtain ⟨hidn, _, hlive⟩ := hv
 have hv := (hlive _ _ _ hid).2 rfl
 subst hv
 obtain ⟨xs, ho, hrv, hov, _, _⟩ := z3g h hid
 rw [z30] at ho
 refine (zrp (w := w) (v := s.κ id) (n := n) (i := i) (j := j) (xs := xs) hij hj ho hov).mono ?_
 rintro e w' ⟨v', rfl, hown, hg, hbl⟩
 obtain ⟨g1, g2⟩ := zr8 (w' := w') h id (.row 27 (i + (n - j)) (cs.take (i * 8) ++ cs.drop (j * 8))) v' hid hg.os hg.tape hg.output hg.size
  (fun k hk hne => hg.block k hk (by rw [z54 ho]; exact hne))
  (fun b hb => .inl (by rw [<- hbl]; exact hb))
  (fun hl => ⟨xs.take (i * 8) ++ xs.drop (j * 8), by rw [z30]; exact hown, relAll.later hl _ _ (z1a (z3n _ hrv) (z5x _ hrv)), z32 (z7l hov _) (zag hov _)⟩)
 refine ⟨v', .osl s.nx (i + (n - j)), mvS s id v' (.row 27 (i + (n - j)) (cs.take (i * 8) ++ cs.drop (j * 8))), rfl, ⟨rfl, rfl, rfl⟩, g1, g2, ?_⟩
 simp only [rel]
 obtain ⟨a2, c2, hvs⟩ := z7q hown
 refine ⟨Nat.lt_succ_self _, ⟨a2, c2, hvs⟩, fun e2 k2 cs2 hH => ?_⟩
 simp only [mvS, z0k, if_true, Option.some.injEq, HObj.row.injEq] at hH
 obtain ⟨_, rfl, _⟩ := hH
 exact ⟨Nat.le_refl _, fun _ => by simp [mvS]⟩
end
end Go.Proofs.YtmnabhhdiinfaaaGreatDoor
