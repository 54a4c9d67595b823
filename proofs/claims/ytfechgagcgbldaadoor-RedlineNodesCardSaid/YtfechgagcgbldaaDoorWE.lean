import Derived.Test.YtfechgagcgbldaaDoorWD
import Derived.WalkKit
import Derived.Lib.Walk
import Derived.Lib.SliceRun
import Derived.Lib.AppendZerosOnto
import Derived.Lib.Overlaps
import Derived.Laws.Externs
import Derived.Laws.NewBlocks
import Derived.Shelf.Spec.SlicesInsert
/-
 Lemmas of the claim. No condition but those that each names.
-/
set_option linter.unusedSimpArgs false
set_option linter.unusedVariables false
set_option maxRecDepth 100000
set_option maxHeartbeats 8000000
set_option linter.unusedSectionVars false
namespace Go.Proofs.YtfechgagcgbldaaDoor
open _root_.Go.Proofs.Tryd
section
open Abs Facts
attribute [local irreducible] awp
def z2h (p : Nat × Nat) : List D := [.int .i64 (p.1 : Int), .int .i64 (p.2 : Int)]
def zwf (l : List (Nat × Nat)) : D := .rsl false 2 (l.map fun p => .agg (z2h p))
theorem zjx (l : List (Nat × Nat)) : pureD (zwf l) = true := by simp only [zwf, pureD]; exact z0a (fun _ => rfl) l
theorem Lcs.pairsF_len {α : Type} [DecidableEq α] (a b : List α) : ∀ n i k, (Lcs.pairsF a b n i k).length = n
 | 0, _, _ => rfl
 | n + 1, i, k => by simp [Lcs.pairsF, Lcs.pairsF_len a b n]
theorem rc29 {H : HM} {nx : Nat} (a b : List ByteArray) (ha : a.length <= 256) (hb : b.length <= 256) (i k : Nat) (hi : i <= a.length) (O : k <= b.length) (h0 : H 0 = some (.box 79 [z2e a])) (h1 : H 1 = some (.box 79 [z2e b])) (h2 : H 2 = some (.box 125 [atD a b])) :
  RC prog 82 [.int .i64 i, .int .i64 k, .ptr 0 0, .ptr 1 0, .ptr 2 0] H nx (.agg [.int .i64 ((Lcs.next a b i k).1 : Int), .int .i64 ((Lcs.next a b i k).2 : Int)]) := by
 refine PC.borrow (pc29 a b ha hb i k hi O) rfl 2 ?_
 refine z0e (z0b _ rfl) (z0e (z0b _ rfl) (z0e ?_ (z0e ?_ (z0e ?_ z4s))))
 ·exact z47 1 h0 zp4 (z0b _ (z3n a))
 ·exact z47 1 h1 zp4 (z0b _ (z3n b))
 ·exact z47 1 h2 zvz (z0b _ (zns a b))
set_option maxHeartbeats 2000000 in
theorem ac15 (a b : List ByteArray) (ha : a.length <= maxLen) (hb : b.length <= maxLen) : AC prog 62 [z2e a, z2e b] noH 0 fun d H _ =>
  ((256 < a.length \/ 256 < b.length) /\ d = .nil) \/ (¬ (256 < a.length \/ 256 < b.length) /\ d = .osl 3 (Lcs.pairs a b).length /\ H 3 = some (.row 90 (Lcs.pairs a b).length ((Lcs.pairs a b).flatMap z2h))) := by
 unfold maxLen at ha hb
 refine (z30 [7] func62 rfl (by decide +kernel) rfl ?_)
 show awp _ _ (Code.seq _ _) _ _
 (refine zqh fun K hK => ?_); (simp only [go_sem, Nat.reduceBEq, Nat.reduceBeqDiff, Nat.reduceEqDiff, ↓reduceIte, reduceCtorEq, Nat.reduceAdd, Nat.reduceMul, Nat.reduceLeDiff, Nat.reduceLT, Int.reduceLT, Int.reduceLE, Int.reduceEq, z2e]); (refine hK _ ?_); (clear hK K)
 repeat refine zqj ?_
 refine zqh fun K hK => ?_
 simp only [go_sem, Nat.reduceBEq, Nat.reduceBeqDiff, Nat.reduceEqDiff, ↓reduceIte, reduceCtorEq, Nat.reduceAdd, Nat.reduceMul, Nat.reduceLeDiff, Nat.reduceLT, Int.reduceLT, Int.reduceLE, Int.reduceEq]
 refine zqs (pc27 true [a, b] (by simp)) ?_
 simp only [go_sem, Nat.reduceBEq, Nat.reduceBeqDiff, Nat.reduceEqDiff, ↓reduceIte, reduceCtorEq, Nat.reduceAdd, Nat.reduceMul, Nat.reduceLeDiff, Nat.reduceLT, Int.reduceLT, Int.reduceLE, Int.reduceEq]
 refine hK _ ?_
 clear hK K
 refine z0q fun K hK => ?_
 by_cases hlong : 256 < a.length \/ 256 < b.length
 ·have ht : (z35 a || z35 b) = true := by
   unfold z35
   simp only [Bool.or_eq_true, decide_eq_true_eq]
   omega
  simp only [ht]
  refine zqm true rfl (fun _ => ?_) (fun hc => (by cases hc))
  (refine zqh fun K hK => ?_); (simp only [go_sem, Nat.reduceBEq, Nat.reduceBeqDiff, Nat.reduceEqDiff, ↓reduceIte, reduceCtorEq, Nat.reduceAdd, Nat.reduceMul, Nat.reduceLeDiff, Nat.reduceLT, Int.reduceLT, Int.reduceLE, Int.reduceEq]); (refine hK _ ?_); (clear hK K)
  (refine zqn ?_); (refine Exists.intro _ (And.intro rfl ?_))
  exact .inl ⟨hlong, rfl⟩
 have ht : (z35 a || z35 b) = false := by
  unfold z35
  simp only [Bool.or_eq_false_iff, decide_eq_false_iff_not]
  omega
 simp only [ht]
 refine zqm false rfl (fun hc => (by cases hc)) (fun _ => ?_)
 refine zqk (hK _ ?_); clear hK K
 have ha' : a.length <= 256 := by omega
 have hb' : b.length <= 256 := by omega
 repeat refine zqj ?_
 refine zqh fun K hK => ?_
 simp only [go_sem, Nat.reduceBEq, Nat.reduceBeqDiff, Nat.reduceEqDiff, ↓reduceIte, reduceCtorEq, Nat.reduceAdd, Nat.reduceMul, Nat.reduceLeDiff, Nat.reduceLT, Int.reduceLT, Int.reduceLE, Int.reduceEq]
 refine zqs (pc28 a b ha' hb') ?_
 simp only [go_sem, Nat.reduceBEq, Nat.reduceBeqDiff, Nat.reduceEqDiff, ↓reduceIte, reduceCtorEq, Nat.reduceAdd, Nat.reduceMul, Nat.reduceLeDiff, Nat.reduceLT, Int.reduceLT, Int.reduceLE, Int.reduceEq]
 refine hK _ ?_
 clear hK K
 (refine zqh fun K hK => ?_); (simp only [go_sem, Nat.reduceBEq, Nat.reduceBeqDiff, Nat.reduceEqDiff, ↓reduceIte, reduceCtorEq, Nat.reduceAdd, Nat.reduceMul, Nat.reduceLeDiff, Nat.reduceLT, Int.reduceLT, Int.reduceLE, Int.reduceEq]); (refine hK _ ?_); (clear hK K)
 (refine zqh fun K hK => ?_); (simp only [go_sem, Nat.reduceBEq, Nat.reduceBeqDiff, Nat.reduceEqDiff, ↓reduceIte, reduceCtorEq, Nat.reduceAdd, Nat.reduceMul, Nat.reduceLeDiff, Nat.reduceLT, Int.reduceLT, Int.reduceLE, Int.reduceEq]); (refine hK _ ?_); (clear hK K)
 repeat refine zqj ?_
 (refine zqh fun K hK => ?_); (simp only [go_sem, Nat.reduceBEq, Nat.reduceBeqDiff, Nat.reduceEqDiff, ↓reduceIte, reduceCtorEq, Nat.reduceAdd, Nat.reduceMul, Nat.reduceLeDiff, Nat.reduceLT, Int.reduceLT, Int.reduceLE, Int.reduceEq]); (refine hK _ ?_); (clear hK K)
 refine z0q fun K hK => ?_
 refine zqi (z3f (fun n st => ∃ (i k : Nat) (out : List (Nat × Nat)), n = Lcs.at_ a b i k /\ i <= a.length /\ k <= b.length /\ st.t 5 = .ptr 2 0 /\ st.t 6 = .fn 82 [.ptr 0 0, .ptr 1 0, .ptr 2 0] /\ st.t 7 = .osl 3 out.length /\ st.t 8 = .int .i64 i /\ st.t 9 = .int .i64 k /\
   st.H 0 = some (.box 79 [z2e a]) /\ st.H 1 = some (.box 79 [z2e b]) /\ st.H 2 = some (.box 125 [atD a b]) /\ st.H 3 = some (.row 90 out.length (out.flatMap z2h)) /\ 4 <= st.nx /\ out ++ Lcs.pairsFrom a b i k = Lcs.pairsFrom a b 0 0) (Lcs.at_ a b 0 0) ?_ ?_)
 ·exact ⟨0, 0, [], rfl, Nat.zero_le _, Nat.zero_le _, rfl, rfl, rfl, rfl, rfl, rfl, rfl, rfl, rfl, by show 4 <= 4; omega, rfl⟩
 rintro n st ⟨i, k, out, rfl, hi, O, h5, h6, h7, h8, h9, hH0, hH1, hH2, hH3, hnx, ho⟩
 have hlen : out.length <= 256 := by
  have h1 := congrArg List.length ho
  simp only [List.length_append, Lcs.pairsFrom, Lcs.pairsF_len] at h1
  have h2 := Lcs.at_le a b 0 0
  omega
 repeat refine zqj ?_
 refine zqh fun K hK => ?_
 simp only [go_sem, Nat.reduceBEq, Nat.reduceBeqDiff, Nat.reduceEqDiff, ↓reduceIte, reduceCtorEq, Nat.reduceAdd, Nat.reduceMul, Nat.reduceLeDiff, Nat.reduceLT, Int.reduceLT, Int.reduceLE, Int.reduceEq, h5, h8, h9, hH2, atD]
 refine zqs (pcAt a b ha' hb' i k hi O) ?_
 simp only [go_sem, Nat.reduceBEq, Nat.reduceBeqDiff, Nat.reduceEqDiff, ↓reduceIte, reduceCtorEq, Nat.reduceAdd, Nat.reduceMul, Nat.reduceLeDiff, Nat.reduceLT, Int.reduceLT, Int.reduceLE, Int.reduceEq]
 refine hK _ ?_
 clear hK K
 refine z0q fun K2 hK2 => ?_
 (refine zqm _ rfl (fun hc => ?_) (fun hc => ?_)) <;> (simp only [z06] at hc)
 ·refine zqk (hK2 _ ?_); clear hK2 K2
  repeat refine zqj ?_
  have hpos : 0 < Lcs.at_ a b i k := by omega
  have hcons := Lcs.pairsFrom_cons a b i k hpos
  obtain ⟨m, hm⟩ : ∃ m, Lcs.at_ a b i k = m + 1 := ⟨Lcs.at_ a b i k - 1, by omega⟩
  obtain ⟨q1, q2, q3, q4, q5, q6⟩ := Lcs.next_good a b i k m hm
  refine zqi ?_
  refine zqh fun K hK => ?_
  simp only [go_sem, Nat.reduceBEq, Nat.reduceBeqDiff, Nat.reduceEqDiff, ↓reduceIte, reduceCtorEq, Nat.reduceAdd, Nat.reduceMul, Nat.reduceLeDiff, Nat.reduceLT, Int.reduceLT, Int.reduceLE, Int.reduceEq, h6, h8, h9]
  refine z3t (rc29 a b ha' hb' i k hi O hH0 hH1 hH2) ?_
  simp only [go_sem, Nat.reduceBEq, Nat.reduceBeqDiff, Nat.reduceEqDiff, ↓reduceIte, reduceCtorEq, Nat.reduceAdd, Nat.reduceMul, Nat.reduceLeDiff, Nat.reduceLT, Int.reduceLT, Int.reduceLE, Int.reduceEq]
  refine hK _ ?_
  clear hK K
  have e0 : (0 == st.nx) = false := by simp; omega
  have e1 : (1 == st.nx) = false := by simp; omega
  have e2 : (2 == st.nx) = false := by simp; omega
  have e3 : (3 == st.nx) = false := by simp; omega
  have b1 : (out.length + 1) * 16 <= 140737488355328 := by omega
  have b2 : out.length <= 9223372036854775806 := by omega
  (refine zqh fun K hK => ?_); (simp only [go_sem, Nat.reduceBEq, Nat.reduceBeqDiff, Nat.reduceEqDiff, ↓reduceIte, reduceCtorEq, Nat.reduceAdd, Nat.reduceMul, Nat.reduceLeDiff, Nat.reduceLT, Int.reduceLT, Int.reduceLE, Int.reduceEq, h7, hH3, e3, b1, b2]); (refine hK _ ?_); (clear hK K)
  have wa : IntKind.i64.wrap (((Lcs.next a b i k).1 : Int) + 1) = (((Lcs.next a b i k).1 + 1 : Nat) : Int) := z28 (by omega)
  have wb : IntKind.i64.wrap (((Lcs.next a b i k).2 : Int) + 1) = (((Lcs.next a b i k).2 + 1 : Nat) : Int) := z28 (by omega)
  have e4 : (st.nx == 3) = false := by simp; omega
  (refine ze8 (by decide +kernel) ?_); (simp only [go_sem, Nat.reduceBEq, Nat.reduceBeqDiff, Nat.reduceEqDiff, ↓reduceIte, reduceCtorEq, Nat.reduceAdd, Nat.reduceMul, Nat.reduceLeDiff, Nat.reduceLT, Int.reduceLT, Int.reduceLE, Int.reduceEq, wa, wb, e4])
  have n0 : ¬ (0 = st.nx) := by omega
  have n1 : ¬ (1 = st.nx) := by omega
  have n2 : ¬ (2 = st.nx) := by omega
  refine ⟨m, by omega, (Lcs.next a b i k).1 + 1, (Lcs.next a b i k).2 + 1, out ++ [Lcs.next a b i k], by omega, by omega, by omega, h5, h6, ?_, rfl, rfl, ?_, ?_, ?_, ?_, ?_, ?_⟩
  ·rw [List.length_append]; rfl
  ·simp only [go_sem, Nat.reduceBEq, Nat.reduceBeqDiff, Nat.reduceEqDiff, ↓reduceIte, reduceCtorEq, Nat.reduceAdd, Nat.reduceMul, Nat.reduceLeDiff, Nat.reduceLT, Int.reduceLT, Int.reduceLE, Int.reduceEq, e0, hH0]
  ·simp only [go_sem, Nat.reduceBEq, Nat.reduceBeqDiff, Nat.reduceEqDiff, ↓reduceIte, reduceCtorEq, Nat.reduceAdd, Nat.reduceMul, Nat.reduceLeDiff, Nat.reduceLT, Int.reduceLT, Int.reduceLE, Int.reduceEq, e1, hH1]
  ·simp only [go_sem, Nat.reduceBEq, Nat.reduceBeqDiff, Nat.reduceEqDiff, ↓reduceIte, reduceCtorEq, Nat.reduceAdd, Nat.reduceMul, Nat.reduceLeDiff, Nat.reduceLT, Int.reduceLT, Int.reduceLE, Int.reduceEq, e2, hH2]
  ·simp only [go_sem, Nat.reduceBEq, Nat.reduceBeqDiff, Nat.reduceEqDiff, ↓reduceIte, reduceCtorEq, Nat.reduceAdd, Nat.reduceMul, Nat.reduceLeDiff, Nat.reduceLT, Int.reduceLT, Int.reduceLE, Int.reduceEq, e3]
   simp [z2h]
  ·show 4 <= st.nx + 1; omega
  ·rw [List.append_assoc, <- ho, hcons]; rfl
 ·refine zql (show K _ from hK _ ?_)
  (refine zqh fun K hK => ?_); (simp only [go_sem, Nat.reduceBEq, Nat.reduceBeqDiff, Nat.reduceEqDiff, ↓reduceIte, reduceCtorEq, Nat.reduceAdd, Nat.reduceMul, Nat.reduceLeDiff, Nat.reduceLT, Int.reduceLT, Int.reduceLE, Int.reduceEq, h7]); (refine hK _ ?_); (clear hK K)
  (refine zqn ?_); (refine Exists.intro _ (And.intro rfl ?_))
  rw [Lcs.pairsFrom_nil a b i k (by omega), List.append_nil] at ho
  refine .inr ⟨hlong, ?_, ?_⟩
  ·unfold Lcs.pairs; rw [if_neg hlong, <- ho]; rfl
  ·unfold Lcs.pairs; rw [if_neg hlong, <- ho]; exact hH3
theorem pc15 (a b : List ByteArray) (ha : a.length <= maxLen) (hb : b.length <= maxLen) : PC prog 62 [z2e a, z2e b] (zwf (Lcs.pairs a b)) := by
 refine z3q 2 (by simp only [pureD.pureL, z3n, Bool.and_self]) (zjx _) ((ac15 a b ha hb).mono fun d H nx h => ?_)
 rcases h with ⟨hl, rfl⟩ | ⟨hl, rfl, hH⟩
 ·refine ztg ?_
  unfold Lcs.pairs; rw [if_pos hl]; rfl
 ·exact z8i (z1s 0 hH zp8 zvw (fun _ => rfl) (fun _ => rfl))
end
section
open Abs Facts Tr
attribute [local irreducible] awp
set_option maxRecDepth 100000
theorem zau : ∀ l : List (Nat × Nat), z1j 2 (l.map fun p => D.agg (z2h p)) = some (l.flatMap z2h)
 | [] => rfl
 | p :: l => by
  rw [List.map_cons, List.flatMap_cons]
  unfold z1j
  rw [zau l]
  rfl
def rowP (l : List (Nat × Nat)) : HObj := .row 90 l.length (l.flatMap z2h)
theorem zu1 (l : List (Nat × Nat)) (hl : l.length <= 1000000) (H : HM) (nx : Nat) : AC prog 64 [zwf l] H nx fun r H' nx' => r = .osl nx l.length /\ H' = z0u H nx (some (rowP l)) /\ nx' = nx + 1 := by
 refine AC.split (pre := []) (post := []) (sz := 2) (els := l.map fun p => .agg (z2h p)) (fun he => ?_) ?_
 ·have hl0 : l = [] := by simpa using he
  subst hl0
  have hp : PC prog 64 [.nil] .nil := by
   refine z3q 2 rfl rfl (z30 [] func64 rfl (by decide +kernel) rfl ?_)
   show awp _ _ (Code.seq _ _) _ _
   repeat' (first | refine nxt ?_ | ((refine zqh fun K hK => ?_); (simp (disch := omega) only [go_sem, Nat.reduceBEq, ↓reduceIte])) | (refine zqd _ rfl ?_ ?_ <;> intro hc <;> (first | (cases hc; done) | ((try simp only [] at hc); (try omega)))) | refine zqu (by simp only [go_sem]; rfl) rfl ?_ | (refine hK _ ?_; clear hK K))
   exact z1e rfl (Le.refl _)
  exact zuo 90 (hp.ac ⟨rfl, rfl, rfl, rfl⟩)
 ·have ho : OC prog 64 [.rsl true 2 (l.map fun p => .agg (z2h p))] [rowP l] (.osl 0 l.length) := by
   refine zid (by simp only [pureD.pureL, pureD, z0a (f := fun p => D.agg (z2h p)) (fun _ => rfl) l, Bool.and_self]) rfl (fun o ho => by simp at ho; subst ho; exact z12 (fun _ => rfl) _) (z30 [5] func64 rfl (by decide +kernel) rfl ?_)
   show awp _ _ (Code.seq _ _) _ _
   repeat' (first | refine nxt ?_ | ((refine zqh fun K hK => ?_); (simp (disch := omega) only [go_sem, Nat.reduceBEq, ↓reduceIte, reduceCtorEq, Nat.reduceAdd, Nat.reduceMul, zau])) | (refine zqd _ rfl ?_ ?_ <;> intro hc <;> (first | (cases hc; done) | ((try simp only [] at hc); (try omega)))) | refine zqu (by simp only [go_sem]; rfl) rfl ?_ | (refine hK _ ?_; clear hK K))
   refine ⟨fun _ => 0, fun i j hi hj _ => by simp at hi hj; omega, ?_, fun j hj => ?_⟩
   ·(simp (disch := omega) only [go_sem, Nat.reduceBEq, renD])
   ·obtain rfl : j = 0 := by simp at hj; omega
    (simp (disch := omega) only [go_sem, rowP])
    try rfl
  exact ho.ac ⟨by simp [renD], rfl, rfl⟩
theorem zkf (l : List (Nat × Nat)) (hl : l.length <= 1000000) : OC prog 64 [zwf l] [rowP l] (.osl 0 l.length) :=
 ⟨by simp only [pureD.pureL, zjx, Bool.and_self], rfl, fun o ho => by simp at ho; subst ho; exact z12 (fun _ => rfl) _, fun H nx => (zu1 l hl H nx).mono fun r H' nx' ⟨h1, h2, h3⟩ => ⟨by rw [h1]; rfl, h2, h3⟩⟩
theorem zoc (l : List Wd) (hl : l.length <= 1000000) : PC prog 59 [z2g l] (z2e (txt l)) := by
 refine z3q 2 (by simp only [pureD.pureL, z24, Bool.and_self]) (z3n _) (z30 [3] func59 rfl (by decide +kernel) rfl ?_)
 show awp _ _ (Code.seq _ _) _ _
 repeat' (first | refine nxt ?_ | ((refine zqh fun K hK => ?_); (simp (disch := omega) only [go_sem, Nat.reduceBEq, ↓reduceIte, z2g])) | (refine hK _ ?_; clear hK K))
 (refine z6x (fun U st => ∃ (k : _), U = l.length - k /\ st.t 3 = .osl 0 k /\ st.t 6 = z2g l /\ st.t 7 = .int .i64 l.length /\ st.t 8 = .int .i64 k /\ st.H 0 = some (.row 9 k (((l.take k).map (·.text)).map .str)) /\ (k <= l.length) /\ (0 < st.nx)) ?_ ?_); rotate_left; (rintro U st ⟨k, rfl, s3, s6, s7, s8, sH0, sp0, sp1⟩); rotate_left
 ·(refine ⟨_, 0, rfl, ?_⟩); (simp (disch := omega) only [go_sem, Nat.reduceBEq, Nat.reduceLT, and_self, Int.natCast_zero, List.map_nil, z2g])
  try simp
 have htk : ∀ h : k < l.length, l.take (k + 1) = l.take k ++ [l[k]] := fun h => List.take_succ_eq_append_getElem h
 repeat' (first | ((first | refine zqh fun K hK => ?_ | refine zqr fun K hK => ?_); (simp (disch := omega) only [go_sem, Nat.reduceBEq, ↓reduceIte, reduceCtorEq, Nat.reduceAdd, Nat.reduceLeDiff, Nat.reduceLT, s3, s6, s7, s8, sH0, z2g])) | (refine zqd _ rfl ?_ ?_ <;> intro hc <;> (((try simp only [z06] at hc); (try omega)))) | refine nxt ?_ | refine zqz ?_ | refine zqu (by simp only [go_sem]; rfl) rfl ?_ | (refine hK _ ?_; clear hK K))
 ·have htk := htk (by omega)
  (refine Exists.intro _ (And.intro ?_ ⟨k + 1, rfl, ?_⟩)); rotate_left; (simp (disch := omega) only [go_sem, Nat.reduceBEq, s3, s6, s7, s8, sH0, true_and, and_true, Int.natCast_add, Int.natCast_one, List.map_append, List.map_cons, List.map_nil, htk]); rotate_left
  ·omega
  ·omega
 ·have O : k = l.length := by omega
  subst O
  rw [List.take_length] at sH0
  have h2 : l.length = (txt l).length := by simp [txt]
  rw [h2] at sH0 ⊢
  exact z8i (z8h 0 sH0 z8x zdb (by simp) (zic _))

theorem zih {α β γ : Type} {ga : α -> γ} {gb : β -> γ} {gs : α -> β -> γ} {a : List α} {b : List β} : ∀ (l : List (Nat × Nat)) (i k : Nat), Rise a.length b.length l i k -> (wov ga gb gs a b l i k).length + i + k <= a.length + b.length
 | [], i, k, h => by
  obtain ⟨h1, h2⟩ := h
  simp only [wov, List.length_append, List.length_map, List.length_drop]; omega
 | (x, y) :: l, i, k, h => by
  obtain ⟨h1, h2, h3, h4, h5⟩ := h
  have ih := zih (ga := ga) (gb := gb) (gs := gs) l _ _ h5
  rw [wov]
  rw [List.getElem?_eq_getElem h3, List.getElem?_eq_getElem h4]
  simp only [List.length_append, List.length_map, List.length_take, List.length_drop, List.length_cons, List.length_nil]
  omega
theorem zav {α : Type} (a : List α) {i j : Nat} (h1 : i <= j) (h2 : j < a.length) : (a.drop i).take (j + 1 - i) = (a.drop i).take (j - i) ++ [a[j]] := by
 rw [show j + 1 - i = (j - i) + 1 by omega, List.take_succ_eq_append_getElem (by rw [List.length_drop]; omega), List.getElem_drop]
 congr 2
 simp only [show i + (j - i) = j by omega]
theorem zkg {α β γ : Type} {ga : α -> γ} {gb : β -> γ} {gs : α -> β -> γ} {a : List α} {b : List β} {ps : List (Nat × Nat)} {W out : List γ} {j i k : Nat} (hj : j <= ps.length) (h : out ++ wov ga gb gs a b (ps.drop j) i k = W) (hr : Rise a.length b.length (ps.drop j) i k) :
  ∃ x y, (ps ++ [(a.length, b.length)])[j]? = some (x, y) /\ i <= x /\ x <= a.length /\ k <= y /\ y <= b.length /\ ∃ R, W = out ++ (((a.drop i).take (x - i)).map ga ++ (((b.drop k).take (y - k)).map gb ++ R)) /\
   ((j = ps.length /\ x = a.length /\ y = b.length /\ R = []) \/ (j < ps.length /\ ∃ (hx : x < a.length) (hy : y < b.length), R = gs a[x] b[y] :: wov ga gb gs a b (ps.drop (j + 1)) (x + 1) (y + 1) /\ Rise a.length b.length (ps.drop (j + 1)) (x + 1) (y + 1))) := by
 rcases Nat.lt_or_ge j ps.length with hlt | hge
 ·obtain ⟨x, y⟩ : Nat × Nat := ps[j]
  have V := List.drop_eq_getElem_cons hlt
  obtain ⟨x, y, he⟩ : ∃ x y, ps[j] = (x, y) := ⟨_, _, rfl⟩
  rw [V, he] at h hr
  obtain ⟨h1, h2, h3, h4, h5⟩ := hr
  refine ⟨x, y, by rw [List.getElem?_append_left hlt, List.getElem?_eq_getElem hlt, he], h1, by omega, h2, by omega, _, ?_, .inr ⟨hlt, h3, h4, rfl, h5⟩⟩
  rw [<- h, wov, List.getElem?_eq_getElem h3, List.getElem?_eq_getElem h4]
  rfl
 ·have e : j = ps.length := by omega
  subst e
  rw [List.drop_length] at h hr
  obtain ⟨h1, h2⟩ := hr
  refine ⟨a.length, b.length, by simp, h1, Nat.le_refl _, h2, Nat.le_refl _, [], ?_, .inl ⟨rfl, rfl, rfl, rfl⟩⟩
  rw [<- h, wov, List.take_of_length_le (by rw [List.length_drop]; omega), List.take_of_length_le (by rw [List.length_drop]; omega), List.append_nil]
set_option maxHeartbeats 16000000 in
theorem zu2 {H : HM} {nx : Nat} (ga : ByteArray -> Tw) (gb : ByteArray -> Tw) (gs : ByteArray -> ByteArray -> Tw) (a : List ByteArray) (b : List ByteArray) (ha : a.length <= 1000000) (hb : b.length <= 1000000) (ps : List (Nat × Nat)) (hps : ps.length <= 1000000) (hr : Rise a.length b.length ps 0 0)
  {g1 g2 g3 : FuncId} {c1 c2 c3 : List D}
  (h1 : ∀ x ∈ a, ∀ H' n', nx <= n' -> z3p nx H H' -> RC prog g1 (D.str x :: c1) H' n' (.agg (z33 (ga x))))
  (h2 : ∀ y ∈ b, ∀ H' n', nx <= n' -> z3p nx H H' -> RC prog g2 (D.str y :: c2) H' n' (.agg (z33 (gb y))))
  (h3 : ∀ x ∈ a, ∀ y ∈ b, ∀ H' n', nx <= n' -> z3p nx H H' -> RC prog g3 ((fun s : ByteArray => D.str s) x :: (fun s : ByteArray => D.str s) y :: c3) H' n' (.agg (z33 (gs x y)))) :
  AC prog 61 [z2e a, z2e b, zwf ps, .fn g1 c1, .fn g2 c2, .fn g3 c3] H nx fun r H' _ => r = .osl nx (wov ga gb gs a b ps 0 0).length /\ H' nx = some (.row 53 (wov ga gb gs a b ps 0 0).length ((wov ga gb gs a b ps 0 0).flatMap z33)) /\ z3p nx H H' := by
 have cl := zkf ps hps
 have hcl : ps.flatMap z2h ++ [.int .i64 a.length, .int .i64 b.length] = (ps ++ [(a.length, b.length)]).flatMap z2h := by rw [List.flatMap_append]; rfl
 have hgr : z1h true 2 (ps.length + 1) ((ps ++ [(a.length, b.length)]).flatMap z2h) = (ps ++ [(a.length, b.length)]).map fun p => D.agg (z2h p) := by
  have h := z4j (f := z2h) (sz := 2) (fun _ => rfl) (ps ++ [(a.length, b.length)])
  rw [List.length_append] at h
  exact h
 have hpu : pureD.pureL ((ps ++ [(a.length, b.length)]).flatMap z2h) = true := z12 (fun _ => rfl) _
 obtain ⟨W, hW⟩ : ∃ W, W = wov ga gb gs a b ps 0 0 := ⟨_, rfl⟩
 have hWl : W.length <= a.length + b.length := by have := zih (ga := ga) (gb := gb) (gs := gs) ps 0 0 hr; rw [hW]; omega
 obtain ⟨L, hL⟩ : ∃ L, L = (ps ++ [(a.length, b.length)]).map fun p => D.agg (z2h p) := ⟨_, rfl⟩
 have hLl : L.length = ps.length + 1 := by rw [hL]; simp
 have hLg : ∀ j (h : j < (ps ++ [(a.length, b.length)]).length), L[j]? = some (.agg [.int .i64 ((ps ++ [(a.length, b.length)])[j].1 : Nat), .int .i64 ((ps ++ [(a.length, b.length)])[j].2 : Nat)]) := fun j h => by
  rw [hL, List.getElem?_map, List.getElem?_eq_getElem h]; rfl
 rw [<- hL] at hgr
 rw [<- hW]
 have hn1 : (nx == nx + 1) = false := z1x (by omega)
 refine (z30 [13, 2000026] func61 rfl (by decide +kernel) rfl ?_)
 show awp _ _ (Code.seq _ _) _ _
 repeat' (first | refine nxt ?_ | ((first | refine z22 (N := 4) rfl fun K hK => ?_ | refine zdw (cl) ?_); (simp (disch := omega) only [go_sem, Nat.reduceBEq, ↓reduceIte, reduceCtorEq, Nat.reduceAdd, Nat.reduceMul, Nat.reduceLeDiff, z2e, rowP, hcl, hgr, hpu, hLl])) | (refine hK _ ?_; clear hK K))
 (refine z6x (fun U st => ∃ (j : _) (i : Nat) (k : Nat) (out : List Tw), U = ps.length + 1 - j /\ st.t 0 = z2e a /\ st.t 1 = z2e b /\ st.t 3 = .fn g1 c1 /\ st.t 4 = .fn g2 c2 /\ st.t 5 = .fn g3 c3 /\ st.t 13 = .osl nx out.length /\ st.t 14 = .int .i64 i /\ st.t 15 = .int .i64 k /\ st.t 26 = .rsl false 2 L /\ st.t 27 = .int .i64 ((ps.length + 1 : Nat) : Int) /\ st.t 28 = .int .i64 j /\ st.H (nx) = some (.row 53 out.length (out.flatMap z33)) /\ (j <= ps.length + 1) /\ (nx < st.nx) /\ (z3p nx H st.H) /\ ((j <= ps.length /\ out ++ wov ga gb gs a b (ps.drop j) i k = W /\ Rise a.length b.length (ps.drop j) i k) \/ (j = ps.length + 1 /\ out = W))) ?_ ?_); rotate_left; (rintro U st ⟨j, i, k, out, rfl, q0, q1, q3, q4, q5, q13, q14, q15, q26, q27, q28, qHnx, qp0, qp1, qp2, qp3⟩); rotate_left
 ·(refine ⟨_, 0, 0, 0, [], rfl, ?_⟩); (simp (disch := omega) only [go_sem, Nat.reduceBEq, reduceCtorEq, true_and, Int.natCast_add, Int.natCast_one, Int.natCast_zero, List.flatMap_nil, List.nil_append, z2e, hn1])
  exact ⟨fun id hid => by simp (disch := omega) only [z5e], .inl ⟨hW.symm, hr⟩⟩
 have hq := z01 qp1
 have hst : ∀ {H' : HM} {n' : Nat}, z3p (nx + 1) st.H H' -> z3p nx H H' := fun h id hid => (h id (by omega)).trans (qp2 id hid)
 by_cases hj : j <= ps.length
 ·obtain ⟨hw, hri⟩ : out ++ wov ga gb gs a b (ps.drop j) i k = W /\ Rise a.length b.length (ps.drop j) i k := by
   rcases qp3 with ⟨_, h4, h5⟩ | ⟨h4, _⟩
   ·exact ⟨h4, h5⟩
   ·omega
  clear qp3
  obtain ⟨x, y, hxy, hix, hxa, hky, hyb, R, hWd, hR⟩ := zkg hj hw hri
  have hg : L[j]? = some (.agg [.int .i64 (x : Int), .int .i64 (y : Int)]) := by rw [hL, List.getElem?_map, hxy]; rfl
  have hg : zjj L (j : Int) = some (.agg [.int .i64 (x : Int), .int .i64 (y : Int)]) := by
   unfold zjj
   rw [if_pos ⟨by omega, by omega⟩, Int.toNat_natCast, hg]
  obtain ⟨B, hB⟩ : ∃ B, B = st.nx := ⟨_, rfl⟩
  rw [<- hB] at hq
  have hol : (out ++ ((a.drop i).take (x - i)).map ga).length + ((b.drop k).take (y - k)).length + R.length = W.length := by rw [hWd]; simp; omega
  have hsc : ∀ z, (z33 z).length = 2 := fun z => rfl
  repeat' (first | ((refine z22 (N := 6) rfl fun K hK => ?_); (simp (disch := omega) only [go_sem, Nat.reduceBEq, ↓reduceIte, reduceCtorEq, Nat.reduceAdd, Nat.reduceLeDiff, q26, q27, q28, hg])) | (refine zqd _ rfl ?_ ?_ <;> intro hc <;> (((try simp only [z06] at hc); (try omega)))) | refine nxt ?_ | (refine hK _ ?_; clear hK K))
  have hBn : nx < B := by omega
  (refine z6x (fun U st => ∃ (m : Nat) (o1 : List Tw), U = x - m /\ st.t 0 = z2e a /\ st.t 1 = z2e b /\ st.t 3 = .fn g1 c1 /\ st.t 4 = .fn g2 c2 /\ st.t 5 = .fn g3 c3 /\ st.t 17 = .ptr B 0 /\ st.t 26 = .rsl false 2 L /\ st.t 27 = .int .i64 ((ps.length + 1 : Nat) : Int) /\ st.t 28 = .int .i64 j /\ st.t 13 = .osl nx o1.length /\ st.t 14 = .int .i64 m /\ st.t 15 = .int .i64 k /\ st.H (nx) = some (.row 53 o1.length (o1.flatMap z33)) /\ st.H (B) = some (.box 90 [.int .i64 x, .int .i64 y]) /\ (i <= m) /\ (m <= x) /\ (B < st.nx) /\ (z3p nx H st.H) /\ (o1 = out ++ ((a.drop i).take (m - i)).map ga)) ?_ ?_); rotate_left; (rintro U st ⟨m, o1, rfl, r0, r1, r3, r4, r5, r17, r26, r27, r28, r13, r14, r15, rHnx, rHB, rp0, rp1, rp2, rp3, rp4⟩); rotate_left
  ·(refine ⟨_, i, out, rfl, ?_⟩); (simp (disch := omega) only [go_sem, Nat.reduceBEq, q0, q1, q3, q4, q5, q13, q14, q15, q26, q27, q28, qHnx, true_and, Int.natCast_add, Int.natCast_one, z2e, hB])
   refine ⟨Nat.le_refl _, hix, by omega, fun id hid => by simp (disch := omega) only [z5e]; exact qp2 id hid, by simp⟩
  have hrq := z01 rp2
  have hrn := z01 (show nx < st.nx by omega)
  have hBx : (B == nx) = false := z1x (by omega)
  have hxB : (nx == B) = false := z1x (by omega)
  by_cases hm : m < x
  ·have hma : m < a.length := by omega
   have c1 := h1 a[m] (List.getElem_mem hma) st.H st.nx (by omega) rp3
   have htm := zav a rp0 hma
   have ho1 : o1.length <= 2000000 := by rw [rp4, List.length_append, List.length_map, List.length_take]; simp only [List.length_append, List.length_map, List.length_take] at hol; omega
   repeat' (first | refine nxt ?_ | ((first | refine zqh fun K hK => ?_ | refine zqr fun K hK => ?_ | refine z3t (c1) ?_); (simp (disch := omega) only [go_sem, Nat.reduceBEq, ↓reduceIte, reduceCtorEq, Nat.reduceAdd, Nat.reduceMul, Nat.reduceLeDiff, r0, r3, r17, r13, r14, rHnx, rHB, z2e, hsc, List.append_nil])) | (refine zqd _ rfl ?_ ?_ <;> intro hc <;> (((try simp only [z06] at hc); (try omega)))) | (refine hK _ ?_; clear hK K))
   (refine Exists.intro _ (And.intro ?_ ⟨m + 1, o1 ++ [ga a[m]], rfl, ?_⟩)); rotate_left; (simp (disch := omega) only [go_sem, Nat.reduceBEq, r0, r1, r3, r4, r5, r17, r26, r27, r28, r13, r14, r15, rHnx, rHB, true_and, Int.natCast_add, Int.natCast_one, List.flatMap_append, List.flatMap_cons, List.flatMap_nil, List.append_nil, hBx]); rotate_left
   ·omega
   ·exact ⟨by omega, by omega, rp2, fun id hid => by rw [z2k _ (by omega)]; exact rp3 id hid, by rw [rp4, htm, List.map_append, List.append_assoc]; rfl⟩
  ·obtain rfl : m = x := by omega
   repeat' (first | refine nxt ?_ | ((refine z22 (N := 9) rfl fun K hK => ?_); (simp (disch := omega) only [go_sem, Nat.reduceBEq, ↓reduceIte, reduceCtorEq, Nat.reduceAdd, r17, r14, rHB])) | (refine zqd _ rfl ?_ ?_ <;> intro hc <;> (((try simp only [z06] at hc); (try omega)))) | refine zqz ?_ | (refine hK _ ?_; clear hK K))
   (refine z6x (fun U st => ∃ (n : Nat) (o2 : List Tw), U = y - n /\ st.t 0 = z2e a /\ st.t 1 = z2e b /\ st.t 3 = .fn g1 c1 /\ st.t 4 = .fn g2 c2 /\ st.t 5 = .fn g3 c3 /\ st.t 17 = .ptr B 0 /\ st.t 26 = .rsl false 2 L /\ st.t 27 = .int .i64 ((ps.length + 1 : Nat) : Int) /\ st.t 28 = .int .i64 j /\ st.t 13 = .osl nx o2.length /\ st.t 14 = .int .i64 m /\ st.t 15 = .int .i64 n /\ st.H (nx) = some (.row 53 o2.length (o2.flatMap z33)) /\ st.H (B) = some (.box 90 [.int .i64 m, .int .i64 y]) /\ (k <= n) /\ (n <= y) /\ (B < st.nx) /\ (z3p nx H st.H) /\ (o2 = out ++ (((a.drop i).take (m - i)).map ga ++ ((b.drop k).take (n - k)).map gb))) ?_ ?_); rotate_left; (rintro U st ⟨n, o2, rfl, t0, t1, t3, t4, t5, t17, t26, t27, t28, t13, t14, t15, tHnx, tHB, tp0, tp1, tp2, tp3, tp4⟩); rotate_left
   ·(refine ⟨_, k, o1, rfl, ?_⟩); (simp (disch := omega) only [go_sem, Nat.reduceBEq, r0, r1, r3, r4, r5, r17, r26, r27, r28, r13, r14, r15, rHnx, rHB, true_and, Int.natCast_add, Int.natCast_one, z2e])
    refine ⟨Nat.le_refl _, hky, rp2, rp3, by rw [rp4]; simp⟩
   have htq := z01 tp2
   have htn := z01 (show nx < st.nx by omega)
   have hto : o2.length + ((b.drop k).take (y - k)).length - ((b.drop k).take (n - k)).length + R.length = W.length /\ o2.length <= 2000000 := by
    rw [tp4]
    simp only [List.length_append, List.length_map, List.length_take, List.length_drop] at hol ⊢
    omega
   by_cases hn : n < y
   ·have hnb : n < b.length := by omega
    have c2 := h2 b[n] (List.getElem_mem hnb) st.H st.nx (by omega) tp3
    have htm := zav b tp0 hnb
    repeat' (first | refine nxt ?_ | ((first | refine zqh fun K hK => ?_ | refine zqr fun K hK => ?_ | refine z3t (c2) ?_); (simp (disch := omega) only [go_sem, Nat.reduceBEq, ↓reduceIte, reduceCtorEq, Nat.reduceAdd, Nat.reduceMul, Nat.reduceLeDiff, t1, t4, t17, t13, t15, tHnx, tHB, z2e, hsc, List.append_nil])) | (refine zqd _ rfl ?_ ?_ <;> intro hc <;> (((try simp only [z06] at hc); (try omega)))) | (refine hK _ ?_; clear hK K))
    (refine Exists.intro _ (And.intro ?_ ⟨n + 1, o2 ++ [gb b[n]], rfl, ?_⟩)); rotate_left; (simp (disch := omega) only [go_sem, Nat.reduceBEq, t0, t1, t3, t4, t5, t17, t26, t27, t28, t13, t14, t15, tHnx, tHB, true_and, Int.natCast_add, Int.natCast_one, List.flatMap_append, List.flatMap_cons, List.flatMap_nil, List.append_nil, hBx]); rotate_left
    ·omega
    ·exact ⟨by omega, by omega, tp2, fun id hid => by rw [z2k _ (by omega)]; exact tp3 id hid, by rw [tp4, htm]; simp⟩
   ·obtain rfl : n = y := by omega
    rcases hR with ⟨rfl, rfl, rfl, rfl⟩ | ⟨hjl, hxl, hyl, rfl, hri2⟩
    ·repeat' (first | refine nxt ?_ | ((first | refine zqh fun K hK => ?_ | refine zqr fun K hK => ?_); (simp (disch := omega) only [go_sem, Nat.reduceBEq, ↓reduceIte, reduceCtorEq, Nat.reduceAdd, t0, t17, t28, t15, tHB, z2e])) | ((first | refine zqd _ rfl (fun hc => ?_) (fun hc => ?_) | refine zqm _ rfl (fun hc => ?_) (fun hc => ?_)) <;> (first | (cases hc; done) | ((try simp only [z06] at hc); (try omega)))) | refine zqz ?_ | (refine hK _ ?_; clear hK K) | (refine zqf (fun hb => ?_) (fun hb => ?_) <;> (have hb2 := hb; try simp only [z06] at hb2) <;> ((first | have F := eq_false hb2 | have F := eq_true hb2); (simp (disch := omega) only [go_sem, Nat.reduceBEq, ↓reduceIte, reduceCtorEq, Nat.reduceAdd, F, t1, t17, tHB, z2e]); clear hb F; (try omega))))
     (refine Exists.intro _ (And.intro ?_ ⟨ps.length + 1, a.length, b.length, o2, rfl, ?_⟩)); rotate_left; (simp (disch := omega) only [go_sem, Nat.reduceBEq, Nat.reduceLeDiff, t0, t1, t3, t4, t5, t26, t27, t28, t13, t14, t15, tHnx, true_and, Int.natCast_add, Int.natCast_one]); rotate_left
     ·omega
     ·exact ⟨Nat.le_refl _, by omega, tp3, .inr (by rw [hWd, tp4]; simp)⟩
    ·have c3 := h3 a[m] (List.getElem_mem hxl) b[n] (List.getElem_mem hyl) st.H st.nx (by omega) tp3
     repeat' (first | refine nxt ?_ | ((first | refine zqh fun K hK => ?_ | refine zqe (by decide +kernel) fun K hK => ?_ | refine zqr fun K hK => ?_ | refine zja (c3) rfl ?_); (simp (disch := omega) only [go_sem, Nat.reduceBEq, Nat.reduceEqDiff, ↓reduceIte, reduceCtorEq, Nat.reduceAdd, Nat.reduceMul, Nat.reduceLeDiff, t0, t1, t5, t17, t28, t13, t14, t15, tHnx, tHB, z2e, hsc, List.append_nil])) | ((first | refine zqd _ rfl (fun hc => ?_) (fun hc => ?_) | refine zqm _ rfl (fun hc => ?_) (fun hc => ?_)) <;> (((try simp only [z06] at hc); (try omega)))) | refine zqz ?_ | (refine hK _ ?_; clear hK K) | (refine zqf (fun hb => ?_) (fun hb => ?_) <;> (have hb2 := hb; try simp only [z06] at hb2) <;> ((first | have F := eq_false hb2 | have F := eq_true hb2); (simp (disch := omega) only [go_sem, Nat.reduceBEq, ↓reduceIte, reduceCtorEq, Nat.reduceAdd, F, t1, t17, tHB, z2e]); clear hb F; (try omega))))
     (refine Exists.intro _ (And.intro ?_ ⟨j + 1, m + 1, n + 1, o2 ++ [gs a[m] b[n]], rfl, ?_⟩)); rotate_left; (simp (disch := omega) only [go_sem, Nat.reduceBEq, Nat.reduceEqDiff, Nat.reduceLeDiff, t0, t1, t3, t4, t5, t26, t27, t28, t13, t14, t15, tHnx, true_and, Int.natCast_add, Int.natCast_one, List.flatMap_append, List.flatMap_cons, List.flatMap_nil, List.append_nil]); rotate_left
     ·omega
     ·exact ⟨by omega, by omega, fun id hid => by rw [z2k _ (by omega)]; exact tp3 id hid, .inl ⟨by omega, by rw [hWd, tp4]; simp, hri2⟩⟩
 ·skip
  repeat' (first | ((refine zqh fun K hK => ?_); (simp (disch := omega) only [go_sem, Nat.reduceBEq, ↓reduceIte, q13, q27, q28])) | (refine zqd _ rfl ?_ ?_ <;> intro hc <;> (((try simp only [z06] at hc); (try omega)))) | refine nxt ?_ | refine zqz ?_ | refine zqu (by simp only [go_sem]; rfl) rfl ?_ | (refine hK _ ?_; clear hK K))
  obtain rfl : out = W := by
   rcases qp3 with ⟨h, _⟩ | ⟨_, h⟩
   ·omega
   ·exact h
  (simp (disch := omega) only [go_sem, Nat.reduceBEq, qHnx])
  exact qp2
set_option maxHeartbeats 16000000 in
theorem zu3 {H : HM} {nx : Nat} (ga : T -> TT) (gb : T -> TT) (gs : T -> T -> TT) (a : List T) (b : List T) (ha : a.length <= 1000000) (hb : b.length <= 1000000) (ps : List (Nat × Nat)) (hps : ps.length <= 1000000) (hr : Rise a.length b.length ps 0 0)
  {g1 g2 g3 : FuncId} {c1 c2 c3 : List D}
  (h1 : ∀ x ∈ a, ∀ H' n', nx <= n' -> z3p nx H H' -> RC prog g1 (c1 ++ [z1o x]) H' n' (.agg (z0w (ga x))))
  (h2 : ∀ y ∈ b, ∀ H' n', nx <= n' -> z3p nx H H' -> RC prog g2 (c2 ++ [z1o y]) H' n' (.agg (z0w (gb y))))
  (h3 : ∀ x ∈ a, ∀ y ∈ b, ∀ H' n', nx <= n' -> z3p nx H H' -> RC prog g3 (z1o x :: z1o y :: c3) H' n' (.agg (z0w (gs x y)))) :
  AC prog 46 [z0l a, z0l b, zwf ps, .bfn g1 c1, .bfn g2 c2, .fn g3 c3] H nx fun r H' _ => r = .osl nx (wov ga gb gs a b ps 0 0).length /\ H' nx = some (.row 33 (wov ga gb gs a b ps 0 0).length ((wov ga gb gs a b ps 0 0).flatMap z0w)) /\ z3p nx H H' := by
 have cl := zkf ps hps
 have hcl : ps.flatMap z2h ++ [.int .i64 a.length, .int .i64 b.length] = (ps ++ [(a.length, b.length)]).flatMap z2h := by rw [List.flatMap_append]; rfl
 have hgr : z1h true 2 (ps.length + 1) ((ps ++ [(a.length, b.length)]).flatMap z2h) = (ps ++ [(a.length, b.length)]).map fun p => D.agg (z2h p) := by
  have h := z4j (f := z2h) (sz := 2) (fun _ => rfl) (ps ++ [(a.length, b.length)])
  rw [List.length_append] at h
  exact h
 have hpu : pureD.pureL ((ps ++ [(a.length, b.length)]).flatMap z2h) = true := z12 (fun _ => rfl) _
 obtain ⟨W, hW⟩ : ∃ W, W = wov ga gb gs a b ps 0 0 := ⟨_, rfl⟩
 have hWl : W.length <= a.length + b.length := by have := zih (ga := ga) (gb := gb) (gs := gs) ps 0 0 hr; rw [hW]; omega
 obtain ⟨L, hL⟩ : ∃ L, L = (ps ++ [(a.length, b.length)]).map fun p => D.agg (z2h p) := ⟨_, rfl⟩
 have hLl : L.length = ps.length + 1 := by rw [hL]; simp
 have hLg : ∀ j (h : j < (ps ++ [(a.length, b.length)]).length), L[j]? = some (.agg [.int .i64 ((ps ++ [(a.length, b.length)])[j].1 : Nat), .int .i64 ((ps ++ [(a.length, b.length)])[j].2 : Nat)]) := fun j h => by
  rw [hL, List.getElem?_map, List.getElem?_eq_getElem h]; rfl
 rw [<- hL] at hgr
 rw [<- hW]
 have hn1 : (nx == nx + 1) = false := z1x (by omega)
 refine (z30 [13, 2000026] func46 rfl (by decide +kernel) rfl ?_)
 show awp _ _ (Code.seq _ _) _ _
 repeat' (first | refine nxt ?_ | ((first | refine z22 (N := 4) rfl fun K hK => ?_ | refine zdw (cl) ?_); (simp (disch := omega) only [go_sem, Nat.reduceBEq, ↓reduceIte, reduceCtorEq, Nat.reduceAdd, Nat.reduceMul, Nat.reduceLeDiff, z0l, rowP, hcl, hgr, hpu, hLl])) | (refine hK _ ?_; clear hK K))
 (refine z6x (fun U st => ∃ (j : _) (i : Nat) (k : Nat) (out : List TT), U = ps.length + 1 - j /\ st.t 0 = z0l a /\ st.t 1 = z0l b /\ st.t 3 = .bfn g1 c1 /\ st.t 4 = .bfn g2 c2 /\ st.t 5 = .fn g3 c3 /\ st.t 13 = .osl nx out.length /\ st.t 14 = .int .i64 i /\ st.t 15 = .int .i64 k /\ st.t 26 = .rsl false 2 L /\ st.t 27 = .int .i64 ((ps.length + 1 : Nat) : Int) /\ st.t 28 = .int .i64 j /\ st.H (nx) = some (.row 33 out.length (out.flatMap z0w)) /\ (j <= ps.length + 1) /\ (nx < st.nx) /\ (z3p nx H st.H) /\ ((j <= ps.length /\ out ++ wov ga gb gs a b (ps.drop j) i k = W /\ Rise a.length b.length (ps.drop j) i k) \/ (j = ps.length + 1 /\ out = W))) ?_ ?_); rotate_left; (rintro U st ⟨j, i, k, out, rfl, q0, q1, q3, q4, q5, q13, q14, q15, q26, q27, q28, qHnx, qp0, qp1, qp2, qp3⟩); rotate_left
 ·(refine ⟨_, 0, 0, 0, [], rfl, ?_⟩); (simp (disch := omega) only [go_sem, Nat.reduceBEq, reduceCtorEq, true_and, Int.natCast_add, Int.natCast_one, Int.natCast_zero, List.flatMap_nil, List.nil_append, z0l, hn1])
  exact ⟨fun id hid => by simp (disch := omega) only [z5e], .inl ⟨hW.symm, hr⟩⟩
 have hq := z01 qp1
 have hst : ∀ {H' : HM} {n' : Nat}, z3p (nx + 1) st.H H' -> z3p nx H H' := fun h id hid => (h id (by omega)).trans (qp2 id hid)
 by_cases hj : j <= ps.length
 ·obtain ⟨hw, hri⟩ : out ++ wov ga gb gs a b (ps.drop j) i k = W /\ Rise a.length b.length (ps.drop j) i k := by
   rcases qp3 with ⟨_, h4, h5⟩ | ⟨h4, _⟩
   ·exact ⟨h4, h5⟩
   ·omega
  clear qp3
  obtain ⟨x, y, hxy, hix, hxa, hky, hyb, R, hWd, hR⟩ := zkg hj hw hri
  have hg : L[j]? = some (.agg [.int .i64 (x : Int), .int .i64 (y : Int)]) := by rw [hL, List.getElem?_map, hxy]; rfl
  have hg : zjj L (j : Int) = some (.agg [.int .i64 (x : Int), .int .i64 (y : Int)]) := by
   unfold zjj
   rw [if_pos ⟨by omega, by omega⟩, Int.toNat_natCast, hg]
  obtain ⟨B, hB⟩ : ∃ B, B = st.nx := ⟨_, rfl⟩
  rw [<- hB] at hq
  have hol : (out ++ ((a.drop i).take (x - i)).map ga).length + ((b.drop k).take (y - k)).length + R.length = W.length := by rw [hWd]; simp; omega
  have hsc : ∀ z, (z0w z).length = 11 := fun z => z4t z
  repeat' (first | ((refine z22 (N := 6) rfl fun K hK => ?_); (simp (disch := omega) only [go_sem, Nat.reduceBEq, ↓reduceIte, reduceCtorEq, Nat.reduceAdd, Nat.reduceLeDiff, q26, q27, q28, hg])) | (refine zqd _ rfl ?_ ?_ <;> intro hc <;> (((try simp only [z06] at hc); (try omega)))) | refine nxt ?_ | (refine hK _ ?_; clear hK K))
  have hBn : nx < B := by omega
  (refine z6x (fun U st => ∃ (m : Nat) (o1 : List TT), U = x - m /\ st.t 0 = z0l a /\ st.t 1 = z0l b /\ st.t 3 = .bfn g1 c1 /\ st.t 4 = .bfn g2 c2 /\ st.t 5 = .fn g3 c3 /\ st.t 17 = .ptr B 0 /\ st.t 26 = .rsl false 2 L /\ st.t 27 = .int .i64 ((ps.length + 1 : Nat) : Int) /\ st.t 28 = .int .i64 j /\ st.t 13 = .osl nx o1.length /\ st.t 14 = .int .i64 m /\ st.t 15 = .int .i64 k /\ st.H (nx) = some (.row 33 o1.length (o1.flatMap z0w)) /\ st.H (B) = some (.box 90 [.int .i64 x, .int .i64 y]) /\ (i <= m) /\ (m <= x) /\ (B < st.nx) /\ (z3p nx H st.H) /\ (o1 = out ++ ((a.drop i).take (m - i)).map ga)) ?_ ?_); rotate_left; (rintro U st ⟨m, o1, rfl, r0, r1, r3, r4, r5, r17, r26, r27, r28, r13, r14, r15, rHnx, rHB, rp0, rp1, rp2, rp3, rp4⟩); rotate_left
  ·(refine ⟨_, i, out, rfl, ?_⟩); (simp (disch := omega) only [go_sem, Nat.reduceBEq, q0, q1, q3, q4, q5, q13, q14, q15, q26, q27, q28, qHnx, true_and, Int.natCast_add, Int.natCast_one, z0l, hB])
   refine ⟨Nat.le_refl _, hix, by omega, fun id hid => by simp (disch := omega) only [z5e]; exact qp2 id hid, by simp⟩
  have hrq := z01 rp2
  have hrn := z01 (show nx < st.nx by omega)
  have hBx : (B == nx) = false := z1x (by omega)
  have hxB : (nx == B) = false := z1x (by omega)
  by_cases hm : m < x
  ·have hma : m < a.length := by omega
   have c1 := h1 a[m] (List.getElem_mem hma) st.H st.nx (by omega) rp3
   have htm := zav a rp0 hma
   have ho1 : o1.length <= 2000000 := by rw [rp4, List.length_append, List.length_map, List.length_take]; simp only [List.length_append, List.length_map, List.length_take] at hol; omega
   repeat' (first | refine nxt ?_ | ((first | refine zqh fun K hK => ?_ | refine zqr fun K hK => ?_ | refine zp0 (c1) ?_); (simp (disch := omega) only [go_sem, Nat.reduceBEq, ↓reduceIte, reduceCtorEq, Nat.reduceAdd, Nat.reduceMul, Nat.reduceLeDiff, r0, r3, r17, r13, r14, rHnx, rHB, z0l, hsc, List.append_nil])) | (refine zqd _ rfl ?_ ?_ <;> intro hc <;> (((try simp only [z06] at hc); (try omega)))) | (refine hK _ ?_; clear hK K))
   (refine Exists.intro _ (And.intro ?_ ⟨m + 1, o1 ++ [ga a[m]], rfl, ?_⟩)); rotate_left; (simp (disch := omega) only [go_sem, Nat.reduceBEq, r0, r1, r3, r4, r5, r17, r26, r27, r28, r13, r14, r15, rHnx, rHB, true_and, Int.natCast_add, Int.natCast_one, List.flatMap_append, List.flatMap_cons, List.flatMap_nil, List.append_nil, hBx]); rotate_left
   ·omega
   ·exact ⟨by omega, by omega, rp2, fun id hid => by rw [z2k _ (by omega)]; exact rp3 id hid, by rw [rp4, htm, List.map_append, List.append_assoc]; rfl⟩
  ·obtain rfl : m = x := by omega
   repeat' (first | refine nxt ?_ | ((refine z22 (N := 9) rfl fun K hK => ?_); (simp (disch := omega) only [go_sem, Nat.reduceBEq, ↓reduceIte, reduceCtorEq, Nat.reduceAdd, r17, r14, rHB])) | (refine zqd _ rfl ?_ ?_ <;> intro hc <;> (((try simp only [z06] at hc); (try omega)))) | refine zqz ?_ | (refine hK _ ?_; clear hK K))
   (refine z6x (fun U st => ∃ (n : Nat) (o2 : List TT), U = y - n /\ st.t 0 = z0l a /\ st.t 1 = z0l b /\ st.t 3 = .bfn g1 c1 /\ st.t 4 = .bfn g2 c2 /\ st.t 5 = .fn g3 c3 /\ st.t 17 = .ptr B 0 /\ st.t 26 = .rsl false 2 L /\ st.t 27 = .int .i64 ((ps.length + 1 : Nat) : Int) /\ st.t 28 = .int .i64 j /\ st.t 13 = .osl nx o2.length /\ st.t 14 = .int .i64 m /\ st.t 15 = .int .i64 n /\ st.H (nx) = some (.row 33 o2.length (o2.flatMap z0w)) /\ st.H (B) = some (.box 90 [.int .i64 m, .int .i64 y]) /\ (k <= n) /\ (n <= y) /\ (B < st.nx) /\ (z3p nx H st.H) /\ (o2 = out ++ (((a.drop i).take (m - i)).map ga ++ ((b.drop k).take (n - k)).map gb))) ?_ ?_); rotate_left; (rintro U st ⟨n, o2, rfl, t0, t1, t3, t4, t5, t17, t26, t27, t28, t13, t14, t15, tHnx, tHB, tp0, tp1, tp2, tp3, tp4⟩); rotate_left
   ·(refine ⟨_, k, o1, rfl, ?_⟩); (simp (disch := omega) only [go_sem, Nat.reduceBEq, r0, r1, r3, r4, r5, r17, r26, r27, r28, r13, r14, r15, rHnx, rHB, true_and, Int.natCast_add, Int.natCast_one, z0l])
    refine ⟨Nat.le_refl _, hky, rp2, rp3, by rw [rp4]; simp⟩
   have htq := z01 tp2
   have htn := z01 (show nx < st.nx by omega)
   have hto : o2.length + ((b.drop k).take (y - k)).length - ((b.drop k).take (n - k)).length + R.length = W.length /\ o2.length <= 2000000 := by
    rw [tp4]
    simp only [List.length_append, List.length_map, List.length_take, List.length_drop] at hol ⊢
    omega
   by_cases hn : n < y
   ·have hnb : n < b.length := by omega
    have c2 := h2 b[n] (List.getElem_mem hnb) st.H st.nx (by omega) tp3
    have htm := zav b tp0 hnb
    repeat' (first | refine nxt ?_ | ((first | refine zqh fun K hK => ?_ | refine zqr fun K hK => ?_ | refine zp0 (c2) ?_); (simp (disch := omega) only [go_sem, Nat.reduceBEq, ↓reduceIte, reduceCtorEq, Nat.reduceAdd, Nat.reduceMul, Nat.reduceLeDiff, t1, t4, t17, t13, t15, tHnx, tHB, z0l, hsc, List.append_nil])) | (refine zqd _ rfl ?_ ?_ <;> intro hc <;> (((try simp only [z06] at hc); (try omega)))) | (refine hK _ ?_; clear hK K))
    (refine Exists.intro _ (And.intro ?_ ⟨n + 1, o2 ++ [gb b[n]], rfl, ?_⟩)); rotate_left; (simp (disch := omega) only [go_sem, Nat.reduceBEq, t0, t1, t3, t4, t5, t17, t26, t27, t28, t13, t14, t15, tHnx, tHB, true_and, Int.natCast_add, Int.natCast_one, List.flatMap_append, List.flatMap_cons, List.flatMap_nil, List.append_nil, hBx]); rotate_left
    ·omega
    ·exact ⟨by omega, by omega, tp2, fun id hid => by rw [z2k _ (by omega)]; exact tp3 id hid, by rw [tp4, htm]; simp⟩
   ·obtain rfl : n = y := by omega
    rcases hR with ⟨rfl, rfl, rfl, rfl⟩ | ⟨hjl, hxl, hyl, rfl, hri2⟩
    ·repeat' (first | refine nxt ?_ | ((first | refine zqh fun K hK => ?_ | refine zqr fun K hK => ?_); (simp (disch := omega) only [go_sem, Nat.reduceBEq, ↓reduceIte, reduceCtorEq, Nat.reduceAdd, t0, t17, t28, t15, tHB, z0l])) | ((first | refine zqd _ rfl (fun hc => ?_) (fun hc => ?_) | refine zqm _ rfl (fun hc => ?_) (fun hc => ?_)) <;> (first | (cases hc; done) | ((try simp only [z06] at hc); (try omega)))) | refine zqz ?_ | (refine hK _ ?_; clear hK K) | (refine zqf (fun hb => ?_) (fun hb => ?_) <;> (have hb2 := hb; try simp only [z06] at hb2) <;> ((first | have F := eq_false hb2 | have F := eq_true hb2); (simp (disch := omega) only [go_sem, Nat.reduceBEq, ↓reduceIte, reduceCtorEq, Nat.reduceAdd, F, t1, t17, tHB, z0l]); clear hb F; (try omega))))
     (refine Exists.intro _ (And.intro ?_ ⟨ps.length + 1, a.length, b.length, o2, rfl, ?_⟩)); rotate_left; (simp (disch := omega) only [go_sem, Nat.reduceBEq, Nat.reduceLeDiff, t0, t1, t3, t4, t5, t26, t27, t28, t13, t14, t15, tHnx, true_and, Int.natCast_add, Int.natCast_one]); rotate_left
     ·omega
     ·exact ⟨Nat.le_refl _, by omega, tp3, .inr (by rw [hWd, tp4]; simp)⟩
    ·have c3 := h3 a[m] (List.getElem_mem hxl) b[n] (List.getElem_mem hyl) st.H st.nx (by omega) tp3
     repeat' (first | refine nxt ?_ | ((first | refine zqh fun K hK => ?_ | refine zqe (by decide +kernel) fun K hK => ?_ | refine zqr fun K hK => ?_ | refine zja (c3) rfl ?_); (simp (disch := omega) only [go_sem, Nat.reduceBEq, Nat.reduceEqDiff, ↓reduceIte, reduceCtorEq, Nat.reduceAdd, Nat.reduceMul, Nat.reduceLeDiff, t0, t1, t5, t17, t28, t13, t14, t15, tHnx, tHB, z0l, hsc, List.append_nil])) | ((first | refine zqd _ rfl (fun hc => ?_) (fun hc => ?_) | refine zqm _ rfl (fun hc => ?_) (fun hc => ?_)) <;> (((try simp only [z06] at hc); (try omega)))) | refine zqz ?_ | (refine hK _ ?_; clear hK K) | (refine zqf (fun hb => ?_) (fun hb => ?_) <;> (have hb2 := hb; try simp only [z06] at hb2) <;> ((first | have F := eq_false hb2 | have F := eq_true hb2); (simp (disch := omega) only [go_sem, Nat.reduceBEq, ↓reduceIte, reduceCtorEq, Nat.reduceAdd, F, t1, t17, tHB, z0l]); clear hb F; (try omega))))
     (refine Exists.intro _ (And.intro ?_ ⟨j + 1, m + 1, n + 1, o2 ++ [gs a[m] b[n]], rfl, ?_⟩)); rotate_left; (simp (disch := omega) only [go_sem, Nat.reduceBEq, Nat.reduceEqDiff, Nat.reduceLeDiff, t0, t1, t3, t4, t5, t26, t27, t28, t13, t14, t15, tHnx, true_and, Int.natCast_add, Int.natCast_one, List.flatMap_append, List.flatMap_cons, List.flatMap_nil, List.append_nil]); rotate_left
     ·omega
     ·exact ⟨by omega, by omega, fun id hid => by rw [z2k _ (by omega)]; exact tp3 id hid, .inl ⟨by omega, by rw [hWd, tp4]; simp, hri2⟩⟩
 ·skip
  repeat' (first | ((refine zqh fun K hK => ?_); (simp (disch := omega) only [go_sem, Nat.reduceBEq, ↓reduceIte, q13, q27, q28])) | (refine zqd _ rfl ?_ ?_ <;> intro hc <;> (((try simp only [z06] at hc); (try omega)))) | refine nxt ?_ | refine zqz ?_ | refine zqu (by simp only [go_sem]; rfl) rfl ?_ | (refine hK _ ?_; clear hK K))
  obtain rfl : out = W := by
   rcases qp3 with ⟨h, _⟩ | ⟨_, h⟩
   ·omega
   ·exact h
  (simp (disch := omega) only [go_sem, Nat.reduceBEq, qHnx])
  exact qp2
theorem zuq {H : HM} {nx : Nat} (ga : ByteArray -> Tw) (gb : ByteArray -> Tw) (gs : ByteArray -> ByteArray -> Tw) (a : List ByteArray) (b : List ByteArray) (ha : a.length <= 1000000) (hb : b.length <= 1000000) (ps : List (Nat × Nat)) (hps : ps.length <= 1000000) (hr : Rise a.length b.length ps 0 0)
  {g1 g2 g3 : FuncId} {c1 c2 c3 : List D}
  (h1 : ∀ x ∈ a, ∀ H' n', nx <= n' -> z3p nx H H' -> RC prog g1 (D.str x :: c1) H' n' (.agg (z33 (ga x))))
  (h2 : ∀ y ∈ b, ∀ H' n', nx <= n' -> z3p nx H H' -> RC prog g2 (D.str y :: c2) H' n' (.agg (z33 (gb y))))
  (h3 : ∀ x ∈ a, ∀ y ∈ b, ∀ H' n', nx <= n' -> z3p nx H H' -> RC prog g3 ((fun s : ByteArray => D.str s) x :: (fun s : ByteArray => D.str s) y :: c3) H' n' (.agg (z33 (gs x y)))) :
  RC prog 61 [z2e a, z2e b, zwf ps, .fn g1 c1, .fn g2 c2, .fn g3 c3] H nx (z26 (wov ga gb gs a b ps 0 0)) := by
 refine zpi (k := 2) (z4l _) ((zu2 ga gb gs a b ha hb ps hps hr h1 h2 h3).mono fun r H' nx' ⟨e1, e2, e3⟩ => ⟨?_, e3⟩)
 subst e1
 have e4 : hiH nx H' nx = some (.row 53 (wov ga gb gs a b ps 0 0).length ((wov ga gb gs a b ps 0 0).flatMap z33)) := by rw [hi_get (Nat.le_refl _)]; exact e2
 refine ⟨_, z1s (f := z33) (l := wov ga gb gs a b ps 0 0) (id := nx) 0 e4 zz8 sizeT53 (fun z => rfl) (fun z => rfl), Le.refl _⟩
theorem zur {H : HM} {nx : Nat} (ga : T -> TT) (gb : T -> TT) (gs : T -> T -> TT) (a : List T) (b : List T) (ha : a.length <= 1000000) (hb : b.length <= 1000000) (ps : List (Nat × Nat)) (hps : ps.length <= 1000000) (hr : Rise a.length b.length ps 0 0)
  {g1 g2 g3 : FuncId} {c1 c2 c3 : List D}
  (h1 : ∀ x ∈ a, ∀ H' n', nx <= n' -> z3p nx H H' -> RC prog g1 (c1 ++ [z1o x]) H' n' (.agg (z0w (ga x))))
  (h2 : ∀ y ∈ b, ∀ H' n', nx <= n' -> z3p nx H H' -> RC prog g2 (c2 ++ [z1o y]) H' n' (.agg (z0w (gb y))))
  (h3 : ∀ x ∈ a, ∀ y ∈ b, ∀ H' n', nx <= n' -> z3p nx H H' -> RC prog g3 (z1o x :: z1o y :: c3) H' n' (.agg (z0w (gs x y)))) :
  RC prog 46 [z0l a, z0l b, zwf ps, .bfn g1 c1, .bfn g2 c2, .fn g3 c3] H nx (z86 (wov ga gb gs a b ps 0 0)) := by
 refine zpi (k := 2) (zmm _) ((zu3 ga gb gs a b ha hb ps hps hr h1 h2 h3).mono fun r H' nx' ⟨e1, e2, e3⟩ => ⟨?_, e3⟩)
 subst e1
 have e4 : hiH nx H' nx = some (.row 33 (wov ga gb gs a b ps 0 0).length ((wov ga gb gs a b ps 0 0).flatMap z0w)) := by rw [hi_get (Nat.le_refl _)]; exact e2
 refine ⟨_, z1s (f := z0w) (l := wov ga gb gs a b ps 0 0) (id := nx) 0 e4 zp3 zvt (fun z => z4t z) (fun z => z6f z), Le.refl _⟩
def wordD (n : Int) : D := .fn 79 [.rptr (.int .i64 n)]
theorem zmy (n : Int) : PC prog 60 [.int .i64 n] (wordD n) := by
 refine z3q 4 rfl rfl (z30 [] func60 rfl (by decide +kernel) rfl ?_)
 show awp _ _ (Code.seq _ _) _ _
 repeat' (first | ((refine zqh fun K hK => ?_); (simp (disch := omega) only [go_sem, Nat.reduceBEq])) | refine nxt ?_ | refine zqu (by simp only [go_sem]; rfl) rfl ?_ | (refine hK _ ?_; clear hK K))
 refine z8i (zib 3 rfl (z0e ?_ z4s))
 exact z47 2 rfl z2n (z0b _ rfl)
theorem ziy (n : Int) (s : ByteArray) : PC prog 79 [.str s, .rptr (.int .i64 n)] (.agg (z33 (stW n s))) := by
 refine z3q 2 rfl rfl (z30 [] func79 rfl (by decide +kernel) rfl ?_)
 show awp _ _ (Code.seq _ _) _ _
 repeat' (first | ((refine zqh fun K hK => ?_); (simp (disch := omega) only [go_sem, Nat.reduceBEq, ↓reduceIte, Nat.reduceAdd, Nat.reduceLeDiff])) | refine nxt ?_ | refine zqu (by simp only [go_sem]; rfl) rfl ?_ | (refine hK _ ?_; clear hK K))
 exact z1e rfl (Le.refl _)
theorem zus (n : Int) (s t : ByteArray) : PC prog 63 [.str s, .str t, .rptr (wordD n)] (.agg (z33 (stW n s))) := by
 have c1 := ziy n s
 refine z3q 2 rfl rfl (z30 [] func63 rfl (by decide +kernel) rfl ?_)
 show awp _ _ (Code.seq _ _) _ _
 repeat' (first | ((first | refine zqh fun K hK => ?_ | refine zqs (c1) ?_); (simp (disch := omega) only [go_sem, Nat.reduceBEq, ↓reduceIte, Nat.reduceAdd, Nat.reduceLeDiff, wordD, z33, stW])) | refine nxt ?_ | refine zqu (by simp only [go_sem]; rfl) rfl ?_ | (refine hK _ ?_; clear hK K))
 exact z1e rfl (Le.refl _)
theorem zc8 {a b : List ByteArray} : ∀ (l : List (Nat × Nat)) (i k : Nat), zsa a b l i k -> i <= a.length -> k <= b.length -> Rise a.length b.length l i k
 | [], _, _, _, h1, h2 => ⟨h1, h2⟩
 | (x, y) :: l, i, k, h, _, _ => by
  obtain ⟨q1, q2, q3, q4, _, q6⟩ := h
  simp only at q1 q2 q3 q4
  exact ⟨q1, q3, q2, q4, zc8 l _ _ q6 (by omega) (by omega)⟩
theorem z95 (a b : List Wd) (ha : a.length <= 1000000) (hb : b.length <= 1000000) : PC prog 43 [z2g a, z2g b] (z26 (z4d (txt a) (txt b))) := by
 have la : (txt a).length <= 1000000 := by simpa [txt] using ha
 have lb : (txt b).length <= 1000000 := by simpa [txt] using hb
 have c1 := zoc a ha
 have c2 := zoc b hb
 have c3 := zmy 0
 have c4 := zmy 2
 have c5 := zmy 1
 have c6 := pc15 (txt a) (txt b) (by unfold maxLen; omega) (by unfold maxLen; omega)
 refine z3q 2 (by simp only [pureD.pureL, z24, Bool.and_self]) (z4l _) (z30 [] func43 rfl (by decide +kernel) rfl ?_)
 show awp _ _ (Code.seq _ _) _ _
 repeat' (first | ((first | refine zqh fun K hK => ?_ | refine zqs (c1) ?_ | refine zqs (c2) ?_ | refine zqs (c3) ?_ | refine zqs (c4) ?_ | refine zqs (c5) ?_ | refine zqs (c6) ?_); (simp (disch := omega) only [go_sem, Nat.reduceBEq, ↓reduceIte])) | (refine hK _ ?_; clear hK K))
 refine z3t (zuq (stW 2) (stW 1) (fun s _ => stW 0 s) (txt a) (txt b) la lb (Lcs.pairs (txt a) (txt b)) (by have := (Lcs.pairs_le (txt a) (txt b)).1; omega) (zc8 _ _ _ (z83 _ _) (Nat.zero_le _) (Nat.zero_le _)) (g1 := 79) (g2 := 79) (g3 := 63) (c1 := [.rptr (.int .i64 2)]) (c2 := [.rptr (.int .i64 1)]) (c3 := [.ptr 0 0])
  (fun x _ H' n' _ _ => (ziy 2 x).rc H' n') (fun x _ H' n' _ _ => (ziy 1 x).rc H' n') (fun x _ y _ H' n' _ hs => PC.borrow (zus 0 x y) rfl 3 (z0e (z0b _ rfl) (z0e (z0b _ rfl) (z0e (z47 2 ((hs 0 (by show 0 < 1; omega)).trans rfl) zvx (z0b _ rfl)) z4s))))) ?_
 (try (simp (disch := omega) only [go_sem, Nat.reduceBEq, ↓reduceIte])); repeat' (first | refine nxt ?_ | refine zqu (by simp only [go_sem]; rfl) rfl ?_ | (refine hK _ ?_; clear hK K))
 exact z1e (z4l _) (Le.refl _)
end
end Go.Proofs.YtfechgagcgbldaaDoor
namespace Go.Proofs.YtfechgagcgbldaaDoor.Lis

def upd1 (x : Int) (acc : Int) (p : Int × Int) : Int := if x < p.1 then max acc (p.2 + 1) else acc
def rows : List Int -> List Int
 | [] => []
 | x :: xs => ((xs.zip (rows xs)).foldl (upd1 x) 1) :: rows xs
theorem rows_length : ∀ l, (rows l).length = l.length
 | [] => rfl
 | x :: xs => by simp [rows, rows_length xs]
def most (l : List Int) : Int := (rows l).foldr max 0

def sel1 (l : List Int) (m : Int) (out : List Nat) (i : Nat) : List Nat :=
 if (out.length : Int) < m /\ (rows l).getD i 0 = m - out.length /\ (out = [] \/ l.getD (out.getLastD 0) 0 < l.getD i 0) then out ++ [i] else out
def sel (l : List Int) (n : Nat) : List Nat := (List.range n).foldl (sel1 l (most l)) []
def lis (l : List Int) : List Nat := if l.length > 256 then [] else sel l l.length
theorem sel_succ (l : List Int) (n : Nat) : sel l (n + 1) = sel1 l (most l) (sel l n) n := by
 simp [sel, List.range_succ]
theorem sel_lt (l : List Int) : ∀ n, ∀ i ∈ sel l n, i < n
 | 0, i, h => by simp [sel] at h
 | n + 1, i, h => by
  rw [sel_succ] at h
  unfold sel1 at h
  split at h
  ·rcases List.mem_append.1 h with h | h
   ·have := sel_lt l n i h; omega
   ·simp at h; omega
  ·have := sel_lt l n i h; omega

theorem zms (x : Int) : ∀ (ps : List (Int × Int)) (a : Int), a <= ps.foldl (upd1 x) a
 | [], a => by simp
 | p :: ps, a => by
  simp only [List.foldl_cons]
  have h1 := zms x ps (upd1 x a p)
  have h2 : a <= upd1 x a p := by unfold upd1; split <;> omega
  omega
theorem zdo (x : Int) : ∀ (ps : List (Int × Int)) (a : Int) (p : Int × Int), p ∈ ps -> x < p.1 -> p.2 + 1 <= ps.foldl (upd1 x) a
 | q :: ps, a, p, hp, hx => by
  simp only [List.foldl_cons]
  rcases List.mem_cons.1 hp with rfl | hp
  ·have h1 := zms x ps (upd1 x a p)
   have h2 : p.2 + 1 <= upd1 x a p := by unfold upd1; rw [if_pos hx]; omega
   omega
  ·exact zdo x ps _ p hp hx
theorem zh8 (x : Int) : ∀ (ps : List (Int × Int)) (a : Int), ps.foldl (upd1 x) a = a \/ ∃ p ∈ ps, x < p.1 /\ ps.foldl (upd1 x) a = p.2 + 1
 | [], a => .inl rfl
 | q :: ps, a => by
  simp only [List.foldl_cons]
  rcases zh8 x ps (upd1 x a q) with h | ⟨p, hp, h1, h2⟩
  ·unfold upd1 at h ⊢
   by_cases hx : x < q.1
   ·rw [if_pos hx] at h ⊢
    by_cases hm : a <= q.2 + 1
    ·have : max a (q.2 + 1) = q.2 + 1 := by omega
     rw [this] at h ⊢
     exact .inr ⟨q, by simp, hx, h⟩
    ·have : max a (q.2 + 1) = a := by omega
     rw [this] at h ⊢
     exact .inl h
   ·rw [if_neg hx] at h ⊢
    exact .inl h
  ·exact .inr ⟨p, List.mem_cons_of_mem _ hp, h1, h2⟩
theorem rows_pos : ∀ (l : List Int), ∀ r ∈ rows l, 1 <= r
 | [], r, h => by simp [rows] at h
 | x :: xs, r, h => by
  simp only [rows] at h
  rcases List.mem_cons.1 h with rfl | h
  ·exact zms x _ 1
  ·exact rows_pos xs r h
theorem foldr_ge : ∀ (l : List Int), ∀ r ∈ l, r <= l.foldr max 0
 | x :: xs, r, h => by
  simp only [List.foldr_cons]
  rcases List.mem_cons.1 h with rfl | h
  ·omega
  ·have := foldr_ge xs r h; omega
theorem foldr_reach : ∀ (l : List Int), l.foldr max 0 = 0 \/ l.foldr max 0 ∈ l
 | [] => .inl rfl
 | x :: xs => by
  simp only [List.foldr_cons]
  rcases foldr_reach xs with h | h
  ·rw [h]
   by_cases hx : x <= 0
   ·left; omega
   ·right; have : max x 0 = x := by omega
    rw [this]; simp
  ·by_cases hx : x <= xs.foldr max 0
   ·right; have : max x (xs.foldr max 0) = xs.foldr max 0 := by omega
    rw [this]; exact List.mem_cons_of_mem _ h
   ·right; have : max x (xs.foldr max 0) = x := by omega
    rw [this]; simp

theorem rows_step (l : List Int) (i j : Nat) (hij : i < j) (hj : j < l.length) (h : l[i]'(by omega) < l[j]) : (rows l).getD j 0 + 1 <= (rows l).getD i 0 := by
 induction l generalizing i j with
 | nil => simp at hj
 | cons x xs ih =>
  cases i with
  | zero =>
   cases j with
   | zero => omega
   | succ j =>
    simp only [List.length_cons] at hj
    simp only [rows, List.getD_cons_succ, List.getD_cons_zero]
    simp only [List.getElem_cons_zero, List.getElem_cons_succ] at h
    have hl := rows_length xs
    have hmem : (xs[j], (rows xs)[j]'(by omega)) ∈ xs.zip (rows xs) := by
     have : (xs.zip (rows xs))[j]'(by simp; omega) = (xs[j], (rows xs)[j]'(by omega)) := by simp
     rw [<- this]; exact List.getElem_mem _
    have := zdo x _ 1 _ hmem h
    simp only at this
    rw [List.getD_eq_getElem?_getD, List.getElem?_eq_getElem (by omega)]
    simpa using this
  | succ i =>
   cases j with
   | zero => omega
   | succ j =>
    simp only [rows, List.getD_cons_succ]
    simp only [List.getElem_cons_succ] at h
    exact ih i j (by omega) (by simpa using hj) h
theorem rows_next (l : List Int) (i : Nat) (hi : i < l.length) (h : 1 < (rows l).getD i 0) : ∃ j, i < j /\ ∃ hj : j < l.length, l[i] < l[j] /\ (rows l).getD j 0 + 1 = (rows l).getD i 0 := by
 induction l generalizing i with
 | nil => simp at hi
 | cons x xs ih =>
  cases i with
  | zero =>
   simp only [rows, List.getD_cons_zero] at h ⊢
   rcases zh8 x (xs.zip (rows xs)) 1 with h1 | ⟨p, hp, h1, h2⟩
   ·omega
   ·obtain ⟨j, hj, rfl⟩ := List.getElem_of_mem hp
    simp only [List.length_zip] at hj
    have hl := rows_length xs
    refine ⟨j + 1, by omega, by simp; omega, ?_, ?_⟩
    ·simpa using h1
    ·rw [h2]
     simp only [List.getD_cons_succ]
     rw [List.getD_eq_getElem?_getD, List.getElem?_eq_getElem (by omega)]
     simp
  | succ i =>
   simp only [rows, List.getD_cons_succ] at h ⊢
   obtain ⟨j, h1, h2, h3, h4⟩ := ih i (by simpa using hi) h
   exact ⟨j + 1, by omega, by simpa using h2, by simpa using h3, by simpa using h4⟩
end Go.Proofs.YtfechgagcgbldaaDoor.Lis
namespace Go.Proofs.YtfechgagcgbldaaDoor.Lis
theorem rows_at (l : List Int) (j : Nat) (hj : j < l.length) :
  rows (l.drop j) = (((l.drop (j + 1)).zip (rows (l.drop (j + 1)))).foldl (upd1 l[j]) 1) :: rows (l.drop (j + 1)) := by
 rw [List.drop_eq_getElem_cons hj]; rfl
def inner (l : List Int) (j k : Nat) : Int := (((l.drop (j + 1)).zip (rows (l.drop (j + 1)))).take k).foldl (upd1 (l.getD j 0)) 1
theorem inner_zero (l : List Int) (j : Nat) : inner l j 0 = 1 := rfl
theorem inner_succ (l : List Int) (j k : Nat) (O : j + 1 + k < l.length) (cs : List Int) (hcl : cs.length = l.length) (hcd : cs.drop (j + 1) = rows (l.drop (j + 1))) :
  inner l j (k + 1) = upd1 (l[j]'(by omega)) (inner l j k) (l[j + 1 + k], cs[j + 1 + k]'(by omega)) := by
 unfold inner
 have hlen : ((l.drop (j + 1)).zip (rows (l.drop (j + 1)))).length = l.length - (j + 1) := by simp [rows_length]
 rw [List.take_succ_eq_append_getElem (by rw [hlen]; omega), List.foldl_append]
 simp only [List.foldl_cons, List.foldl_nil]
 have h1 : l.getD j 0 = l[j]'(by omega) := by rw [List.getD_eq_getElem?_getD, List.getElem?_eq_getElem (by omega)]; rfl
 rw [h1]
 congr 1
 simp only [List.getElem_zip, List.getElem_drop, <- hcd]
theorem inner_all (l : List Int) (j : Nat) (hj : j < l.length) : rows (l.drop j) = inner l j (l.length - (j + 1)) :: rows (l.drop (j + 1)) := by
 rw [rows_at l j hj]
 unfold inner
 rw [List.take_of_length_le (by simp [rows_length])]
 rw [List.getD_eq_getElem?_getD, List.getElem?_eq_getElem hj]; rfl
theorem zit : ∀ (l : List Int), ∀ r ∈ rows l, r <= l.length
 | [], r, h => by simp [rows] at h
 | x :: xs, r, h => by
  simp only [rows] at h
  have ih := zit xs
  have key : ∀ (ps : List (Int × Int)) (a : Int), a <= xs.length + 1 -> (∀ p ∈ ps, p.2 <= xs.length) -> ps.foldl (upd1 x) a <= xs.length + 1 := by
   intro ps
   induction ps with
   | nil => intro a ha _; simpa using ha
   | cons p ps ihp =>
    intro a ha hp
    simp only [List.foldl_cons]
    refine ihp _ ?_ (fun q hq => hp q (List.mem_cons_of_mem _ hq))
    have := hp p (by simp)
    unfold upd1; split <;> omega
  rcases List.mem_cons.1 h with rfl | h
  ·have := key (xs.zip (rows xs)) 1 (by omega) (fun p hp => ih _ (List.of_mem_zip hp).2)
   simpa using this
  ·have := ih r h
   simp; omega
theorem rows_get_le (l : List Int) (j : Nat) (cs : List Int) (hcl : cs.length = l.length) (n : Nat) (hcd : cs.drop n = rows (l.drop n)) (hn : n <= j) (hj : j < l.length) : 1 <= cs[j]'(by omega) /\ cs[j]'(by omega) <= l.length := by
 have hmem : cs[j]'(by omega) ∈ rows (l.drop n) := by
  rw [<- hcd]
  have : (cs.drop n)[j - n]'(by simp; omega) = cs[j]'(by omega) := by simp only [List.getElem_drop]; congr 1; omega
  rw [<- this]; exact List.getElem_mem _
 have h1 := rows_pos _ _ hmem
 have h2 := zit _ _ hmem
 simp only [List.length_drop] at h2
 omega
end Go.Proofs.YtfechgagcgbldaaDoor.Lis
namespace Go.Proofs.YtfechgagcgbldaaDoor.Lis
theorem inner_le (l : List Int) (j k : Nat) (hj : j < l.length) : inner l j k <= l.length := by
 have key : ∀ (n : Nat) (x : Int) (ps : List (Int × Int)) (a : Int), a <= n + 1 -> (∀ p ∈ ps, p.2 <= n) -> ps.foldl (upd1 x) a <= n + 1 := by
  intro n x ps
  induction ps with
  | nil => intro a ha _; simpa using ha
  | cons p ps ihp =>
   intro a ha hp
   simp only [List.foldl_cons]
   refine ihp _ ?_ (fun q hq => hp q (List.mem_cons_of_mem _ hq))
   have := hp p (by simp)
   unfold upd1; split <;> omega
 have := key (l.drop (j + 1)).length (l.getD j 0) (((l.drop (j + 1)).zip (rows (l.drop (j + 1)))).take k) 1 (by omega)
  (fun p hp => zit _ _ (List.of_mem_zip (List.mem_of_mem_take hp)).2)
 unfold inner
 simp only [List.length_drop] at this
 omega
end Go.Proofs.YtfechgagcgbldaaDoor.Lis
namespace Go.Proofs.YtfechgagcgbldaaDoor.Lis
theorem most_bd (l : List Int) : 0 <= most l /\ most l <= l.length := by
 unfold most
 rcases foldr_reach (rows l) with h | h
 ·rw [h]; omega
 ·have h1 := rows_pos l _ h
  have h2 := zit l _ h
  omega
theorem sel_len (l : List Int) : ∀ n, (sel l n).length <= n
 | 0 => by simp [sel]
 | n + 1 => by
  rw [sel_succ]
  have := sel_len l n
  unfold sel1; split
  ·simp; omega
  ·omega
end Go.Proofs.YtfechgagcgbldaaDoor.Lis
namespace Go.Proofs.YtfechgagcgbldaaDoor
section
open Abs
theorem Lis.sel_rise (l : List Int) : ∀ n : Nat, n <= l.length -> (Lis.sel l n).Pairwise fun i j => i < j /\ l.getD i 0 < l.getD j 0
 | 0, _ => by simp [Lis.sel]
 | n + 1, hn => by
  have ih := Lis.sel_rise l n (by omega)
  rw [Lis.sel_succ]
  unfold Lis.sel1
  split
  ·rename_i h
   rw [List.pairwise_append]
   refine ⟨ih, List.pairwise_singleton _ _, fun i hi j hj => ?_⟩
   rw [List.mem_singleton] at hj
   rw [hj]
   refine ⟨Lis.sel_lt l n i hi, ?_⟩
   rcases h.2.2 with h | h
   ·rw [h] at hi; cases hi
   ·-- the last of the row is the greatest
    have key : ∀ m : List Nat, m.Pairwise (fun i j => i < j /\ l.getD i 0 < l.getD j 0) -> i ∈ m -> i = m.getLastD 0 \/ l.getD i 0 < l.getD (m.getLastD 0) 0 := by
     intro m hp him
     obtain ⟨a, x, rfl⟩ : ∃ a x, m = a ++ [x] := ⟨m.dropLast, m.getLast (by intro e; rw [e] at him; cases him), (List.dropLast_concat_getLast _).symm⟩
     rw [List.pairwise_append] at hp
     have e : (a ++ [x]).getLastD 0 = x := by simp
     rw [e]
     rcases List.mem_append.1 him with h | h
     ·exact .inr (hp.2.2 i h x (by simp)).2
     ·rw [List.mem_singleton] at h; exact .inl h
    rcases key _ ih hi with e | e
    ·rw [e]; exact h
    ·omega
  ·exact ih
theorem Lis.lis_rise (l : List Int) : (Lis.lis l).Pairwise (fun i j => i < j /\ l.getD i 0 < l.getD j 0) /\ ∀ i ∈ Lis.lis l, i < l.length := by
 unfold Lis.lis
 split
 ·exact ⟨List.Pairwise.nil, fun i hi => by cases hi⟩
 ·exact ⟨Lis.sel_rise l _ (Nat.le_refl _), Lis.sel_lt l _⟩
namespace Tr
theorem zgy {α : Type} [DecidableEq α] {s l : List α} (h : s.Sublist l) (hn : l.Nodup) : l.filter (fun x => decide (x ∈ s)) = s := by
 induction h with
 | slnil => rfl
 | @cons s l a h ih =>
  rw [List.nodup_cons] at hn
  rw [List.filter_cons_of_neg (by simpa using fun e => hn.1 (h.subset e))]
  exact ih hn.2
 | @cons_cons s l a h ih =>
  rw [List.nodup_cons] at hn
  rw [List.filter_cons_of_pos (by simp)]
  congr 1
  rw [<- ih hn.2]
  refine List.filter_congr fun x hx => ?_
  have : x ≠ a := fun e => hn.1 (e ▸ hx)
  rw [ih hn.2]
  simp [this]
theorem zif {α : Type} (d : α) (l : List α) : ∀ (p : List Nat) (n : Nat), p.Pairwise (· < ·) -> (∀ i ∈ p, n <= i /\ i < l.length) -> (p.map fun i => l.getD i d).Sublist (l.drop n)
 | [], _, _, _ => List.nil_sublist _
 | i :: p, n, hp, h => by
  rw [List.pairwise_cons] at hp
  obtain ⟨h1, h2⟩ := h i (by simp)
  have ih := zif d l p (i + 1) hp.2 (fun j hj => ⟨hp.1 j hj, (h j (by simp [hj])).2⟩)
  have e : l.drop i = l[i] :: l.drop (i + 1) := List.drop_eq_getElem_cons h2
  have h3 : (l.drop i).Sublist (l.drop n) := by
   rw [show i = n + (i - n) by omega, <- List.drop_drop]; exact List.drop_sublist _ _
  refine List.Sublist.trans ?_ h3
  rw [e, List.map_cons, show l.getD i d = l[i] by simp [List.getD, h2]]
  exact ih.cons_cons _
theorem z4k : ∀ t : T, (idsT t).Nodup -> ∀ p ∈ nodesT t, ∀ y ∈ p.kids, (z6w y.id t).1 = p.id := by
 refine z53 fun t ih hn p hp y hy => ?_
 obtain ⟨g1, g2, g3⟩ := zc1 hn
 rw [z15, List.mem_cons] at hp
 rcases hp with rfl | hp
 ·obtain ⟨i, hi, rfl⟩ := List.getElem_of_mem hy
  rw [zkn (id := p.kids[i].id) (t := p) (i := i) (fun e => g1 _ hy (e ▸ z3u _)) hi (fun j hj h => (z59 _ _).2 (g3 i j hi h (by omega) _ (z3u _))) rfl]
 ·obtain ⟨k, O, hpk⟩ := List.mem_flatMap.1 hp
  obtain ⟨i, hi, rfl⟩ := List.getElem_of_mem O
  have hyi : y.id ∈ idsT t.kids[i] := List.mem_map.2 ⟨y, z11 _ p hpk y (z0j hy (z07 y)), rfl⟩
  have hne : ¬ t.kids[i].id = y.id := by
   intro e
   have hn2 := g2 _ O
   have key : ∀ t : T, (idsT t).Nodup -> ∀ p ∈ nodesT t, ∀ y ∈ p.kids, t.id ≠ y.id := by
    intro t hn p hp y hy e
    rw [z2f, List.nodup_cons] at hn
    refine hn.1 ?_
    rw [e]
    rw [z15, List.mem_cons] at hp
    rcases hp with rfl | hp
    ·exact List.mem_flatMap.2 ⟨y, hy, z3u y⟩
    ·obtain ⟨k, O, hpk⟩ := List.mem_flatMap.1 hp
     refine List.mem_flatMap.2 ⟨k, O, List.mem_map.2 ⟨y, ?_, rfl⟩⟩
     exact z11 k p hpk y (z0j hy (z07 y))
   exact key _ hn2 p hpk y hy e
  rw [zu8 (id := y.id) (t := t) (i := i) (fun e => g1 _ O (e ▸ hyi)) hi (fun j hj h => (z59 _ _).2 (g3 i j hi h (by omega) _ hyi)) hne (z9m.2 hyi)]
  exact ih _ O (g2 _ O) p hpk y hy
theorem z6e {t : T} (hn : (idsT t).Nodup) {q k : T} (hq : q ∈ nodesT t) (O : k ∈ q.kids) : ¬ t.id = k.id := by
 intro e
 rw [z2f, List.nodup_cons] at hn
 refine hn.1 ?_
 rw [e]
 rw [z15, List.mem_cons] at hq
 rcases hq with rfl | hq
 ·exact List.mem_flatMap.2 ⟨k, O, z3u k⟩
 ·obtain ⟨z, hz, hpk⟩ := List.mem_flatMap.1 hq
  exact List.mem_flatMap.2 ⟨z, hz, List.mem_map.2 ⟨k, z11 z q hpk k (z0j O (z07 k)), rfl⟩⟩
theorem zr0 {t x : T} (hn : (idsT t).Nodup) (hx : x ∈ nodesT t) : (idsT x).Nodup := by
 obtain ⟨C, h1, _⟩ := focus x.id t (List.mem_map.2 ⟨x, hx, rfl⟩)
 rw [z0x hn hx rfl] at h1
 rw [h1] at hn
 exact zgm hn
theorem z2r {t x : T} (hn : (idsT t).Nodup) (hx : x ∈ nodesT t) : (x.kids.map T.id).Nodup := by
 have h := zr0 hn hx
 rw [z2f, List.nodup_cons] at h
 have h2 := List.pairwise_flatMap.1 h.2
 unfold List.Nodup
 rw [List.pairwise_map]
 exact h2.2.imp fun {a b} h e => h _ (z3u a) _ (z3u b) e
theorem ztv {t q : T} (hn : (idsT t).Nodup) (hq : q ∈ nodesT t) (i : Nat) (hi : i < q.kids.length) : z6w q.kids[i].id t = (q.id, (i : Int), true) := by
 have O : q.kids[i] ∈ q.kids := List.getElem_mem hi
 have hkn : q.kids[i] ∈ nodesT t := z11 t q hq _ (z0j O (z07 _))
 obtain ⟨x, q', j, hj, h1, h2, h3, h4, h5, _, _, _, hq'⟩ := zf4 hn (id := q.kids[i].id) (List.mem_map.2 ⟨_, hkn, rfl⟩) (z6e hn hq O)
 have e1 := z4k t hn q hq _ O
 rw [h3] at e1
 simp only at e1
 have e2 := z0x hn hq e1.symm
 rw [h4] at e2
 simp only [Prod.mk.injEq, and_true] at e2
 subst e2
 rw [z0x hn hkn rfl] at h1
 simp only [Prod.mk.injEq, and_true] at h1
 rw [<- h1] at h5
 have : j = i := (List.getElem_inj (h₀ := by simpa using hj) (h₁ := by simpa using hi) (z2r hn hq)).1 (by simp [h5])
 rw [h3, this]
theorem zdx {t : T} (hn : (idsT t).Nodup) {id : Idv} (hm : id ∈ idsT t) (h0 : ¬ t.id = id) : ∃ q ∈ nodesT t, ∃ k ∈ q.kids, k.id = id /\ (z6w id t).1 = q.id := by
 obtain ⟨x, q, i, hi, h1, h2, h3, h4, h5, _, _, _, hq⟩ := zf4 hn hm h0
 exact ⟨q, hq, x, by rw [<- h5]; exact List.getElem_mem hi, h2, by rw [h3]⟩
def z2s (A : T) (u k : T) : Bool := z16 u.id A && ((z6w k.id A).2.2 && decide ((z6w k.id A).1 = u.id))
def z31 (A : T) (u : T) : List T := u.kids.filter (z2s A u)
def zaq (A : T) (u : T) : List Int := (z31 A u).map fun k => (z6w k.id A).2.1
def z29 (A : T) (u : T) : List Idv := (Lis.lis (zaq A u)).map fun n => ((z31 A u).map T.id).getD n Idv.zero
def edT (t : T) : List (T × T) := zg6 (fun t l => (t.kids.zip l).flatMap fun p => (t, p.1) :: p.2) t
theorem zgz (t : T) : edT t = t.kids.flatMap fun k => (t, k) :: edT k := by
 unfold edT
 rw [z3m]
 generalize zg6 (fun (t : T) (l : List (List (T × T))) => (t.kids.zip l).flatMap fun p => (t, p.1) :: p.2) = f
 induction t.kids with
 | nil => rfl
 | cons k l ih => simp only [List.map_cons, List.zip_cons_cons, List.flatMap_cons, ih]
def zga (A B : T) : List Idv := ((edT B).filter fun e => z16 e.2.id A && !decide (e.2.id ∈ z29 A e.1)).map fun e => e.2.id
def mvB (A B : T) (i : Idv) : Bool := decide (i ∈ zga A B)
theorem ztw : ∀ (t : T) (e : T × T), e ∈ edT t ↔ e.1 ∈ nodesT t /\ e.2 ∈ e.1.kids := by
 refine z53 fun t ih e => ?_
 rw [zgz, List.mem_flatMap, z15, List.mem_cons, List.mem_flatMap]
 constructor
 ·rintro ⟨k, O, he⟩
  rcases List.mem_cons.1 he with rfl | he
  ·exact ⟨.inl rfl, O⟩
  ·obtain ⟨h1, h2⟩ := (ih k O e).1 he
   exact ⟨.inr ⟨k, O, h1⟩, h2⟩
 ·rintro ⟨h1 | ⟨k, O, h1⟩, h2⟩
  ·exact ⟨e.2, h1 ▸ h2, by rw [<- h1]; simp⟩
  ·exact ⟨k, O, List.mem_cons_of_mem _ ((ih k O e).2 ⟨h1, h2⟩)⟩
theorem zo8 : ∀ t : T, idsT t = t.id :: (edT t).map fun e => e.2.id := by
 refine z53 fun t ih => ?_
 rw [z2f, zgz, List.map_flatMap]
 congr 1
 rw [List.flatMap_def, List.flatMap_def]
 refine congrArg _ (List.map_congr_left fun k O => ?_)
 rw [ih k O, List.map_cons]
theorem ztx {t q q' k k' : T} (hn : (idsT t).Nodup) (hq : q ∈ nodesT t) (O : k ∈ q.kids) (hq' : q' ∈ nodesT t) (hk' : k' ∈ q'.kids) (h : k.id = k'.id) : q = q' /\ k = k' := by
 have e1 := z4k t hn q hq k O
 have e2 := z4k t hn q' hq' k' hk'
 rw [h, e2] at e1
 have f1 := z0x hn hq rfl
 have f2 := z0x hn hq' e1
 rw [f1] at f2
 simp only [Prod.mk.injEq, and_true] at f2
 have g1 := z0x hn (z11 t q hq k (z0j O (z07 k))) h
 have g2 := z0x hn (z11 t q' hq' k' (z0j hk' (z07 k'))) rfl
 rw [g1] at g2
 simp only [Prod.mk.injEq, and_true] at g2
 exact ⟨f2, g2⟩
section
variable {A B : T}
theorem z73 {u : T} {i : Idv} (h : i ∈ z29 A u) : ∃ k ∈ u.kids, k.id = i /\ z2s A u k = true := by
 obtain ⟨n, hn, rfl⟩ := List.mem_map.1 h
 have hlt := (Lis.lis_rise (zaq A u)).2 n hn
 have hl : n < (z31 A u).length := by simpa [zaq] using hlt
 obtain ⟨h1, h2⟩ := List.mem_filter.1 (List.getElem_mem hl)
 exact ⟨_, h1, by simp [List.getD, hl], h2⟩
theorem zdy (u : T) : (z29 A u).Sublist (u.kids.map T.id) := by
 have h := zif Idv.zero ((z31 A u).map T.id) (Lis.lis (zaq A u)) 0 ((Lis.lis_rise _).1.imp fun h => h.1) (fun i hi => ⟨Nat.zero_le _, by have := (Lis.lis_rise (zaq A u)).2 i hi; simpa [zaq] using this⟩)
 rw [List.drop_zero] at h
 refine h.trans ?_
 exact (List.filter_sublist).map _
theorem zkd (hn : (idsT A).Nodup) {x u : T} (hx : x ∈ nodesT A) (hid : x.id = u.id) : (z29 A u).Sublist (x.kids.map T.id) := by
 have key : ∀ n, n < (z31 A u).length -> ∃ i : Nat, (zaq A u).getD n 0 = i /\ i < x.kids.length /\ (x.kids.map T.id).getD i Idv.zero = ((z31 A u).map T.id).getD n Idv.zero := by
  intro n hl
  obtain ⟨h1, h2⟩ := List.mem_filter.1 (List.getElem_mem hl)
  simp only [z2s, Bool.and_eq_true, decide_eq_true_eq] at h2
  obtain ⟨_, h3, h4⟩ := h2
  have hm : (z31 A u)[n].id ∈ idsT A := by
   by_cases h : (z31 A u)[n].id ∈ idsT A
   ·exact h
   ·rw [<- z59] at h
    unfold z6w at h3
    simp [h] at h3
  have h0 : ¬ A.id = (z31 A u)[n].id := by
   intro e
   have h5 := z2l e
   unfold z6w at h3
   simp [h5] at h3
  obtain ⟨z, q, i, hi, g1, g2, g3, g4, g5, _, _, _, hq⟩ := zf4 hn hm h0
  have : q = x := by
   have e2 : q.id = x.id := by rw [hid, <- h4, g3]
   have f1 := z0x hn hq rfl
   rw [e2, z0x hn hx rfl] at f1
   simp only [Prod.mk.injEq, and_true] at f1
   exact f1.symm
  subst this
  refine ⟨i, ?_, hi, ?_⟩
  ·simp [List.getD, zaq, hl, g3]
  ·simp [List.getD, hi, hl, g5, g2]
 have hr := Lis.lis_rise (zaq A u)
 have hlt : ∀ n ∈ Lis.lis (zaq A u), n < (z31 A u).length := fun n h => by have := hr.2 n h; simpa [zaq] using this
 have e : z29 A u = ((Lis.lis (zaq A u)).map fun n => ((zaq A u).getD n 0).toNat).map fun i => (x.kids.map T.id).getD i Idv.zero := by
  unfold z29
  rw [List.map_map]
  refine List.map_congr_left fun n hn => ?_
  obtain ⟨i, h1, h2, h3⟩ := key n (hlt n hn)
  simp only [Function.comp_apply, h1, Int.toNat_natCast, h3]
 rw [e]
 have h := zif Idv.zero (x.kids.map T.id) ((Lis.lis (zaq A u)).map fun n => ((zaq A u).getD n 0).toNat) 0 (by
  rw [List.pairwise_map]
  refine List.Pairwise.imp_of_mem ?_ hr.1
  intro a b ha hb h
  obtain ⟨i, h1, _⟩ := key a (hlt a ha)
  obtain ⟨j, h2, _⟩ := key b (hlt b hb)
  rw [h1, h2] at h ⊢
  have := h.2
  simp only [Int.toNat_natCast]
  omega) (fun i hi => by
  obtain ⟨n, hn, rfl⟩ := List.mem_map.1 hi
  obtain ⟨j, h1, h2, _⟩ := key n (hlt n hn)
  rw [h1]
  exact ⟨Nat.zero_le _, by simpa using h2⟩)
 rwa [List.drop_zero] at h
theorem zh0 {i : Idv} : mvB A B i = true ↔ ∃ q ∈ nodesT B, ∃ k ∈ q.kids, k.id = i /\ i ∈ idsT A /\ i ∉ z29 A q := by
 unfold mvB zga
 rw [decide_eq_true_eq, List.mem_map]
 constructor
 ·rintro ⟨e, he, rfl⟩
  obtain ⟨h1, h2⟩ := List.mem_filter.1 he
  obtain ⟨h3, h4⟩ := (ztw B e).1 h1
  simp only [Bool.and_eq_true, Bool.not_eq_true', decide_eq_false_iff_not, z14, decide_eq_true_eq] at h2
  exact ⟨e.1, h3, e.2, h4, rfl, h2.1, h2.2⟩
 ·rintro ⟨q, hq, k, O, rfl, h1, h2⟩
  refine ⟨(q, k), List.mem_filter.2 ⟨(ztw B _).2 ⟨hq, O⟩, ?_⟩, rfl⟩
  simp [z14, h1, h2]
theorem zxu (na : (idsT A).Nodup) (nb : (idsT B).Nodup) (hr : A.id = B.id)
  (O : ∀ i x y, findR i A = (x, true) -> findR i B = (y, true) -> x.kind = y.kind)
  (hl : ∀ i x y, findR i A = (x, true) -> findR i B = (y, true) -> ¬ x.label = y.label -> ¬ x.label = ByteArray.empty) : Books A B (mvB A B) where
 na := na
 nb := nb
 root := hr
 rootM := by
  cases h : mvB A B B.id with
  | false => rfl
  | true =>
   obtain ⟨q, hq, k, O, e, _⟩ := zh0.1 h
   exact absurd e.symm (z6e nb hq O)
 kept := fun i h => by
  obtain ⟨q, hq, k, O, rfl, h1, _⟩ := zh0.1 h
  exact ⟨h1, List.mem_map.2 ⟨k, z11 B q hq k (z0j O (z07 k)), rfl⟩⟩
 kind := O
 lab := hl
 line := fun i x y hx hy => by
  have hxi : x.id = i := by have := zbq (id := i) (t := A) (by rw [hx]); rwa [hx] at this
  have hyi : y.id = i := by have := zbq (id := i) (t := B) (by rw [hy]); rwa [hy] at this
  have hxn : x ∈ nodesT A := by have := z3x (id := i) (u := A) (by rw [hx]); rwa [hx] at this
  have hyn : y ∈ nodesT B := by have := z3x (id := i) (u := B) (by rw [hy]); rwa [hy] at this
  have s1 := zgy (zdy (A := A) y) (z2r nb hyn)
  have s2 := zgy (zkd na hxn (hxi.trans hyi.symm)) (z2r na hxn)
  -- who stays under y
  have hstay : ∀ k : Idv, stayB A B (mvB A B) k = true -> ∀ q ∈ nodesT B, (∃ z ∈ q.kids, z.id = k) -> k ∈ z29 A q := by
   intro k hs q hq ⟨z, hz, hzk⟩
   simp only [stayB, z14, Bool.and_eq_true, decide_eq_true_eq, Bool.not_eq_true'] at hs
   obtain ⟨h1, h2, h3⟩ := hs
   by_cases hm : k ∈ z29 A q
   ·exact hm
   ·have := zh0.2 ⟨q, hq, z, hz, hzk, h1, hm⟩
    rw [h3] at this; cases this
  have hmem : ∀ k, k ∈ z29 A y -> stayB A B (mvB A B) k = true := by
   intro k hks
   obtain ⟨z, hz, hzk, hu⟩ := z73 hks
   have hkA : k ∈ idsT A := (zkd na hxn (hxi.trans hyi.symm)).subset hks |> fun h => by
    obtain ⟨w, hw, rfl⟩ := List.mem_map.1 h
    exact List.mem_map.2 ⟨w, z11 A x hxn w (z0j hw (z07 w)), rfl⟩
   have hkB : k ∈ idsT B := List.mem_map.2 ⟨z, z11 B y hyn z (z0j hz (z07 z)), hzk⟩
   have hnm : mvB A B k = false := by
    cases h : mvB A B k with
    | false => rfl
    | true =>
     obtain ⟨q, hq, z', hz', e, _, hns⟩ := zh0.1 h
     obtain ⟨e2, _⟩ := ztx nb hq hz' hyn hz (e.trans hzk.symm)
     subst e2
     exact absurd hks hns
   simp [stayB, z14, hkA, hkB, hnm]
  have g1 : (y.kids.filter fun k => stayB A B (mvB A B) k.id).map T.id = z29 A y := by
   rw [<- s1, List.filter_map]
   refine congrArg _ (List.filter_congr fun k O => ?_)
   rw [Bool.eq_iff_iff]
   constructor
   ·intro h; simp only [Function.comp_apply, decide_eq_true_eq]; exact hstay _ h y hyn ⟨k, O, rfl⟩
   ·intro h; simp only [Function.comp_apply, decide_eq_true_eq] at h; exact hmem _ h
  have g2 : (x.kids.filter fun k => stayB A B (mvB A B) k.id).map T.id = z29 A y := by
   rw [<- s2, List.filter_map]
   refine congrArg _ (List.filter_congr fun k O => ?_)
   rw [Bool.eq_iff_iff]
   constructor
   ·intro h
    simp only [Function.comp_apply, decide_eq_true_eq]
    have h' := h
    simp only [stayB, z14, Bool.and_eq_true, decide_eq_true_eq, Bool.not_eq_true'] at h'
    obtain ⟨h1, h2, h3⟩ := h'
    have h0 : ¬ B.id = k.id := by rw [<- hr]; exact z6e na hxn O
    obtain ⟨q, hq, z, hz, hzk, _⟩ := zdx nb h2 h0
    have hs := hstay _ h q hq ⟨z, hz, hzk⟩
    obtain ⟨z', hz', hzk', hu⟩ := z73 hs
    simp only [z2s, Bool.and_eq_true, decide_eq_true_eq] at hu
    have e1 := z4k A na x hxn k O
    rw [<- hzk', hu.2.2] at e1
    have : q = y := by
     have f1 := z0x nb hq rfl
     rw [e1, hxi, hy] at f1
     simp only [Prod.mk.injEq, and_true] at f1
     exact f1.symm
    subst this
    exact hs
   ·intro h; simp only [Function.comp_apply, decide_eq_true_eq] at h; exact hmem _ h
  rw [g1, g2]
 offA := fun x hx hxB k O hkB => by
  have h0 : ¬ B.id = k.id := by rw [<- hr]; exact z6e na hx O
  obtain ⟨q, hq, z, hz, hzk, _⟩ := zdx nb hkB h0
  have hkA : k.id ∈ idsT A := List.mem_map.2 ⟨k, z11 A x hx k (z0j O (z07 k)), rfl⟩
  refine zh0.2 ⟨q, hq, z, hz, hzk, hkA, fun hs => ?_⟩
  obtain ⟨z', hz', hzk', hu⟩ := z73 hs
  simp only [z2s, Bool.and_eq_true, decide_eq_true_eq] at hu
  have e1 := z4k A na x hx k O
  rw [<- hzk', hu.2.2] at e1
  exact hxB (e1 ▸ List.mem_map.2 ⟨q, hq, rfl⟩)
 offB := fun y hy hyA k O hkA => by
  refine zh0.2 ⟨y, hy, k, O, rfl, hkA, fun hs => ?_⟩
  obtain ⟨z', hz', hzk', hu⟩ := z73 hs
  simp only [z2s, Bool.and_eq_true, z14, decide_eq_true_eq] at hu
  exact hyA hu.1
end
end Tr
end
section
open Abs
namespace Tr
section
variable {A B : T} {mv : Idv -> Bool}
theorem zs1 (na : (idsT A).Nodup) (nb : (idsT B).Nodup) : ((idsT B).filter fun i => z16 i A).Perm ((idsT A).filter fun i => z16 i B) := by
 rw [List.perm_ext_iff_of_nodup (nb.filter _) (na.filter _)]
 intro i
 simp only [List.mem_filter, z14, decide_eq_true_eq]
 exact And.comm
theorem zw2 {i : Idv} {t : T} (h : z16 i t = false) : findR i t = (T.zero, false) := by
 unfold z16 at h
 exact zb3 (zf6.1 h)
theorem zs2 (na : (idsT A).Nodup) (nb : (idsT B).Nodup) (g : Idv -> Nat) : ((nodesT B).map fun y => if z16 y.id A = true then g y.id else 0).sum = ((nodesT A).map fun x => if z16 x.id B = true then g x.id else 0).sum := by
 have h1 : ((nodesT B).map fun y => if z16 y.id A = true then g y.id else 0) = (idsT B).map fun i => if z16 i A = true then g i else 0 := by unfold idsT; rw [List.map_map]; rfl
 have h2 : ((nodesT A).map fun x => if z16 x.id B = true then g x.id else 0) = (idsT A).map fun i => if z16 i B = true then g i else 0 := by unfold idsT; rw [List.map_map]; rfl
 rw [h1, h2, <- z5m, <- z5m]
 exact zo3 ((zs1 na nb).map g)
theorem zpb (na : (idsT A).Nodup) (nb : (idsT B).Nodup) (g : T -> Nat) (h0 : g T.zero = 0) : ((nodesT B).map fun y => g (findR y.id A).1).sum = ((nodesT A).map fun x => if z16 x.id B = true then g x else 0).sum := by
 have h1 : ((nodesT B).map fun y => g (findR y.id A).1).sum = ((nodesT B).map fun y => if z16 y.id A = true then g (findR y.id A).1 else 0).sum := z2i fun y _ => by
  by_cases h : z16 y.id A = true
  ·rw [if_pos h]
  ·rw [if_neg h, zw2 (by simpa using h), h0]
 rw [h1, zs2 na nb (fun i => g (findR i A).1)]
 exact z2i fun x hx => by rw [z0x na hx rfl]
theorem ze9 (hb : Books A B mv) {w : TT -> Nat} (hw : zgw w) : wtT w (z44 A B mv B) = ((nodesT B).map fun y => w (z4e A mv y [])).sum + ((nodesT A).map (goD w B mv)).sum := by
 rw [ztf hw, z6s]
 congr 1
 rw [zpb hb.na hb.nb (goK w B (stayB A B mv)) rfl]
 have h := zxm hw (A := A) (B := B) (mv := mv) A (fun x hx k O => by
  rw [z14, decide_eq_true (id_in (z11 A x hx k (z0j O (z07 k))))]) (fun x hx hxB k O hkB => by
  rw [z14, decide_eq_false_iff_not] at hxB
  rw [z14, decide_eq_true_eq] at hkB
  exact hb.offA x hx hxB k O hkB)
 rw [if_pos (by rw [z14, decide_eq_true_eq, hb.root, z2f]; simp)] at h
 rw [<- h, Nat.add_zero]
def wS (s : Int) (t : TT) : Nat := zm2 s t.head + zm2 s t.words
theorem wS_no (s : Int) : zgw (wS s) := fun _ _ _ _ _ _ _ _ _ => rfl
def zw3 (x : T) : Nat := x.head.length + x.words.length
def prN (v u : T) : Nat := (Lcs.pairs (txt v.head) (txt u.head)).length + (Lcs.pairs (txt v.words) (txt u.words)).length
def zlu (t : T) : Nat := ((nodesT t).map zw3).sum
theorem zpc (y : T) : wS 1 (z4e A mv y []) + prN (findR y.id A).1 y = zw3 y /\ wS 2 (z4e A mv y []) + prN (findR y.id A).1 y = zw3 (findR y.id A).1 := by
 have h1 := zlz (txt (findR y.id A).1.head) (txt y.head)
 have h2 := zlz (txt (findR y.id A).1.words) (txt y.words)
 unfold wS prN zw3 z4e
 simp only [TT.head, TT.words]
 simp only [txt, List.length_map] at h1 h2 ⊢
 omega
theorem zw4 (x : T) : wS 1 (zev x []) = 0 /\ wS 2 (zev x []) = zw3 x := by
 unfold wS zev zw3
 simp only [TT.head, TT.words]
 rw [z5s (by decide), z5s (by decide), z7i, z7i]
 simp [txt]
theorem wS_ph (s : Int) (i : Idv) : wS s (phT i) = 0 := rfl
theorem zea {α : Type} : ∀ l : List α, (l.map fun _ => 0).sum = 0
 | [] => rfl
 | _ :: l => by simp [zea l]
def zs3 (A B : T) : Nat := ((nodesT B).map fun y => prN (findR y.id A).1 y).sum
theorem counts (hb : Books A B mv) : wtT (wS 1) (z44 A B mv B) + zs3 A B = zlu B /\ wtT (wS 2) (z44 A B mv B) + zs3 A B = zlu A := by
 rw [ze9 hb (wS_no 1), ze9 hb (wS_no 2)]
 have g1 : ((nodesT A).map (goD (wS 1) B mv)).sum = 0 := by
  refine (z2i (g := fun _ => 0) fun x _ => ?_).trans (zea _)
  unfold goD
  rw [(zw4 x).1]
  have : (x.kids.map fun k => if z16 k.id B = true /\ mv k.id = true then wS 1 (phT k.id) else 0).sum = 0 := by
   refine (z2i (g := fun _ => 0) fun k _ => ?_).trans (zea _)
   simp [wS_ph]
  rw [this]; simp
 have g2 : ((nodesT A).map (goD (wS 2) B mv)).sum = ((nodesT A).map fun x => if z16 x.id B = true then 0 else zw3 x).sum := by
  refine z2i fun x _ => ?_
  unfold goD
  rw [(zw4 x).2]
  have : (x.kids.map fun k => if z16 k.id B = true /\ mv k.id = true then wS 2 (phT k.id) else 0).sum = 0 := by
   refine (z2i (g := fun _ => 0) fun k _ => ?_).trans (zea _)
   simp [wS_ph]
  rw [this]; simp
 have f1 : ((nodesT B).map fun y => wS 1 (z4e A mv y [])).sum + zs3 A B = zlu B := by
  unfold zs3 zlu
  rw [<- z6s]
  exact z2i fun y _ => (zpc y).1
 have f2 : ((nodesT B).map fun y => wS 2 (z4e A mv y [])).sum + zs3 A B = ((nodesT A).map fun x => if z16 x.id B = true then zw3 x else 0).sum := by
  rw [<- zpb hb.na hb.nb zw3 rfl]
  unfold zs3
  rw [<- z6s]
  exact z2i fun y _ => (zpc y).2
 have f3 : ((nodesT A).map fun x => if z16 x.id B = true then zw3 x else 0).sum + ((nodesT A).map fun x => if z16 x.id B = true then 0 else zw3 x).sum = zlu A := by
  rw [<- z6s]
  refine z2i fun x _ => ?_
  split <;> simp
 omega
def wI (i : Idv) (t : TT) : Nat := if t.id = i then 1 else 0
theorem wI_no (i : Idv) : zgw (wI i) := fun _ _ _ _ _ _ _ _ _ => rfl
theorem zbp {α : Type} (f : α -> Idv) (i : Idv) : ∀ l : List α, (l.map fun x => if f x = i then 1 else 0).sum = (l.map f).count i
 | [] => rfl
 | x :: l => by
  rw [List.map_cons, List.sum_cons, zbp f i l, List.map_cons, List.count_cons]
  by_cases h : f x = i
  ·simp [h]; omega
  ·simp [h]
theorem zw5 (hb : Books A B mv) (i : Idv) : wtT (wI i) (z44 A B mv B) = (idsT B).count i + (((idsT A).filter fun j => !z16 j B).count i + if mv i = true then 1 else 0) := by
 rw [ze9 hb (wI_no i)]
 have f1 : ((nodesT B).map fun y => wI i (z4e A mv y [])).sum = (idsT B).count i := zbp T.id i (nodesT B)
 rw [f1]
 congr 1
 have e1 : (nodesT A).map (goD (wI i) B mv) = (nodesT A).map fun x => (if z16 x.id B = true then 0 else if x.id = i then 1 else 0) + (x.kids.map fun k => if z16 k.id B = true /\ mv k.id = true then if k.id = i then 1 else 0 else 0).sum := rfl
 rw [e1, z6s]
 congr 1
 ·have : ((nodesT A).map fun x => if z16 x.id B = true then 0 else if x.id = i then 1 else 0) = (nodesT A).map fun x => if (!z16 x.id B) = true then (if x.id = i then 1 else 0) else 0 := by
   refine List.map_congr_left fun x _ => ?_
   cases z16 x.id B <;> simp
  rw [this, <- z5m, zbp T.id i]
  unfold idsT
  rw [List.filter_map]
  rfl
 ·-- each moved unit is a kid of one unit of the first book
  have e2 : ((nodesT A).map fun x => (x.kids.map fun k => if z16 k.id B = true /\ mv k.id = true then if k.id = i then 1 else 0 else 0).sum).sum = ((edT A).map fun e => if z16 e.2.id B = true /\ mv e.2.id = true then if e.2.id = i then 1 else 0 else 0).sum := by
   have key : ∀ t : T, ((nodesT t).map fun x => (x.kids.map fun k => if z16 k.id B = true /\ mv k.id = true then if k.id = i then 1 else 0 else 0).sum).sum = ((edT t).map fun e => if z16 e.2.id B = true /\ mv e.2.id = true then if e.2.id = i then 1 else 0 else 0).sum := by
    refine z53 fun t ih => ?_
    rw [z8g (f := fun x => (x.kids.map fun k => if z16 k.id B = true /\ mv k.id = true then if k.id = i then 1 else 0 else 0).sum), zgz, List.map_flatMap, List.flatMap_def, z7n, List.map_map, <- z6s]
    refine z2i fun k O => ?_
    simp only [Function.comp_apply, List.map_cons, List.sum_cons]
    rw [ih k O]
   exact key A
  rw [e2]
  have e3 : ((edT A).map fun e => if z16 e.2.id B = true /\ mv e.2.id = true then if e.2.id = i then 1 else 0 else 0) = ((edT A).map fun e => e.2.id).map fun j => if z16 j B = true /\ mv j = true then if j = i then 1 else 0 else 0 := by rw [List.map_map]; rfl
  rw [e3]
  have hn := hb.na
  rw [zo8 A, List.nodup_cons] at hn
  obtain ⟨hn0, hn1⟩ := hn
  generalize hL : (edT A).map (fun e => e.2.id) = L at hn0 hn1
  have e4 : ∀ l : List Idv, l.Nodup -> (l.map fun j => if z16 j B = true /\ mv j = true then if j = i then 1 else 0 else 0).sum = if i ∈ l /\ z16 i B = true /\ mv i = true then 1 else 0 := by
   intro l
   induction l with
   | nil => intro _; simp
   | cons j l ih =>
    intro hn
    rw [List.nodup_cons] at hn
    rw [List.map_cons, List.sum_cons, ih hn.2]
    by_cases h : j = i
    ·subst h
     by_cases h2 : z16 j B = true /\ mv j = true
     ·simp [h2, hn.1]
     ·have : ¬ (j ∈ j :: l /\ z16 j B = true /\ mv j = true) := fun h => h2 h.2
      rw [if_neg h2, if_neg this, if_neg (fun h => h2 h.2)]
    ·have : (i ∈ j :: l /\ z16 i B = true /\ mv i = true) ↔ (i ∈ l /\ z16 i B = true /\ mv i = true) := ⟨fun ⟨h1, h2⟩ => ⟨(List.mem_cons.1 h1).resolve_left fun e => h e.symm, h2⟩, fun ⟨h1, h2⟩ => ⟨List.mem_cons_of_mem _ h1, h2⟩⟩
     simp only [this, if_neg h, ite_self, Nat.zero_add]
  rw [e4 L hn1]
  by_cases hm : mv i = true
  ·obtain ⟨h1, h2⟩ := hb.kept i hm
   have h3 : i ∈ L := by
    rw [zo8 A, hL, List.mem_cons] at h1
    rcases h1 with h1 | h1
    ·rw [h1, hb.root, hb.rootM] at hm; cases hm
    ·exact h1
   rw [if_pos ⟨h3, by rw [z14, decide_eq_true h2], hm⟩, if_pos hm]
  ·rw [if_neg (fun h => hm h.2.2), if_neg hm]
end
end Tr
end
section
def Lis.Good (l o : List Int) (k : Nat) : Prop := ∀ j, j < k -> 0 <= o.getD j 0 /\ o.getD j 0 < l.length /\ (0 < j -> o.getD (j - 1) 0 < o.getD j 0 /\ l.getD (o.getD (j - 1) 0).toNat 0 < l.getD (o.getD j 0).toNat 0)
theorem z8z (l : List Int) (i : Nat) (h : i < l.length) : l.getD i 0 = l[i] := by
 rw [List.getD_eq_getElem?_getD, List.getElem?_eq_getElem h]; rfl
theorem Lis.row_ge (l : List Int) (i : Nat) (h : i < l.length) : 1 <= (Lis.rows l).getD i 0 /\ (Lis.rows l).getD i 0 <= Lis.most l := by
 have hl := Lis.rows_length l
 rw [z8z _ i (by omega)]
 exact ⟨Lis.rows_pos l _ (List.getElem_mem _), Lis.foldr_ge _ _ (List.getElem_mem _)⟩
theorem Lis.good_row (l o : List Int) (h : Lis.Good l o o.length) : ∀ d j, j + d + 1 = o.length -> ((d + 1 : Nat) : Int) <= (Lis.rows l).getD (o.getD j 0).toNat 0
 | 0, j, hj => by
  have h1 := h j (by omega)
  have := (Lis.row_ge l (o.getD j 0).toNat (by omega)).1
  omega
 | d + 1, j, hj => by
  have ih := Lis.good_row l o h d (j + 1) (by omega)
  have h1 := h j (by omega)
  have h2 := h (j + 1) (by omega)
  have h3 := h2.2.2 (by omega)
  simp only [Nat.add_sub_cancel] at h3
  have h4 := Lis.rows_step l (o.getD j 0).toNat (o.getD (j + 1) 0).toNat (by omega) (by omega) (by
   have q := h3.2
   rw [z8z l _ (by omega), z8z l _ (by omega)] at q
   exact q)
  omega
theorem Lis.good_most (l o : List Int) (h : Lis.Good l o o.length) : (o.length : Int) <= Lis.most l := by
 cases ho : o.length with
 | zero => have := (Lis.most_bd l).1; simpa using this
 | succ n =>
  have h1 := Lis.good_row l o h n 0 (by omega)
  have h2 := h 0 (by omega)
  have h3 := (Lis.row_ge l (o.getD 0 0).toNat (by omega)).2
  omega
theorem Lis.sel_inv (l : List Int) : ∀ n, n <= l.length -> ((Lis.sel l n).length : Int) = Lis.most l \/
  (((Lis.sel l n).length : Int) < Lis.most l /\ ∃ j, n <= j /\ j < l.length /\ (Lis.rows l).getD j 0 = Lis.most l - (Lis.sel l n).length /\ (Lis.sel l n = [] \/ l.getD ((Lis.sel l n).getLastD 0) 0 < l.getD j 0))
 | 0, _ => by
  have hb := Lis.most_bd l
  rcases Lis.foldr_reach (Lis.rows l) with h | h
  ·left; show (0 : Int) = _; unfold Lis.most; exact h.symm
  ·have hp := Lis.rows_pos l _ h
   right
   refine ⟨by show (0 : Int) < _; unfold Lis.most; omega, ?_⟩
   obtain ⟨j, hj, he⟩ := List.getElem_of_mem h
   have hl := Lis.rows_length l
   refine ⟨j, Nat.zero_le _, by omega, ?_, .inl rfl⟩
   rw [z8z _ j hj, he]
   show _ = Lis.most l - (0 : Int)
   unfold Lis.most; omega
 | n + 1, hn => by
  have ih := Lis.sel_inv l n (by omega)
  have hs := Lis.sel_succ l n
  rcases ih with ih | ⟨hlt, j, hj1, hj2, hj3, hj4⟩
  ·left
   rw [hs]; unfold Lis.sel1; rw [if_neg (by omega)]; exact ih
  ·by_cases hc : ((Lis.sel l n).length : Int) < Lis.most l /\ (Lis.rows l).getD n 0 = Lis.most l - (Lis.sel l n).length /\ (Lis.sel l n = [] \/ l.getD ((Lis.sel l n).getLastD 0) 0 < l.getD n 0)
   ·have hs' : Lis.sel l (n + 1) = Lis.sel l n ++ [n] := by rw [hs]; unfold Lis.sel1; rw [if_pos hc]
    rw [hs']
    have hlen : ((Lis.sel l n ++ [n]).length : Int) = (Lis.sel l n).length + 1 := by simp
    have hlast : (Lis.sel l n ++ [n]).getLastD 0 = n := by simp
    rw [hlen, hlast]
    by_cases he : ((Lis.sel l n).length : Int) + 1 = Lis.most l
    ·exact .inl he
    ·right
     refine ⟨by omega, ?_⟩
     obtain ⟨j', q1, q2, q3, q4⟩ := Lis.rows_next l n (by omega) (by omega)
     refine ⟨j', by omega, q2, by omega, .inr ?_⟩
     rw [z8z l n (by omega), z8z l j' q2]; exact q3
   ·have hs' : Lis.sel l (n + 1) = Lis.sel l n := by rw [hs]; unfold Lis.sel1; rw [if_neg hc]
    rw [hs']
    right
    refine ⟨hlt, j, ?_, hj2, hj3, hj4⟩
    rcases Nat.lt_or_ge n j with h | h
    ·omega
    ·have : j = n := by omega
     subst this
     exact (hc ⟨hlt, hj3, hj4⟩).elim
theorem Lis.sel_all (l : List Int) : ((Lis.sel l l.length).length : Int) = Lis.most l := by
 rcases Lis.sel_inv l l.length (Nat.le_refl _) with h | ⟨_, j, h1, h2, _⟩
 ·exact h
 ·omega
theorem Lis.longest (l o : List Int) (hl : l.length <= 256) (h : Lis.Good l o o.length) : o.length <= (Lis.lis l).length := by
 have h1 := Lis.good_most l o h
 have h2 := Lis.sel_all l
 unfold Lis.lis
 rw [if_neg (by omega)]
 omega
end
section
open Abs
namespace Tr
end Tr
namespace Tr
def z3k (u : T) : Bool := decide (u.kind = 0) && (z8n u && (decide (u.kids.length = 0) || !decide ((u.kids.headD u).id = u.id)))
def z5b (A B : T) : Bool := (nodesT A).all fun x => !z16 x.id B || decide ((findR x.id B).1.kind = x.kind)
def zdr (A B : T) : Bool := z3k A && (z3k B && z5b A B)
theorem z1g (u : T) : z3k u = true ↔ u.kind = 0 /\ z8n u = true /\ (idsT u).Nodup := by
 unfold z3k
 simp only [Bool.and_eq_true, decide_eq_true_eq, Bool.or_eq_true, Bool.not_eq_true', decide_eq_false_iff_not]
 constructor
 ·rintro ⟨h1, h2, h3⟩
  refine ⟨h1, h2, ?_⟩
  have h4 : idsB u = true := by unfold z8n at h2; simp only [Bool.and_eq_true] at h2; exact h2.2.2.2
  unfold idsB at h4
  simp only [Bool.or_eq_true, Bool.and_eq_true, decide_eq_true_eq, List.all_eq_true] at h4
  rcases h4 with h4 | h4
  ·cases O : u.kids with
   | nil => rw [z2f, O]; simp
   | cons k l =>
    rcases h3 with h3 | h3
    ·rw [O] at h3; simp at h3
    ·rw [O] at h3
     refine absurd ?_ h3
     simp only [List.headD_cons]
     rw [h4 u.id (z3u u), h4 k.id (by rw [z2f, O]; simp [z3u])]
  ·exact h4.2
 ·rintro ⟨h1, h2, h3⟩
  refine ⟨h1, h2, ?_⟩
  cases O : u.kids with
  | nil => exact .inl rfl
  | cons k l =>
   refine .inr fun e => ?_
   simp only [List.headD_cons] at e
   rw [z2f, O, List.nodup_cons] at h3
   exact h3.1 (by rw [<- e]; simp [z3u])
theorem z5l {u : T} (h : z3k u = true) : u.id = Idv.zero := by
 obtain ⟨h1, h2, h3⟩ := (z1g u).1 h
 have h4 : idsB u = true := by unfold z8n at h2; simp only [Bool.and_eq_true] at h2; exact h2.2.2.2
 unfold idsB at h4
 simp only [Bool.or_eq_true, Bool.and_eq_true, decide_eq_true_eq, List.all_eq_true] at h4
 rcases h4 with h4 | h4
 ·exact h4 u.id (z3u u)
 ·exact h4.1.2 h1
theorem zpx : ∀ t : T, zb8 t = true -> ∀ x ∈ nodesT t, zb8 x = true := by
 refine z53 fun t ih h x hx => ?_
 rw [z15, List.mem_cons, List.mem_flatMap] at hx
 rcases hx with rfl | ⟨k, O, hx⟩
 ·exact h
 ·rw [zfe] at h
  simp only [Bool.and_eq_true, List.all_eq_true] at h
  exact ih k O (h.2.2.1 k O) x hx
theorem zeu {u : T} (h : z3k u = true) {x : T} (hx : x ∈ nodesT u) : x.kids.length <= 64 /\ (x.head.length <= 256 /\ x.words.length <= 256) /\ (x.kind = 0 -> x.label = ByteArray.empty) /\ (¬ x.kind = 0 -> z87 x.label = true) /\ ∀ k ∈ x.kids, ¬ k.kind = 0 := by
 obtain ⟨h1, h2, h3⟩ := (z1g u).1 h
 have hr : zb8 u = true := by unfold z8n at h2; simp only [Bool.and_eq_true] at h2; exact h2.1
 have h4 := zpx u hr x hx
 rw [zfe] at h4
 simp only [Bool.and_eq_true, List.all_eq_true] at h4
 obtain ⟨ha, hn, _⟩ := h4
 unfold zl0 zog at ha
 simp only [Bool.and_eq_true, decide_eq_true_eq] at ha
 obtain ⟨_, a2, a3, a4, a5⟩ := ha
 refine ⟨a2, ⟨a3.1, a4.1⟩, fun e => ?_, fun e => ?_, fun k O e => ?_⟩
 ·rw [if_pos e] at a5
  simp only [Bool.and_eq_true, decide_eq_true_eq] at a5
  exact a5.1
 ·rw [if_neg e] at a5; exact a5
 ·have := hn k O
  rw [e] at this
  unfold z4z at this
  simp at this
  have h8 : ∀ n : Nat, n < 8 -> (0 : Int) ∉ belowL[n]?.getD [] := by decide
  exact h8 x.kind.toNat (by omega) this.2
theorem zxf {s : ByteArray} (h : z87 s = true) : ¬ s = ByteArray.empty := by
 intro e
 subst e
 revert h
 decide
theorem zxg {A B : T} (na : (idsT A).Nodup) : z5b A B = true ↔ ∀ i x y, findR i A = (x, true) -> findR i B = (y, true) -> x.kind = y.kind := by
 unfold z5b
 rw [List.all_eq_true]
 constructor
 ·intro h i x y hx hy
  have hxn : x ∈ nodesT A := by have := z3x (id := i) (u := A) (by rw [hx]); rwa [hx] at this
  have hxi : x.id = i := by have := zbq (id := i) (t := A) (by rw [hx]); rwa [hx] at this
  have := h x hxn
  unfold z16 at this
  rw [hxi, hy] at this
  have h2 : y.kind = x.kind := by simpa using this
  exact h2.symm
 ·intro h x hx
  by_cases hB : z16 x.id B = true
  ·have := h x.id x (findR x.id B).1 (z0x na hx rfl) (Prod.ext rfl hB)
   simp [this]
  ·simp [hB]
theorem zmg (A B : T) : zdr A B = true ↔ z3k A = true /\ z3k B = true /\ z5b A B = true := by
 unfold zdr; simp only [Bool.and_eq_true]
theorem zk1 {A B : T} (h : zdr A B = true) : Books A B (mvB A B) := by
 obtain ⟨h1, h2, h3⟩ := (zmg A B).1 h
 obtain ⟨a1, a2, a3⟩ := (z1g A).1 h1
 obtain ⟨b1, b2, b3⟩ := (z1g B).1 h2
 have O := (zxg a3).1 h3
 refine zxu a3 b3 ((z5l h1).trans (z5l h2).symm) O fun i x y hx hy hl he => ?_
 have hxn : x ∈ nodesT A := by have := z3x (id := i) (u := A) (by rw [hx]); rwa [hx] at this
 have hyn : y ∈ nodesT B := by have := z3x (id := i) (u := B) (by rw [hy]); rwa [hy] at this
 obtain ⟨_, _, _, x4, _⟩ := zeu h1 hxn
 obtain ⟨_, _, y3, _, _⟩ := zeu h2 hyn
 by_cases hx0 : x.kind = 0
 ·refine hl ?_
  rw [he, y3 (by rw [<- O i x y hx hy]; exact hx0)]
 ·exact zxf (x4 hx0) he
def zbx (A B : T) : TT := z44 A B (mvB A B) B
end Tr
end
section
open Abs Facts Tr
attribute [local irreducible] awp
set_option maxRecDepth 100000
namespace Tr
def szTT (t : TT) : Bool := zii (fun t l => decide (t.label.size <= 1000000) && (decide (t.was.size <= 1000000) && (decide (t.head.length <= 2000000) && (decide (t.words.length <= 2000000) && (decide (t.kids.length <= 2000000) && l.all id))))) t
theorem zjg (t : TT) : szTT t = true ↔ t.label.size <= 1000000 /\ t.was.size <= 1000000 /\ t.head.length <= 2000000 /\ t.words.length <= 2000000 /\ t.kids.length <= 2000000 /\ ∀ k ∈ t.kids, szTT k = true := by
 unfold szTT
 rw [ze1]
 simp only [Bool.and_eq_true, decide_eq_true_eq, List.all_map, List.all_eq_true, Function.comp_apply, id_eq]
end Tr
end
end Go.Proofs.YtfechgagcgbldaaDoor
namespace Go.Proofs.YtfechgagcgbldaaDoor.Abs
open Go.RowKit
variable {P : Program}
theorem zsf {f : FuncId} {ds : List D} {k : Nat} {r : D} {o o' : HObj} (hr : lowD (k + 1) r = true) (ho : lowO (k + 1) o' = true)
  (h : ∀ H nx, k < nx -> H k = some o -> AC P f ds H nx fun r' H' _ => r' = r /\ H' k = some o' /\ ∀ id, id < nx -> id ≠ k -> H' id = H id) : TC P f ds k o o' r := by
 intro H nx O hH
 have h1 := z9z (h H nx O hH) (fun r' H' nx' ⟨hr', h2, h3⟩ => by
  subst hr'
  refine ⟨zf1 (by omega) _ hr, fun id q hid hq => ?_⟩
  by_cases e : id = k
  ·subst e; rw [h2] at hq; cases hq; exact .inr (zka (by omega) ho)
  ·exact .inl (by rw [<- h3 id hid e]; exact hq))
 refine ⟨h1.1, fun s w vs e1 e2 e3 e4 => (h1.2 s w vs e1 e2 e3 e4).mono fun e w' ⟨v, r1, s1, he, ⟨hnx, H', nx', ⟨hr', h2, h3⟩, hcut⟩, hstep, hRH, hrel⟩ => ⟨v, r1, s1, he, ⟨hr', ?_, hnx⟩, hstep, hRH, hrel⟩⟩
 rw [hcut]
 funext id
 unfold zsc z0u
 by_cases e : id = k
 ·subst e; rw [if_pos O, if_pos rfl]; exact h2
 ·rw [if_neg e]
  split
  ·rename_i hlt; exact h3 id hlt e
  ·rename_i hlt
   cases hHi : H id with
   | none => rfl
   | some q =>
    have := (e3.obj id q (by rw [e1]; exact hHi)).1
    omega
end Go.Proofs.YtfechgagcgbldaaDoor.Abs
namespace Go.Proofs.YtfechgagcgbldaaDoor
open _root_.Go.Proofs.Tryd
section
open Abs Facts Tr
attribute [local irreducible] awp
set_option maxRecDepth 100000
theorem zcl {β : Type} {enc : β -> D} (he : ∀ x, pureD (enc x) = true) : ∀ (l : List (Idv × β)) (i : Idv), pureD (z7r enc l i) = true
 | [], _ => rfl
 | p :: l, i => by
  unfold z7r
  split
  ·exact zcl he l i
  ·split
   ·exact he _
   ·rfl
theorem zpf {β : Type} {enc : β -> D} (he : ∀ x, pureD (enc x) = true) (n : Nat) (l : List (Idv × β)) : lowO n (.map (mapI enc l)) = true := by
 show (lowD.lowL n ((mapI enc l).map (·.1)) && lowD.lowL n ((mapI enc l).map (·.2))) = true
 unfold mapI
 rw [List.map_map, List.map_map, Bool.and_eq_true]
 exact ⟨z1t _ _ (z0a (fun _ => rfl) _), z1t _ _ (z0a (fun i => zcl he l i) _)⟩
def unP (x : T) : Idv × T := (x.id, x)
theorem zpg (k : Nat) : ∀ u : T, szB u = true -> ∀ l : List (Idv × T), TC prog 40 [z1o u, .mp k] k (.map (mapI z1o l)) (.map (mapI z1o (l ++ (nodesT u).map unP))) (.mp k) := by
 refine z53 fun u ih hs l => ?_
 obtain ⟨h0, h1, g1, h2, g2, h3, h4⟩ := (z3o u).1 hs
 refine zsf (by simp [lowD]) (zpf z0h _ _) fun H nx O hH => ?_
 have hq := z01 O
 refine (z30 [] func40 rfl (by decide +kernel) rfl ?_)
 show awp _ _ (Code.seq _ _) _ _
 rcases zh2 z1o l u.id u with ⟨hm, n, hf, hp⟩ | ⟨hm, hf, hp⟩
 all_goals
  rw [zz6] at hp
  repeat' (first | refine nxt ?_ | ((refine zqh fun K hK => ?_); (simp (disch := omega) only [go_sem, Nat.reduceBEq, ↓reduceIte, reduceCtorEq, Nat.reduceAdd, Nat.reduceLeDiff, hq, hH, hf, hp])) | (refine hK _ ?_; clear hK K))
  (refine z6x (fun U st => ∃ (i : _), U = u.kids.length - i /\ st.t 1 = .mp k /\ st.t 2 = .ptr nx 0 /\ st.t 12 = z0l u.kids /\ st.t 13 = .int .i64 u.kids.length /\ st.t 14 = .int .i64 i /\ st.H (k) = some (.map (mapI z1o (l ++ (u.id, u) :: ((u.kids.take i).flatMap nodesT).map unP))) /\ st.H (nx) = some (.box 27 (z04 u)) /\ (i <= u.kids.length) /\ (nx < st.nx) /\ (∀ id, id < nx -> id ≠ k -> st.H id = H id)) ?_ ?_); rotate_left; (rintro U st ⟨i, rfl, q1, q2, q12, q13, q14, qHk, qHnx, qp0, qp1, qp2⟩); rotate_left
  ·(refine ⟨_, 0, rfl, ?_⟩); (simp (disch := omega) only [go_sem, Nat.reduceBEq, true_and, Int.natCast_zero, List.flatMap_nil, List.map_nil, z0l, hq])
   exact ⟨by omega, fun id hid hne => by simp (disch := omega) only [z0d]⟩
  have hqs := z01 (show k < st.nx by omega)
  have hqn := z01 qp1
  by_cases hi : i < u.kids.length
  ·have hin := ih u.kids[i] (List.getElem_mem hi) (h4 _ (List.getElem_mem hi)) (l ++ (u.id, u) :: ((u.kids.take i).flatMap nodesT).map unP)
   have htk : l ++ (u.id, u) :: ((u.kids.take i).flatMap nodesT).map unP ++ (nodesT u.kids[i]).map unP = l ++ (u.id, u) :: ((u.kids.take (i + 1)).flatMap nodesT).map unP := by
    rw [List.take_succ_eq_append_getElem hi, List.flatMap_append, List.map_append]; simp
   rw [htk] at hin
   repeat' (first | ((first | refine zqh fun K hK => ?_ | refine zqr fun K hK => ?_ | ((refine zbm (hin) ?_ ?_ ?_); (focus ((simp (disch := omega) only [go_sem, qHk, hqs]); done)); (focus (((simp (disch := omega) only [go_sem]); done))))); (simp (disch := omega) only [go_sem, Nat.reduceBEq, ↓reduceIte, reduceCtorEq, Nat.reduceAdd, Nat.reduceLeDiff, q1, q12, q13, q14, z0l])) | (refine zqd _ rfl ?_ ?_ <;> intro hc <;> (((try simp only [z06] at hc); (try omega)))) | refine nxt ?_ | (refine hK _ ?_; clear hK K))
   (refine Exists.intro _ (And.intro ?_ ⟨i + 1, rfl, ?_⟩)); rotate_left; (simp (disch := omega) only [go_sem, Nat.reduceBEq, q1, q2, q12, q13, q14, qHk, qHnx, true_and, Int.natCast_add, Int.natCast_one, hq, hqs, hqn]); rotate_left
   ·omega
   ·exact ⟨by omega, fun id hid hne => by simp (disch := omega) only [z0d]; exact qp2 id hid hne⟩
  ·repeat' (first | ((refine zqh fun K hK => ?_); (simp (disch := omega) only [go_sem, Nat.reduceBEq, ↓reduceIte, q1, q13, q14])) | (refine zqd _ rfl ?_ ?_ <;> intro hc <;> (((try simp only [z06] at hc); (try omega)))) | refine nxt ?_ | refine zqz ?_ | refine zqu (by simp only [go_sem]; rfl) rfl ?_ | (refine hK _ ?_; clear hK K))
   have hta : u.kids.take i = u.kids := List.take_of_length_le (by omega)
   rw [hta] at qHk
   have e : l ++ (nodesT u).map unP = l ++ (u.id, u) :: (u.kids.flatMap nodesT).map unP := by rw [z15]; rfl
   rw [e]
   (simp (disch := omega) only [go_sem, Nat.reduceBEq, qHk])
   exact qp2
namespace Tr
end Tr
theorem zlv {β : Type} {enc : β -> D} {k : Idv} : ∀ {l : List (Idv × β)}, k ∈ l.map (·.1) -> ∃ v, (k, v) ∈ l /\ z7r enc l k = enc v
 | [], h => by cases h
 | p :: l, h => by
  unfold z7r
  by_cases h2 : k ∈ l.map (·.1)
  ·obtain ⟨v, h3, h4⟩ := zlv (enc := enc) h2
   exact ⟨v, List.mem_cons_of_mem _ h3, by rw [if_pos h2, h4]⟩
  ·rw [List.map_cons, List.mem_cons] at h
   rcases h with h | h
   ·exact ⟨p.2, by rw [h]; simp, by rw [if_neg h2, if_pos h.symm]⟩
   ·exact absurd h h2
end
section
open Abs Facts Tr
attribute [local irreducible] awp
namespace Tr
def zu5 (u : T) : Bool := z8n u && !((if u.kind = 0 then (idsT u).drop 1 else idsT u).any fun x => decide (x = Idv.zero))
end Tr
end
section
open Abs Facts Go.Lib
variable {P : Program}
end
section
open Abs Facts Go.Lib Go.Shelf Go.RowKit
end
section
open Abs Facts Go.Lib Go.RowKit
end
section
open Abs Facts Tr
attribute [local irreducible] awp
namespace Abs
def zzx (t : T) : List D := [.int .i64 t.id.act, .int .i64 t.id.item, .int .i64 t.id.n, .int .i64 t.kind, .str t.label, z2g t.head, z2g t.words, z0l t.kids]
end Abs
end
end Go.Proofs.YtfechgagcgbldaaDoor
namespace Go.Proofs.YtfechgagcgbldaaDoor.Abs
theorem z8j {P : Program} {own : List Nat} {a b : Code} {Q : Exit -> St -> Prop} {st : St} (I : St -> Prop) (h2 : awp P own a (zj9 I Q) st) (h1 : ∀ st, I st -> awp P own b Q st) : awp P own (.seq a b) Q st :=
 z5g a _ _ st (zlp (fun st h => ⟨st, SealTo.refl st, h1 st h⟩) (fun _ _ h => h)) h2
theorem zax {P : Program} {own : List Nat} {a b c : Code} {Q : Exit -> St -> Prop} {st : St} (I : St -> Prop) (h2 : awp P own (.seq a b) (zj9 I Q) st) (h1 : ∀ st, I st -> awp P own c Q st) : awp P own (.seq a (.seq b c)) Q st :=
 z5g a _ _ st (fun e st h => by
  cases e with
  | normal => obtain ⟨st', hs, h⟩ := h; exact ⟨st', hs, z8j I h h1⟩
  | _ => exact h) h2
theorem z007 {I : St -> Prop} {Q : Exit -> St -> Prop} {st : St} (h : I st) : zj9 I Q .normal st := h
end Go.Proofs.YtfechgagcgbldaaDoor.Abs
namespace Go.Proofs.YtfechgagcgbldaaDoor
section
open Abs Facts Tr
attribute [local irreducible] awp
set_option maxRecDepth 100000
namespace Tr
end Tr
theorem zb6 {k nx : Nat} (h : k < nx) : (nx + 4 == nx) = false /\ (nx + 4 == nx + 1) = false /\ (nx + 4 == nx + 2) = false /\ (nx + 4 == nx + 3) = false /\ (nx == nx + 4) = false /\ (nx + 1 == nx + 4) = false /\ (nx + 2 == nx + 4) = false /\ (nx + 3 == nx + 4) = false /\ (k == nx + 4) = false /\ (nx + 4 == k) = false :=
 ⟨z1x (by omega), z1x (by omega), z1x (by omega), z1x (by omega), z1x (by omega), z1x (by omega), z1x (by omega), z1x (by omega), z1x (by omega), z1x (by omega)⟩
namespace Tr
theorem zmu {m : List Idv} {i : Idv} (hn : m.Nodup) (hi : i ∉ m) : (m ++ [i]).Nodup := by
 rw [List.nodup_append]
 exact ⟨hn, by simp, fun a ha b hb => by rw [List.mem_singleton] at hb; subst hb; exact fun e => hi (e ▸ ha)⟩
end Tr
namespace Tr
end Tr
namespace Abs
def zm0 : List Oper -> Nat -> Option Oper
 | [], _ => none
 | o :: _, 0 => some o
 | _ :: l, k + 1 => zm0 l k
def z6y (opl : List Oper) : List Nat -> List Oper
 | [] => []
 | k :: l => match zm0 opl k with
  | some o => o :: z6y opl l
  | none => z6y opl l
theorem z37 {P : Program} {own : List Nat} {K : St -> Prop} {opl : List Oper} {l : List Nat} {st : St} (h : z2o P own (opl.map (·.dst)) (z6y opl l) K st) (hl : l.map (fun k => opl.toArray[k]?) = (z6y opl l).map some) : zcm P own opl.toArray K (.run l) st := zzr hl h
theorem zbs {P : Program} {own : List Nat} {K : St -> Prop} {opl : List Oper} {l : List Nat} {a b : OT} {st : St} (h : z2o P own (opl.map (·.dst)) (z6y opl l) (fun st => zcm P own opl.toArray K a st /\ zcm P own opl.toArray K b st) st) (hl : l.map (fun k => opl.toArray[k]?) = (z6y opl l).map some) : zcm P own opl.toArray K (.fork l a b) st := zw9 hl h
end Abs
theorem zqv {K : St -> Prop} {Q : Exit -> St -> Prop} {st : St} (h : K st) : zj9 K Q .normal st := h
end
open _root_.Go.Proofs.Tryd
section
open Abs Facts Tr
attribute [local irreducible] awp
set_option maxRecDepth 100000
namespace Tr
def znp (t : TT) : Bool := if t.state = 2 /\ t.moved = true then decide (t.kind = 0) && (decide (t.label = ByteArray.empty) && (decide (t.was = ByteArray.empty) && decide (t.head.length + t.words.length + t.kids.length = 0))) else !(decide (t.state = 0) && t.moved) && !(!decide (t.was = ByteArray.empty) && decide (t.was = t.label))
def okN (t : TT) : Bool := zii (fun t l => znp t && l.all id) t
theorem zp2 (t : TT) : okN t = (znp t && t.kids.all okN) := by
 unfold okN
 rw [ze1, List.all_map]; rfl
def zdn (t : TT) : List (Idv × Int) := (zby t).map fun x => (x.id, 1)
theorem zvr (t : TT) : zdn t = (t.id, 1) :: t.kids.flatMap zdn := by
 unfold zdn
 rw [zgv, List.map_cons, List.map_flatten, List.map_map, List.flatMap]; rfl
end Tr
theorem zz7 (n : Nat) (h : List (Idv × Int)) : lowO n (.map (zc4 h)) = true := by
 show (lowD.lowL n ((zc4 h).map (·.1)) && lowD.lowL n ((zc4 h).map (·.2))) = true
 unfold zc4
 rw [List.map_map, List.map_map, Bool.and_eq_true]
 exact ⟨z1t _ _ (z0a (fun _ => rfl) _), z1t _ _ (z0a (fun _ => rfl) _)⟩
theorem tc_walk (k : Nat) : ∀ t : TT, szTT t = true -> okN t = true -> ∀ h : List (Idv × Int), (∀ p ∈ h, p.2 = 1 \/ p.2 = -1) -> h.length + (zdn t).length <= 1000000000 -> TC prog 9 [z9g t, .mp k] k (.map (zc4 h)) (.map (zc4 (h ++ zdn t))) (.bool true) := by
 refine tind1 fun t ih hs ho h V hl => ?_
 obtain ⟨h0, h00, h1, h2, h3, h4⟩ := (zjg t).1 hs
 rw [zp2, Bool.and_eq_true] at ho
 have hlen := congrArg List.length (zvr t)
 rw [List.length_cons] at hlen
 have hcb := z92 t.id V
 refine zsf (by simp [lowD]) (zz7 _ _) fun H nx O hH => ?_
 have hq := z01 O
 refine z75 func9 rfl (by decide +kernel) (by simp [ntmps9]) ?_
 refine Sem.seq (Sem.walk (own := []) z1v (by decide +kernel) ?_)
 repeat' (first | ((refine zqr fun K hK => ?_); (simp (disch := omega) only [go_sem])) | (refine hK _ ?_; clear hK K))
 refine Sem.seq (zat (own := []) (z := .int .i64 0) z1v (by decide +kernel) [0, 1, 2] (T := 37) (m := 6) (k := 8) (tL := 9) (tB := 10) (tE := 11) (tX := 12) (c := .int .i64 1) (bop := .add) (bt := 3) (bu := 3) (iL := 3) (iB := 4) (iE := 5) (iX := 6) (iS := 7)
  ⟨⟨_, rfl, rfl, rfl, rfl⟩, ⟨_, rfl, rfl, rfl, rfl⟩, ⟨_, rfl, rfl, rfl, rfl⟩, ⟨_, rfl, rfl, rfl, rfl⟩, ⟨_, rfl, rfl, rfl, rfl⟩, by decide +kernel, by decide +kernel, by decide, by decide, by decide⟩ (by decide +kernel) zlt zp9 zpa ?_)
 refine z37 ?_ rfl
 (simp (disch := omega) only [go_sem, Nat.reduceBEq, ↓reduceIte, reduceCtorEq, Nat.reduceAdd, Nat.reduceLeDiff, z6y, zm0, List.map_cons, List.map_nil])
 refine ⟨k, zc4 h, z3a t.id, .int .i64 (z8a h t.id + 1), fdC h t.id, ?_, ?_, ?_, ?_, ?_, zaz h t.id, ?_, ?_⟩
 ·rfl
 ·rfl
 ·(simp (disch := omega) only [go_sem, hq, hH])
 ·rfl
 ·have e := zk0 t.id t.id
  rw [decide_eq_true rfl] at e
  exact e
 ·rw [z6g]
  have hw : IntKind.i64.wrap (z8a h t.id + 1) = z8a h t.id + 1 := z28 (by omega)
  (simp (disch := omega) only [go_sem, ↓reduceIte, hw])
 rw [z6g, zb0]
 refine zqv (Sem.walk (own := []) z1v (by decide +kernel) ?_)
 generalize hS : stG 9 10 11 12 _ _ _ _ 2 2 = S
 have q1 : S.t 1 = .mp k := by subst hS; (simp (disch := omega) only [go_sem, Nat.reduceBEq, Nat.reduceEqDiff, ↓reduceIte, Nat.reduceLT, stG])
 have q2 : S.t 2 = .ptr nx 0 := by subst hS; (simp (disch := omega) only [go_sem, Nat.reduceBEq, Nat.reduceEqDiff, ↓reduceIte, Nat.reduceLT, stG])
 have qHk : S.H k = some (.map (zc4 (h ++ [(t.id, 1)]))) := by subst hS; (simp (disch := omega) only [go_sem, Nat.reduceLT, stG])
 have qHnx : S.H nx = some (.box 33 (z0w t)) := by subst hS; (simp (disch := omega) only [go_sem, Nat.reduceLT, stG, hq])
 have qnx : S.nx = nx + 1 := by subst hS; rfl
 have qid : ∀ id, id < nx -> id ≠ k -> S.H id = H id := by
  intro id hid hne
  subst hS
  simp (disch := omega) only [stG, z0d, go_sem, Nat.reduceLT]
 clear hS
 rw [zvr]
 by_cases hmv : t.state = 2 /\ t.moved = true
 ·have hn := ho.1
  unfold znp at hn
  rw [if_pos hmv] at hn
  simp only [Bool.and_eq_true, decide_eq_true_eq] at hn
  obtain ⟨n1, n2, n3, n4⟩ := hn
  obtain ⟨s1, s2⟩ := hmv
  have e0 : (ByteArray.empty : ByteArray) = ⟨#[]⟩ := rfl
  have l1 : t.head.length = 0 := by omega
  have l2 : t.words.length = 0 := by omega
  have l3 : t.kids.length = 0 := by omega
  have hk0 : t.kids = [] := List.length_eq_zero_iff.1 l3
  rw [hk0]
  repeat' (first | refine nxt ?_ | ((refine zqh fun K hK => ?_); (simp (disch := omega) only [go_sem, Nat.reduceBEq, ↓reduceIte, reduceCtorEq, Nat.reduceAdd, q2, qHnx, qnx, n1, n2, n3, s1, s2, l1, l2, l3, z26, z86, e0])) | (refine zqd _ rfl ?_ ?_ <;> intro hc <;> (first | (cases hc; done) | ((try simp only [] at hc); (try omega)))) | refine zqu (by simp only [go_sem]; rfl) rfl ?_ | (refine hK _ ?_; clear hK K))
  (simp (disch := omega) only [go_sem, Nat.reduceBEq, qHk, List.flatMap_nil, true_and])
  exact ⟨rfl, qid⟩
 ·have hn := ho.1
  unfold znp at hn
  rw [if_neg hmv] at hn
  simp only [Bool.and_eq_true, Bool.not_eq_true', Bool.and_eq_false_iff, decide_eq_false_iff_not, Bool.not_eq_false', decide_eq_true_eq] at hn
  have e0 : (ByteArray.empty : ByteArray) = ⟨#[]⟩ := rfl
  rw [e0] at hn
  (refine z8j (fun st => st.t 1 = .mp k /\ st.t 2 = .ptr nx 0 /\ st.H (k) = some (.map (zc4 (h ++ [(t.id, 1)]))) /\ st.H (nx) = some (.box 33 (z0w t)) /\ (nx + 1 <= st.nx) /\ (∀ id, id < nx -> id ≠ k -> st.H id = H id)) ?_ ?_); rotate_left; (rintro st ⟨c1, c2, cHk, cHnx, cp0, cp1⟩); rotate_left
  ·repeat' (first | ((refine zqh fun K hK => ?_); (simp (disch := omega) only [go_sem, Nat.reduceBEq, ↓reduceIte, reduceCtorEq, Nat.reduceAdd, q2, qHnx])) | ((refine zqm _ rfl (fun hc => ?_) (fun hc => ?_)) <;> (first | (cases hc; done) | ((try simp only [] at hc); (try omega)))) | refine nxt ?_ | refine zqu (by simp only [go_sem]; rfl) rfl ?_ | (refine hK _ ?_; clear hK K) | (refine zqf (fun hb => ?_) (fun hb => ?_) <;> (have hb2 := hb; try simp only [z06] at hb2) <;> ((first | have F := eq_false hb2 | have F := eq_true hb2); (simp (disch := omega) only [go_sem, Nat.reduceBEq, ↓reduceIte, reduceCtorEq, Nat.reduceAdd, F, q2, qHnx, qnx]); clear hb F; (try omega))))
   all_goals first | (exfalso; exact hmv ⟨by assumption, by assumption⟩) | skip
   all_goals
    (refine z007 ?_); (simp (disch := omega) only [go_sem, Nat.reduceBEq, Nat.reduceLeDiff, true_and, q1, q2, qHk, qHnx, qnx])
    exact ⟨by omega, qid⟩
  (refine z8j (fun st => st.t 1 = .mp k /\ st.t 2 = .ptr nx 0 /\ st.H (k) = some (.map (zc4 (h ++ [(t.id, 1)]))) /\ st.H (nx) = some (.box 33 (z0w t)) /\ (nx + 1 <= st.nx) /\ (∀ id, id < nx -> id ≠ k -> st.H id = H id)) ?_ ?_); rotate_left; (rintro st ⟨d1, d2, dHk, dHnx, dp0, dp1⟩); rotate_left
  ·repeat' (first | ((refine zqh fun K hK => ?_); (simp (disch := omega) only [go_sem, Nat.reduceBEq, ↓reduceIte, reduceCtorEq, Nat.reduceAdd, c2, cHnx])) | ((refine zqm _ rfl (fun hc => ?_) (fun hc => ?_)) <;> (first | (cases hc; done) | ((try simp only [z06] at hc); (try omega)))) | refine nxt ?_ | refine zqu (by simp only [go_sem]; rfl) rfl ?_ | (refine hK _ ?_; clear hK K) | (refine zqf (fun hb => ?_) (fun hb => ?_) <;> (have hb2 := hb; try simp only [z06] at hb2) <;> ((first | have F : (_ : Bool) = _ := hb2 | have F := eq_false hb2 | have F := eq_true hb2); (simp (disch := omega) only [go_sem, Nat.reduceBEq, ↓reduceIte, reduceCtorEq, Nat.reduceAdd, F, c2, cHnx]); clear hb F; (try omega))))
   all_goals first | (exfalso; clear ih; rcases hn with ⟨a1 | a1, a2 | a2⟩ <;> simp_all; done) | skip
   all_goals
    (refine z007 ?_); (simp (disch := omega) only [go_sem, Nat.reduceBEq, true_and, c1, c2, cHk, cHnx])
    exact ⟨by omega, cp1⟩
  repeat' (first | refine nxt ?_ | ((refine zqh fun K hK => ?_); (simp (disch := omega) only [go_sem])) | (refine hK _ ?_; clear hK K))
  have hone : ∀ x : TT, ∀ p ∈ zdn x, p.2 = 1 \/ p.2 = -1 := fun x p hp => by
   unfold zdn at hp
   obtain ⟨y, _, rfl⟩ := List.mem_map.1 hp
   exact .inl rfl
  (refine z6x (fun U st => ∃ (i : Nat), U = t.kids.length - i /\ st.t 1 = .mp k /\ st.t 2 = .ptr nx 0 /\ st.t 5 = .int .i64 i /\ st.H (k) = some (.map (zc4 (h ++ (t.id, 1) :: (t.kids.take i).flatMap zdn))) /\ st.H (nx) = some (.box 33 (z0w t)) /\ (i <= t.kids.length) /\ (nx < st.nx) /\ (∀ id, id < nx -> id ≠ k -> st.H id = H id)) ?_ ?_); rotate_left; (rintro U st ⟨i, rfl, q1, q2, q5, qHk, qHnx, qp0, qp1, qp2⟩); rotate_left
  ·(refine ⟨_, 0, rfl, ?_⟩); (simp (disch := omega) only [go_sem, Nat.reduceBEq, d1, d2, dHk, dHnx, true_and, Int.natCast_zero, List.flatMap_nil])
   exact ⟨by omega, by assumption⟩
  have hqs := z01 (show k < st.nx by omega)
  have hqn := z01 qp1
  by_cases hi : i < t.kids.length
  ·have hall : ∀ p ∈ h ++ (t.id, 1) :: (t.kids.take i).flatMap zdn, p.2 = 1 \/ p.2 = -1 := fun p hp => by
    rcases List.mem_append.1 hp with hp | hp
    ·exact V p hp
    ·rcases List.mem_cons.1 hp with rfl | hp
     ·exact .inl rfl
     ·obtain ⟨x, _, hx⟩ := List.mem_flatMap.1 hp
      exact hone x p hx
   have htk : h ++ (t.id, 1) :: (t.kids.take (i + 1)).flatMap zdn = (h ++ (t.id, 1) :: (t.kids.take i).flatMap zdn) ++ zdn t.kids[i] := by
    rw [List.take_succ_eq_append_getElem hi, List.flatMap_append]; simp
   have hle : ((t.kids.take (i + 1)).flatMap zdn).length <= (t.kids.flatMap zdn).length := by
    have e := congrArg (fun q => (q.flatMap zdn).length) (List.take_append_drop (i + 1) t.kids)
    simp only [List.flatMap_append, List.length_append] at e
    omega
   have hlk := congrArg List.length htk
   simp only [List.length_append, List.length_cons] at hlk
   have hin := ih t.kids[i] (List.getElem_mem hi) (h4 _ (List.getElem_mem hi)) (List.all_eq_true.1 ho.2 _ (List.getElem_mem hi)) _ hall (by simp only [List.length_append, List.length_cons]; omega)
   rw [<- htk] at hin
   repeat' (first | refine nxt ?_ | ((first | refine zqh fun K hK => ?_ | refine zqr fun K hK => ?_ | ((refine zbm (hin) ?_ ?_ ?_); (focus ((simp (disch := omega) only [go_sem, qHk]); done)); (focus (((simp (disch := omega) only [go_sem]); omega))))); (simp (disch := omega) only [go_sem, Nat.reduceBEq, ↓reduceIte, reduceCtorEq, Nat.reduceAdd, q1, q2, q5, qHnx, z86])) | ((first | refine zqd _ rfl (fun hc => ?_) (fun hc => ?_) | refine zqm _ rfl (fun hc => ?_) (fun hc => ?_)) <;> (first | (cases hc; done) | ((try simp only [z06] at hc); (try omega)))) | refine Abs.zqv ?_ | (refine hK _ ?_; clear hK K))
   (refine Exists.intro _ (And.intro ?_ ⟨i + 1, rfl, ?_⟩)); rotate_left; (simp (disch := omega) only [go_sem, Nat.reduceBEq, q1, q2, q5, qHk, qHnx, true_and, Int.natCast_add, Int.natCast_one, hq]); rotate_left
   ·omega
   ·exact ⟨by omega, by omega, fun id hid hne => by simp (disch := omega) only [z0d]; exact qp2 id hid hne⟩
  ·repeat' (first | refine nxt ?_ | ((refine zqh fun K hK => ?_); (simp (disch := omega) only [go_sem, Nat.reduceBEq, ↓reduceIte, reduceCtorEq, Nat.reduceAdd, q2, q5, qHnx, z86])) | (refine zqd _ rfl ?_ ?_ <;> intro hc <;> (((try simp only [z06] at hc); (try omega)))) | refine Abs.zqv ?_ | refine zqz ?_ | refine zqu (by simp only [go_sem]; rfl) rfl ?_ | (refine hK _ ?_; clear hK K))
   have hta : t.kids.take i = t.kids := List.take_of_length_le (by omega)
   rw [hta] at qHk
   (simp (disch := omega) only [go_sem, Nat.reduceBEq, qHk])
   exact qp2
end
end Go.Proofs.YtfechgagcgbldaaDoor
namespace Go.Proofs.YtfechgagcgbldaaDoor.Tr
structure Fit50 (u : T) : Prop where
 sz : szB u = true
 cnt : cntT u <= 1000000
 dep : depT u <= 1000000
end Go.Proofs.YtfechgagcgbldaaDoor.Tr
namespace Go.Proofs.YtfechgagcgbldaaDoor.Tr
open Abs
theorem zki (a b : List ByteArray) : (z4d a b).length <= a.length + b.length := by
 have h := zih (ga := stW 2) (gb := stW 1) (gs := fun s _ => stW 0 s) (Lcs.pairs a b) 0 0 (zc8 _ 0 0 (z83 a b) (Nat.zero_le _) (Nat.zero_le _))
 unfold z4d
 omega
theorem zc3 (l : List Wd) : (txt l).length = l.length := by unfold txt; rw [List.length_map]
theorem gone_sz (B : T) : ∀ u : T, szB u = true -> szTT (z4y B u) = true := by
 refine z53 fun u ih hs => ?_
 obtain ⟨h0, h1, g1, h2, g2, h3, h4⟩ := (z3o u).1 hs
 rw [zdt]
 split
 ·rfl
 ·rw [zjg]
  refine ⟨h0, Nat.zero_le _, ?_, ?_, ?_, fun k O => ?_⟩
  ·show ((txt u.head).map (stW 2)).length <= _; rw [List.length_map, zc3]; omega
  ·show ((txt u.words).map (stW 2)).length <= _; rw [List.length_map, zc3]; omega
  ·show (u.kids.map (z4y B)).length <= _; rw [List.length_map]; omega
  ·obtain ⟨y, hy, rfl⟩ := List.mem_map.1 (show k ∈ u.kids.map (z4y B) from O)
   exact ih y hy (h4 y hy)
theorem find_sz {A : T} (hA : szB A = true) (i : Idv) : szB (findR i A).1 = true := by
 cases h : z16 i A with
 | true => exact zal A hA _ (z3x (id := i) (u := A) h)
 | false =>
  have : (findR i A).1 = T.zero := by
   unfold z16 findR at h
   unfold findR
   split at h
   ·cases h
   ·rfl
  rw [this]; decide +kernel
theorem zy3 {A B : T} {mv : Idv -> Bool} (hA : szB A = true) : ∀ u : T, szB u = true -> szTT (z44 A B mv u) = true := by
 refine z53 fun u ih hs => ?_
 obtain ⟨h0, h1, g1, h2, g2, h3, h4⟩ := (z3o u).1 hs
 obtain ⟨x0, x1, y1, x2, y2, x3, x4⟩ := (z3o _).1 (find_sz hA u.id)
 rw [zan, zjg]
 refine ⟨h0, ?_, ?_, ?_, ?_, fun k O => ?_⟩
 ·show (if _ then _ else ByteArray.empty).size <= _
  split
  ·exact x0
  ·exact Nat.zero_le _
 ·refine Nat.le_trans (zki _ _) ?_; rw [zc3, zc3]; omega
 ·refine Nat.le_trans (zki _ _) ?_; rw [zc3, zc3]; omega
 ·show (mg _ _ _ _).length <= _
  rw [(z9y _ _ _ _).length_eq, List.length_append, List.length_map, List.length_map, List.length_map]
  have := List.length_filter_le (fun x : T => !stayB A B mv x.id) (findR u.id A).1.kids
  omega
 ·have O : k ∈ mg (stayB A B mv) (z4y B) (findR u.id A).1.kids (u.kids.map fun k => (k.id, z44 A B mv k)) := O
  rw [(z9y _ _ _ _).mem_iff, List.mem_append, List.map_map] at O
  rcases O with O | O
  ·obtain ⟨y, hy, rfl⟩ := List.mem_map.1 O
   exact gone_sz B y (x4 y (List.mem_filter.1 hy).1)
  ·obtain ⟨y, hy, rfl⟩ := List.mem_map.1 O
   exact ih y hy (h4 y hy)
theorem diff_sz {A B : T} (hA : szB A = true) (hB : szB B = true) : szTT (zbx A B) = true := zy3 hA B hB
end Go.Proofs.YtfechgagcgbldaaDoor.Tr
namespace Go.Proofs.YtfechgagcgbldaaDoor.Tr
theorem node_of {t : TT} (h1 : ¬ (t.state = 2 /\ t.moved = true)) (h2 : ¬ (t.state = 0 /\ t.moved = true)) (h3 : t.was = ByteArray.empty \/ ¬ t.was = t.label) : znp t = true := by
 unfold znp
 rw [if_neg h1, Bool.and_eq_true]
 constructor
 ·rw [Bool.not_eq_true', Bool.and_eq_false_iff]
  by_cases h : t.state = 0
  ·exact .inr (by cases hm : t.moved with | false => rfl | true => exact (h2 ⟨h, hm⟩).elim)
  ·exact .inl (decide_eq_false h)
 ·rw [Bool.not_eq_true', Bool.and_eq_false_iff]
  rcases h3 with h | h
  ·exact .inl (by rw [decide_eq_true h]; rfl)
  ·exact .inr (decide_eq_false h)
theorem gone_ok (B : T) : ∀ u : T, okN (z4y B u) = true := by
 refine z53 fun u ih => ?_
 rw [zdt]
 by_cases h : z16 u.id B = true
 ·rw [if_pos h, zp2]; rfl
 ·rw [if_neg h, zp2, Bool.and_eq_true]
  refine ⟨?_, List.all_eq_true.2 fun k O => ?_⟩
  ·unfold znp zev
   simp [TT.state, TT.moved, TT.was]
  ·obtain ⟨y, hy, rfl⟩ := List.mem_map.1 (show k ∈ u.kids.map (z4y B) from O)
   exact ih y hy
theorem zx5 {A B : T} {mv : Idv -> Bool} : ∀ u : T, okN (z44 A B mv u) = true := by
 refine z53 fun u ih => ?_
 rw [zan, zp2, Bool.and_eq_true]
 refine ⟨?_, List.all_eq_true.2 fun k O => ?_⟩
 ·refine node_of ?_ ?_ ?_
  ·rintro ⟨h, _⟩
   by_cases hm : z16 u.id A = true /\ mv u.id = false
   ·rw [show (z4e A mv u _).state = 0 from if_pos hm] at h; cases h
   ·rw [show (z4e A mv u _).state = 1 from if_neg hm] at h; cases h
  ·rintro ⟨h, h2⟩
   by_cases hm : z16 u.id A = true /\ mv u.id = false
   ·rw [show (z4e A mv u _).moved = mv u.id from rfl, hm.2] at h2; cases h2
   ·rw [show (z4e A mv u _).state = 1 from if_neg hm] at h; cases h
  ·by_cases hl : z16 u.id A = true /\ (findR u.id A).1.label ≠ u.label
   ·refine .inr ?_
    rw [show (z4e A mv u _).was = (findR u.id A).1.label from if_pos hl]
    exact hl.2
   ·exact .inl (if_neg hl)
 ·have O : k ∈ mg (stayB A B mv) (z4y B) (findR u.id A).1.kids (u.kids.map fun k => (k.id, z44 A B mv k)) := O
  rw [(z9y _ _ _ _).mem_iff, List.mem_append, List.map_map] at O
  rcases O with O | O
  ·obtain ⟨y, _, rfl⟩ := List.mem_map.1 O
   exact gone_ok B y
  ·obtain ⟨y, hy, rfl⟩ := List.mem_map.1 O
   exact ih y hy
theorem diff_ok (A B : T) : okN (zbx A B) = true := zx5 B
theorem z61 {l : List Idv} (hn : l.Nodup) (i : Idv) : l.count i = if i ∈ l then 1 else 0 := by
 induction l with
 | nil => simp
 | cons x l ih =>
  rw [List.nodup_cons] at hn
  rw [List.count_cons, ih hn.2]
  by_cases h : x = i
  ·subst h; rw [if_neg hn.1]; simp
  ·have h2 : ¬ i = x := fun e => h e.symm
   simp [h, h2]
theorem zsw (t : TT) (i : Idv) : z8a (zdn t) i = (wtT (wI i) t : Int) := by
 have e : zdn t = ((zby t).map TT.id).map fun x => (x, 1) := by unfold zdn; rw [List.map_map]; rfl
 have e2 : wtT (wI i) t = ((zby t).map TT.id).count i := by
  unfold wtT
  rw [<- zbp TT.id i]; rfl
 rw [e, ze2, e2]; omega
def histL (A B : T) : List (Idv × Int) := zdn (zbx A B) ++ (idsT A).map (fun x => (x, -1)) ++ ((idsT B).filter fun j => !z16 j A).map (fun x => (x, -1)) ++ (zga A B).map (fun x => (x, -1))
theorem zsx {A B : T} (hb : Books A B (mvB A B)) (hm : (zga A B).Nodup) (i : Idv) : z8a (histL A B) i = 0 := by
 unfold histL
 rw [z4m, z4m, z4m, ze2, ze2, ze2, zsw]
 have h := zw5 hb i
 have e : wtT (wI i) (zbx A B) = _ := h
 rw [e, z61 hb.na, z61 hb.nb, z61 (hb.na.filter _), z61 (hb.nb.filter _), z61 hm]
 simp only [List.mem_filter, z14, Bool.not_eq_true', decide_eq_false_iff_not]
 have hv : mvB A B i = true ↔ i ∈ zga A B := by unfold mvB; exact decide_eq_true_iff
 by_cases h1 : i ∈ idsT A <;> by_cases h2 : i ∈ idsT B <;> by_cases h3 : i ∈ zga A B <;> simp [h1, h2, h3, hv]
theorem zdp {α : Type} : ∀ l : List α, (l.map fun _ => 1).sum = l.length
 | [] => rfl
 | _ :: l => by rw [List.map_cons, List.sum_cons, zdp l, List.length_cons]; omega
theorem zsy {α : Type} {f g : α -> Nat} : ∀ l : List α, (∀ x ∈ l, f x <= g x) -> (l.map f).sum <= (l.map g).sum
 | [], _ => Nat.le_refl _
 | x :: l, h => by
  have h1 := h x (List.mem_cons_self ..)
  have h2 := zsy l fun y hy => h y (List.mem_cons_of_mem _ hy)
  rw [List.map_cons, List.map_cons, List.sum_cons, List.sum_cons]; omega
theorem zx6 : ∀ t : T, ((nodesT t).map fun x => 1 + x.kids.length).sum + 1 <= 2 * cntT t := by
 refine z53 fun t ih => ?_
 rw [z8g, za2]
 have key : ∀ l : List T, (∀ k ∈ l, ((nodesT k).map fun x => 1 + x.kids.length).sum + 1 <= 2 * cntT k) -> (l.map fun k => ((nodesT k).map fun x => 1 + x.kids.length).sum).sum + l.length <= 2 * (l.flatMap nodesT).length := by
  intro l
  induction l with
  | nil => intro _; exact Nat.le_refl _
  | cons k l ihl =>
   intro hl
   have h1 := hl k (List.mem_cons_self ..)
   have h2 := ihl fun y hy => hl y (List.mem_cons_of_mem _ hy)
   have h3 : (nodesT k).length = cntT k := rfl
   rw [List.map_cons, List.sum_cons, List.length_cons, List.flatMap_cons, List.length_append]
   omega
 have := key t.kids ih
 omega
theorem zx7 {A B : T} (hb : Books A B (mvB A B)) : (zdn (zbx A B)).length <= cntT B + 2 * cntT A := by
 have h := ze9 hb (w := fun _ => 1) (fun _ _ _ _ _ _ _ _ _ => rfl)
 have e : (zdn (zbx A B)).length = wtT (fun _ => 1) (zbx A B) := by
  unfold zdn wtT
  rw [List.length_map, zdp]
 have h1 := zsy (f := goD (fun _ => 1) B (mvB A B)) (g := fun x => 1 + x.kids.length) (nodesT A) fun x _ => by
  unfold goD
  have h2 := zsy (f := fun k : T => if z16 k.id B = true /\ mvB A B k.id = true then 1 else 0) (g := fun _ => 1) x.kids fun k _ => by split <;> omega
  rw [zdp] at h2
  dsimp only
  split <;> omega
 have h3 := zx6 A
 rw [zdp] at h
 have h4 : (nodesT B).length = cntT B := rfl
 rw [e, show wtT (fun _ => 1) (zbx A B) = _ from h]
 omega
end Go.Proofs.YtfechgagcgbldaaDoor.Tr
namespace Go.Proofs.YtfechgagcgbldaaDoor.Abs
open Go.RowKit
variable {P : Program}
theorem Sem.loop {N : Nat} {c : Code} {Q : Exit -> St -> Prop} {st : St} (I : Nat -> St -> Prop) (h0 : ∃ n, I n st) (h : ∀ n st', I n st' -> Sem P N c (zlo I n Q) st') : Sem P N (.loop c) Q st := by
 intro s0 w0 s a w hf hs
 obtain ⟨n, hn⟩ := h0
 refine zg1 (fun n a w => ∃ st s, I n st /\ Fr P N st s a w /\ Step s0 w0 s w) ?_ n a w ⟨st, s, hn, hf, hs⟩
 rintro n a w ⟨st, s, hI, hf, hs⟩
 refine wp_mono (h n st hI s0 w0 s a w hf hs) ?_
 rintro e a' w' ⟨st', s', hq, hf', hs'⟩
 cases e with
 | normal =>
  obtain ⟨m, hm', hI'⟩ := hq
  exact ⟨m, hm', st', s', hI', hf', hs'⟩
 | exit id => exact ⟨st', s', hq, hf', hs'⟩
 | goto l => exact ⟨st', s', hq, hf', hs'⟩
 | ret => exact ⟨st', s', hq, hf', hs'⟩
 | panic ch => exact ⟨st', s', hq, hf', hs'⟩
 | outgrown => exact ⟨st', s', hq, hf', hs'⟩
end Go.Proofs.YtfechgagcgbldaaDoor.Abs
namespace Go.Proofs.YtfechgagcgbldaaDoor
open _root_.Go.Proofs.Tryd
section
open Abs Facts Tr
attribute [local irreducible] awp
set_option maxRecDepth 100000
theorem zeb {k nx : Nat} (h : k < nx) : (nx + 5 == nx) = false /\ (nx + 5 == nx + 1) = false /\ (nx + 5 == nx + 2) = false /\ (nx + 5 == nx + 3) = false /\ (nx + 5 == nx + 4) = false /\ (nx == nx + 5) = false /\ (nx + 1 == nx + 5) = false /\ (nx + 2 == nx + 5) = false /\ (nx + 3 == nx + 5) = false /\ (nx + 4 == nx + 5) = false /\ (k == nx + 5) = false /\ (nx + 5 == k) = false :=
 ⟨z1x (by omega), z1x (by omega), z1x (by omega), z1x (by omega), z1x (by omega), z1x (by omega), z1x (by omega), z1x (by omega), z1x (by omega), z1x (by omega), z1x (by omega), z1x (by omega)⟩
namespace Tr
theorem zw6 {a : List ByteArray} : ∀ (l : List (Nat × Nat)) (i k : Nat), zsa a [] l i k -> l = []
 | [], _, _, _ => rfl
 | (x, y) :: l, i, k, h => by
  obtain ⟨q1, q2, q3, q4, _⟩ := h
  exact absurd q4 (Nat.not_lt_zero _)
theorem zht (a : List ByteArray) : z4d a [] = a.map (stW 2) := by
 unfold z4d
 rw [zw6 _ _ _ (z83 a [])]
 simp [wov]
def zck (t : T) : HObj := .map (mapI z1o ((nodesT t).map unP))
end Tr
theorem zpe (B : T) (i : Idv) : (i ∈ idsT B /\ z16 i B = true /\ ∃ n v, z2a prog 23 (.agg [.int .i64 i.act, .int .i64 i.item, .int .i64 i.n]) (mapI z1o ((nodesT B).map unP)) = some (some (n, .agg (z04 v)))) \/
  (i ∉ idsT B /\ z16 i B = false /\ z2a prog 23 (.agg [.int .i64 i.act, .int .i64 i.item, .int .i64 i.n]) (mapI z1o ((nodesT B).map unP)) = some none) := by
 have O : ((nodesT B).map unP).map (·.1) = idsT B := by rw [List.map_map]; rfl
 have hg := zdz z1o ((nodesT B).map unP) i
 rw [O] at hg
 by_cases h : i ∈ idsT B
 ·obtain ⟨v, _, hv⟩ := zlv (enc := z1o) (l := (nodesT B).map unP) (k := i) (by rw [O]; exact h)
  rw [if_pos h, hv] at hg
  exact .inl ⟨h, by rw [z14, decide_eq_true h], _, v, hg⟩
 ·rw [if_neg h] at hg
  exact .inr ⟨h, by rw [z14, decide_eq_false h], hg⟩
set_option maxHeartbeats 16000000 in
theorem rc_gone (B : T) (j0 j j2 : Nat) : ∀ u : T, szB u = true -> ∀ H nx, j < nx -> H j = some (zck B) -> RC prog 47 [.agg [.mp j0, .mp j, .mp j2], z1o u] H nx (z9g (z4y B u)) := by
 refine z53 fun u ih hs H nx hj hHj => ?_
 obtain ⟨h0, h1, g1, h2, g2, h3, h4⟩ := (z3o u).1 hs
 have c1 : PC prog 43 [z2g u.head, .nil] (z26 ((txt u.head).map (stW 2))) := by
  have h := z95 u.head [] h1 (by simp)
  rw [show txt [] = [] from rfl, zht] at h
  exact PC.le h (by simp only [pureD.pureL, pureD, z24, Bool.and_self]) ⟨Le.refl _, Le.nil 4, trivial⟩
 have c2 : PC prog 43 [z2g u.words, .nil] (z26 ((txt u.words).map (stW 2))) := by
  have h := z95 u.words [] h2 (by simp)
  rw [show txt [] = [] from rfl, zht] at h
  exact PC.le h (by simp only [pureD.pureL, pureD, z24, Bool.and_self]) ⟨Le.refl _, Le.nil 4, trivial⟩
 unfold z26 at c1 c2
 refine zpi (k := 4) (z3y _) ?_
 have hr := z01 hj
 have hr5 := zb6 hj
 have hr6 := zeb hj
 unfold zck at hHj
 refine (z30 [8000000, 3000023, 3000025, 3000027, 3000029, 5000030, 3000032, 5000033, 3000043, 3000044, 3000045] func47 rfl (by decide +kernel) rfl ?_)
 show awp _ _ (Code.seq _ _) _ _
 rw [show Tryd.f47.results.toList = [.cell 4 33] from rfl]
 rw [zdt]
 rcases zpe B u.id with ⟨hm, hh, n, v, hf⟩ | ⟨hm, hh, hf⟩
 ·rw [if_pos hh]
  repeat' (first | refine zqj ?_ | ((refine zqh fun K hK => ?_); (simp (disch := omega) only [go_sem, Nat.reduceBEq, ↓reduceIte, reduceCtorEq, Nat.reduceAdd, Nat.reduceLeDiff, hr, hHj, hf])) | (refine zqd _ rfl ?_ ?_ <;> intro hc <;> (first | (cases hc; done) | ((try simp only [] at hc); (try omega)))) | refine zqg ?_ | refine zqu (by (simp (disch := omega) only [go_sem, Nat.reduceBEq, ↓reduceIte, Nat.reduceAdd, Nat.reduceLeDiff, hr]); rfl) rfl ?_ | (refine hK _ ?_; clear hK K))
  (simp (disch := omega) only [go_sem])
  refine ⟨z1e (nx := 0) rfl ?_, fun id hid => by simp (disch := omega) only [z0d]⟩
  rw [z1n]
  exact Le.agg ⟨Le.refl _, Le.refl _, Le.refl _, Le.refl _, Le.refl _, Le.refl _, Le.refl _, Le.refl _, Le.nil 2, Le.nil 2, Le.nil 11, trivial⟩
 ·rw [hh, if_neg (by decide)]
  repeat' (first | refine zqj ?_ | ((first | refine z22 (N := 5) rfl fun K hK => ?_ | refine zix (N := 5) rfl (by decide +kernel) fun K hK => ?_ | refine zqt (c1) ?_ | refine zqt (c2) ?_); (simp (disch := omega) only [go_sem, Nat.reduceBEq, Nat.reduceEqDiff, ↓reduceIte, reduceCtorEq, Nat.reduceAdd, Nat.reduceLeDiff, hr, hr5, hHj, hf, z2g])) | (refine zqd _ rfl ?_ ?_ <;> intro hc <;> (first | (cases hc; done) | ((try simp only [] at hc); (try omega)))) | refine zqb ?_ | (refine hK _ ?_; clear hK K))
  refine z6d fun K hK => ?_
  (simp (disch := omega) only [go_sem, Nat.reduceBEq, ↓reduceIte, reduceCtorEq, Nat.reduceAdd, hr, hr5, z0l])
  refine hK _ _ (zha (b := nx + 4) (off := 10) (e := 33) 33 (by (simp (disch := omega) only [go_sem, hr5]); rfl) rfl) ?_
  clear hK K
  repeat' (refine zqa ?_)
  (refine z6x (fun U st => ∃ (i : _), U = u.kids.length - i /\ st.t 2 = .ptr nx 0 /\ st.t 4 = .ptr (nx + 2) 0 /\ st.t 7 = .ptr (nx + 4) 0 /\ st.t 36 = z0l u.kids /\ st.t 37 = .int .i64 u.kids.length /\ st.t 38 = .int .i64 i /\ st.H (nx) = some (.box 57 [.mp j0, .mp j, .mp j2]) /\ st.H (nx + 2) = some (.box 33 [.int .i64 0, .int .i64 0, .int .i64 0, .int .i64 0, .int .i64 0, .str ByteArray.empty, .str ByteArray.empty, .bool false, .nil, .nil, .nil]) /\ st.H (nx + 4) = some (.box 33 [.int .i64 2, .int .i64 u.kind, .int .i64 u.id.act, .int .i64 u.id.item, .int .i64 u.id.n, .str u.label, .str ByteArray.empty, .bool false, z26 ((txt u.head).map (stW 2)), z26 ((txt u.words).map (stW 2)), .osl (nx + 5) i]) /\ st.H (nx + 5) = some (.row 33 i (((u.kids.take i).map (z4y B)).flatMap z0w)) /\ st.H (j) = some (.map (mapI z1o ((nodesT B).map unP))) /\ (i <= u.kids.length) /\ (nx + 6 <= st.nx) /\ (∀ id, id < nx -> st.H id = H id)) ?_ ?_); rotate_left; (rintro U st ⟨i, rfl, q2, q4, q7, q36, q37, q38, qHnx, qHnx2, qHnx4, qHnx5, qHj, qp0, qp1, qp2⟩); rotate_left
  ·(refine ⟨_, 0, rfl, ?_⟩); (simp (disch := omega) only [go_sem, Nat.reduceBEq, Nat.reduceLeDiff, true_and, Int.natCast_zero, List.flatMap_nil, List.map_nil, z0l, z26, hr, hr5, hr6])
   exact ⟨hHj, Nat.le_refl _, fun id hid => by simp (disch := omega) only [z0d]⟩
  have hrs := z01 (show j < st.nx by omega)
  have hq0 := z01 (show nx < st.nx by omega)
  have hq2 := z01 (show nx + 2 < st.nx by omega)
  have hq4 := z01 (show nx + 4 < st.nx by omega)
  have hq5 := z01 (show nx + 5 < st.nx by omega)
  by_cases hi : i < u.kids.length
  ·have hin := fun H nx => ih u.kids[i] (List.getElem_mem hi) (h4 _ (List.getElem_mem hi)) H nx
   unfold zck at hin
   repeat' (first | ((first | refine zqh fun K hK => ?_ | refine zqq (by decide +kernel) fun K hK => ?_ | ((refine zja (hin _ _ ?_ ?_) rfl ?_); (focus (((simp (disch := omega) only [go_sem]); done))); (focus ((simp (disch := omega) only [go_sem, qHj, hrs]); done)))); (simp (disch := omega) only [go_sem, Nat.reduceBEq, Nat.reduceEqDiff, ↓reduceIte, reduceCtorEq, Nat.reduceAdd, Nat.reduceMul, Nat.reduceLeDiff, Nat.reduceLT, q2, q7, q36, q37, q38, qHnx, qHnx4, qHnx5, hr6, hq0, hq4, hq5, z0l])) | (refine zqd _ rfl ?_ ?_ <;> intro hc <;> (((try simp only [z06] at hc); (try omega)))) | refine zqa ?_ | refine zqb ?_ | refine zqv ?_ | refine zqy ?_ | (refine hK _ ?_; clear hK K))
   refine ⟨_, SealTo.refl _, ?_⟩
   repeat' (first | ((refine zqr fun K hK => ?_); (simp (disch := omega) only [go_sem, Nat.reduceBEq, ↓reduceIte, q38])) | (refine hK _ ?_; clear hK K))
   (refine Exists.intro _ (And.intro ?_ ⟨i + 1, rfl, ?_⟩)); rotate_left; (simp (disch := omega) only [go_sem, Nat.reduceBEq, Nat.reduceLeDiff, q2, q4, q7, q36, q37, q38, qHnx, qHnx2, qHnx4, qHnx5, qHj, true_and, Int.natCast_add, Int.natCast_one, List.flatMap_append, List.flatMap_cons, List.flatMap_nil, List.map_append, List.map_cons, List.map_nil, List.append_nil, hr5, hr6, hrs, hq0, hq2, hq4, hq5, List.take_succ_eq_append_getElem hi]); rotate_left
   ·omega
   ·exact ⟨by omega, by omega, fun id hid => by simp (disch := omega) only [z0d]; exact qp2 id hid⟩
  ·repeat' (first | ((refine zqh fun K hK => ?_); (simp (disch := omega) only [go_sem, ↓reduceIte, q37, q38])) | (refine zqd _ rfl ?_ ?_ <;> intro hc <;> (((try simp only [z06] at hc); (try omega)))) | refine zqc ?_ | refine zqv ?_ | refine zqz ?_ | refine zqp ?_ | (refine hK _ ?_; clear hK K))
   refine ⟨_, SealTo.refl _, ?_⟩
   repeat' (first | ((refine zqh fun K hK => ?_); (simp (disch := omega) only [go_sem, Nat.reduceBEq, ↓reduceIte, Nat.reduceAdd, Nat.reduceLeDiff, q4, q7, qHnx2, qHnx4])) | refine zqn ?_ | refine zqu (by (simp (disch := omega) only [go_sem, Nat.reduceBEq, ↓reduceIte, Nat.reduceAdd, Nat.reduceLeDiff, q4, qHnx2]); rfl) rfl ?_ | (refine hK _ ?_; clear hK K))
   have hie : i = (u.kids.map (z4y B)).length := by rw [List.length_map]; omega
   have hta : u.kids.take i = u.kids := List.take_of_length_le (by omega)
   rw [hta] at qHnx5
   (simp (disch := omega) only [go_sem])
   refine ⟨?_, fun id hid => by simp (disch := omega) only [z0d]; exact qp2 id hid⟩
   rw [zev, z1n]
   refine z8i (nx := 0) (zk8 (k := 3) (by simp [pureD.pureL, pureD]) ?_)
   refine z0e (z0b 2 rfl) (z0e (z0b 2 rfl) (z0e (z0b 2 rfl) (z0e (z0b 2 rfl) (z0e (z0b 2 rfl) (z0e (z0b 2 rfl) (z0e (z0b 2 rfl) (z0e (z0b 2 rfl) (z0e (z0b 2 (z4l _)) (z0e (z0b 2 (z4l _)) (z0e ?_ z4s))))))))))
   rw [hie]
   refine z1s (f := z0w) (l := u.kids.map (z4y B)) 1 ?_ zp3 zvt z4t z6f
   unfold hiH
   rw [if_pos (by omega), z2k _ (by omega), <- hie]
   exact qHnx5
namespace Tr
structure Plc where
 par : Idv
 pos : Int
 unit : T
def plcF (t : T) (l : List (List (Idv × Plc))) : List (Idv × Plc) := (t.kids.zip l).zipIdx.flatMap fun q => (q.1.1.id, ⟨t.id, (q.2 : Int), q.1.1⟩) :: q.1.2
def zwh (t : T) : List (Idv × Plc) := zg6 plcF t
def zoj (t : T) (i : Nat) : List (Idv × Plc) := ((t.kids.take i).zipIdx).flatMap fun q => (q.1.id, (⟨t.id, (q.2 : Int), q.1⟩ : Plc)) :: zwh q.1
theorem zis (t : T) : zwh t = zoj t t.kids.length := by
 unfold zoj
 rw [List.take_length]
 unfold zwh
 rw [z3m, plcF]
 generalize zg6 plcF = f
 generalize 0 = n
 induction t.kids generalizing n with
 | nil => rfl
 | cons k l ih => simp only [List.map_cons, List.zip_cons_cons, List.zipIdx_cons, List.flatMap_cons, ih]
theorem zuh {t : T} {i : Nat} (h : i < t.kids.length) : zoj t (i + 1) = zoj t i ++ [(t.kids[i].id, ⟨t.id, (i : Int), t.kids[i]⟩)] ++ zwh t.kids[i] := by
 unfold zoj
 rw [List.take_succ_eq_append_getElem h, List.zipIdx_append, List.flatMap_append]
 simp [List.length_take, Nat.min_eq_left (Nat.le_of_lt h)]
def plcs (t : T) : List (Idv × Plc) := (t.id, ⟨Idv.zero, 0, t⟩) :: zwh t
end Tr
namespace Abs
def z3l (p : Plc) : List D := .int .i64 p.par.act :: .int .i64 p.par.item :: .int .i64 p.par.n :: .int .i64 p.pos :: z04 p.unit
def encPl (p : Plc) : D := .agg (z3l p)
theorem z4n (p : Plc) : z3l p = [.int .i64 p.par.act, .int .i64 p.par.item, .int .i64 p.par.n, .int .i64 p.pos, .int .i64 p.unit.id.act, .int .i64 p.unit.id.item, .int .i64 p.unit.id.n, .int .i64 p.unit.kind, .str p.unit.label, z2g p.unit.head, z2g p.unit.words, z0l p.unit.kids] := by
 rw [z3l, z0t]
@[go_sem] theorem zui (p : Plc) : encPl p = .agg (z3l p) := rfl
@[go_sem] theorem zgf (p : Plc) : (z3l p).length = 12 := by rw [z4n]; rfl
@[go_sem] theorem cellsPl_par (p : Plc) : List.take 3 (z3l p) = [.int .i64 p.par.act, .int .i64 p.par.item, .int .i64 p.par.n] := by rw [z4n]; rfl
@[go_sem] theorem cellsPl_pos (p : Plc) : (z3l p)[3]? = some (.int .i64 p.pos) := by rw [z4n]; rfl
@[go_sem] theorem cellsPl_kind (p : Plc) : (z3l p)[7]? = some (.int .i64 p.unit.kind) := by rw [z4n]; rfl
@[go_sem] theorem cellsPl_unit (p : Plc) : List.take 8 (List.drop 4 (z3l p)) = z04 p.unit := by rw [z4n, z0t]; rfl
@[go_sem] theorem cellsPl_take (p : Plc) : List.take 12 (z3l p) = z3l p := List.take_of_length_le (by rw [zgf]; exact Nat.le_refl _)
@[go_sem] theorem zwi (a b c d e f g h i j k l : D) (p : Plc) : z1a [a, b, c, d, e, f, g, h, i, j, k, l] 0 (z3l p) = z3l p := by
 rw [z4n]; rfl
@[go_sem] theorem splice_plcU (a b c d e f g h i j k l : D) (t : T) : z1a [a, b, c, d, e, f, g, h, i, j, k, l] 4 (z04 t) = a :: b :: c :: d :: z04 t := by
 rw [z0t]; rfl
theorem zcw (p : Plc) : pureD.pureL (z3l p) = true := by
 rw [z4n]; simp only [pureD.pureL, pureD, z24, z5q, Bool.and_true]
theorem zc7 (p : Plc) : pureD (encPl p) = true := by unfold encPl; rw [pureD]; exact zcw p
attribute [go_sem] zcw
end Abs
namespace Abs
theorem zkr {P : Program} {n : FuncId} {args cap : List D} {g : List Oper -> (St -> Prop) -> St -> Prop} {rest : List Oper} {K : St -> Prop} {st : St} {dst : Option Nat} {k : Nat} {o' : HObj} {r : D} (h : AC P n (args ++ cap) st.H st.nx fun r' H2 n2 => r' = r /\ H2 = z0u st.H k (some o') /\ n2 = st.nx)
  (O : g rest K ((st.withH (z0u st.H k (some o')) st.nx).put dst r)) : zg5 P (.fn n cap) args g rest K st dst :=
 z3g (h.mono fun r' H2 n2 ⟨h1, h2, h3⟩ => by subst h1; subst h2; subst h3; exact O)
end Abs
theorem zr5 (o w m : Nat) : ∀ u : T, szB u = true -> ∀ (l : List (Idv × Plc)) H nx, o < nx -> w < nx -> m < nx -> H o = some (.box 98 [.mp m]) -> H w = some (.box 136 [.fn 91 [.ptr o 0, .ptr w 0]]) -> H m = some (.map (mapI encPl l)) ->
  AC prog 91 [z1o u, .ptr o 0, .ptr w 0] H nx fun r' H' nx' => r' = .tup [] /\ H' = z0u H m (some (.map (mapI encPl (l ++ zwh u)))) /\ nx' = nx := by
 refine z53 fun u ih hs l H nx ho hw hm hHo hHw hHm => ?_
 obtain ⟨h0, h1, g1, h2, g2, h3, h4⟩ := (z3o u).1 hs
 refine AC_upd rfl (zpf zc7 _ _) hm ?_
 have eom : o ≠ m := fun e => by subst e; rw [hHo] at hHm; cases hHm
 have ewm : w ≠ m := fun e => by subst e; rw [hHw] at hHm; cases hHm
 have e1 := z1x eom
 have e2 := z1x ewm
 have e3 := z01 ho
 have e4 := z01 hw
 have e5 := z01 hm
 have hz : zoj u 0 = [] := rfl
 refine (z30 [] func91 rfl (by decide +kernel) rfl ?_)
 show awp _ _ (Code.seq _ _) _ _
 repeat' (first | ((refine zqh fun K hK => ?_); (simp (disch := omega) only [go_sem, Nat.reduceBEq, ↓reduceIte, reduceCtorEq, Nat.reduceAdd])) | refine zqi ?_ | (refine hK _ ?_; clear hK K))
 (refine z6x (fun U st => ∃ (i : _), U = u.kids.length - i /\ st.t 1 = .ptr o 0 /\ st.t 2 = .ptr w 0 /\ st.t 3 = .ptr nx 0 /\ st.t 7 = z0l u.kids /\ st.t 8 = .int .i64 u.kids.length /\ st.t 9 = .int .i64 i /\ st.H (o) = some (.box 98 [.mp m]) /\ st.H (w) = some (.box 136 [.fn 91 [.ptr o 0, .ptr w 0]]) /\ st.H (m) = some (.map (mapI encPl (l ++ zoj u i))) /\ st.H (nx) = some (.box 27 (z04 u)) /\ (i <= u.kids.length) /\ (nx < st.nx) /\ (∀ id, id < nx -> id ≠ m -> st.H id = H id)) ?_ ?_); rotate_left; (rintro U st ⟨i, rfl, q1, q2, q3, q7, q8, q9, qHo, qHw, qHm, qHnx, qp0, qp1, qp2⟩); rotate_left
 ·(refine ⟨_, 0, rfl, ?_⟩); (simp (disch := omega) only [go_sem, Nat.reduceBEq, true_and, Int.natCast_zero, List.append_nil, z0l, e3, e4, e5, hz])
  exact ⟨hHo, hHw, hHm, by omega, fun id hid hne => by simp (disch := omega) only [z0d]⟩
 have f3 := z01 (show o < st.nx by omega)
 have f4 := z01 (show w < st.nx by omega)
 have f5 := z01 (show m < st.nx by omega)
 have f6 := z01 qp1
 by_cases hi : i < u.kids.length
 ·have hn := zuh hi
  have hn' : l ++ zoj u (i + 1) = l ++ zoj u i ++ [(u.kids[i].id, ⟨u.id, (i : Int), u.kids[i]⟩)] ++ zwh u.kids[i] := by rw [hn]; simp only [List.append_assoc]
  rcases zh2 encPl (l ++ zoj u i) u.kids[i].id ⟨u.id, (i : Int), u.kids[i]⟩ with ⟨hmm, n, hf, hp⟩ | ⟨hmm, hf, hp⟩
  all_goals
   rw [zui, z3l] at hp
   simp only [] at hp
  all_goals
   repeat' (first | ((first | refine zqh fun K hK => ?_ | refine zqr fun K hK => ?_); (simp (disch := omega) only [go_sem, Nat.reduceBEq, ↓reduceIte, reduceCtorEq, Nat.reduceAdd, Nat.reduceLeDiff, q1, q2, q3, q7, q8, q9, qHo, qHw, qHm, qHnx, e2, f3, f4, f5, f6, z0l, hf, hp])) | (refine zqd _ rfl ?_ ?_ <;> intro hc <;> (((try simp only [z06] at hc); (try omega)))) | refine zqa ?_ | refine zqb ?_ | (refine hK _ ?_; clear hK K))
   refine zkr (ih _ (List.getElem_mem hi) (h4 _ (List.getElem_mem hi)) (l ++ zoj u i ++ [(u.kids[i].id, ⟨u.id, (i : Int), u.kids[i]⟩)]) _ _ ?_ ?_ ?_ ?_ ?_ ?_) ?_
   any_goals
    (simp (disch := omega) only [go_sem, qHo, qHw, qHm, e1, e2, f3, f4, f5])
    all_goals omega
   rw [<- hn']
   (try (simp (disch := omega) only [go_sem])); repeat' (first | refine zqv ?_ | refine zqy ?_ | (refine hK _ ?_; clear hK K))
   refine ⟨_, SealTo.refl _, ?_⟩
   repeat' (first | ((refine zqr fun K hK => ?_); (simp (disch := omega) only [go_sem, Nat.reduceBEq, ↓reduceIte, q9])) | (refine hK _ ?_; clear hK K))
   (refine Exists.intro _ (And.intro ?_ ⟨i + 1, rfl, ?_⟩)); rotate_left; (simp (disch := omega) only [go_sem, Nat.reduceBEq, q1, q2, q3, q7, q8, q9, qHo, qHw, qHm, qHnx, true_and, Int.natCast_add, Int.natCast_one, e1, e2, e5, f3, f4, f5, f6]); rotate_left
   ·omega
   ·exact ⟨by omega, fun id hid hne => by simp (disch := omega) only [z0d]; exact qp2 id hid hne⟩
 ·repeat' (first | ((refine zqh fun K hK => ?_); (simp (disch := omega) only [go_sem, ↓reduceIte, q8, q9])) | (refine zqd _ rfl ?_ ?_ <;> intro hc <;> (((try simp only [z06] at hc); (try omega)))) | refine zqc ?_ | refine zqz ?_ | refine zqp ?_ | refine zqu (by simp only [go_sem]; rfl) rfl ?_ | (refine hK _ ?_; clear hK K))
  have hil : i = u.kids.length := by omega
  rw [hil, <- zis] at qHm
  (simp (disch := omega) only [go_sem, qHm])
  exact qp2
theorem zh7 {β : Type} {enc : β -> D} (he : ∀ x, pureD (enc x) = true) (l : List (Idv × β)) : z6t (.map (mapI enc l)) = true := by
 show (pureD.pureL ((mapI enc l).map (·.1)) && pureD.pureL ((mapI enc l).map (·.2))) = true
 unfold mapI
 rw [List.map_map, List.map_map, Bool.and_eq_true]
 exact ⟨z0a (fun _ => rfl) _, z0a (fun i => zcl he l i) _⟩
theorem zyg {β : Type} (enc : β -> D) (k : Idv) (v : β) : mapI enc [(k, v)] = [(z3a k, enc v)] := by simp [mapI, z19, z7r]
theorem zf9 (u : T) (hs : szB u = true) : OC prog 75 [z1o u] [.map (mapI encPl (plcs u))] (.mp 0) := by
 refine zid (by simp only [pureD.pureL, z0h, Bool.and_self]) rfl (fun o ho => by rw [List.mem_singleton] at ho; subst ho; exact zh7 zc7 _) (z30 [] func75 rfl (by decide +kernel) rfl ?_)
 show awp _ _ (Code.seq _ _) _ _
 repeat' (first | ((refine zqh fun K hK => ?_); (simp (disch := omega) only [go_sem, Nat.reduceBEq, ↓reduceIte, reduceCtorEq, Nat.reduceAdd, Nat.reduceLeDiff, Nat.reduceLT])) | (refine hK _ ?_; clear hK K))
 refine zkr (o' := .map (mapI encPl (plcs u))) (k := 1) (zr5 2 3 1 u hs [(u.id, ⟨Idv.zero, 0, u⟩)] _ _ ?_ ?_ ?_ ?_ ?_ ?_) ?_
 any_goals
  (simp (disch := omega) only [go_sem, Nat.reduceBEq, Nat.reduceLT])
  all_goals first | omega | rfl | (rw [zyg]; rfl)
 (try (simp (disch := omega) only [go_sem])); repeat' (first | ((refine zqh fun K hK => ?_); (simp (disch := omega) only [go_sem, Nat.reduceBEq, ↓reduceIte, Nat.reduceAdd])) | refine zqn ?_ | refine zqu (by simp only [go_sem]; rfl) rfl ?_ | (refine hK _ ?_; clear hK K))
 exact ⟨fun _ => 1, by (intro i j hi hj _; simp only [List.length_cons, List.length_nil] at hi hj; omega), rfl, fun j hj => by
  simp only [List.length_cons, List.length_nil] at hj
  obtain rfl : j = 0 := by omega
  (simp (disch := omega) only [go_sem, Nat.reduceBEq])⟩
end
end Go.Proofs.YtfechgagcgbldaaDoor
namespace Go.Proofs.YtfechgagcgbldaaDoor.Abs
theorem zkp {P : Program} {st : St} {id j n : Nat} {e : TypeId} {cs : List D} (hH : st.H id = some (.row e n cs)) (ho : zm6 P e = true) (hp : pureD.pureL cs = true) (hj : st.t j = .osl id n) :
  SealTo P st ((st.withH (z0u st.H id none) st.nx).put (some j) (.rsl false (z00 P e) (z1h (z03 P e) (z00 P e) n cs))) := by
 intro N s a w hf
 have hid : s.H id = some (.row e n cs) := by rw [hf.H]; exact hH
 obtain ⟨g1, g2⟩ := zfj hf.heap (id := id) (by rw [hid]; simp)
 refine ⟨s.shut1 w id, ⟨?_, hf.nx, hf.size, hf.defers, fun i => ?_, g2⟩, g1⟩
 ·show z0u s.H id none = _
  rw [hf.H]; rfl
 ·by_cases hij : i = j
  ·subst hij
   have ht := hf.tmps i
   rw [hj] at ht
   have hs : zei P (.osl id n, s.H, s.nx) = some (.rsl false (z00 P e) (z1h (z03 P e) (z00 P e) n cs), z0u s.H id none, s.nx) := by
    unfold zei
    simp only [hid]
    rw [if_pos ⟨trivial, ho, hp⟩]
   obtain ⟨s2, _, _, _, _, hr2, he2⟩ := zfk hf.heap rfl rfl ht hs
   have he3 := he2 id n rfl
   subst he3
   show rel _ (zwd st.t i _ i) _
   rw [show zwd st.t i (.rsl false (z00 P e) (z1h (z03 P e) (z00 P e) n cs)) i = _ from if_pos rfl]
   exact hr2
  ·show rel _ (zwd st.t j _ i) _
   rw [show zwd st.t j (.rsl false (z00 P e) (z1h (z03 P e) (z00 P e) n cs)) i = st.t i from if_neg hij]
   exact rel.later g1.later _ _ (hf.tmps i)
end Go.Proofs.YtfechgagcgbldaaDoor.Abs
namespace Go.Proofs.YtfechgagcgbldaaDoor
open _root_.Go.Proofs.Tryd
section
open Abs Facts Tr
attribute [local irreducible] awp
set_option maxRecDepth 100000
namespace Abs
theorem Sem.cutS {P : Program} {N : Nat} {x y : Code} {Q : Exit -> St -> Prop} {st : St} (I : St -> Prop) (h1 : Sem P N x (zj9 (fun st => ∃ st', SealTo P st st' /\ I st') Q) st) (h2 : ∀ st, I st -> Sem P N y Q st) : Sem P N (.seq x y) Q st :=
 Sem.seq (Sem.mono h1 fun e st h => by
  cases e with
  | normal => obtain ⟨st', hs, hI⟩ := h; exact Sem.seal st' hs (h2 st' hI)
  | _ => exact h)
end Abs
namespace Tr
theorem zo9 (s : Idv -> Bool) (bs : List Idv) (x : T) : ∀ (l : List T) (i : Nat), prK s bs (l ++ [x]) i = prK s bs l i ++ if s x.id = true then [(i + l.length, bs.idxOf x.id)] else []
 | [], i => by
  simp only [List.nil_append, prK, List.length_nil, Nat.add_zero]
 | y :: l, i => by
  rw [List.cons_append, prK, prK, zo9 s bs x l (i + 1)]
  have e : i + 1 + l.length = i + (y :: l).length := by simp; omega
  rw [e]
  split <;> rfl
end Tr
theorem zoa (i : Idv) : ∀ l : List T, z3j (fun y => decide (y.id = i)) l = (l.map T.id).idxOf i
 | [] => rfl
 | y :: l => by
  have ih := zoa i l
  unfold z3j at ih ⊢
  rw [List.map_cons, List.idxOf_cons, List.takeWhile_cons]
  by_cases h : y.id = i
  ·simp [h]
  ·have hb : (y.id == i) = false := by simpa using h
   simp [h, hb, ih]
theorem zty (x k : T) : PC prog 45 [z1o k, .rptr (z1o x)] (.bool (decide (k.id = x.id))) := by
 refine z3q 1 (by simp only [pureD.pureL, z0h, pureD, Bool.and_self]) rfl (z30 [] func45 rfl (by decide +kernel) rfl ?_)
 show awp _ _ (Code.seq _ _) _ _
 repeat' (first | ((refine zqh fun K hK => ?_); (simp (disch := omega) only [go_sem, Nat.reduceBEq, ↓reduceIte, reduceCtorEq, Nat.reduceAdd, Nat.reduceLeDiff])) | refine zqn ?_ | refine zqu (by simp only [go_sem]; rfl) rfl ?_ | (refine hK _ ?_; clear hK K))
 exact z05 rfl
theorem zar {A : T} (hn : (idsT A).Nodup) (i : Idv) : (z16 i A = true /\ (findR i A).1 ∈ nodesT A /\ ∃ n, z2a prog 23 (.agg [.int .i64 i.act, .int .i64 i.item, .int .i64 i.n]) (mapI z1o ((nodesT A).map unP)) = some (some (n, .agg (z04 (findR i A).1)))) \/
  (z16 i A = false /\ (findR i A).1 = T.zero /\ z2a prog 23 (.agg [.int .i64 i.act, .int .i64 i.item, .int .i64 i.n]) (mapI z1o ((nodesT A).map unP)) = some none) := by
 have O : ((nodesT A).map unP).map (·.1) = idsT A := by rw [List.map_map]; rfl
 have hg := zdz z1o ((nodesT A).map unP) i
 rw [O] at hg
 cases h : z16 i A with
 | true =>
  have h1 := z3x (id := i) (u := A) h
  have h2 := zbq (id := i) (t := A) h
  have h3 : (i, (findR i A).1) ∈ (nodesT A).map unP := List.mem_map.2 ⟨_, h1, by unfold unP; rw [h2]⟩
  rw [if_pos (by rw [z14, decide_eq_true_eq] at h; exact h), zaw (by rw [O]; exact hn) h3] at hg
  exact .inl ⟨rfl, h1, _, hg⟩
 | false =>
  rw [if_neg (by rw [z14, decide_eq_false_iff_not] at h; exact h)] at hg
  refine .inr ⟨rfl, ?_, hg⟩
  unfold z16 findR at h
  unfold findR
  split at h
  ·cases h
  ·rfl
theorem ztz (x y : T) (r : TT) (j0 j j2 b : Nat) {H : HM} {nx : Nat} (hb : b < nx) (hHb : H b = some (.box 57 [.mp j0, .mp j, .mp j2]))
  (h : ∀ H2 n2, nx <= n2 -> z3p nx H H2 -> RC prog 23 [.agg [.mp j0, .mp j, .mp j2], z1o y] H2 n2 (z9g r)) :
  RC prog 48 [z1o x, z1o y, .ptr b 0] H nx (z9g r) := by
 have hq := z01 hb
 refine RC_keep (z3y _) (z30 [] func48 rfl (by decide +kernel) rfl ?_)
 show awp _ _ (Code.seq _ _) _ _
 rw [show Tryd.f48.results.toList = [.cell 5 33] from rfl]
 repeat' (first | ((refine zqh fun K hK => ?_); (simp (disch := omega) only [go_sem, Nat.reduceBEq, ↓reduceIte, Nat.reduceAdd, Nat.reduceLeDiff, hq, hHb])) | (refine hK _ ?_; clear hK K))
 refine z3t (h _ _ ?_ ?_) ?_
 ·(simp (disch := omega) only [go_sem])
  all_goals omega
 ·intro id hid
  (simp (disch := omega) only [go_sem])
  simp (disch := omega) only [z0d]
 (try (simp (disch := omega) only [go_sem, Nat.reduceBEq, ↓reduceIte, Nat.reduceAdd, Nat.reduceLeDiff, hq])); repeat' (first | refine zqn ?_ | refine zqu (by (simp (disch := omega) only [go_sem, Nat.reduceBEq, ↓reduceIte, Nat.reduceLeDiff, hq]); rfl) rfl ?_ | (refine hK _ ?_; clear hK K))
 refine ⟨rfl, fun id hid => ?_⟩
 (simp (disch := omega) only [go_sem])
 simp (disch := omega) only [z0d]
set_option maxHeartbeats 16000000 in
theorem zxv (A B : T) (ms : List Idv) (hbk : Books A B (fun i => decide (i ∈ ms))) (hA : szB A = true) (hB : szB B = true) (j0 j j2 : Nat) : ∀ u : T, u ∈ nodesT B -> szB u = true -> ∀ H nx, j0 < nx -> j < nx -> j2 < nx -> H j0 = some (zck A) -> H j = some (zck B) -> H j2 = some (.map (setI ms)) ->
  RC prog 23 [.agg [.mp j0, .mp j, .mp j2], z1o u] H nx (z9g (z44 A B (fun i => decide (i ∈ ms)) u)) := by
 refine z53 fun u ih hu hs H nx hj0 hj hj2 hHj0 hHj hHj2 => ?_
 obtain ⟨h0, h1, g1, h2, g2, h3, h4⟩ := (z3o u).1 hs
 obtain ⟨x, hx⟩ : ∃ x, x = (findR u.id A).1 := ⟨_, rfl⟩
 have xs : szB x = true := by
  rcases zar hbk.na u.id with ⟨_, h, _⟩ | ⟨_, h, _⟩
  ·rw [hx]; exact zal A hA _ h
  ·rw [hx, h]; decide +kernel
 obtain ⟨x0, x1, y1, x2, y2, x3, x4⟩ := (z3o x).1 xs
 have c1 := z95 x.head u.head x1 h1
 have c2 := z95 x.words u.words x2 h2
 unfold z26 at c1 c2
 have hr0 := z01 hj0
 have hr05 := zb6 hj0
 have hr06 := zeb hj0
 have hr := z01 hj
 have hr5 := zb6 hj
 have hr6 := zeb hj
 have hr2 := z01 hj2
 have hr25 := zb6 hj2
 have hr26 := zeb hj2
 have hfm := zct u.id ms
 refine zpi (k := 4) (z3y _) ?_
 unfold zck at hHj0 hHj
 refine z75 func23 rfl (by decide +kernel) (by simp [ntmps23]) ?_
 rw [show Tryd.f23.results.toList = [.cell 4 33] from rfl]
 rw [zan, <- hx]
 have hbox : ∀ st : St, st.H (nx + 3) = some (.box 27 [.int .i64 0, .int .i64 0, .int .i64 0, .int .i64 0, .str ByteArray.empty, .nil, .nil, .nil]) -> SealTo prog st { st with H := z0u st.H (nx + 3) (some (.box 27 (z04 T.zero))) } := fun st h => zzm h (by rw [z0t]; exact ⟨Le.refl _, Le.refl _, Le.refl _, Le.refl _, Le.refl _, Le.nil 4, Le.nil 4, Le.nil 8, trivial⟩)
 obtain ⟨mv, hmv⟩ : ∃ mv, mv = decide (u.id ∈ ms) := ⟨_, rfl⟩
 refine Sem.seq (Sem.walk (own := []) z1v (by decide +kernel) ?_)
 repeat' (first | ((refine zqr fun K hK => ?_); (simp (disch := omega) only [go_sem, Nat.reduceBEq])) | refine zqv ?_ | (refine hK _ ?_; clear hK K))
 (refine Sem.cutS (fun st => st.t 2 = .ptr nx 0 /\ st.t 3 = .ptr (nx + 1) 0 /\ st.t 4 = .ptr (nx + 2) 0 /\ st.t 5 = .ptr (nx + 3) 0 /\ st.t 6 = .bool (z16 u.id A) /\ st.H (nx) = some (.box 57 [.mp j0, .mp j, .mp j2]) /\ st.H (nx + 1) = some (.box 27 (z04 u)) /\ st.H (nx + 2) = some (.box 33 [.int .i64 0, .int .i64 0, .int .i64 0, .int .i64 0, .int .i64 0, .str ByteArray.empty, .str ByteArray.empty, .bool false, .nil, .nil, .nil]) /\ st.H (nx + 3) = some (.box 27 (z04 x)) /\ st.nx = nx + 4 /\ (∀ id, id < nx -> st.H id = H id)) ?_ ?_); rotate_left; (rintro st ⟨p2, p3, p4, p5, p6, pHnx, pHnx1, pHnx2, pHnx3, pnx, pp0⟩); rotate_left
 ·refine Sem.walk (own := []) z1v (by decide +kernel) ?_
  rcases zar hbk.na u.id with ⟨ha, hxn, n, hf⟩ | ⟨ha, hx0, hf⟩
  ·rw [<- hx] at hf hxn
   repeat' (first | ((refine zqr fun K hK => ?_); (simp (disch := omega) only [go_sem, Nat.reduceBEq, ↓reduceIte, reduceCtorEq, Nat.reduceAdd, Nat.reduceLeDiff, hr0, hHj0, hf])) | refine zqv ?_ | (refine hK _ ?_; clear hK K))
   refine ⟨_, SealTo.refl _, ?_⟩
   (simp (disch := omega) only [go_sem, Nat.reduceBEq, hr0, ha])
   exact fun id hid => by simp (disch := omega) only [z0d]
  ·rw [<- hx] at hx0
   subst hx0
   repeat' (first | ((refine zqr fun K hK => ?_); (simp (disch := omega) only [go_sem, Nat.reduceBEq, ↓reduceIte, reduceCtorEq, Nat.reduceAdd, Nat.reduceLeDiff, hr0, hHj0, hf])) | refine zqv ?_ | (refine hK _ ?_; clear hK K))
   refine ⟨_, hbox _ (by (simp (disch := omega) only [go_sem, hr0])), ?_⟩
   (simp (disch := omega) only [go_sem, Nat.reduceBEq, hr0, ha])
   exact fun id hid => by simp (disch := omega) only [z0d]
 have hj0x : st.H j0 = some (.map (mapI z1o ((nodesT A).map unP))) := by rw [pp0 _ hj0]; exact hHj0
 have hjx : st.H j = some (.map (mapI z1o ((nodesT B).map unP))) := by rw [pp0 _ hj]; exact hHj
 have hj2x : st.H j2 = some (.map (setI ms)) := by rw [pp0 _ hj2]; exact hHj2
 (refine Sem.cutS (fun st => st.t 2 = .ptr nx 0 /\ st.t 3 = .ptr (nx + 1) 0 /\ st.t 4 = .ptr (nx + 2) 0 /\ st.t 5 = .ptr (nx + 3) 0 /\ st.t 6 = .bool (z16 u.id A) /\ st.H (nx) = some (.box 57 [.mp j0, .mp j, .mp j2]) /\ st.H (nx + 1) = some (.box 27 (z04 u)) /\ st.H (nx + 2) = some (.box 33 [.int .i64 0, .int .i64 0, .int .i64 0, .int .i64 0, .int .i64 0, .str ByteArray.empty, .str ByteArray.empty, .bool false, .nil, .nil, .nil]) /\ st.H (nx + 3) = some (.box 27 (z04 x)) /\ st.t 7 = .ptr (nx + 4) 0 /\ st.H (nx + 4) = some (.box 33 [.int .i64 0, .int .i64 u.kind, .int .i64 u.id.act, .int .i64 u.id.item, .int .i64 u.id.n, .str u.label, .str ByteArray.empty, .bool mv, z26 (z4d (txt x.head) (txt u.head)), z26 (z4d (txt x.words) (txt u.words)), .nil]) /\ st.nx = nx + 5 /\ (∀ id, id < nx -> st.H id = H id)) ?_ ?_); rotate_left; (rintro st ⟨q2, q3, q4, q5, q6, qHnx, qHnx1, qHnx2, qHnx3, q7, qHnx4, qnx, qp0⟩); rotate_left
 ·have hbr : ∃ o, z2a prog 23 (.agg [.int .i64 u.id.act, .int .i64 u.id.item, .int .i64 u.id.n]) (setI ms) = some o /\ ((∃ n, o = some (n, .bool true) /\ mv = true) \/ (o = none /\ mv = false)) := by
   by_cases hm : u.id ∈ ms
   ·rw [if_pos hm] at hfm; exact ⟨_, hfm, .inl ⟨_, rfl, by rw [hmv, decide_eq_true hm]⟩⟩
   ·rw [if_neg hm] at hfm; exact ⟨_, hfm, .inr ⟨rfl, by rw [hmv, decide_eq_false hm]⟩⟩
  obtain ⟨o, hfo, ho⟩ := hbr
  refine sem_two (own := [8000000, 3000023, 3000025, 3000027, 3000029, 3000031, 5000032, 3000034, 3000036, 5000037, 3000039, 3000041]) z1v (by decide +kernel) [0, 1, 2, 3, 4, 5, 6, 7, 8, 9, 10, 11, 12, 13, 14, 15, 16, 17, 18, 19] 20 22 [21, 22, 23] [20, 21, 23] (by decide +kernel) ?_
  refine zbs ?_ rfl
  (simp (disch := omega) only [go_sem, Nat.reduceBEq, Nat.reduceEqDiff, ↓reduceIte, reduceCtorEq, Nat.reduceAdd, Nat.reduceLeDiff, p3, p5, pHnx1, pHnx3, pnx, z6y, zm0, List.map_cons, List.map_nil, z2g])
  refine zqt c1 ?_
  (simp (disch := omega) only [go_sem, Nat.reduceBEq, Nat.reduceEqDiff, ↓reduceIte, reduceCtorEq, Nat.reduceAdd, p3, p5, pHnx1, pHnx3, pnx, List.map_cons, List.map_nil, z2g])
  refine zqt c2 ?_
  (simp (disch := omega) only [go_sem, Nat.reduceBEq, Nat.reduceEqDiff, ↓reduceIte, reduceCtorEq, Nat.reduceAdd, Nat.reduceLeDiff, p2, p3, pHnx, pHnx1, pnx])
  rcases ho with ⟨n, rfl, rfl⟩ | ⟨rfl, rfl⟩
  ·refine ⟨?_, ?_⟩
   ·refine z37 ?_ rfl
    (simp (disch := omega) only [go_sem, Nat.reduceBEq, Nat.reduceEqDiff, ↓reduceIte, Nat.reduceAdd, Nat.reduceLeDiff, pnx, z6y, zm0, List.map_cons, List.map_nil, hfo, hj2x])
    refine ⟨_, SealTo.refl _, ?_⟩
    (simp (disch := omega) only [go_sem, Nat.reduceBEq, p2, p3, p4, p5, p6, pHnx, pHnx1, pHnx2, pHnx3, hr05, z26])
    exact fun id hid => by simp (disch := omega) only [z0d]; exact pp0 id hid
   ·refine z37 ?_ rfl
    (simp (disch := omega) only [go_sem, Nat.reduceBEq, Nat.reduceEqDiff, ↓reduceIte, Nat.reduceAdd, Nat.reduceLeDiff, pnx, hr25, z6y, zm0, List.map_cons, List.map_nil, hfo, hj2x])
    refine ⟨_, SealTo.refl _, ?_⟩
    (simp (disch := omega) only [go_sem, Nat.reduceBEq, p2, p3, p4, p5, p6, pHnx, pHnx1, pHnx2, pHnx3, hr05, z26])
    exact fun id hid => by simp (disch := omega) only [z0d]; exact pp0 id hid
  ·refine ⟨?_, ?_⟩
   ·refine z37 ?_ rfl
    (simp (disch := omega) only [go_sem, Nat.reduceBEq, Nat.reduceEqDiff, ↓reduceIte, Nat.reduceAdd, Nat.reduceLeDiff, pnx, z6y, zm0, List.map_cons, List.map_nil, hfo, hj2x])
    refine ⟨_, SealTo.refl _, ?_⟩
    (simp (disch := omega) only [go_sem, Nat.reduceBEq, p2, p3, p4, p5, p6, pHnx, pHnx1, pHnx2, pHnx3, hr05, z26])
    exact fun id hid => by simp (disch := omega) only [z0d]; exact pp0 id hid
   ·refine z37 ?_ rfl
    (simp (disch := omega) only [go_sem, Nat.reduceBEq, Nat.reduceEqDiff, ↓reduceIte, Nat.reduceAdd, Nat.reduceLeDiff, pnx, hr25, z6y, zm0, List.map_cons, List.map_nil, hfo, hj2x])
    refine ⟨_, SealTo.refl _, ?_⟩
    (simp (disch := omega) only [go_sem, Nat.reduceBEq, p2, p3, p4, p5, p6, pHnx, pHnx1, pHnx2, pHnx3, hr05, z26])
    exact fun id hid => by simp (disch := omega) only [z0d]; exact pp0 id hid
 obtain ⟨S, hS⟩ : ∃ S : Int, S = if z16 u.id A = true /\ mv = false then 0 else 1 := ⟨_, rfl⟩
 obtain ⟨W, hW⟩ : ∃ W, W = if z16 u.id A = true /\ x.label ≠ u.label then x.label else ByteArray.empty := ⟨_, rfl⟩
 refine Sem.walk (own := [8]) z1v (by decide +kernel) ?_
 refine zqj ?_
 (refine zax (fun st => st.t 2 = .ptr nx 0 /\ st.t 3 = .ptr (nx + 1) 0 /\ st.t 4 = .ptr (nx + 2) 0 /\ st.t 5 = .ptr (nx + 3) 0 /\ st.t 6 = .bool (z16 u.id A) /\ st.H (nx) = some (.box 57 [.mp j0, .mp j, .mp j2]) /\ st.H (nx + 1) = some (.box 27 (z04 u)) /\ st.H (nx + 2) = some (.box 33 [.int .i64 0, .int .i64 0, .int .i64 0, .int .i64 0, .int .i64 0, .str ByteArray.empty, .str ByteArray.empty, .bool false, .nil, .nil, .nil]) /\ st.H (nx + 3) = some (.box 27 (z04 x)) /\ st.t 7 = .ptr (nx + 4) 0 /\ st.H (nx + 4) = some (.box 33 [.int .i64 S, .int .i64 u.kind, .int .i64 u.id.act, .int .i64 u.id.item, .int .i64 u.id.n, .str u.label, .str ByteArray.empty, .bool mv, z26 (z4d (txt x.head) (txt u.head)), z26 (z4d (txt x.words) (txt u.words)), .nil]) /\ st.nx = nx + 5 /\ (∀ id, id < nx -> st.H id = H id)) ?_ ?_); rotate_left; (rintro st ⟨r2, r3, r4, r5, r6, rHnx, rHnx1, rHnx2, rHnx3, r7, rHnx4, rnx, rp0⟩); rotate_left
 ·rcases Bool.eq_false_or_eq_true (z16 u.id A) with ha | ha <;> rcases Bool.eq_false_or_eq_true mv with hm2 | hm2
  ·rw [ha, hm2] at hS
   repeat' (first | ((first | refine zqh fun K hK => ?_ | refine zqr fun K hK => ?_); (simp (disch := omega) only [go_sem, Nat.reduceBEq, ↓reduceIte, reduceCtorEq, Nat.reduceAdd, Nat.reduceLeDiff, Nat.reduceLT, q6, q7, qHnx4, qnx, ha, hm2])) | ((refine zqm _ rfl (fun hc => ?_) (fun hc => ?_)) <;> (first | (cases hc; done) | ((try simp only [] at hc); (try omega)))) | refine zqv ?_ | (refine hK _ ?_; clear hK K))
   (simp (disch := omega) only [go_sem, Nat.reduceBEq, ↓reduceIte, reduceCtorEq, q2, q3, q4, q5, q6, qHnx, qHnx1, qHnx2, qHnx3, q7, qHnx4, true_and, hr05, ha, hm2, hS])
   first | exact qp0 | exact fun id hid => by simp (disch := omega) only [z0d]; exact qp0 id hid
  ·rw [ha, hm2] at hS
   repeat' (first | ((refine zqh fun K hK => ?_); (simp (disch := omega) only [go_sem, Nat.reduceBEq, ↓reduceIte, reduceCtorEq, Nat.reduceAdd, q6, q7, qHnx4, ha, hm2])) | ((refine zqm _ rfl (fun hc => ?_) (fun hc => ?_)) <;> (first | (cases hc; done) | ((try simp only [] at hc); (try omega)))) | refine zqk ?_ | refine zqv ?_ | (refine hK _ ?_; clear hK K))
   (simp (disch := omega) only [go_sem, Nat.reduceBEq, ↓reduceIte, q2, q3, q4, q5, q6, qHnx, qHnx1, qHnx2, qHnx3, q7, qHnx4, qnx, true_and, and_self, ha, hm2, hS])
   first | exact qp0 | exact fun id hid => by simp (disch := omega) only [z0d]; exact qp0 id hid
  ·rw [ha, hm2] at hS
   repeat' (first | ((first | refine zqh fun K hK => ?_ | refine zqr fun K hK => ?_); (simp (disch := omega) only [go_sem, Nat.reduceBEq, ↓reduceIte, reduceCtorEq, Nat.reduceAdd, Nat.reduceLeDiff, Nat.reduceLT, q6, q7, qHnx4, qnx, ha, hm2])) | ((refine zqm _ rfl (fun hc => ?_) (fun hc => ?_)) <;> (first | (cases hc; done) | ((try simp only [] at hc); (try omega)))) | refine zqv ?_ | (refine hK _ ?_; clear hK K))
   (simp (disch := omega) only [go_sem, Nat.reduceBEq, ↓reduceIte, reduceCtorEq, q2, q3, q4, q5, q6, qHnx, qHnx1, qHnx2, qHnx3, q7, qHnx4, true_and, and_self, hr05, ha, hm2, hS])
   first | exact qp0 | exact fun id hid => by simp (disch := omega) only [z0d]; exact qp0 id hid
  ·rw [ha, hm2] at hS
   repeat' (first | ((first | refine zqh fun K hK => ?_ | refine zqr fun K hK => ?_); (simp (disch := omega) only [go_sem, Nat.reduceBEq, ↓reduceIte, reduceCtorEq, Nat.reduceAdd, Nat.reduceLeDiff, Nat.reduceLT, q6, q7, qHnx4, qnx, ha, hm2])) | ((refine zqm _ rfl (fun hc => ?_) (fun hc => ?_)) <;> (first | (cases hc; done) | ((try simp only [] at hc); (try omega)))) | refine zqv ?_ | (refine hK _ ?_; clear hK K))
   (simp (disch := omega) only [go_sem, Nat.reduceBEq, ↓reduceIte, q2, q3, q4, q5, q6, qHnx, qHnx1, qHnx2, qHnx3, q7, qHnx4, true_and, and_true, hr05, ha, hm2, hS])
   first | exact qp0 | exact fun id hid => by simp (disch := omega) only [z0d]; exact qp0 id hid
 (refine zax (fun st => st.t 2 = .ptr nx 0 /\ st.t 3 = .ptr (nx + 1) 0 /\ st.t 4 = .ptr (nx + 2) 0 /\ st.t 5 = .ptr (nx + 3) 0 /\ st.t 6 = .bool (z16 u.id A) /\ st.H (nx) = some (.box 57 [.mp j0, .mp j, .mp j2]) /\ st.H (nx + 1) = some (.box 27 (z04 u)) /\ st.H (nx + 2) = some (.box 33 [.int .i64 0, .int .i64 0, .int .i64 0, .int .i64 0, .int .i64 0, .str ByteArray.empty, .str ByteArray.empty, .bool false, .nil, .nil, .nil]) /\ st.H (nx + 3) = some (.box 27 (z04 x)) /\ st.t 7 = .ptr (nx + 4) 0 /\ st.H (nx + 4) = some (.box 33 [.int .i64 S, .int .i64 u.kind, .int .i64 u.id.act, .int .i64 u.id.item, .int .i64 u.id.n, .str u.label, .str W, .bool mv, z26 (z4d (txt x.head) (txt u.head)), z26 (z4d (txt x.words) (txt u.words)), .nil]) /\ st.t 8 = .osl (nx + 5) 0 /\ st.H (nx + 5) = some (.row 90 0 []) /\ st.nx = nx + 6 /\ (∀ id, id < nx -> st.H id = H id)) ?_ ?_); rotate_left; (rintro st ⟨v2, v3, v4, v5, v6, vHnx, vHnx1, vHnx2, vHnx3, v7, vHnx4, v8, vHnx5, vnx, vp0⟩); rotate_left
 ·rcases Bool.eq_false_or_eq_true (z16 u.id A) with ha | ha
  ·by_cases hl : x.label = u.label
   ·rw [if_neg (by rw [hl]; simp)] at hW
    repeat' (first | refine zqj ?_ | ((first | refine zqh fun K hK => ?_ | refine zqr fun K hK => ?_); (simp (disch := omega) only [go_sem, Nat.reduceBEq, ↓reduceIte, reduceCtorEq, Nat.reduceAdd, r3, r5, r6, rHnx1, rHnx3, rnx, ha, hl])) | (refine zqd _ rfl ?_ ?_ <;> intro hc <;> (first | (cases hc; done) | ((try simp only [] at hc); (try omega)))) | refine zqb ?_ | refine zqv ?_ | (refine hK _ ?_; clear hK K))
    (simp (disch := omega) only [go_sem, Nat.reduceBEq, r2, r3, r4, r5, r6, rHnx, rHnx1, rHnx2, rHnx3, r7, rHnx4, true_and, hr06, ha, hW])
    first | exact rp0 | exact fun id hid => by simp (disch := omega) only [z0d]; exact rp0 id hid
   ·rw [if_pos ⟨ha, hl⟩] at hW
    repeat' (first | refine zqj ?_ | ((first | refine zqh fun K hK => ?_ | refine zqr fun K hK => ?_); (simp (disch := omega) only [go_sem, Nat.reduceBEq, ↓reduceIte, reduceCtorEq, Nat.reduceAdd, Nat.reduceLeDiff, Nat.reduceLT, r3, r5, r6, rHnx1, rHnx3, r7, rHnx4, rnx, ha, hl])) | (refine zqd _ rfl ?_ ?_ <;> intro hc <;> (first | (cases hc; done) | ((try simp only [] at hc); (try omega)))) | refine zqv ?_ | (refine hK _ ?_; clear hK K))
    (simp (disch := omega) only [go_sem, Nat.reduceBEq, r2, r3, r4, r5, r6, rHnx, rHnx1, rHnx2, rHnx3, r7, rHnx4, true_and, hr05, hr06, ha, hW])
    first | exact rp0 | exact fun id hid => by simp (disch := omega) only [z0d]; exact rp0 id hid
  ·rw [if_neg (by rw [ha]; simp)] at hW
   repeat' (first | refine zqj ?_ | ((first | refine zqh fun K hK => ?_ | refine zqr fun K hK => ?_); (simp (disch := omega) only [go_sem, Nat.reduceBEq, ↓reduceIte, r6, rnx, ha])) | (refine zqd _ rfl ?_ ?_ <;> intro hc <;> (first | (cases hc; done) | ((try simp only [] at hc); (try omega)))) | refine zqb ?_ | refine zqv ?_ | (refine hK _ ?_; clear hK K))
   (simp (disch := omega) only [go_sem, Nat.reduceBEq, r2, r3, r4, r5, r6, rHnx, rHnx1, rHnx2, rHnx3, r7, rHnx4, true_and, hr06, ha, hW])
   first | exact rp0 | exact fun id hid => by simp (disch := omega) only [z0d]; exact rp0 id hid
 have hj0v : st.H j0 = some (.map (mapI z1o ((nodesT A).map unP))) := by rw [vp0 _ hj0]; exact hHj0
 have hjv : st.H j = some (.map (mapI z1o ((nodesT B).map unP))) := by rw [vp0 _ hj]; exact hHj
 have hj2v : st.H j2 = some (.map (setI ms)) := by rw [vp0 _ hj2]; exact hHj2
 obtain ⟨sB, hsB⟩ : ∃ sB, sB = stayB A B (fun i => decide (i ∈ ms)) := ⟨_, rfl⟩
 rw [<- hsB]
 obtain ⟨bs, hbs⟩ : ∃ bs, bs = u.kids.map T.id := ⟨_, rfl⟩
 have hxk : ∀ k ∈ x.kids, k ∈ nodesT A := by
  rcases zar hbk.na u.id with ⟨_, hxn, _⟩ | ⟨_, hx0, _⟩
  ·rw [<- hx] at hxn
   exact fun k O => z11 A x hxn k (z0j O (z07 k))
  ·rw [hx, hx0]; exact fun k O => by cases O
 have hline : (x.kids.filter fun k => sB k.id).map T.id = (u.kids.filter fun k => sB k.id).map T.id := by
  rw [hsB]
  rcases zar hbk.na u.id with ⟨ha, hxn, _⟩ | ⟨ha, hx0, _⟩
  ·have e1 : findR u.id A = (x, true) := by rw [hx]; exact Prod.ext rfl ha
   exact hbk.line u.id x u e1 (z0x hbk.nb hu rfl)
  ·have hk0 : x.kids = [] := by rw [hx, hx0]; rfl
   have h0 : u.kids.filter (fun k => stayB A B (fun i => decide (i ∈ ms)) k.id) = [] := List.filter_eq_nil_iff.2 fun k O h => by
    simp only [stayB, Bool.and_eq_true, Bool.not_eq_true'] at h
    have hA2 : k.id ∈ idsT A := by have := h.1; rw [z14, decide_eq_true_eq] at this; exact this
    have hn : u.id ∉ idsT A := by rw [z14, decide_eq_false_iff_not] at ha; exact ha
    have := hbk.offB u hu hn k O hA2
    rw [h.2.2] at this; cases this
   rw [hk0, h0]; rfl
 repeat' (first | refine zqj ?_ | ((refine zqh fun K hK => ?_); (simp (disch := omega) only [go_sem, Nat.reduceBEq, ↓reduceIte, reduceCtorEq, Nat.reduceAdd, v5, vHnx3])) | refine zqa ?_ | (refine hK _ ?_; clear hK K))
 (refine z6x (fun U st => ∃ (i : Nat) (ps : List (Nat × Nat)), U = x.kids.length - i /\ st.t 2 = .ptr nx 0 /\ st.t 3 = .ptr (nx + 1) 0 /\ st.t 4 = .ptr (nx + 2) 0 /\ st.t 5 = .ptr (nx + 3) 0 /\ st.H (nx) = some (.box 57 [.mp j0, .mp j, .mp j2]) /\ st.H (nx + 1) = some (.box 27 (z04 u)) /\ st.H (nx + 2) = some (.box 33 [.int .i64 0, .int .i64 0, .int .i64 0, .int .i64 0, .int .i64 0, .str ByteArray.empty, .str ByteArray.empty, .bool false, .nil, .nil, .nil]) /\ st.H (nx + 3) = some (.box 27 (z04 x)) /\ st.t 7 = .ptr (nx + 4) 0 /\ st.H (nx + 4) = some (.box 33 [.int .i64 S, .int .i64 u.kind, .int .i64 u.id.act, .int .i64 u.id.item, .int .i64 u.id.n, .str u.label, .str W, .bool mv, z26 (z4d (txt x.head) (txt u.head)), z26 (z4d (txt x.words) (txt u.words)), .nil]) /\ st.t 8 = .osl (nx + 5) ps.length /\ st.t 63 = z0l x.kids /\ st.t 64 = .int .i64 x.kids.length /\ st.t 65 = .int .i64 i /\ st.H (nx + 5) = some (.row 90 ps.length (ps.flatMap z2h)) /\ st.H (j) = some (.map (mapI z1o ((nodesT B).map unP))) /\ st.H (j2) = some (.map (setI ms)) /\ (i <= x.kids.length) /\ (nx + 6 <= st.nx) /\ (ps = prK sB bs (x.kids.take i) 0) /\ (∀ id, id < nx -> st.H id = H id)) ?_ ?_); rotate_left; (rintro U st ⟨i, ps, rfl, w2, w3, w4, w5, wHnx, wHnx1, wHnx2, wHnx3, w7, wHnx4, w8, w63, w64, w65, wHnx5, wHj, wHj2, wp0, wp1, wp2, wp3⟩); rotate_left
 ·(refine ⟨_, 0, [], rfl, ?_⟩); (simp (disch := omega) only [go_sem, Nat.reduceBEq, Nat.reduceLeDiff, v2, v3, v4, v5, vHnx, vHnx1, vHnx2, vHnx3, v7, vHnx4, v8, vHnx5, vnx, true_and, Int.natCast_zero, List.flatMap_nil, z0l])
  exact ⟨hjv, hj2v, Nat.le_refl _, rfl, vp0⟩
 have hpl : ps.length <= i := by rw [wp2]; refine Nat.le_trans (zhq _ _ _ _) ?_; rw [List.length_take]; omega
 have f0 := z01 (show nx < st.nx by omega)
 have f1 := z01 (show nx + 1 < st.nx by omega)
 have f2 := z01 (show nx + 2 < st.nx by omega)
 have f3 := z01 (show nx + 3 < st.nx by omega)
 have f4 := z01 (show nx + 4 < st.nx by omega)
 have f5 := z01 (show nx + 5 < st.nx by omega)
 have fj := z01 (show j < st.nx by omega)
 have fj2 := z01 (show j2 < st.nx by omega)
 by_cases hi : i < x.kids.length
 ·have hkA := hxk _ (List.getElem_mem hi)
  have hkA2 : z16 x.kids[i].id A = true := by rw [z14, decide_eq_true (id_in hkA)]
  have hsnoc := zo9 sB bs x.kids[i] (x.kids.take i) 0
  rw [<- List.take_succ_eq_append_getElem hi, <- wp2, Nat.zero_add, List.length_take, Nat.min_eq_left (by omega)] at hsnoc
  have hfk := zct x.kids[i].id ms
  rcases zpe B x.kids[i].id with ⟨_, hkB, n, z, hf⟩ | ⟨_, hkB, hf⟩
  ·by_cases hm : x.kids[i].id ∈ ms
   ·rw [if_pos hm] at hfk
    have hst : sB x.kids[i].id = false := by rw [hsB]; simp [stayB, hm]
    rw [hst, if_neg (by decide), List.append_nil] at hsnoc
    repeat' (first | ((refine zqh fun K hK => ?_); (simp (disch := omega) only [go_sem, Nat.reduceBEq, ↓reduceIte, reduceCtorEq, Nat.reduceAdd, Nat.reduceLeDiff, w2, wHnx, w63, w64, w65, wHj, wHj2, f0, fj, fj2, z0l, hf, hfk])) | ((first | refine zqd _ rfl (fun hc => ?_) (fun hc => ?_) | refine zqm _ rfl (fun hc => ?_) (fun hc => ?_)) <;> (first | (cases hc; done) | ((try simp only [z06] at hc); (try omega)))) | refine zqa ?_ | refine zqb ?_ | refine zqk ?_ | refine zqv ?_ | refine zqy ?_ | (refine hK _ ?_; clear hK K))
    refine ⟨_, SealTo.refl _, ?_⟩
    repeat' (first | ((refine zqr fun K hK => ?_); (simp (disch := omega) only [go_sem, Nat.reduceBEq, ↓reduceIte, w65])) | (refine hK _ ?_; clear hK K))
    (refine Exists.intro _ (And.intro ?_ ⟨i + 1, ps, rfl, ?_⟩)); rotate_left; (simp (disch := omega) only [go_sem, Nat.reduceBEq, Nat.reduceLeDiff, w2, w3, w4, w5, wHnx, wHnx1, wHnx2, wHnx3, w7, wHnx4, w8, w63, w64, w65, wHnx5, wHj, wHj2, true_and, Int.natCast_add, Int.natCast_one, f0, f1, f2, f3, f4, f5, fj, fj2]); rotate_left
    ·omega
    ·exact ⟨by omega, by omega, hsnoc.symm, fun id hid => by simp (disch := omega) only [z0d]; exact wp3 id hid⟩
   ·rw [if_neg hm] at hfk
    have hst : sB x.kids[i].id = true := by rw [hsB]; simp [stayB, hm, hkA2, hkB]
    rw [hst, if_pos rfl] at hsnoc
    have hbsi : x.kids[i].id ∈ u.kids.map T.id := by
     have h : x.kids[i].id ∈ (x.kids.filter fun k => sB k.id).map T.id := List.mem_map.2 ⟨x.kids[i], List.mem_filter.2 ⟨List.getElem_mem hi, hst⟩, rfl⟩
     rw [hline] at h
     obtain ⟨y, hy, e⟩ := List.mem_map.1 h
     exact List.mem_map.2 ⟨y, (List.mem_filter.1 hy).1, e⟩
    have hlt : (u.kids.map T.id).idxOf x.kids[i].id < u.kids.length := by have := List.idxOf_lt_length_iff.2 hbsi; rwa [List.length_map] at this
    have hin : ∀ H2 n2, st.nx < n2 -> H2 st.nx = some (.box 27 (z04 x.kids[i])) -> RC prog 44 [z0l u.kids, .fn 45 [.ptr st.nx 0]] H2 n2 (.int .i64 (bs.idxOf x.kids[i].id)) := fun H2 n2 h1 h2 => by
     have h := zi2 false u.kids (by unfold maxLen; omega) (g := 45) (cap := [.rptr (z1o x.kids[i])]) (fun y => decide (y.id = x.kids[i].id)) (by simp only [pureD.pureL, z0h, pureD, Bool.and_self]) (fun y _ => zty x.kids[i] y)
     rw [zoa, if_pos hlt, <- hbs] at h
     exact PC.borrow h rfl 3 (z0e (z0b _ (z5q _)) (z0e (zib 2 rfl (z0e (zjz 0 h2 zjf (z1z _)) z4s)) z4s))
    have hps2 : ps.length + 1 <= 1000001 := by omega
    repeat' (first | ((first | refine zqh fun K hK => ?_ | refine zqr fun K hK => ?_ | ((refine z3t (hin _ _ ?_ ?_) ?_); (focus (((simp (disch := omega) only [go_sem]); done))); (focus ((simp (disch := omega) only [go_sem, f0]); done)))); (simp (disch := omega) only [go_sem, Nat.reduceBEq, ↓reduceIte, reduceCtorEq, Nat.reduceAdd, Nat.reduceMul, Nat.reduceLeDiff, w2, w3, wHnx, wHnx1, w8, w63, w64, w65, wHnx5, wHj, wHj2, f0, f1, f5, fj, fj2, z0l, hf, hfk])) | ((first | refine zqd _ rfl (fun hc => ?_) (fun hc => ?_) | refine zqm _ rfl (fun hc => ?_) (fun hc => ?_)) <;> (first | (cases hc; done) | ((try simp only [z06] at hc); (try omega)))) | refine zqa ?_ | refine zqb ?_ | refine zqv ?_ | refine zqy ?_ | (refine hK _ ?_; clear hK K))
    refine ⟨_, SealTo.refl _, ?_⟩
    repeat' (first | ((refine zqr fun K hK => ?_); (simp (disch := omega) only [go_sem, Nat.reduceBEq, ↓reduceIte, w65])) | (refine hK _ ?_; clear hK K))
    (refine Exists.intro _ (And.intro ?_ ⟨i + 1, ps ++ [(i, bs.idxOf x.kids[i].id)], rfl, ?_⟩)); rotate_left; (simp (disch := omega) only [go_sem, Nat.reduceBEq, Nat.reduceLeDiff, w2, w3, w4, w5, wHnx, wHnx1, wHnx2, wHnx3, w7, wHnx4, w8, w63, w64, w65, wHnx5, wHj, wHj2, true_and, Int.natCast_add, Int.natCast_one, List.flatMap_append, List.flatMap_cons, List.flatMap_nil, List.append_nil, f0, f1, f2, f3, f4, f5, fj, fj2, hr06, hr6, hr26]); rotate_left
    ·omega
    ·exact ⟨rfl, by omega, by omega, hsnoc.symm, fun id hid => by simp (disch := omega) only [z0d]; exact wp3 id hid⟩
  ·have hst : sB x.kids[i].id = false := by rw [hsB]; simp [stayB, hkB]
   rw [hst, if_neg (by decide), List.append_nil] at hsnoc
   repeat' (first | ((refine zqh fun K hK => ?_); (simp (disch := omega) only [go_sem, Nat.reduceBEq, ↓reduceIte, reduceCtorEq, Nat.reduceAdd, Nat.reduceLeDiff, w2, wHnx, w63, w64, w65, wHj, f0, fj, z0l, hf])) | ((first | refine zqd _ rfl (fun hc => ?_) (fun hc => ?_) | refine zqm _ rfl (fun hc => ?_) (fun hc => ?_)) <;> (first | (cases hc; done) | ((try simp only [z06] at hc); (try omega)))) | refine zqa ?_ | refine zqb ?_ | refine zqk ?_ | refine zqv ?_ | refine zqy ?_ | (refine hK _ ?_; clear hK K))
   refine ⟨_, SealTo.refl _, ?_⟩
   repeat' (first | ((refine zqr fun K hK => ?_); (simp (disch := omega) only [go_sem, Nat.reduceBEq, ↓reduceIte, w65])) | (refine hK _ ?_; clear hK K))
   (refine Exists.intro _ (And.intro ?_ ⟨i + 1, ps, rfl, ?_⟩)); rotate_left; (simp (disch := omega) only [go_sem, Nat.reduceBEq, Nat.reduceLeDiff, w2, w3, w4, w5, wHnx, wHnx1, wHnx2, wHnx3, w7, wHnx4, w8, w63, w64, w65, wHnx5, wHj, wHj2, true_and, Int.natCast_add, Int.natCast_one, f0, f1, f2, f3, f4, f5, fj, fj2]); rotate_left
   ·omega
   ·exact ⟨by omega, by omega, hsnoc.symm, fun id hid => by simp (disch := omega) only [z0d]; exact wp3 id hid⟩
 ·have hta : x.kids.take i = x.kids := List.take_of_length_le (by omega)
  rw [hta] at wp2
  have hwm := zvl (γ := TT) (s := sB) (ga := z4y B) (gb := z44 A B (fun i => decide (i ∈ ms))) (a := x.kids) (b := u.kids) (z2r hbk.nb hu) x.kids 0 0 0 rfl (Nat.le_refl _) (Nat.zero_le _) (Nat.zero_le _) hline
  rw [<- hbs, <- wp2] at hwm
  obtain ⟨hw1, hw2⟩ := hwm
  simp only [Nat.sub_self, List.take_zero, List.map_nil, List.nil_append, List.drop_zero] at hw1
  have hgp : D.rsl false (z00 prog 90) (z1h (z03 prog 90) (z00 prog 90) ps.length (ps.flatMap z2h)) = zwf ps := by
   rw [zp8, zvw, z4j (f := z2h) (fun _ => rfl)]; rfl
  repeat' (first | ((refine zqh fun K hK => ?_); (simp (disch := omega) only [go_sem, ↓reduceIte, w64, w65])) | (refine zqd _ rfl ?_ ?_ <;> intro hc <;> (((try simp only [z06] at hc); (try omega)))) | refine zqc ?_ | refine zqv ?_ | refine zqz ?_ | refine zqp ?_ | (refine hK _ ?_; clear hK K))
  refine ⟨_, zkp (id := nx + 5) (j := 8) (e := 90) (n := ps.length) (cs := ps.flatMap z2h) (by (simp (disch := omega) only [go_sem, wHnx5])) (by decide +kernel) (z12 (fun _ => rfl) _) (by (simp (disch := omega) only [go_sem, Nat.reduceBEq, w8])), ?_⟩
  rw [hgp]
  repeat' (((refine zqh fun K hK => ?_); (simp (disch := omega) only [go_sem, Nat.reduceBEq, ↓reduceIte, reduceCtorEq, Nat.reduceAdd, Nat.reduceLeDiff, w2, w3, w5, wHnx, wHnx1, wHnx3, w8, z0l, hr06])))
  refine z3t (zur (z4y B) (z44 A B (fun i => decide (i ∈ ms))) (fun _ y => z44 A B (fun i => decide (i ∈ ms)) y) x.kids u.kids x3 h3 ps (by omega) hw2 (g1 := 47) (g2 := 23) (g3 := 48) (c1 := [.agg [.mp j0, .mp j, .mp j2]]) (c2 := [.agg [.mp j0, .mp j, .mp j2]]) (c3 := [.ptr nx 0]) (fun y hy H' n' hle hs => ?_) (fun y hy H' n' hle hs => ?_) (fun z hz y hy H' n' hle hs => ?_)) ?_
  ·have lj : ∀ {k : Nat}, k < nx -> k < n' := fun O => Nat.lt_of_lt_of_le (by (simp (disch := omega) only [go_sem]); all_goals omega) hle
   have e1 : H' j = some (zck B) := (hs j (by (simp (disch := omega) only [go_sem]); all_goals omega)).trans (by (simp (disch := omega) only [go_sem, wHj, hr6]); all_goals rfl)
   exact rc_gone B j0 j j2 y (x4 y hy) H' n' (lj hj) e1
  ·have lj : ∀ {k : Nat}, k < nx -> k < n' := fun O => Nat.lt_of_lt_of_le (by (simp (disch := omega) only [go_sem]); all_goals omega) hle
   have e1 : H' j = some (zck B) := (hs j (by (simp (disch := omega) only [go_sem]); all_goals omega)).trans (by (simp (disch := omega) only [go_sem, wHj, hr6]); all_goals rfl)
   have e2 : H' j2 = some (.map (setI ms)) := (hs j2 (by (simp (disch := omega) only [go_sem]); all_goals omega)).trans (by (simp (disch := omega) only [go_sem, wHj2, hr26]))
   have e0 : H' j0 = some (zck A) := (hs j0 (by (simp (disch := omega) only [go_sem]); all_goals omega)).trans (by (simp (disch := omega) only [go_sem, hr06]); exact (wp3 j0 hj0).trans hHj0)
   exact ih y hy (z11 B u hu y (z0j hy (z07 y))) (h4 y hy) H' n' (lj hj0) (lj hj) (lj hj2) e0 e1 e2
  ·have lj : ∀ {k : Nat}, k < nx + 1 -> k < n' := fun O => Nat.lt_of_lt_of_le (by (simp (disch := omega) only [go_sem]); all_goals omega) hle
   have e1 : H' j = some (zck B) := (hs j (by (simp (disch := omega) only [go_sem]); all_goals omega)).trans (by (simp (disch := omega) only [go_sem, wHj, hr6]); all_goals rfl)
   have e2 : H' j2 = some (.map (setI ms)) := (hs j2 (by (simp (disch := omega) only [go_sem]); all_goals omega)).trans (by (simp (disch := omega) only [go_sem, wHj2, hr26]))
   have e0 : H' j0 = some (zck A) := (hs j0 (by (simp (disch := omega) only [go_sem]); all_goals omega)).trans (by (simp (disch := omega) only [go_sem, hr06]); exact (wp3 j0 hj0).trans hHj0)
   have eb : H' nx = some (.box 57 [.mp j0, .mp j, .mp j2]) := (hs nx (by (simp (disch := omega) only [go_sem]); all_goals omega)).trans (by (simp (disch := omega) only [go_sem, wHnx, hr06]))
   exact ztz z y (z44 A B (fun i => decide (i ∈ ms)) y) j0 j j2 nx (lj (by omega)) eb fun H2 n2 hle2 hs2 => ih y hy (z11 B u hu y (z0j hy (z07 y))) (h4 y hy) H2 n2 (by have := lj (show j0 < nx + 1 by omega); omega) (by have := lj (show j < nx + 1 by omega); omega) (by have := lj (show j2 < nx + 1 by omega); omega) ((hs2 j0 (lj (by omega))).trans e0) ((hs2 j (lj (by omega))).trans e1) ((hs2 j2 (lj (by omega))).trans e2)
  rw [hw1]
  unfold z86
  (try (simp (disch := omega) only [go_sem, Nat.reduceBEq, ↓reduceIte, reduceCtorEq, Nat.reduceAdd, Nat.reduceLeDiff, Nat.reduceLT, w7, wHnx4, hr06])); repeat' (first | ((refine zqh fun K hK => ?_); (simp (disch := omega) only [go_sem, Nat.reduceBEq, ↓reduceIte, Nat.reduceAdd, Nat.reduceLeDiff, w4, wHnx2, w7, wHnx4, hr05, hr06])) | refine zqn ?_ | refine zqu (by (simp (disch := omega) only [go_sem, Nat.reduceBEq, ↓reduceIte, Nat.reduceAdd, Nat.reduceLeDiff, w4, wHnx2, hr05, hr06]); rfl) rfl ?_ | (refine hK _ ?_; clear hK K))
  (simp (disch := omega) only [go_sem])
  refine ⟨?_, fun id hid => by simp (disch := omega) only [z0d]; exact wp3 id hid⟩
  have key : ∀ (H2 : HM) (v : D) (t : TT), v = z9g t -> ∃ d, z2p prog H2 4 v = some d /\ Le d (z9g t) := fun H2 v t hv => by subst hv; exact z1e (nx := 0) (z3y _) (Le.refl _)
  refine key _ _ _ ?_
  rw [zu4, z1n, hS, hW, hmv, hx]
  rfl
end
section
open Abs
namespace Tr
theorem znz {α β : Type} (f : α -> List β) : ∀ (l : List α) (n : Nat), (l.zipIdx n).flatMap (fun q => f q.1) = l.flatMap f
 | [], _ => rfl
 | x :: l, n => by rw [List.zipIdx_cons, List.flatMap_cons, List.flatMap_cons, znz f l]
theorem zxh : ∀ t : T, (zwh t).map (·.1) = t.kids.flatMap idsT := by
 refine z53 fun t ih => ?_
 rw [zis, zoj, List.take_length, List.map_flatMap, <- znz idsT t.kids 0]
 rw [List.flatMap_def, List.flatMap_def]
 refine congrArg _ (List.map_congr_left fun q hq => ?_)
 have O : q.1 ∈ t.kids := by
  obtain ⟨a, b⟩ := q
  exact (List.mem_zipIdx hq).2.2 ▸ List.getElem_mem _
 rw [List.map_cons, ih q.1 O, z2f]
theorem zds (t : T) : (plcs t).map (·.1) = idsT t := by
 rw [plcs, List.map_cons, zxh, z2f]
theorem plc_mem : ∀ (t q : T), q ∈ nodesT t -> ∀ (i : Nat) (h : i < q.kids.length), (q.kids[i].id, (⟨q.id, (i : Int), q.kids[i]⟩ : Plc)) ∈ zwh t := by
 refine z53 fun t ih q hq i h => ?_
 rw [zis, zoj, List.take_length, List.mem_flatMap]
 rw [z15, List.mem_cons, List.mem_flatMap] at hq
 rcases hq with rfl | ⟨k, O, hq⟩
 ·refine ⟨(q.kids[i], i), ?_, by simp⟩
  rw [List.mem_zipIdx_iff_getElem?]; simp [h]
 ·obtain ⟨j, hj, rfl⟩ := List.getElem_of_mem O
  refine ⟨(t.kids[j], j), ?_, List.mem_cons_of_mem _ (ih _ O q hq i h)⟩
  rw [List.mem_zipIdx_iff_getElem?]; simp [hj]
theorem z002 {A : T} (hn : (idsT A).Nodup) {i : Idv} (hm : i ∈ idsT A) : ∃ p : Plc, (i, p) ∈ plcs A /\ p.unit = (findR i A).1 /\ (¬ A.id = i -> z6w i A = (p.par, p.pos, true)) := by
 by_cases h0 : A.id = i
 ·refine ⟨⟨Idv.zero, 0, A⟩, by rw [plcs, h0]; simp, ?_, fun h => absurd h0 h⟩
  rw [z0x hn (z07 A) h0]
 ·obtain ⟨q, hq, k, O, hki, hp⟩ := zdx hn hm h0
  obtain ⟨j, hj, rfl⟩ := List.getElem_of_mem O
  refine ⟨⟨q.id, (j : Int), q.kids[j]⟩, ?_, ?_, fun _ => ?_⟩
  ·rw [plcs, <- hki]; exact List.mem_cons_of_mem _ (plc_mem A q hq j hj)
  ·rw [z0x hn (z11 A q hq _ (z0j O (z07 _))) hki]
  ·rw [<- hki]; exact ztv hn hq j hj
theorem zxi : ∀ (t : T), ∀ e ∈ zwh t, e.2.unit ∈ nodesT t /\ e.2.unit.id = e.1 := by
 refine z53 fun t ih e he => ?_
 rw [zis, zoj, List.take_length, List.mem_flatMap] at he
 obtain ⟨q, hq, he⟩ := he
 have O : q.1 ∈ t.kids := by
  obtain ⟨a, b⟩ := q
  exact (List.mem_zipIdx hq).2.2 ▸ List.getElem_mem _
 rcases List.mem_cons.1 he with rfl | he
 ·exact ⟨z0j O (z07 _), rfl⟩
 ·obtain ⟨h1, h2⟩ := ih q.1 O e he
  exact ⟨z0j O h1, h2⟩
theorem zt5 (t : T) : ∀ e ∈ plcs t, e.2.unit ∈ nodesT t /\ e.2.unit.id = e.1 := by
 intro e he
 rw [plcs] at he
 rcases List.mem_cons.1 he with rfl | he
 ·exact ⟨z07 t, rfl⟩
 ·exact zxi t e he
end Tr
open Tr
theorem zgs {α : Type} [DecidableEq α] {l : List α} (h : l.Nodup) : z19 l = l := by
 have key : ∀ l : List α, l.Nodup -> z19 l = l := by
  refine zpd (p := fun l => l.Nodup -> z19 l = l) (fun _ => rfl) fun l x ih h => ?_
  rw [List.nodup_append] at h
  rw [z7g, ih h.1, if_neg fun hx => h.2.2 x hx x (by simp) rfl]
 exact key l h
theorem zt6 {β : Type} {enc : β -> D} {l : List (Idv × β)} (hn : (l.map (·.1)).Nodup) {i : Nat} {k v : D} (h : (mapI enc l)[i]? = some (k, v)) : ∃ e, l[i]? = some e /\ k = z3a e.1 /\ v = enc e.2 := by
 unfold mapI at h
 rw [zgs hn, List.map_map, List.getElem?_map, Option.map_eq_some_iff] at h
 obtain ⟨e, h1, h2⟩ := h
 simp only [Function.comp_apply, Prod.mk.injEq] at h2
 refine ⟨e, h1, h2.1.symm, ?_⟩
 rw [<- h2.2]
 exact zaw hn (List.mem_of_getElem? h1)
theorem zk2 {β : Type} {enc : β -> D} {l : List (Idv × β)} (hn : (l.map (·.1)).Nodup) : (mapI enc l).length = l.length := by
 rw [ze0, zgs hn, List.length_map]
theorem zi7 {A : T} (hn : (idsT A).Nodup) (i : Idv) :
  (z16 i A = true /\ ∃ p : Plc, p.unit = (findR i A).1 /\ (¬ A.id = i -> z6w i A = (p.par, p.pos, true)) /\ ∃ n, z2a prog 23 (.agg [.int .i64 i.act, .int .i64 i.item, .int .i64 i.n]) (mapI encPl (plcs A)) = some (some (n, .agg (z3l p)))) \/
  (z16 i A = false /\ z2a prog 23 (.agg [.int .i64 i.act, .int .i64 i.item, .int .i64 i.n]) (mapI encPl (plcs A)) = some none) := by
 have hg := zdz encPl (plcs A) i
 rw [zds] at hg
 cases h : z16 i A with
 | true =>
  have hm : i ∈ idsT A := by rw [z14, decide_eq_true_eq] at h; exact h
  obtain ⟨p, h1, h2, h3⟩ := z002 hn hm
  rw [if_pos hm, zaw (by rw [zds]; exact hn) h1] at hg
  exact .inl ⟨rfl, p, h2, h3, _, hg⟩
 | false =>
  rw [if_neg (by rw [z14, decide_eq_false_iff_not] at h; exact h)] at hg
  exact .inr ⟨rfl, hg⟩
end
section
open Abs Facts Tr
attribute [local irreducible] awp
set_option maxRecDepth 100000
namespace Tr
theorem zb4 (u : T) : ((((z19 (idsT u)).length : Nat) : Int) = ((cntT u : Nat) : Int)) ↔ (idsT u).Nodup := by
 rw [<- (z25 (idsT u)).2.2.2]
 have : (idsT u).length = cntT u := by unfold idsT cntT; rw [List.length_map]
 rw [this]
 exact ⟨fun h => by omega, fun h => by rw [h]⟩
theorem zb5 (u : T) : z3k u = (z8n u && (decide (u.kind = 0) && decide (((z19 (idsT u)).length : Int) = (cntT u : Int)))) := by
 rw [Bool.eq_iff_iff, z1g]
 simp only [Bool.and_eq_true, decide_eq_true_eq, zb4]
 constructor <;> rintro ⟨h1, h2, h3⟩ <;> exact ⟨h2, h1, h3⟩
end Tr
theorem zof (u : T) (h : Fit50 u) : PC prog 74 [z1o u] (.bool (z3k u)) := by
 have hc := h.cnt
 have V := h.dep
 have c1 := zik u h.sz (by omega) (by omega)
 have c2 := zdq u (zfd u h.sz) (by omega)
 have c3 := zf9 u h.sz
 have hl : (mapI encPl (plcs u)).length = (z19 (idsT u)).length := by rw [ze0, zds]
 refine z3q 1 (by simp only [pureD.pureL, z0h, Bool.and_self]) rfl (z30 [4000012, 3000003, 3000007, 3000011, 3000014, 5000004, 5000015] func74 rfl (by decide +kernel) rfl ?_)
 show awp _ _ (Code.seq _ _) _ _
 rw [zb5]
 have hle : (z19 (idsT u)).length <= cntT u := by have := (z25 (idsT u)).2.2.1; unfold idsT at this ⊢; unfold cntT; rwa [List.length_map] at this
 cases hv : z8n u <;> by_cases O : u.kind = 0
 all_goals
  rw [hv] at c1
  repeat' (first | ((first | refine zqh fun K hK => ?_ | refine zqe (by decide +kernel) fun K hK => ?_ | refine zqt (c1) ?_ | refine zqt (c2) ?_ | refine z9e (c3) rfl rfl rfl ?_); (simp (disch := omega) only [go_sem, Nat.reduceBEq, Nat.reduceEqDiff, ↓reduceIte, reduceCtorEq, Nat.reduceAdd, Nat.reduceLeDiff, Nat.reduceLT, O, hl])) | refine nxt ?_ | refine zqu (by simp only [go_sem]; rfl) rfl ?_ | (refine hK _ ?_; clear hK K))
  exact z05 (by simp [O])
end
section
open Abs Facts Tr
set_option maxRecDepth 100000
namespace Abs
def zeroPr : List D := [D.int .i64 0, D.int .i64 0, D.int .i64 0, D.int .i64 0, D.str ByteArray.empty, D.nil, D.nil, D.nil, D.int .i64 0, D.int .i64 0, D.int .i64 0, D.int .i64 0, D.str ByteArray.empty, D.nil, D.nil, D.nil, D.nmp, D.nmp]
@[go_sem] theorem zeroPr_T : z18 prog 100 = some zeroPr := zza
def cellsPr (A B : T) (p q : Nat) : List D := z04 A ++ (z04 B ++ [.mp p, .mp q])
theorem z2b (A B : T) (p q : Nat) : cellsPr A B p q = [.int .i64 A.id.act, .int .i64 A.id.item, .int .i64 A.id.n, .int .i64 A.kind, .str A.label, z2g A.head, z2g A.words, z0l A.kids, .int .i64 B.id.act, .int .i64 B.id.item, .int .i64 B.id.n, .int .i64 B.kind, .str B.label, z2g B.head, z2g B.words, z0l B.kids, .mp p, .mp q] := by
 rw [cellsPr, z0t, z0t]; rfl
def pr1 (A : T) : List D := z1a zeroPr 0 (z04 A)
def pr2 (A B : T) : List D := z1a (pr1 A) 8 (z04 B)
def pr3 (A B : T) (p : Nat) : List D := z1a (pr2 A B) 16 [.mp p]
@[go_sem] theorem pr1_eq (A : T) : z1a zeroPr 0 (z04 A) = pr1 A := rfl
@[go_sem] theorem pr2_eq (A B : T) : z1a (pr1 A) 8 (z04 B) = pr2 A B := rfl
@[go_sem] theorem pr3_eq (A B : T) (p : Nat) : z1a (pr2 A B) 16 [.mp p] = pr3 A B p := rfl
@[go_sem] theorem pr4_eq (A B : T) (p q : Nat) : z1a (pr3 A B p) 17 [.mp q] = cellsPr A B p q := by
 rw [pr3, pr2, pr1, z2b, z0t, z0t, zeroPr]; simp only [z1a, List.set_cons_zero, List.set_cons_succ]
@[go_sem] theorem pr4_set (A B : T) (p q : Nat) : ((pr2 A B).set 16 (.mp p)).set 17 (.mp q) = cellsPr A B p q := pr4_eq A B p q
@[go_sem] theorem pr0_len : zeroPr.length = 18 := rfl
@[go_sem] theorem pr1_len (A : T) : (pr1 A).length = 18 := by simp only [pr1, z3c, pr0_len]
@[go_sem] theorem pr2_len (A B : T) : (pr2 A B).length = 18 := by simp only [pr2, z3c, pr1_len]
@[go_sem] theorem pr3_len (A B : T) (p : Nat) : (pr3 A B p).length = 18 := by simp only [pr3, z3c, pr2_len]
@[go_sem] theorem zme (A B : T) (p q : Nat) : (cellsPr A B p q).length = 18 := by rw [z2b]; rfl
@[go_sem] theorem splice_Pr (A B : T) (p q : Nat) : z1a zeroPr 0 (cellsPr A B p q) = cellsPr A B p q := by rw [z2b, zeroPr]; simp only [z1a, List.set_cons_zero, List.set_cons_succ]
@[go_sem] theorem splice_Pr0 : z1a zeroPr 0 zeroPr = zeroPr := rfl
@[go_sem] theorem take_Pr (A B : T) (p q : Nat) : List.take 18 (cellsPr A B p q) = cellsPr A B p q := List.take_of_length_le (by rw [zme]; exact Nat.le_refl _)
@[go_sem] theorem take_Pr0 : List.take 18 zeroPr = zeroPr := rfl
@[go_sem] theorem cellsPr_A (A B : T) (p q : Nat) : List.take 8 (cellsPr A B p q) = z04 A := by rw [z2b, z0t]; rfl
@[go_sem] theorem cellsPr_B (A B : T) (p q : Nat) : List.take 8 (List.drop 8 (cellsPr A B p q)) = z04 B := by rw [z2b, z0t]; rfl
@[go_sem] theorem cellsPr_p (A B : T) (p q : Nat) : (cellsPr A B p q)[16]? = some (.mp p) := by rw [z2b]; rfl
@[go_sem] theorem cellsPr_q (A B : T) (p q : Nat) : (cellsPr A B p q)[17]? = some (.mp q) := by rw [z2b]; rfl
end Abs
namespace Abs
theorem Sem.rangeL {P : Program} {N : Nat} {own : List Nat} {i0 b i1 b1 i4 : Nat} {l0 l1 l4 : List Oper} {t7 t8 t9 t10 : Nat} {T : TypeId} {x : Operand} {rest4 : List Oper} {body : Code} {Q : Exit -> St -> Prop} {st : St} (k : Nat) (hm0 : P.follows .mixedOrders = true) {o0 o1 o2 o4 : Oper} (h0 : l0.drop k = [o0]) (h1 : l1 = [o1, o2]) (h4 : l4 = o4 :: rest4)
  (e0 : o0.op = .range T x /\ o0.dst = some t7 /\ o0.guard = none) (e1 : o1.op = .next (.tmp t7) false /\ o1.dst = some t8 /\ o1.guard = none)
  (e2 : o2.op = .extract (.tmp t8) 0 /\ o2.dst = some t9 /\ o2.guard = none) (e4 : o4.op = .entry (.tmp t7) /\ o4.dst = some t10 /\ o4.guard = none) {kt et : TypeId} (hT : z3r P T = some (kt, et))
  (hN : decide (t7 < N /\ t8 < N /\ t9 < N /\ t10 < N /\ t7 ≠ t8 /\ t7 ≠ t9) = true) (V : (l0.all (z36 N) && rest4.all (z36 N)) = true) (hb : z66 N body = true)
  (hpre : z1p P own (l0.map (·.dst)) (l0.take k) (fun st1 => ∃ m es, st1.ev x = .mp m /\ st1.H m = some (.map es) /\ RngOK P own m es t7 t8 t9 t10 b1 (l4.map (·.dst)) rest4 body Q st1) st) :
  Sem P N (.seq (.region i0 l0.toArray false) (.block b (.loop (.seq (.region i1 l1.toArray false) (.seq (.cond (.tmp t9) .skip (.exit b)) (.block b1 (.seq (.region i4 l4.toArray false) body))))))) Q st := by
 simp only [Bool.and_eq_true, List.all_eq_true] at V
 refine Sem.rangeMap hm0 e0 e1 e2 e4 (pre := l0.take k) ?_ ?_ ?_ hT (of_decide_eq_true hN) (fun o ho => V.1 o (List.mem_of_mem_take ho)) V.2 hb hpre
 ·show l0 = _
  rw [<- h0, List.take_append_drop]
 ·exact h1
 ·exact h4
theorem zer {b1 : Nat} {I : St -> Prop} {Q : Exit -> St -> Prop} {st : St} (h : I st) : rndK b1 I Q .normal st := h
theorem z000 {b1 : Nat} {I : St -> Prop} {Q : Exit -> St -> Prop} {st : St} (h : Q .ret st) : rndK b1 I Q .ret st := h
end Abs
end
section
open Abs Facts
attribute [local irreducible] awp
set_option maxHeartbeats 2000000 in
theorem pc11 (l : List Int) (hl : l.length <= maxLen) : PC prog 93 [z45 l] (z45 ((Lis.lis l).map fun (n : Nat) => (n : Int))) := by
 unfold maxLen at hl
 refine z3q 2 (by simp only [pureD.pureL, z46, Bool.and_self]) (z46 _) (z30 [7] func93 rfl (by decide +kernel) rfl ?_)
 show awp _ _ (Code.seq _ _) _ _
 (refine zqh fun K hK => ?_); (simp only [go_sem, Nat.reduceBEq, Nat.reduceBeqDiff, Nat.reduceEqDiff, ↓reduceIte, reduceCtorEq, Nat.reduceAdd, Nat.reduceMul, Nat.reduceLeDiff, Nat.reduceLT, Int.reduceLT, Int.reduceLE, Int.reduceEq]); (refine hK _ ?_); (clear hK K)
 repeat refine zqj ?_
 (refine zqh fun K hK => ?_); (simp only [go_sem, Nat.reduceBEq, Nat.reduceBeqDiff, Nat.reduceEqDiff, ↓reduceIte, reduceCtorEq, Nat.reduceAdd, Nat.reduceMul, Nat.reduceLeDiff, Nat.reduceLT, Int.reduceLT, Int.reduceLE, Int.reduceEq, z45]); (refine hK _ ?_); (clear hK K)
 refine z0q fun K hK => ?_
 (refine zqm _ rfl (fun hc => ?_) (fun hc => ?_)) <;> (simp only [z06] at hc)
 ·(refine zqh fun K hK => ?_); (simp only [go_sem, Nat.reduceBEq, Nat.reduceBeqDiff, Nat.reduceEqDiff, ↓reduceIte, reduceCtorEq, Nat.reduceAdd, Nat.reduceMul, Nat.reduceLeDiff, Nat.reduceLT, Int.reduceLT, Int.reduceLE, Int.reduceEq]); (refine hK _ ?_); (clear hK K)
  (refine zqn ?_); (refine Exists.intro _ (And.intro rfl ?_))
  exact ztg (by simp only [Lis.lis]; rw [if_pos (by omega)]; rfl)
 refine zqk (hK _ ?_); clear hK K
 repeat refine zqj ?_
 have g1 : (0 : Int) <= (l.length : Int) := by omega
 have g2 : l.length * 8 <= 140737488355328 := by omega
 have g3 : (l.length : Int) <= 9223372036854775807 := by omega
 (refine zqh fun K hK => ?_); (simp only [go_sem, Nat.reduceBEq, Nat.reduceBeqDiff, Nat.reduceEqDiff, ↓reduceIte, reduceCtorEq, Nat.reduceAdd, Nat.reduceMul, Nat.reduceLeDiff, Nat.reduceLT, Int.reduceLT, Int.reduceLE, Int.reduceEq, z45, g2, g3]); (refine hK _ ?_); (clear hK K)
 (refine zqh fun K hK => ?_); (simp only [go_sem, Nat.reduceBEq, Nat.reduceBeqDiff, Nat.reduceEqDiff, ↓reduceIte, reduceCtorEq, Nat.reduceAdd, Nat.reduceMul, Nat.reduceLeDiff, Nat.reduceLT, Int.reduceLT, Int.reduceLE, Int.reduceEq]); (refine hK _ ?_); (clear hK K)
 refine z0q fun K hK => ?_
 repeat refine zqj ?_
 have w1 : IntKind.i64.wrap ((l.length : Int) - 1) = (l.length : Int) - 1 := z28 (by omega)
 (refine zqh fun K hK => ?_); (simp only [go_sem, Nat.reduceBEq, Nat.reduceBeqDiff, Nat.reduceEqDiff, ↓reduceIte, reduceCtorEq, Nat.reduceAdd, Nat.reduceMul, Nat.reduceLeDiff, Nat.reduceLT, Int.reduceLT, Int.reduceLE, Int.reduceEq, z45, w1, zdv (D.int .i64) 0 l.length]); (refine hK _ ?_); (clear hK K)
 refine zqi (z3f (fun n st => ∃ cs : List Int, n <= l.length /\ st.t 0 = z45 l /\ st.t 3 = .osl 0 l.length /\ st.H 0 = some (.row 3 l.length (cs.map (D.int .i64))) /\ cs.length = l.length /\
   cs.drop n = Lis.rows (l.drop n) /\ st.t 5 = .int .i64 ((n : Int) - 1) /\ st.t 4 = .int .i64 ((Lis.rows (l.drop n)).foldr max 0) /\ st.nx = 1) l.length ?_ ?_)
 ·exact ⟨List.replicate l.length 0, Nat.le_refl _, rfl, rfl, rfl, by simp, by simp [Lis.rows], rfl, by simp [Lis.rows]; rfl, rfl⟩
 rintro n st ⟨cs, hn, h0, h3, hH, hcl, hcd, h5, h4, hnx⟩
 repeat refine zqj ?_
 (refine zqh fun K hK => ?_); (simp only [go_sem, Nat.reduceBEq, Nat.reduceBeqDiff, Nat.reduceEqDiff, ↓reduceIte, reduceCtorEq, Nat.reduceAdd, Nat.reduceMul, Nat.reduceLeDiff, Nat.reduceLT, Int.reduceLT, Int.reduceLE, Int.reduceEq, h5]); (refine hK _ ?_); (clear hK K)
 refine z0q fun K2 hK2 => ?_
 (refine zqm _ rfl (fun hc => ?_) (fun hc => ?_)) <;> (simp only [z06] at hc)
 ·obtain ⟨j, rfl⟩ : ∃ j, n = j + 1 := ⟨n - 1, by omega⟩
  have h5' : st.t 5 = .int .i64 (j : Int) := by rw [h5]; congr 1; omega
  refine zqk (hK2 _ ?_); clear hK2 K2 h5
  repeat refine zqj ?_
  refine z0q fun K2 hK2 => ?_
  refine zqi ?_
  repeat refine zqj ?_
  have hj : (j : Int) < (l.length : Int) := by omega
  have hj2 : j + 1 <= l.length := by omega
  (refine zqh fun K hK => ?_); (simp only [go_sem, Nat.reduceBEq, Nat.reduceBeqDiff, Nat.reduceEqDiff, ↓reduceIte, reduceCtorEq, Nat.reduceAdd, Nat.reduceMul, Nat.reduceLeDiff, Nat.reduceLT, Int.reduceLT, Int.reduceLE, Int.reduceEq, h3, h5', hH, hj, hcl, hj2, zay]); (refine hK _ ?_); (clear hK K)
  refine z0q fun K3 hK3 => ?_
  repeat refine zqj ?_
  have wj : IntKind.i64.wrap ((j : Int) + 1) = ((j + 1 + 0 : Nat) : Int) := by rw [z28 (by omega)]; omega
  (refine zqh fun K hK => ?_); (simp only [go_sem, Nat.reduceBEq, Nat.reduceBeqDiff, Nat.reduceEqDiff, ↓reduceIte, reduceCtorEq, Nat.reduceAdd, Nat.reduceMul, Nat.reduceLeDiff, Nat.reduceLT, Int.reduceLT, Int.reduceLE, Int.reduceEq, h5', wj]); (refine hK _ ?_); (clear hK K)
  refine zqi (z3f (fun m st => ∃ (k : Nat) (cs : List Int), m = l.length - (j + 1 + k) /\ j + 1 + k <= l.length /\ st.t 0 = z45 l /\ st.t 3 = .osl 0 l.length /\ st.H 0 = some (.row 3 l.length (cs.map (D.int .i64))) /\ cs.length = l.length /\
   cs.drop (j + 1) = Lis.rows (l.drop (j + 1)) /\ st.t 5 = .int .i64 (j : Int) /\ st.t 6 = .int .i64 ((j + 1 + k : Nat) : Int) /\ cs[j]? = some (Lis.inner l j k) /\ 1 <= Lis.inner l j k /\ Lis.inner l j k <= l.length /\ st.t 4 = .int .i64 ((Lis.rows (l.drop (j + 1))).foldr max 0) /\ st.nx = 1) (l.length - (j + 1)) ?_ ?_)
  ·refine ⟨0, cs.set j 1, rfl, hj2, h0, h3, rfl, by simpa using hcl, ?_, h5', rfl, ?_, by simp [Lis.inner_zero], by simp [Lis.inner_zero]; omega, h4, hnx⟩
   ·rw [List.drop_set_of_lt (by omega)]; exact hcd
   ·have : j < cs.length := by omega
    simp [Lis.inner_zero, this]
  clear hH hcd hcl h0 h3 h4 hnx h5' hn
  rintro m st ⟨k, cs, rfl, O, h0, h3, hH, hcl, hcd, h5, h6, hcj, hi1, hi2, h4, hnx⟩
  repeat refine zqj ?_
  (refine zqh fun K hK => ?_); (simp only [go_sem, Nat.reduceBEq, Nat.reduceBeqDiff, Nat.reduceEqDiff, ↓reduceIte, reduceCtorEq, Nat.reduceAdd, Nat.reduceMul, Nat.reduceLeDiff, Nat.reduceLT, Int.reduceLT, Int.reduceLE, Int.reduceEq, h6, h0, z45]); (refine hK _ ?_); (clear hK K)
  refine z0q fun K4 hK4 => ?_
  (refine zqm _ rfl (fun hc => ?_) (fun hc => ?_)) <;> (simp only [z06] at hc)
  ·have hk' : j + 1 + k < l.length := by omega
   refine zqk (hK4 _ ?_); clear hK4 K4
   refine z0q fun K4 hK4 => ?_
   refine zqi ?_
   repeat refine zqj ?_
   have i1 := z2u (D.int .i64) l (j + 1 + k) hk'
   have i2 := z2u (D.int .i64) l j (by omega)
   (refine zqe (by decide +kernel) fun K hK => ?_); (simp only [go_sem, Nat.reduceBEq, Nat.reduceBeqDiff, Nat.reduceEqDiff, ↓reduceIte, reduceCtorEq, Nat.reduceAdd, Nat.reduceMul, Nat.reduceLeDiff, Nat.reduceLT, Int.reduceLT, Int.reduceLE, Int.reduceEq, h0, h5, h6, i1, i2, z45]); (refine hK _ ?_); (clear hK K)
   have hin := Lis.inner_succ l j k hk' cs hcl hcd
   have hle := Lis.rows_get_le l (j + 1 + k) cs hcl (j + 1) hcd (by omega) hk'
   (refine zqm _ rfl (fun hc => ?_) (fun hc => ?_)) <;> (simp only [z06] at hc)
   ·have wk : IntKind.i64.wrap (cs[j + 1 + k] + 1) = cs[j + 1 + k] + 1 := z28 (by omega)
    have e1 : cs[j + 1 + k]? = some cs[j + 1 + k] := List.getElem?_eq_getElem (by omega)
    have hkn : ((j + 1 + k : Nat) : Int) < (l.length : Int) := by omega
    (refine ze8 (by decide +kernel) ?_); (simp only [go_sem, Nat.reduceBEq, Nat.reduceBeqDiff, Nat.reduceEqDiff, ↓reduceIte, reduceCtorEq, Nat.reduceAdd, Nat.reduceMul, Nat.reduceLeDiff, Nat.reduceLT, Int.reduceLT, Int.reduceLE, Int.reduceEq, h3, h5, h6, hH, hj, hkn, hcl, hj2, e1, hcj, wk, zay])
    show K4 _
    have wk2 : IntKind.i64.wrap (((j + 1 + k : Nat) : Int) + 1) = ((j + 1 + (k + 1) : Nat) : Int) := by rw [z28 (by omega)]; omega
    have e2 : Lis.inner l j (k + 1) = max (Lis.inner l j k) (cs[j + 1 + k] + 1) := by rw [hin]; unfold Lis.upd1; rw [if_pos hc]
    refine hK4 _ ?_
    (refine z1y ?_); (simp only [go_sem, Nat.reduceBEq, Nat.reduceBeqDiff, Nat.reduceEqDiff, ↓reduceIte, reduceCtorEq, Nat.reduceAdd, Nat.reduceMul, Nat.reduceLeDiff, Nat.reduceLT, Int.reduceLT, Int.reduceLE, Int.reduceEq, h6, wk2])
    refine ⟨l.length - (j + 1 + (k + 1)), by omega, k + 1, cs.set j (max (Lis.inner l j k) (cs[j + 1 + k] + 1)), rfl, by omega, h0, h3, rfl, by simpa using hcl, ?_, h5, rfl, ?_, by rw [e2]; omega, by rw [e2]; have := Lis.inner_le l j (k + 1) (by omega); rw [e2] at this; exact this, h4, hnx⟩
    ·rw [List.drop_set_of_lt (by omega)]; exact hcd
    ·rw [e2, List.getElem?_set_self (by omega)]
   ·refine zqk (hK4 _ ?_); clear hK4 K4
    have wk : IntKind.i64.wrap (((j + 1 + k : Nat) : Int) + 1) = ((j + 1 + (k + 1) : Nat) : Int) := by rw [z28 (by omega)]; omega
    have e2 : Lis.inner l j (k + 1) = Lis.inner l j k := by rw [hin]; unfold Lis.upd1; rw [if_neg hc]
    (refine z1y ?_); (simp only [go_sem, Nat.reduceBEq, Nat.reduceBeqDiff, Nat.reduceEqDiff, ↓reduceIte, reduceCtorEq, Nat.reduceAdd, Nat.reduceMul, Nat.reduceLeDiff, Nat.reduceLT, Int.reduceLT, Int.reduceLE, Int.reduceEq, h6, wk])
    exact ⟨l.length - (j + 1 + (k + 1)), by omega, k + 1, cs, rfl, by omega, h0, h3, hH, hcl, hcd, h5, rfl, by rw [e2]; exact hcj, by rw [e2]; exact hi1, by rw [e2]; exact hi2, h4, hnx⟩
  ·refine zql ?_
   show K3 _
   refine hK3 _ ?_
   have hkk : j + 1 + k = l.length := by omega
   (refine z1y ?_); (simp only [go_sem, Nat.reduceBEq, Nat.reduceBeqDiff, Nat.reduceEqDiff, ↓reduceIte, reduceCtorEq, Nat.reduceAdd, Nat.reduceMul, Nat.reduceLeDiff, Nat.reduceLT, Int.reduceLT, Int.reduceLE, Int.reduceEq, h4, h3, h5, hH, hj, hj2, hcl, hcj])
   refine (show K2 _ from hK2 _ ?_)
   have wj2 : IntKind.i64.wrap ((j : Int) - 1) = (j : Int) - 1 := z28 (by omega)
   (refine z1y ?_); (simp only [go_sem, Nat.reduceBEq, Nat.reduceBeqDiff, Nat.reduceEqDiff, ↓reduceIte, reduceCtorEq, Nat.reduceAdd, Nat.reduceMul, Nat.reduceLeDiff, Nat.reduceLT, Int.reduceLT, Int.reduceLE, Int.reduceEq, h5, wj2])
   have hall := Lis.inner_all l j (by omega)
   have hk0 : l.length - (j + 1) = k := by omega
   rw [hk0] at hall
   refine ⟨j, by omega, cs, by omega, h0, h3, hH, hcl, ?_, rfl, ?_, hnx⟩
   ·rw [hall, List.drop_eq_getElem_cons (by omega), hcd]
    congr 1
    rw [List.getElem?_eq_getElem (by omega)] at hcj
    exact Option.some.inj hcj
   ·show D.int .i64 _ = D.int .i64 _
    rw [hall, List.foldr_cons, Int.max_comm]
 ·refine zql ?_
  refine (show K _ from hK _ ?_)
  obtain rfl : n = 0 := by omega
  simp only [List.drop_zero] at hcd h4
  subst hcd
  (refine zqh fun K hK => ?_); (simp only [go_sem, Nat.reduceBEq, Nat.reduceBeqDiff, Nat.reduceEqDiff, ↓reduceIte, reduceCtorEq, Nat.reduceAdd, Nat.reduceMul, Nat.reduceLeDiff, Nat.reduceLT, Int.reduceLT, Int.reduceLE, Int.reduceEq, hnx]); (refine hK _ ?_); (clear hK K)
  repeat refine zqj ?_
  (refine zqh fun K hK => ?_); (simp only [go_sem, Nat.reduceBEq, Nat.reduceBeqDiff, Nat.reduceEqDiff, ↓reduceIte, reduceCtorEq, Nat.reduceAdd, Nat.reduceMul, Nat.reduceLeDiff, Nat.reduceLT, Int.reduceLT, Int.reduceLE, Int.reduceEq, h0, z45]); (refine hK _ ?_); (clear hK K)
  refine z0q fun K3 hK3 => ?_
  refine zqi (z3f (fun n st => ∃ i : Nat, n = l.length - i /\ i <= l.length /\ st.t 0 = z45 l /\ st.t 3 = .osl 0 l.length /\ st.H 0 = some (.row 3 l.length ((Lis.rows l).map (D.int .i64))) /\
   st.t 4 = .int .i64 (Lis.most l) /\ st.t 62 = .int .i64 l.length /\ st.t 63 = .int .i64 i /\ st.t 7 = .osl 1 (Lis.sel l i).length /\ st.H 1 = some (.row 3 (Lis.sel l i).length ((Lis.sel l i).map fun (n : Nat) => D.int .i64 (n : Int)))) l.length ?_ ?_)
  ·exact ⟨0, by omega, by omega, h0, h3, hH, h4, rfl, rfl, rfl, rfl⟩
  clear h0 h3 hH h4 h5 hnx
  rintro n st ⟨i, rfl, hi, h0, h3, hH, h4, h62, h63, h7, hH1⟩
  repeat refine zqj ?_
  (refine zqh fun K hK => ?_); (simp only [go_sem, Nat.reduceBEq, Nat.reduceBeqDiff, Nat.reduceEqDiff, ↓reduceIte, reduceCtorEq, Nat.reduceAdd, Nat.reduceMul, Nat.reduceLeDiff, Nat.reduceLT, Int.reduceLT, Int.reduceLE, Int.reduceEq, h63, h62]); (refine hK _ ?_); (clear hK K)
  refine z0q fun K4 hK4 => ?_
  (refine zqm _ rfl (fun hc => ?_) (fun hc => ?_)) <;> (simp only [z06] at hc)
  ·have hi' : i < l.length := by omega
   refine zqk (hK4 _ ?_)
   refine z0q fun K5 hK5 => ?_
   refine zqi ?_
   repeat refine zqj ?_
   (refine zqh fun K hK => ?_); (simp only [go_sem, Nat.reduceBEq, Nat.reduceBeqDiff, Nat.reduceEqDiff, ↓reduceIte, reduceCtorEq, Nat.reduceAdd, Nat.reduceMul, Nat.reduceLeDiff, Nat.reduceLT, Int.reduceLT, Int.reduceLE, Int.reduceEq, h63]); (refine hK _ ?_); (clear hK K)
   have hs := Lis.sel_succ l i
   have hrl := Lis.rows_length l
   have hri : (Lis.rows l)[i]? = some ((Lis.rows l).getD i 0) := by rw [List.getD_eq_getElem?_getD, List.getElem?_eq_getElem (by omega)]; rfl
   have i1 := z2u (D.int .i64) l i hi'
   have hin : (i : Int) < (l.length : Int) := by omega
   have tail : ∀ st' : St, st'.t 0 = z45 l -> st'.t 3 = .osl 0 l.length -> st'.H 0 = some (.row 3 l.length ((Lis.rows l).map (D.int .i64))) -> st'.t 4 = .int .i64 (Lis.most l) -> st'.t 62 = .int .i64 l.length -> st'.t 63 = .int .i64 i ->
     st'.t 7 = .osl 1 (Lis.sel l (i + 1)).length -> st'.H 1 = some (.row 3 (Lis.sel l (i + 1)).length ((Lis.sel l (i + 1)).map fun (n : Nat) => D.int .i64 (n : Int))) -> K5 st' := by
    intro st' h0 h3 hH h4 h62 h63 h7 hH1
    refine hK5 _ ?_
    have wi : IntKind.i64.wrap ((i : Int) + 1) = ((i + 1 : Nat) : Int) := by rw [z28 (by omega)]; omega
    (refine z1y ?_); (simp only [go_sem, Nat.reduceBEq, Nat.reduceBeqDiff, Nat.reduceEqDiff, ↓reduceIte, reduceCtorEq, Nat.reduceAdd, Nat.reduceMul, Nat.reduceLeDiff, Nat.reduceLT, Int.reduceLT, Int.reduceLE, Int.reduceEq, h63, wi])
    exact ⟨l.length - (i + 1), by omega, i + 1, rfl, by omega, h0, h3, hH, h4, h62, rfl, h7, hH1⟩
   have hmb := Lis.most_bd l
   have hsl := Lis.sel_len l i
   by_cases c1 : ((Lis.sel l i).length : Int) < Lis.most l
   ·have wm : IntKind.i64.wrap (Lis.most l - ((Lis.sel l i).length : Int)) = Lis.most l - ((Lis.sel l i).length : Int) := z28 (by omega)
    by_cases c2 : (Lis.rows l).getD i 0 = Lis.most l - ((Lis.sel l i).length : Int)
    ·have hb1 : ((Lis.sel l i).length + 1) * 8 <= 140737488355328 := by omega
     have hb2 : (Lis.sel l i).length + 1 <= maxLen := by unfold maxLen; omega
     have F : (Lis.sel l i).length <= 9223372036854775806 := by omega
     have fin : (Lis.sel l i = [] \/ l.getD ((Lis.sel l i).getLastD 0) 0 < l.getD i 0) -> Lis.sel l (i + 1) = Lis.sel l i ++ [i] := by
      intro h; rw [hs]; unfold Lis.sel1; rw [if_pos ⟨c1, c2, h⟩]
     have fin2 : ¬ (Lis.sel l i = [] \/ l.getD ((Lis.sel l i).getLastD 0) 0 < l.getD i 0) -> Lis.sel l (i + 1) = Lis.sel l i := by
      intro h; rw [hs]; unfold Lis.sel1; rw [if_neg (fun h' => h h'.2.2)]
     by_cases c3 : Lis.sel l i = []
     ·have c3' : ((Lis.sel l i).length : Int) = 0 := by rw [c3]; rfl
      rw [c3'] at c1 c2 wm
      (refine zqe (by decide +kernel) fun K hK => ?_); (simp only [go_sem, Nat.reduceBEq, Nat.reduceBeqDiff, Nat.reduceEqDiff, ↓reduceIte, reduceCtorEq, Nat.reduceAdd, Nat.reduceMul, Nat.reduceLeDiff, Nat.reduceLT, Int.reduceLT, Int.reduceLE, Int.reduceEq, h7, h4, c1, h3, hH, hin, hrl, hri, wm, c2, c3']); (refine hK _ ?_); (clear hK K)
      refine zqm true rfl (fun _ => ?_) (fun hc => (by cases hc))
      (refine z1y ?_); (simp only [go_sem, Nat.reduceBEq, Nat.reduceBeqDiff, Nat.reduceEqDiff, ↓reduceIte, reduceCtorEq, Nat.reduceAdd, Nat.reduceMul, Nat.reduceLeDiff, Nat.reduceLT, Int.reduceLT, Int.reduceLE, Int.reduceEq, h7, hH1, hb1, hb2, F])
      refine (show K5 _ from tail _ h0 h3 hH h4 h62 h63 ?_ ?_)
      ·rw [fin (.inl c3), List.length_append]; rfl
      ·rw [fin (.inl c3), List.length_append, List.map_append]; rfl
     ·have hpos : 0 < (Lis.sel l i).length := List.length_pos_iff.2 c3
      have c3' : ¬ ((Lis.sel l i).length : Int) = 0 := by omega
      have wl : IntKind.i64.wrap (((Lis.sel l i).length : Int) - 1) = (((Lis.sel l i).length - 1 : Nat) : Int) := by rw [z28 (by omega)]; omega
      have hcc : (((Lis.sel l i).length - 1 : Nat) : Int) < ((Lis.sel l i).length : Int) := by omega
      have hlast : (Lis.sel l i)[(Lis.sel l i).length - 1]? = some ((Lis.sel l i).getLastD 0) := by
       rw [List.getLastD_eq_getLast?, List.getLast?_eq_getElem?, List.getElem?_eq_getElem (by omega)]; rfl
      have hlt : (Lis.sel l i).getLastD 0 < l.length := by
       have := Lis.sel_lt l i _ (List.mem_of_getElem? hlast); omega
      have i2 := z2u (D.int .i64) l _ hlt
      have hle1 : (Lis.sel l i).length - 1 < (Lis.sel l i).length := by omega
      by_cases c4 : l[(Lis.sel l i).getLastD 0] < l[i]
      ·(refine zqe (by decide +kernel) fun K hK => ?_); (simp only [go_sem, Nat.reduceBEq, Nat.reduceBeqDiff, Nat.reduceEqDiff, ↓reduceIte, reduceCtorEq, Nat.reduceAdd, Nat.reduceMul, Nat.reduceLeDiff, Nat.reduceLT, Int.reduceLT, Int.reduceLE, Int.reduceEq, h7, h4, c1, h3, hH, hin, hrl, hri, wm, c2, c3', h0, z45, i1, i2, wl, hcc, hH1, hlast, c4]); (refine hK _ ?_); (clear hK K)
       have c4' : l.getD ((Lis.sel l i).getLastD 0) 0 < l.getD i 0 := by
        rw [List.getD_eq_getElem?_getD, List.getD_eq_getElem?_getD, List.getElem?_eq_getElem hlt, List.getElem?_eq_getElem hi']
        exact c4
       refine zqm true rfl (fun _ => ?_) (fun hc => (by cases hc))
       (refine z1y ?_); (simp only [go_sem, Nat.reduceBEq, Nat.reduceBeqDiff, Nat.reduceEqDiff, ↓reduceIte, reduceCtorEq, Nat.reduceAdd, Nat.reduceMul, Nat.reduceLeDiff, Nat.reduceLT, Int.reduceLT, Int.reduceLE, Int.reduceEq, h7, hH1, hb1, hb2, F])
       refine (show K5 _ from tail _ h0 h3 hH h4 h62 h63 ?_ ?_)
       ·rw [fin (.inr c4'), List.length_append]; rfl
       ·rw [fin (.inr c4'), List.length_append, List.map_append]; rfl
      ·(refine zqe (by decide +kernel) fun K hK => ?_); (simp only [go_sem, Nat.reduceBEq, Nat.reduceBeqDiff, Nat.reduceEqDiff, ↓reduceIte, reduceCtorEq, Nat.reduceAdd, Nat.reduceMul, Nat.reduceLeDiff, Nat.reduceLT, Int.reduceLT, Int.reduceLE, Int.reduceEq, h7, h4, c1, h3, hH, hin, hrl, hri, wm, c2, c3', h0, z45, i1, i2, wl, hcc, hH1, hlast, c4]); (refine hK _ ?_); (clear hK K)
       refine zqm false rfl (fun hc => (by cases hc)) (fun _ => ?_)
       have c4' : ¬ (Lis.sel l i = [] \/ l.getD ((Lis.sel l i).getLastD 0) 0 < l.getD i 0) := by
        rintro (h | h)
        ·exact c3 h
        ·apply c4
         rw [List.getD_eq_getElem?_getD, List.getD_eq_getElem?_getD, List.getElem?_eq_getElem hlt, List.getElem?_eq_getElem hi'] at h
         exact h
       refine zqk ?_
       refine tail _ h0 h3 hH h4 h62 h63 ?_ ?_
       ·rw [fin2 c4']; exact h7
       ·rw [fin2 c4']; exact hH1
    ·(refine zqe (by decide +kernel) fun K hK => ?_); (simp only [go_sem, Nat.reduceBEq, Nat.reduceBeqDiff, Nat.reduceEqDiff, ↓reduceIte, reduceCtorEq, Nat.reduceAdd, Nat.reduceMul, Nat.reduceLeDiff, Nat.reduceLT, Int.reduceLT, Int.reduceLE, Int.reduceEq, h7, h4, c1, h3, hH, hin, hrl, hri, wm, c2]); (refine hK _ ?_); (clear hK K)
     refine zqm false rfl (fun hc => (by cases hc)) (fun _ => ?_)
     refine zqk ?_
     refine tail _ h0 h3 hH h4 h62 h63 ?_ ?_
     ·rw [hs]; unfold Lis.sel1; rw [if_neg (fun h => c2 h.2.1)]; exact h7
     ·rw [hs]; unfold Lis.sel1; rw [if_neg (fun h => c2 h.2.1)]; exact hH1
   ·(refine zqe (by decide +kernel) fun K hK => ?_); (simp only [go_sem, Nat.reduceBEq, Nat.reduceBeqDiff, Nat.reduceEqDiff, ↓reduceIte, reduceCtorEq, Nat.reduceAdd, Nat.reduceMul, Nat.reduceLeDiff, Nat.reduceLT, Int.reduceLT, Int.reduceLE, Int.reduceEq, h7, h4, c1]); (refine hK _ ?_); (clear hK K)
    refine zqm false rfl (fun hc => (by cases hc)) (fun _ => ?_)
    refine zqk ?_
    refine tail _ h0 h3 hH h4 h62 h63 ?_ ?_
    ·rw [hs]; unfold Lis.sel1; rw [if_neg (fun h => c1 h.1)]; exact h7
    ·rw [hs]; unfold Lis.sel1; rw [if_neg (fun h => c1 h.1)]; exact hH1
  ·refine zql ?_
   show K3 _
   refine hK3 _ ?_
   (refine zqh fun K hK => ?_); (simp only [go_sem, Nat.reduceBEq, Nat.reduceBeqDiff, Nat.reduceEqDiff, ↓reduceIte, reduceCtorEq, Nat.reduceAdd, Nat.reduceMul, Nat.reduceLeDiff, Nat.reduceLT, Int.reduceLT, Int.reduceLE, Int.reduceEq, h7]); (refine hK _ ?_); (clear hK K)
   (refine zqn ?_); (refine Exists.intro _ (And.intro rfl ?_))
   obtain rfl : i = l.length := by omega
   refine zmi 0 hH1 z2n z52 (by simp) (z0a (fun _ => rfl) _) ?_
   simp only [Lis.lis]
   rw [if_neg (by omega), List.map_map]
   rfl
end
section
open Abs Facts Tr
attribute [local irreducible] awp
set_option maxRecDepth 100000
namespace Tr
theorem par_no {A : T} {i : Idv} (h : z16 i A = false) : (z6w i A).2.2 = false := by
 rw [z14, decide_eq_false_iff_not, <- z59] at h
 unfold z6w
 simp [h]
def zb7 (A u : T) (i : Nat) : List T := (u.kids.take i).filter (z2s A u)
theorem zrf {A u : T} {i : Nat} (h : i < u.kids.length) : zb7 A u (i + 1) = zb7 A u i ++ if z2s A u u.kids[i] = true then [u.kids[i]] else [] := by
 unfold zb7
 rw [List.take_succ_eq_append_getElem h, List.filter_append]
 congr 1
 split <;> simp_all
theorem zop (A u : T) (i : Nat) : (zb7 A u i).length <= i := by
 unfold zb7
 refine Nat.le_trans (List.length_filter_le _ _) ?_
 rw [List.length_take]; omega
theorem zkz (A u : T) : zb7 A u u.kids.length = z31 A u := by unfold zb7 z31; rw [List.take_length]
end Tr
open Tr
theorem zc9 (l : List Idv) : z6t (.map (setI l)) = true := by
 show (pureD.pureL ((setI l).map (·.1)) && pureD.pureL ((setI l).map (·.2))) = true
 unfold setI
 rw [List.map_map, List.map_map, Bool.and_eq_true]
 exact ⟨z0a (fun _ => rfl) _, z0a (fun i => rfl) _⟩
set_option maxHeartbeats 16000000 in
theorem zyq (A B u : T) (p q : Nat) (na : (idsT A).Nodup) (hu : szB u = true) (hk0 : ∀ k ∈ u.kids, ¬ A.id = k.id) (hnk : (u.kids.map T.id).Nodup) (H : HM) (nx : Nat) (hp : p < nx) (hHp : H p = some (.map (mapI encPl (plcs A)))) :
  AC prog 78 [.agg (cellsPr A B p q), z1o u] H nx fun r' H' nx' => r' = renD (fun j => nx + j) (.mp 0) /\ H' = zjk H nx [.map (setI (z29 A u))] /\ nx' = nx + 1 := by
 obtain ⟨h0, h1, g1, h2, g2, h3, h4⟩ := (z3o u).1 hu
 have e0 := z01 hp
 have hb0 : zb7 A u 0 = [] := rfl
 refine ztr rfl (fun o ho => by rw [List.mem_singleton] at ho; subst ho; exact zc9 _) (z30 [5, 6, 3000050, 3000055] func78 rfl (by decide +kernel) rfl ?_)
 show awp _ _ (Code.seq _ _) _ _
 repeat' (first | refine zqj ?_ | ((refine zqh fun K hK => ?_); (simp (disch := omega) only [go_sem, Nat.reduceBEq, ↓reduceIte, reduceCtorEq, Nat.reduceAdd, e0])) | refine zqa ?_ | (refine hK _ ?_; clear hK K))
 (refine z6x (fun U st => ∃ (i : Nat), U = u.kids.length - i /\ st.t 2 = .ptr nx 0 /\ st.t 3 = .ptr (nx + 1) 0 /\ st.t 5 = .osl (nx + 2) (zb7 A u i).length /\ st.t 6 = .osl (nx + 3) (zb7 A u i).length /\ st.t 17 = z0l u.kids /\ st.t 18 = .int .i64 u.kids.length /\ st.t 19 = .int .i64 i /\ st.H (nx) = some (.box 100 (cellsPr A B p q)) /\ st.H (nx + 1) = some (.box 27 (z04 u)) /\ st.H (nx + 2) = some (.row 23 (zb7 A u i).length (((zb7 A u i).map T.id).flatMap cellsId)) /\ st.H (nx + 3) = some (.row 3 (zb7 A u i).length ((zb7 A u i).map fun k => .int .i64 (z6w k.id A).2.1)) /\ st.H (p) = some (.map (mapI encPl (plcs A))) /\ (i <= u.kids.length) /\ (nx + 4 <= st.nx) /\ (∀ id, id < nx -> st.H id = H id)) ?_ ?_); rotate_left; (rintro U st ⟨i, rfl, v2, v3, v5, v6, v17, v18, v19, vHnx, vHnx1, vHnx2, vHnx3, vHp, vp0, vp1, vp2⟩); rotate_left
 ·(refine ⟨_, 0, rfl, ?_⟩); (simp (disch := omega) only [go_sem, Nat.reduceBEq, Nat.reduceLeDiff, true_and, Int.natCast_zero, List.flatMap_nil, List.map_nil, z0l, e0, hb0])
  exact ⟨hHp, Nat.le_refl _, fun id hid => by simp (disch := omega) only [z0d]⟩
 have s0 := z01 (show nx < st.nx by omega)
 have s1 := z01 (show nx + 1 < st.nx by omega)
 have s2 := z01 (show nx + 2 < st.nx by omega)
 have s3 := z01 (show nx + 3 < st.nx by omega)
 have sp := z01 (show p < st.nx by omega)
 by_cases hi : i < u.kids.length
 ·have hs := zrf (A := A) hi
  have hle := zop A u i
  have O := hk0 _ (List.getElem_mem hi)
  rcases zi7 na u.kids[i].id with ⟨hA, x, hxu, hxp, n, hf⟩ | ⟨hA, hf⟩
  ·have hxp := hxp O
   by_cases hpu : x.par = u.id
   ·rcases zi7 na u.id with ⟨hA2, y, _, _, n2, hf2⟩ | ⟨hA2, hf2⟩
    ·have hun : z2s A u u.kids[i] = true := by unfold z2s; rw [hA2, hxp]; simp [hpu]
     rw [hun, if_pos rfl] at hs
     repeat' (first | ((first | refine zqh fun K hK => ?_ | refine zqq (by decide +kernel) fun K hK => ?_); (simp (disch := omega) only [go_sem, Nat.reduceBEq, Nat.reduceEqDiff, ↓reduceIte, reduceCtorEq, Nat.reduceAdd, Nat.reduceMul, Nat.reduceLeDiff, Nat.reduceLT, v2, v3, v5, v6, v17, v18, v19, vHnx, vHnx1, vHnx2, vHnx3, vHp, e0, s0, s1, s2, s3, sp, z0l, hf, hf2, hpu])) | ((first | refine zqd _ rfl (fun hc => ?_) (fun hc => ?_) | refine zqm _ rfl (fun hc => ?_) (fun hc => ?_)) <;> (first | (cases hc; done) | ((try simp only [z06] at hc); (try omega)))) | refine zqa ?_ | refine zqb ?_ | refine zqv ?_ | refine zqy ?_ | (refine hK _ ?_; clear hK K))
     refine ⟨_, SealTo.refl _, ?_⟩
     repeat' (first | ((refine zqr fun K hK => ?_); (simp (disch := omega) only [go_sem, Nat.reduceBEq, ↓reduceIte, v19])) | (refine hK _ ?_; clear hK K))
     (refine Exists.intro _ (And.intro ?_ ⟨i + 1, rfl, ?_⟩)); rotate_left; (simp (disch := omega) only [go_sem, Nat.reduceBEq, Nat.reduceLeDiff, v2, v3, v5, v6, v17, v18, v19, vHnx, vHnx1, vHnx2, vHnx3, vHp, true_and, Int.natCast_add, Int.natCast_one, List.flatMap_append, List.flatMap_cons, List.flatMap_nil, List.map_append, List.map_cons, List.map_nil, List.append_nil, e0, s0, s1, s2, s3, sp, hs, hxp, cellsId, List.length_append, List.length_cons, List.length_nil]); rotate_left
     ·omega
     ·exact ⟨by omega, by omega, fun id hid => by simp (disch := omega) only [z0d]; exact vp2 id hid⟩
    ·have hun : z2s A u u.kids[i] = false := by unfold z2s; rw [hA2]; rfl
     rw [hun, if_neg (by decide), List.append_nil] at hs
     repeat' (first | ((refine zqh fun K hK => ?_); (simp (disch := omega) only [go_sem, Nat.reduceBEq, ↓reduceIte, reduceCtorEq, Nat.reduceAdd, Nat.reduceLeDiff, v2, v3, v17, v18, v19, vHnx, vHnx1, vHp, s0, s1, sp, z0l, hf, hf2, hpu])) | ((first | refine zqd _ rfl (fun hc => ?_) (fun hc => ?_) | refine zqm _ rfl (fun hc => ?_) (fun hc => ?_)) <;> (first | (cases hc; done) | ((try simp only [z06] at hc); (try omega)))) | refine zqa ?_ | refine zqb ?_ | refine zqk ?_ | refine zqv ?_ | refine zqy ?_ | (refine hK _ ?_; clear hK K))
     refine ⟨_, SealTo.refl _, ?_⟩
     repeat' (first | ((refine zqr fun K hK => ?_); (simp (disch := omega) only [go_sem, Nat.reduceBEq, ↓reduceIte, v19])) | (refine hK _ ?_; clear hK K))
     (refine Exists.intro _ (And.intro ?_ ⟨i + 1, rfl, ?_⟩)); rotate_left; (simp (disch := omega) only [go_sem, Nat.reduceBEq, Nat.reduceLeDiff, v2, v3, v5, v6, v17, v18, v19, vHnx, vHnx1, vHnx2, vHnx3, vHp, true_and, Int.natCast_add, Int.natCast_one, s0, s1, s2, s3, sp, hs]); rotate_left
     ·omega
     ·exact ⟨by omega, by omega, fun id hid => by simp (disch := omega) only [z0d]; exact vp2 id hid⟩
   ·have hun : z2s A u u.kids[i] = false := by unfold z2s; rw [hxp]; simp [hpu]
    rw [hun, if_neg (by decide), List.append_nil] at hs
    repeat' (first | ((refine zqh fun K hK => ?_); (simp (disch := omega) only [go_sem, Nat.reduceBEq, ↓reduceIte, reduceCtorEq, Nat.reduceAdd, Nat.reduceLeDiff, v2, v3, v17, v18, v19, vHnx, vHnx1, vHp, s0, s1, sp, z0l, hf, hpu])) | ((first | refine zqd _ rfl (fun hc => ?_) (fun hc => ?_) | refine zqm _ rfl (fun hc => ?_) (fun hc => ?_)) <;> (first | (cases hc; done) | ((try simp only [z06] at hc); (try omega)))) | refine zqa ?_ | refine zqb ?_ | refine zqk ?_ | refine zqv ?_ | refine zqy ?_ | (refine hK _ ?_; clear hK K))
    refine ⟨_, SealTo.refl _, ?_⟩
    repeat' (first | ((refine zqr fun K hK => ?_); (simp (disch := omega) only [go_sem, Nat.reduceBEq, ↓reduceIte, v19])) | (refine hK _ ?_; clear hK K))
    (refine Exists.intro _ (And.intro ?_ ⟨i + 1, rfl, ?_⟩)); rotate_left; (simp (disch := omega) only [go_sem, Nat.reduceBEq, Nat.reduceLeDiff, v2, v3, v5, v6, v17, v18, v19, vHnx, vHnx1, vHnx2, vHnx3, vHp, true_and, Int.natCast_add, Int.natCast_one, s0, s1, s2, s3, sp, hs]); rotate_left
    ·omega
    ·exact ⟨by omega, by omega, fun id hid => by simp (disch := omega) only [z0d]; exact vp2 id hid⟩
  ·have hun : z2s A u u.kids[i] = false := by unfold z2s; rw [par_no hA]; simp
   rw [hun, if_neg (by decide), List.append_nil] at hs
   repeat' (first | ((refine zqh fun K hK => ?_); (simp (disch := omega) only [go_sem, Nat.reduceBEq, ↓reduceIte, reduceCtorEq, Nat.reduceAdd, Nat.reduceLeDiff, v2, v17, v18, v19, vHnx, vHp, s0, sp, z0l, hf])) | ((first | refine zqd _ rfl (fun hc => ?_) (fun hc => ?_) | refine zqm _ rfl (fun hc => ?_) (fun hc => ?_)) <;> (first | (cases hc; done) | ((try simp only [z06] at hc); (try omega)))) | refine zqa ?_ | refine zqb ?_ | refine zqk ?_ | refine zqv ?_ | refine zqy ?_ | (refine hK _ ?_; clear hK K))
   refine ⟨_, SealTo.refl _, ?_⟩
   repeat' (first | ((refine zqr fun K hK => ?_); (simp (disch := omega) only [go_sem, Nat.reduceBEq, ↓reduceIte, v19])) | (refine hK _ ?_; clear hK K))
   (refine Exists.intro _ (And.intro ?_ ⟨i + 1, rfl, ?_⟩)); rotate_left; (simp (disch := omega) only [go_sem, Nat.reduceBEq, Nat.reduceLeDiff, v2, v3, v5, v6, v17, v18, v19, vHnx, vHnx1, vHnx2, vHnx3, vHp, true_and, Int.natCast_add, Int.natCast_one, s0, s1, s2, s3, sp, hs]); rotate_left
   ·omega
   ·exact ⟨by omega, by omega, fun id hid => by simp (disch := omega) only [z0d]; exact vp2 id hid⟩
 ·repeat' (first | ((refine zqh fun K hK => ?_); (simp (disch := omega) only [go_sem, ↓reduceIte, v18, v19])) | (refine zqd _ rfl ?_ ?_ <;> intro hc <;> (((try simp only [z06] at hc); (try omega)))) | refine zqc ?_ | refine zqv ?_ | refine zqz ?_ | refine zqp ?_ | (refine hK _ ?_; clear hK K))
  have hil : i = u.kids.length := by omega
  subst hil
  rw [zkz] at v5 v6 vHnx2 vHnx3
  have hlen : (z31 A u).length <= 1000000 := by have := zop A u u.kids.length; rw [zkz] at this; omega
  have hats : ((z31 A u).map fun k => D.int .i64 (z6w k.id A).2.1) = (zaq A u).map (D.int .i64) := by unfold zaq; rw [List.map_map]; rfl
  rw [hats] at vHnx3
  have cl := pc11 (zaq A u) (by unfold maxLen zaq; rw [List.length_map]; omega)
  have hl1 : D.rsl false (z00 prog 3) (z1h (z03 prog 3) (z00 prog 3) (z31 A u).length ((zaq A u).map (D.int .i64))) = z45 (zaq A u) := by
   have h5 : (z31 A u).length = ((zaq A u).map (D.int .i64)).length := by unfold zaq; simp
   rw [z2n, z52, h5, z72]; rfl
  have hl2 : D.rsl false (z00 prog 23) (z1h (z03 prog 23) (z00 prog 23) (z31 A u).length (((z31 A u).map T.id).flatMap cellsId)) = z0m ((z31 A u).map T.id) := by
   have := z4j (f := cellsId) (sz := 3) (fun _ => rfl) ((z31 A u).map T.id)
   rw [List.length_map] at this
   rw [z6p, z8y, this]; rfl
  refine ⟨_, SealTo.trans (zkp (id := nx + 3) (j := 6) (e := 3) (n := (z31 A u).length) (cs := (zaq A u).map (D.int .i64)) (by (simp (disch := omega) only [go_sem, vHnx3])) (by decide +kernel) (z0a (fun _ => rfl) _) (by (simp (disch := omega) only [go_sem, Nat.reduceBEq, v6]))) (zkp (id := nx + 2) (j := 5) (e := 23) (n := (z31 A u).length) (cs := ((z31 A u).map T.id).flatMap cellsId) (by (simp (disch := omega) only [go_sem, vHnx2, e0])) (by decide +kernel) (z12 (fun _ => rfl) _) (by (simp (disch := omega) only [go_sem, Nat.reduceBEq, v5]))), ?_⟩
  rw [hl1, hl2]
  obtain ⟨ids, hids⟩ : ∃ ids, ids = (z31 A u).map T.id := ⟨_, rfl⟩
  obtain ⟨L, hL⟩ : ∃ L, L = Lis.lis (zaq A u) := ⟨_, rfl⟩
  have hSe : z29 A u = L.map fun n => ids.getD n Idv.zero := by rw [hids, hL]; rfl
  have hLl : ∀ n ∈ L, n < ids.length := fun n hn => by rw [hL] at hn; have := (Lis.lis_rise (zaq A u)).2 n hn; rw [hids]; simpa [zaq] using this
  have hSn : (z29 A u).Nodup := (zdy u).nodup hnk
  have hSl : (z29 A u).length = L.length := by rw [hSe, List.length_map]
  have hLb : L.length <= 1000000 := by rw [<- hSl]; have h5 := (zdy (A := A) u).length_le; rw [List.length_map] at h5; omega
  rw [<- hL] at cl
  rw [<- hids]
  repeat' (first | refine zqj ?_ | ((first | refine zqh fun K hK => ?_ | refine zqs (cl) ?_); (simp (disch := omega) only [go_sem, Nat.reduceBEq, v6])) | refine zqa ?_ | (refine hK _ ?_; clear hK K))
  obtain ⟨m0, hm0⟩ : ∃ m0, m0 = st.nx := ⟨_, rfl⟩
  (refine z6x (fun U st => ∃ (i : Nat), U = L.length - i /\ st.t 5 = z0m ids /\ st.t 13 = .mp m0 /\ st.t 61 = z45 (L.map fun (n : Nat) => (n : Int)) /\ st.t 62 = .int .i64 L.length /\ st.t 63 = .int .i64 i /\ st.H (m0) = some (.map (setI ((z29 A u).take i))) /\ (i <= L.length) /\ (m0 < st.nx) /\ (∀ id, id < nx -> st.H id = H id)) ?_ ?_); rotate_left; (rintro U st ⟨i, rfl, w5, w13, w61, w62, w63, wHm0, wp0, wp1, wp2⟩); rotate_left
  ·(refine ⟨_, 0, rfl, ?_⟩); (simp (disch := omega) only [go_sem, Nat.reduceBEq, v5, true_and, Int.natCast_zero, z45, s2, s3, hm0])
   exact ⟨rfl, Nat.lt_succ_self _, fun id hid => by simp (disch := omega) only [z0d]; exact vp2 id hid⟩
  have f0 := z01 wp1
  by_cases hi : i < L.length
  ·have hlt := hLl _ (List.getElem_mem hi)
   have hSi : (z29 A u)[i]'(by omega) = ids[L[i]] := by simp only [hSe, List.getElem_map]; simp [List.getD, hlt]
   have hnew : ids[L[i]] ∉ (z29 A u).take i := by
    rw [<- hSi]
    intro hmem
    obtain ⟨j, hj, e⟩ := List.getElem_of_mem hmem
    rw [List.length_take] at hj
    rw [List.getElem_take] at e
    have := (List.getElem_inj hSn).1 e
    omega
   have hfk := zct ids[L[i]] ((z29 A u).take i)
   rw [if_neg hnew] at hfk
   have hsn := zak ((z29 A u).take i) ids[L[i]]
   have htk : (z29 A u).take (i + 1) = (z29 A u).take i ++ [ids[L[i]]] := by rw [List.take_succ_eq_append_getElem (by omega), hSi]
   repeat' (first | ((first | refine zqh fun K hK => ?_ | refine zqr fun K hK => ?_); (simp (disch := omega) only [go_sem, Nat.reduceBEq, ↓reduceIte, reduceCtorEq, Nat.reduceAdd, w5, w13, w61, w62, w63, wHm0, z0m, z45, hfk, hsn, Function.comp_apply])) | (refine zqd _ rfl ?_ ?_ <;> intro hc <;> (((try simp only [z06] at hc); (try omega)))) | refine zqa ?_ | refine zqb ?_ | refine zqv ?_ | refine zqy ?_ | (refine hK _ ?_; clear hK K))
   refine ⟨_, SealTo.refl _, ?_⟩
   repeat' (first | ((refine zqr fun K hK => ?_); (simp (disch := omega) only [go_sem, Nat.reduceBEq, ↓reduceIte, w63])) | (refine hK _ ?_; clear hK K))
   (refine Exists.intro _ (And.intro ?_ ⟨i + 1, rfl, ?_⟩)); rotate_left; (simp (disch := omega) only [go_sem, Nat.reduceBEq, w5, w13, w61, w62, w63, wHm0, true_and, Int.natCast_add, Int.natCast_one, htk]); rotate_left
   ·omega
   ·exact ⟨by omega, by omega, fun id hid => by simp (disch := omega) only [z0d]; exact wp2 id hid⟩
  ·repeat' (first | ((refine zqh fun K hK => ?_); (simp (disch := omega) only [go_sem, ↓reduceIte, w62, w63])) | (refine zqd _ rfl ?_ ?_ <;> intro hc <;> (((try simp only [z06] at hc); (try omega)))) | refine zqc ?_ | refine zqv ?_ | refine zqz ?_ | refine zqp ?_ | (refine hK _ ?_; clear hK K))
   refine ⟨_, SealTo.refl _, ?_⟩
   repeat' (first | ((refine zqh fun K hK => ?_); (simp (disch := omega) only [go_sem, Nat.reduceBEq, w13])) | refine zqn ?_ | refine zqu (by simp only [go_sem]; rfl) rfl ?_ | (refine hK _ ?_; clear hK K))
   have hta : (z29 A u).take i = z29 A u := List.take_of_length_le (by omega)
   rw [hta] at wHm0
   refine ⟨fun id hid => ?_, fun _ => m0, fun i j hi hj _ => ?_, fun _ _ => ?_, ?_, fun j hj => ?_⟩
   ·(simp (disch := omega) only [go_sem])
    exact wp2 id hid
   ·simp only [List.length_cons, List.length_nil] at hi hj; omega
   ·show nx <= m0; omega
   ·rfl
   ·simp only [List.length_cons, List.length_nil] at hj
    obtain rfl : j = 0 := by omega
    (simp (disch := omega) only [go_sem, wHm0])
end
end Go.Proofs.YtfechgagcgbldaaDoor
