import Derived.Test.YtlfohdkfpdkhhaaGreatDoorWE
/-
 Lemmas of the claim. No condition but those that each names.
-/
set_option linter.unusedSimpArgs false
set_option linter.unusedVariables false
set_option maxRecDepth 100000
set_option maxHeartbeats 8000000
set_option linter.unusedSectionVars false
namespace Go.Proofs.YtlfohdkfpdkhhaaGreatDoor
open _root_.Go.Proofs.Tryz
section
open Abs Facts
attribute [local irreducible] awp
def atD (a b : List ByteArray) : D := .fn 199 [.rptr (zl5 (Lcs.tab a b)), .rptr (.int .i64 ((b.length + 1 : Nat) : Int))]
theorem zs3 (a b : List ByteArray) : pureD (atD a b) = true := by simp only [atD, pureD, pureD.pureL, z8k, Bool.and_self]
theorem pcAt (a b : List ByteArray) (ha : a.length <= 256) (hb : b.length <= 256) (i k : Nat) (hi : i <= a.length) (O : k <= b.length) : PC prog 199 [.int .i64 i, .int .i64 k, .rptr (zl5 (Lcs.tab a b)), .rptr (.int .i64 ((b.length + 1 : Nat) : Int))] (.int .i64 (Lcs.at_ a b i k : Int)) :=
 pc36 i k (b.length + 1) (Lcs.tab a b) _ (Lcs.tab_get a b i k hi O) (by
  have hm : (a.length + 1) * (b.length + 1) <= 66049 := Nat.mul_le_mul (show a.length + 1 <= 257 by omega) (show b.length + 1 <= 257 by omega)
  rw [Lcs.tab_len]; omega)
set_option maxHeartbeats 2000000 in
theorem pc29 (a b : List ByteArray) (ha : a.length <= 256) (hb : b.length <= 256) (i k : Nat) (hi : i <= a.length) (O : k <= b.length) :
  PC prog 164 [.int .i64 i, .int .i64 k, .rptr (z2j a), .rptr (z2j b), .rptr (atD a b)] (.agg [.int .i64 ((Lcs.next a b i k).1 : Int), .int .i64 ((Lcs.next a b i k).2 : Int)]) := by
 refine z14 2 (by simp only [pureD.pureL, pureD, z2k, zs3, Bool.and_self]) rfl (z0z [] func164 rfl (by decide +kernel) rfl ?_)
 show awp _ _ (Code.seq _ _) _ _
 (refine zqh fun K J => ?_); (simp only [go_sem, Nat.reduceBEq, Nat.reduceBeqDiff, Nat.reduceEqDiff, ↓reduceIte, reduceCtorEq, Nat.reduceAdd, Nat.reduceMul, Nat.reduceLeDiff, Nat.reduceLT, Int.reduceLT, Int.reduceLE, Int.reduceEq]); (refine J _ ?_); (clear J K)
 repeat refine zqj ?_
 (refine zqh fun K J => ?_); (simp only [go_sem, Nat.reduceBEq, Nat.reduceBeqDiff, Nat.reduceEqDiff, ↓reduceIte, reduceCtorEq, Nat.reduceAdd, Nat.reduceMul, Nat.reduceLeDiff, Nat.reduceLT, Int.reduceLT, Int.reduceLE, Int.reduceEq, z2j, atD]); (refine J _ ?_); (clear J K)
 refine z3k fun K J => ?_
 refine zqi (zbb (fun n st => ∃ x : Nat, n = a.length - x /\ x <= a.length /\ st.t 0 = .int .i64 i /\ st.t 1 = .int .i64 k /\ st.t 2 = .rptr (z2j a) /\ st.t 3 = .rptr (z2j b) /\ st.t 4 = .rptr (atD a b) /\ st.t 7 = .ptr 0 0 /\ st.t 8 = .int .i64 x /\
   st.H 0 = some (.box 129 [.int .i64 0, .int .i64 0]) /\ Lcs.search a b (Lcs.at_ a b i k) k i = Lcs.search a b (Lcs.at_ a b i k) k x) (a.length - i) ?_ ?_)
 ·exact ⟨i, rfl, hi, rfl, rfl, rfl, rfl, rfl, rfl, rfl, rfl, rfl⟩
 rintro n st ⟨x, rfl, hx, h0, h1, h2, h3, h4, h7, h8, hH, hs⟩
 repeat refine zqj ?_
 (refine zqh fun K J => ?_); (simp only [go_sem, Nat.reduceBEq, Nat.reduceBeqDiff, Nat.reduceEqDiff, ↓reduceIte, reduceCtorEq, Nat.reduceAdd, Nat.reduceMul, Nat.reduceLeDiff, Nat.reduceLT, Int.reduceLT, Int.reduceLE, Int.reduceEq, h8, h2, z2j]); (refine J _ ?_); (clear J K)
 refine z3k fun K2 hK2 => ?_
 (refine zqm _ rfl (fun hc => ?_) (fun hc => ?_)) <;> (simp only [z07] at hc)
 ·have hx' : x < a.length := by omega
  refine zqk (hK2 _ ?_); clear hK2 K2
  refine z3k fun K2 hK2 => ?_
  refine zqi ?_
  repeat refine zqj ?_
  (refine zqh fun K J => ?_); (simp only [go_sem, Nat.reduceBEq, Nat.reduceBeqDiff, Nat.reduceEqDiff, ↓reduceIte, reduceCtorEq, Nat.reduceAdd, Nat.reduceMul, Nat.reduceLeDiff, Nat.reduceLT, Int.reduceLT, Int.reduceLE, Int.reduceEq, h1]); (refine J _ ?_); (clear J K)
  refine zqi (zbb (fun n st => ∃ y : Nat, n = b.length - y /\ y <= b.length /\ st.t 0 = .int .i64 i /\ st.t 1 = .int .i64 k /\ st.t 2 = .rptr (z2j a) /\ st.t 3 = .rptr (z2j b) /\ st.t 4 = .rptr (atD a b) /\ st.t 7 = .ptr 0 0 /\ st.t 8 = .int .i64 x /\ st.t 9 = .int .i64 y /\
    st.H 0 = some (.box 129 [.int .i64 0, .int .i64 0]) /\ Lcs.inRow a b (Lcs.at_ a b i k) x k = Lcs.inRow a b (Lcs.at_ a b i k) x y) (b.length - k) ?_ ?_)
  ·exact ⟨k, rfl, O, h0, h1, h2, h3, h4, h7, h8, rfl, hH, rfl⟩
  clear h0 h1 h2 h3 h4 h7 h8 hH
  rintro n st ⟨y, rfl, hy, h0, h1, h2, h3, h4, h7, h8, h9, hH, hr⟩
  repeat refine zqj ?_
  (refine zqh fun K J => ?_); (simp only [go_sem, Nat.reduceBEq, Nat.reduceBeqDiff, Nat.reduceEqDiff, ↓reduceIte, reduceCtorEq, Nat.reduceAdd, Nat.reduceMul, Nat.reduceLeDiff, Nat.reduceLT, Int.reduceLT, Int.reduceLE, Int.reduceEq, h9, h3, z2j]); (refine J _ ?_); (clear J K)
  refine z3k fun K3 hK3 => ?_
  (refine zqm _ rfl (fun hc => ?_) (fun hc => ?_)) <;> (simp only [z07] at hc)
  ·have hy' : y < b.length := by omega
   refine zqk (hK3 _ ?_); clear hK3 K3
   refine z3k fun K3 hK3 => ?_
   refine zqi ?_
   repeat refine zqj ?_
   have i1 := z7t D.str a x hx'
   have i2 := z7t D.str b y hy'
   have wx : IntKind.i64.wrap ((x : Int) + 1) = ((x + 1 : Nat) : Int) := z6e (by omega)
   have wy : IntKind.i64.wrap ((y : Int) + 1) = ((y + 1 : Nat) : Int) := z6e (by omega)
   have l1 := Lcs.at_le a b (x + 1) (y + 1)
   have wn : IntKind.i64.wrap ((Lcs.at_ a b (x + 1) (y + 1) : Int) + 1) = ((Lcs.at_ a b (x + 1) (y + 1) + 1 : Nat) : Int) := z6e (by omega)
   have hst := Lcs.inRow_step a b (Lcs.at_ a b i k) x y hy'
   have tail : ∀ st' : St, Lcs.inRow a b (Lcs.at_ a b i k) x k = Lcs.inRow a b (Lcs.at_ a b i k) x (y + 1) -> st'.t 0 = .int .i64 i -> st'.t 1 = .int .i64 k -> st'.t 2 = .rptr (z2j a) -> st'.t 3 = .rptr (z2j b) -> st'.t 4 = .rptr (atD a b) -> st'.t 7 = .ptr 0 0 -> st'.t 8 = .int .i64 x -> st'.t 9 = .int .i64 y ->
     st'.H 0 = some (.box 129 [.int .i64 0, .int .i64 0]) -> K3 st' := by
    intro st' hr h0 h1 h2 h3 h4 h7 h8 h9 hH
    refine hK3 _ ?_
    (refine z99 ?_); (simp only [go_sem, Nat.reduceBEq, Nat.reduceBeqDiff, Nat.reduceEqDiff, ↓reduceIte, reduceCtorEq, Nat.reduceAdd, Nat.reduceMul, Nat.reduceLeDiff, Nat.reduceLT, Int.reduceLT, Int.reduceLE, Int.reduceEq, h9, wy])
    exact ⟨b.length - (y + 1), by omega, y + 1, rfl, by omega, h0, h1, h2, h3, h4, h7, h8, rfl, hH, hr⟩
   have ea : a[x]? = some a[x] := List.getElem?_eq_getElem hx'
   have eb : b[y]? = some b[y] := List.getElem?_eq_getElem hy'
   by_cases c1 : a[x] = b[y]
   ·refine zqe (by decide +kernel) fun K J => ?_
    simp only [go_sem, Nat.reduceBEq, Nat.reduceBeqDiff, Nat.reduceEqDiff, ↓reduceIte, reduceCtorEq, Nat.reduceAdd, Nat.reduceMul, Nat.reduceLeDiff, Nat.reduceLT, Int.reduceLT, Int.reduceLE, Int.reduceEq, h8, h9, h2, h3, h4, h0, h1, i1, i2, z2j, c1, wx, wy, atD]
    refine zqt (pcAt a b ha hb (x + 1) (y + 1) (by omega) (by omega)) ?_
    simp only [go_sem, Nat.reduceBEq, Nat.reduceBeqDiff, Nat.reduceEqDiff, ↓reduceIte, reduceCtorEq, Nat.reduceAdd, Nat.reduceMul, Nat.reduceLeDiff, Nat.reduceLT, Int.reduceLT, Int.reduceLE, Int.reduceEq, h8, h9, h2, h3, h4, h0, h1, i1, i2, z2j, c1, wx, wy, wn, atD]
    refine zqt (pcAt a b ha hb i k hi O) ?_
    simp only [go_sem, Nat.reduceBEq, Nat.reduceBeqDiff, Nat.reduceEqDiff, ↓reduceIte, reduceCtorEq, Nat.reduceAdd, Nat.reduceMul, Nat.reduceLeDiff, Nat.reduceLT, Int.reduceLT, Int.reduceLE, Int.reduceEq, h8, h9, h2, h3, h4, h0, h1, i1, i2, z2j, c1, wx, wy, wn, atD]
    refine J _ ?_
    clear J K
    (refine zqm _ rfl (fun hc => ?_) (fun hc => ?_)) <;> (simp only [z07] at hc)
    ·have hg : Lcs.good a b (Lcs.at_ a b i k) x y = true := by
      unfold Lcs.good
      rw [ea, eb, c1]
      have : Lcs.at_ a b (x + 1) (y + 1) + 1 = Lcs.at_ a b i k := by omega
      simp [this]
     (refine zqh fun K J => ?_); (simp only [go_sem, Nat.reduceBEq, Nat.reduceBeqDiff, Nat.reduceEqDiff, ↓reduceIte, reduceCtorEq, Nat.reduceAdd, Nat.reduceMul, Nat.reduceLeDiff, Nat.reduceLT, Int.reduceLT, Int.reduceLE, Int.reduceEq, h8, h9, h7, hH]); (refine J _ ?_); (clear J K)
     (refine zqn ?_); (refine Exists.intro _ (And.intro ((show resD _ _ [.cell 7 129] = _ from (by simp only [go_sem, Nat.reduceBEq, Nat.reduceBeqDiff, Nat.reduceEqDiff, ↓reduceIte, reduceCtorEq, Nat.reduceAdd, Nat.reduceMul, Nat.reduceLeDiff, Nat.reduceLT, Int.reduceLT, Int.reduceLE, Int.reduceEq, h7]; rfl))) ?_))
     refine ⟨_, z02 1 rfl, ?_⟩
     rw [if_pos hg] at hst
     have h9 := Lcs.search_step a b (Lcs.at_ a b i k) k x hx'
     rw [hr, hst] at h9
     unfold Lcs.next
     rw [hs, h9]
     exact Le.refl _
    ·refine zqk (tail _ ?_ h0 h1 h2 h3 h4 h7 h8 h9 hH)
     rw [hr, hst, if_neg]
     unfold Lcs.good
     simp only [Bool.and_eq_true, decide_eq_true_eq]
     omega
   ·(refine zqe (by decide +kernel) fun K J => ?_); (simp only [go_sem, Nat.reduceBEq, Nat.reduceBeqDiff, Nat.reduceEqDiff, ↓reduceIte, reduceCtorEq, Nat.reduceAdd, Nat.reduceMul, Nat.reduceLeDiff, Nat.reduceLT, Int.reduceLT, Int.reduceLE, Int.reduceEq, h8, h9, h2, h3, i1, i2, z2j, c1]); (refine J _ ?_); (clear J K)
    refine zqm false rfl (fun hc => (by cases hc)) (fun _ => ?_)
    refine zqk (tail _ ?_ h0 h1 h2 h3 h4 h7 h8 h9 hH)
    rw [hr, hst, if_neg]
    unfold Lcs.good
    simp only [Bool.and_eq_true, decide_eq_true_eq, ea, eb, Option.some.injEq]
    exact fun h => c1 h.1
  ·refine zql (show K2 _ from hK2 _ ?_)
   have wx : IntKind.i64.wrap ((x : Int) + 1) = ((x + 1 : Nat) : Int) := z6e (by omega)
   (refine z99 ?_); (simp only [go_sem, Nat.reduceBEq, Nat.reduceBeqDiff, Nat.reduceEqDiff, ↓reduceIte, reduceCtorEq, Nat.reduceAdd, Nat.reduceMul, Nat.reduceLeDiff, Nat.reduceLT, Int.reduceLT, Int.reduceLE, Int.reduceEq, h8, wx])
   refine ⟨a.length - (x + 1), by omega, x + 1, rfl, by omega, h0, h1, h2, h3, h4, h7, rfl, hH, ?_⟩
   have h9 := Lcs.search_step a b (Lcs.at_ a b i k) k x hx'
   rw [hr, Lcs.inRow_end a b _ x y (by omega)] at h9
   rw [hs, h9]
 ·refine zql (show K _ from J _ ?_)
  (refine zqh fun K J => ?_); (simp only [go_sem, Nat.reduceBEq, Nat.reduceBeqDiff, Nat.reduceEqDiff, ↓reduceIte, reduceCtorEq, Nat.reduceAdd, Nat.reduceMul, Nat.reduceLeDiff, Nat.reduceLT, Int.reduceLT, Int.reduceLE, Int.reduceEq, h2, h3, h7, hH, z2j]); (refine J _ ?_); (clear J K)
  (refine zqn ?_); (refine Exists.intro _ (And.intro ((show resD _ _ [.cell 7 129] = _ from (by simp only [go_sem, Nat.reduceBEq, Nat.reduceBeqDiff, Nat.reduceEqDiff, ↓reduceIte, reduceCtorEq, Nat.reduceAdd, Nat.reduceMul, Nat.reduceLeDiff, Nat.reduceLT, Int.reduceLT, Int.reduceLE, Int.reduceEq, h7]; rfl))) ?_))
  refine ⟨_, z02 1 rfl, ?_⟩
  unfold Lcs.next
  rw [hs, Lcs.search_end a b _ k x (by omega)]
  exact Le.refl _
theorem pc35 (a : List ByteArray) : PC prog 198 [z2j a] (.bool (decide (256 < (a.length : Int)))) := by
 refine z14 1 (by simp only [pureD.pureL, z2k, Bool.and_self]) rfl (z0z [] func198 rfl (by decide +kernel) rfl ?_)
 show awp _ _ (Code.seq _ _) _ _
 (refine zqh fun K J => ?_); (simp only [go_sem, Nat.reduceBEq, Nat.reduceBeqDiff, Nat.reduceEqDiff, ↓reduceIte, reduceCtorEq, Nat.reduceAdd, Nat.reduceMul, Nat.reduceLeDiff, Nat.reduceLT, Int.reduceLT, Int.reduceLE, Int.reduceEq]); (refine J _ ?_); (clear J K)
 (refine zqh fun K J => ?_); (simp only [go_sem, Nat.reduceBEq, Nat.reduceBeqDiff, Nat.reduceEqDiff, ↓reduceIte, reduceCtorEq, Nat.reduceAdd, Nat.reduceMul, Nat.reduceLeDiff, Nat.reduceLT, Int.reduceLT, Int.reduceLE, Int.reduceEq, z2j]); (refine J _ ?_); (clear J K)
 (refine zqn ?_); (refine Exists.intro _ (And.intro rfl ?_))
 exact z03 rfl
def z41 (a : List ByteArray) : Bool := decide (256 < (a.length : Int))
def zig (rows : List (List ByteArray)) : Int := match rows.findIdx? z41 with | some n => (n : Int) | none => -1
theorem zk5 (rows : List (List ByteArray)) : (0 <= zig rows) ↔ rows.any z41 = true := by
 unfold zig
 cases h : rows.findIdx? z41 with
 | none =>
  rw [List.findIdx?_eq_none_iff] at h
  simp only [List.any_eq_true]
  constructor
  ·intro h; omega
  ·rintro ⟨x, hx, hp⟩; rw [h x hx] at hp; cases hp
 | some i =>
  rw [List.findIdx?_eq_some_iff_getElem] at h
  obtain ⟨hi, hp, _⟩ := h
  simp only [List.any_eq_true]
  constructor
  ·intro _; exact ⟨_, List.getElem_mem hi, hp⟩
  ·intro _; omega
theorem zgj (nn : Bool) (rows : List (List ByteArray)) : pureD (.rsl nn 1 (rows.map z2j)) = true := by simp only [pureD]; exact z0r (fun x => z2k x) rows
set_option maxHeartbeats 2000000 in
theorem pc37 (nn : Bool) (rows : List (List ByteArray)) (hl : rows.length <= 1000) : PC prog 206 [.rsl nn 1 (rows.map z2j), .fn 198 []] (.int .i64 (zig rows)) := by
 refine z14 1 (by simp only [pureD.pureL, zgj]; rfl) rfl (z0z [] func206 rfl (by decide +kernel) rfl ?_)
 show awp _ _ (Code.seq _ _) _ _
 (refine zqh fun K J => ?_); (simp only [go_sem, Nat.reduceBEq, Nat.reduceBeqDiff, Nat.reduceEqDiff, ↓reduceIte, reduceCtorEq, Nat.reduceAdd, Nat.reduceMul, Nat.reduceLeDiff, Nat.reduceLT, Int.reduceLT, Int.reduceLE, Int.reduceEq]); (refine J _ ?_); (clear J K)
 repeat refine zqj ?_
 (refine zqh fun K J => ?_); (simp only [go_sem, Nat.reduceBEq, Nat.reduceBeqDiff, Nat.reduceEqDiff, ↓reduceIte, reduceCtorEq, Nat.reduceAdd, Nat.reduceMul, Nat.reduceLeDiff, Nat.reduceLT, Int.reduceLT, Int.reduceLE, Int.reduceEq]); (refine J _ ?_); (clear J K)
 refine z3k fun K J => ?_
 refine zqi (zbb (fun n st => ∃ k : Nat, n = rows.length - k /\ k <= rows.length /\ st.t 0 = .rsl nn 1 (rows.map z2j) /\ st.t 1 = .fn 198 [] /\ st.t 7 = .int .i64 rows.length /\ st.t 8 = .int .i64 k /\ ∀ j, ∀ h : j < rows.length, j < k -> z41 rows[j] = false) rows.length ?_ ?_)
 ·exact ⟨0, by simp, by simp, rfl, rfl, rfl, rfl, fun j _ h => by omega⟩
 rintro n st ⟨k, rfl, O, h0, h1, h7, h8, hj⟩
 repeat refine zqj ?_
 (refine zqh fun K J => ?_); (simp only [go_sem, Nat.reduceBEq, Nat.reduceBeqDiff, Nat.reduceEqDiff, ↓reduceIte, reduceCtorEq, Nat.reduceAdd, Nat.reduceMul, Nat.reduceLeDiff, Nat.reduceLT, Int.reduceLT, Int.reduceLE, Int.reduceEq, h8, h7]); (refine J _ ?_); (clear J K)
 refine z3k fun K2 hK2 => ?_
 (refine zqm _ rfl (fun hc => ?_) (fun hc => ?_)) <;> (simp only [z07] at hc)
 ·have hk' : k < rows.length := by omega
  refine zqk (hK2 _ ?_); clear hK2 K2
  refine z3k fun K2 hK2 => ?_
  refine zqi ?_
  repeat refine zqj ?_
  have i1 := z7t z2j rows k hk'
  have wk : IntKind.i64.wrap ((k : Int) + 1) = ((k + 1 : Nat) : Int) := z6e (by omega)
  (refine zqh fun K J => ?_); (simp only [go_sem, Nat.reduceBEq, Nat.reduceBeqDiff, Nat.reduceEqDiff, ↓reduceIte, reduceCtorEq, Nat.reduceAdd, Nat.reduceMul, Nat.reduceLeDiff, Nat.reduceLT, Int.reduceLT, Int.reduceLE, Int.reduceEq, h8]); (refine J _ ?_); (clear J K)
  repeat refine zqj ?_
  refine zqh fun K J => ?_
  simp only [go_sem, Nat.reduceBEq, Nat.reduceBeqDiff, Nat.reduceEqDiff, ↓reduceIte, reduceCtorEq, Nat.reduceAdd, Nat.reduceMul, Nat.reduceLeDiff, Nat.reduceLT, Int.reduceLT, Int.reduceLE, Int.reduceEq, h0, h1, h8, i1, z2j]
  refine zqs (pc35 rows[k]) ?_
  simp only [go_sem, Nat.reduceBEq, Nat.reduceBeqDiff, Nat.reduceEqDiff, ↓reduceIte, reduceCtorEq, Nat.reduceAdd, Nat.reduceMul, Nat.reduceLeDiff, Nat.reduceLT, Int.reduceLT, Int.reduceLE, Int.reduceEq]
  refine J _ ?_
  clear J K
  (refine zqm _ rfl (fun hc => ?_) (fun hc => ?_)) <;> (simp only [z07] at hc)
  ·(refine zqh fun K J => ?_); (simp only [go_sem, Nat.reduceBEq, Nat.reduceBeqDiff, Nat.reduceEqDiff, ↓reduceIte, reduceCtorEq, Nat.reduceAdd, Nat.reduceMul, Nat.reduceLeDiff, Nat.reduceLT, Int.reduceLT, Int.reduceLE, Int.reduceEq, h8]); (refine J _ ?_); (clear J K)
   (refine zqn ?_); (refine Exists.intro _ (And.intro rfl ?_))
   refine z1k ?_
   have : rows.findIdx? z41 = some k := by
    rw [List.findIdx?_eq_some_iff_getElem]
    exact ⟨hk', by unfold z41; simp [hc], fun j hjk => by rw [hj j (by omega) hjk]; simp⟩
   unfold zig; rw [this]
  ·refine zqk (show K2 _ from hK2 _ ?_)
   (refine z99 ?_); (simp only [go_sem, Nat.reduceBEq, Nat.reduceBeqDiff, Nat.reduceEqDiff, ↓reduceIte, reduceCtorEq, Nat.reduceAdd, Nat.reduceMul, Nat.reduceLeDiff, Nat.reduceLT, Int.reduceLT, Int.reduceLE, Int.reduceEq, h8, wk])
   refine ⟨rows.length - (k + 1), by omega, k + 1, rfl, by omega, h0, h1, h7, rfl, fun j h hjk => ?_⟩
   by_cases he : j = k
   ·subst he; unfold z41; simpa using hc
   ·exact hj j h (by omega)
 ·refine zql (show K _ from J _ ?_)
  (refine zqh fun K J => ?_); (simp only [go_sem, Nat.reduceBEq, Nat.reduceBeqDiff, Nat.reduceEqDiff, ↓reduceIte, reduceCtorEq, Nat.reduceAdd, Nat.reduceMul, Nat.reduceLeDiff, Nat.reduceLT, Int.reduceLT, Int.reduceLE, Int.reduceEq]); (refine J _ ?_); (clear J K)
  (refine zqn ?_); (refine Exists.intro _ (And.intro rfl ?_))
  refine z1k ?_
  have : rows.findIdx? z41 = none := by
   rw [List.findIdx?_eq_none_iff]
   intro x hx
   obtain ⟨j, hj', rfl⟩ := List.getElem_of_mem hx
   exact hj j hj' (by omega)
  unfold zig; rw [this]
theorem pc34 (nn : Bool) (rows : List (List ByteArray)) (hl : rows.length <= 1000) : PC prog 197 [.rsl nn 1 (rows.map z2j), .fn 198 []] (.bool (rows.any z41)) := by
 refine z14 1 (by simp only [pureD.pureL, zgj]; rfl) rfl (z0z [] func197 rfl (by decide +kernel) rfl ?_)
 show awp _ _ (Code.seq _ _) _ _
 (refine zqh fun K J => ?_); (simp only [go_sem, Nat.reduceBEq, Nat.reduceBeqDiff, Nat.reduceEqDiff, ↓reduceIte, reduceCtorEq, Nat.reduceAdd, Nat.reduceMul, Nat.reduceLeDiff, Nat.reduceLT, Int.reduceLT, Int.reduceLE, Int.reduceEq]); (refine J _ ?_); (clear J K)
 refine zqh fun K J => ?_
 simp only [go_sem, Nat.reduceBEq, Nat.reduceBeqDiff, Nat.reduceEqDiff, ↓reduceIte, reduceCtorEq, Nat.reduceAdd, Nat.reduceMul, Nat.reduceLeDiff, Nat.reduceLT, Int.reduceLT, Int.reduceLE, Int.reduceEq]
 refine zqs (pc37 nn rows hl) ?_
 simp only [go_sem, Nat.reduceBEq, Nat.reduceBeqDiff, Nat.reduceEqDiff, ↓reduceIte, reduceCtorEq, Nat.reduceAdd, Nat.reduceMul, Nat.reduceLeDiff, Nat.reduceLT, Int.reduceLT, Int.reduceLE, Int.reduceEq]
 refine J _ ?_
 clear J K
 (refine zqn ?_); (refine Exists.intro _ (And.intro rfl ?_))
 refine z03 ?_
 have := zk5 rows
 by_cases h : 0 <= zig rows
 ·rw [this.1 h]; simp [h]
 ·have h2 : rows.any z41 = false := by
   cases hq : rows.any z41 with
   | true => exact (h (this.2 hq)).elim
   | false => rfl
  rw [h2]; simp [h]
theorem pc27 (nn : Bool) (rows : List (List ByteArray)) (hl : rows.length <= 1000) : PC prog 162 [.rsl nn 1 (rows.map z2j)] (.bool (rows.any z41)) := by
 refine z14 1 (by simp only [pureD.pureL, zgj]; rfl) rfl (z0z [] func162 rfl (by decide +kernel) rfl ?_)
 show awp _ _ (Code.seq _ _) _ _
 (refine zqh fun K J => ?_); (simp only [go_sem, Nat.reduceBEq, Nat.reduceBeqDiff, Nat.reduceEqDiff, ↓reduceIte, reduceCtorEq, Nat.reduceAdd, Nat.reduceMul, Nat.reduceLeDiff, Nat.reduceLT, Int.reduceLT, Int.reduceLE, Int.reduceEq]); (refine J _ ?_); (clear J K)
 refine zqh fun K J => ?_
 simp only [go_sem, Nat.reduceBEq, Nat.reduceBeqDiff, Nat.reduceEqDiff, ↓reduceIte, reduceCtorEq, Nat.reduceAdd, Nat.reduceMul, Nat.reduceLeDiff, Nat.reduceLT, Int.reduceLT, Int.reduceLE, Int.reduceEq]
 refine zqs (pc34 nn rows hl) ?_
 simp only [go_sem, Nat.reduceBEq, Nat.reduceBeqDiff, Nat.reduceEqDiff, ↓reduceIte, reduceCtorEq, Nat.reduceAdd, Nat.reduceMul, Nat.reduceLeDiff, Nat.reduceLT, Int.reduceLT, Int.reduceLE, Int.reduceEq]
 refine J _ ?_
 clear J K
 (refine zqn ?_); (refine Exists.intro _ (And.intro rfl ?_))
 exact z03 rfl
def zav (p : Nat × Nat) : List D := [.int .i64 (p.1 : Int), .int .i64 (p.2 : Int)]
def zut (l : List (Nat × Nat)) : D := .rsl false 2 (l.map fun p => .agg (zav p))
theorem znp (l : List (Nat × Nat)) : pureD (zut l) = true := by simp only [zut, pureD]; exact z0r (fun _ => rfl) l
theorem Lcs.pairsF_len {α : Type} [DecidableEq α] (a b : List α) : ∀ n i k, (Lcs.pairsF a b n i k).length = n
 | 0, _, _ => rfl
 | n + 1, i, k => by simp [Lcs.pairsF, Lcs.pairsF_len a b n]
theorem rc29 {H : HM} {nx : Nat} (a b : List ByteArray) (ha : a.length <= 256) (hb : b.length <= 256) (i k : Nat) (hi : i <= a.length) (O : k <= b.length) (h0 : H 0 = some (.box 28 [z2j a])) (h1 : H 1 = some (.box 28 [z2j b])) (h2 : H 2 = some (.box 158 [atD a b])) :
  RC prog 164 [.int .i64 i, .int .i64 k, .ptr 0 0, .ptr 1 0, .ptr 2 0] H nx (.agg [.int .i64 ((Lcs.next a b i k).1 : Int), .int .i64 ((Lcs.next a b i k).2 : Int)]) := by
 refine PC.borrow (pc29 a b ha hb i k hi O) rfl 2 ?_
 refine z00 (z02 _ rfl) (z00 (z02 _ rfl) (z00 ?_ (z00 ?_ (z00 ?_ z0d))))
 ·exact z1d 1 h0 zpt (z02 _ (z2k a))
 ·exact z1d 1 h1 zpt (z02 _ (z2k b))
 ·exact z1d 1 h2 zv5 (z02 _ (zs3 a b))
set_option maxHeartbeats 2000000 in
theorem ac15 (a b : List ByteArray) (ha : a.length <= maxLen) (hb : b.length <= maxLen) : AC prog 111 [z2j a, z2j b] noH 0 fun d H _ =>
  ((256 < a.length \/ 256 < b.length) /\ d = .nil) \/ (¬ (256 < a.length \/ 256 < b.length) /\ d = .osl 3 (Lcs.pairs a b).length /\ H 3 = some (.row 129 (Lcs.pairs a b).length ((Lcs.pairs a b).flatMap zav))) := by
 unfold maxLen at ha hb
 refine (z0z [7] func111 rfl (by decide +kernel) rfl ?_)
 show awp _ _ (Code.seq _ _) _ _
 (refine zqh fun K J => ?_); (simp only [go_sem, Nat.reduceBEq, Nat.reduceBeqDiff, Nat.reduceEqDiff, ↓reduceIte, reduceCtorEq, Nat.reduceAdd, Nat.reduceMul, Nat.reduceLeDiff, Nat.reduceLT, Int.reduceLT, Int.reduceLE, Int.reduceEq, z2j]); (refine J _ ?_); (clear J K)
 repeat refine zqj ?_
 refine zqh fun K J => ?_
 simp only [go_sem, Nat.reduceBEq, Nat.reduceBeqDiff, Nat.reduceEqDiff, ↓reduceIte, reduceCtorEq, Nat.reduceAdd, Nat.reduceMul, Nat.reduceLeDiff, Nat.reduceLT, Int.reduceLT, Int.reduceLE, Int.reduceEq]
 refine zqs (pc27 true [a, b] (by simp)) ?_
 simp only [go_sem, Nat.reduceBEq, Nat.reduceBeqDiff, Nat.reduceEqDiff, ↓reduceIte, reduceCtorEq, Nat.reduceAdd, Nat.reduceMul, Nat.reduceLeDiff, Nat.reduceLT, Int.reduceLT, Int.reduceLE, Int.reduceEq]
 refine J _ ?_
 clear J K
 refine z3k fun K J => ?_
 by_cases hlong : 256 < a.length \/ 256 < b.length
 ·have ht : (z41 a || z41 b) = true := by
   unfold z41
   simp only [Bool.or_eq_true, decide_eq_true_eq]
   omega
  simp only [ht]
  refine zqm true rfl (fun _ => ?_) (fun hc => (by cases hc))
  (refine zqh fun K J => ?_); (simp only [go_sem, Nat.reduceBEq, Nat.reduceBeqDiff, Nat.reduceEqDiff, ↓reduceIte, reduceCtorEq, Nat.reduceAdd, Nat.reduceMul, Nat.reduceLeDiff, Nat.reduceLT, Int.reduceLT, Int.reduceLE, Int.reduceEq]); (refine J _ ?_); (clear J K)
  (refine zqn ?_); (refine Exists.intro _ (And.intro rfl ?_))
  exact .inl ⟨hlong, rfl⟩
 have ht : (z41 a || z41 b) = false := by
  unfold z41
  simp only [Bool.or_eq_false_iff, decide_eq_false_iff_not]
  omega
 simp only [ht]
 refine zqm false rfl (fun hc => (by cases hc)) (fun _ => ?_)
 refine zqk (J _ ?_); clear J K
 have ha' : a.length <= 256 := by omega
 have hb' : b.length <= 256 := by omega
 repeat refine zqj ?_
 refine zqh fun K J => ?_
 simp only [go_sem, Nat.reduceBEq, Nat.reduceBeqDiff, Nat.reduceEqDiff, ↓reduceIte, reduceCtorEq, Nat.reduceAdd, Nat.reduceMul, Nat.reduceLeDiff, Nat.reduceLT, Int.reduceLT, Int.reduceLE, Int.reduceEq]
 refine zqs (pc28 a b ha' hb') ?_
 simp only [go_sem, Nat.reduceBEq, Nat.reduceBeqDiff, Nat.reduceEqDiff, ↓reduceIte, reduceCtorEq, Nat.reduceAdd, Nat.reduceMul, Nat.reduceLeDiff, Nat.reduceLT, Int.reduceLT, Int.reduceLE, Int.reduceEq]
 refine J _ ?_
 clear J K
 (refine zqh fun K J => ?_); (simp only [go_sem, Nat.reduceBEq, Nat.reduceBeqDiff, Nat.reduceEqDiff, ↓reduceIte, reduceCtorEq, Nat.reduceAdd, Nat.reduceMul, Nat.reduceLeDiff, Nat.reduceLT, Int.reduceLT, Int.reduceLE, Int.reduceEq]); (refine J _ ?_); (clear J K)
 (refine zqh fun K J => ?_); (simp only [go_sem, Nat.reduceBEq, Nat.reduceBeqDiff, Nat.reduceEqDiff, ↓reduceIte, reduceCtorEq, Nat.reduceAdd, Nat.reduceMul, Nat.reduceLeDiff, Nat.reduceLT, Int.reduceLT, Int.reduceLE, Int.reduceEq]); (refine J _ ?_); (clear J K)
 repeat refine zqj ?_
 (refine zqh fun K J => ?_); (simp only [go_sem, Nat.reduceBEq, Nat.reduceBeqDiff, Nat.reduceEqDiff, ↓reduceIte, reduceCtorEq, Nat.reduceAdd, Nat.reduceMul, Nat.reduceLeDiff, Nat.reduceLT, Int.reduceLT, Int.reduceLE, Int.reduceEq]); (refine J _ ?_); (clear J K)
 refine z3k fun K J => ?_
 refine zqi (zbb (fun n st => ∃ (i k : Nat) (out : List (Nat × Nat)), n = Lcs.at_ a b i k /\ i <= a.length /\ k <= b.length /\ st.t 5 = .ptr 2 0 /\ st.t 6 = .fn 164 [.ptr 0 0, .ptr 1 0, .ptr 2 0] /\ st.t 7 = .osl 3 out.length /\ st.t 8 = .int .i64 i /\ st.t 9 = .int .i64 k /\
   st.H 0 = some (.box 28 [z2j a]) /\ st.H 1 = some (.box 28 [z2j b]) /\ st.H 2 = some (.box 158 [atD a b]) /\ st.H 3 = some (.row 129 out.length (out.flatMap zav)) /\ 4 <= st.nx /\ out ++ Lcs.pairsFrom a b i k = Lcs.pairsFrom a b 0 0) (Lcs.at_ a b 0 0) ?_ ?_)
 ·exact ⟨0, 0, [], rfl, Nat.zero_le _, Nat.zero_le _, rfl, rfl, rfl, rfl, rfl, rfl, rfl, rfl, rfl, by show 4 <= 4; omega, rfl⟩
 rintro n st ⟨i, k, out, rfl, hi, O, h5, h6, h7, h8, h9, hH0, hH1, hH2, hH3, hnx, ho⟩
 have hlen : out.length <= 256 := by
  have h1 := congrArg List.length ho
  simp only [List.length_append, Lcs.pairsFrom, Lcs.pairsF_len] at h1
  have h2 := Lcs.at_le a b 0 0
  omega
 repeat refine zqj ?_
 refine zqh fun K J => ?_
 simp only [go_sem, Nat.reduceBEq, Nat.reduceBeqDiff, Nat.reduceEqDiff, ↓reduceIte, reduceCtorEq, Nat.reduceAdd, Nat.reduceMul, Nat.reduceLeDiff, Nat.reduceLT, Int.reduceLT, Int.reduceLE, Int.reduceEq, h5, h8, h9, hH2, atD]
 refine zqs (pcAt a b ha' hb' i k hi O) ?_
 simp only [go_sem, Nat.reduceBEq, Nat.reduceBeqDiff, Nat.reduceEqDiff, ↓reduceIte, reduceCtorEq, Nat.reduceAdd, Nat.reduceMul, Nat.reduceLeDiff, Nat.reduceLT, Int.reduceLT, Int.reduceLE, Int.reduceEq]
 refine J _ ?_
 clear J K
 refine z3k fun K2 hK2 => ?_
 (refine zqm _ rfl (fun hc => ?_) (fun hc => ?_)) <;> (simp only [z07] at hc)
 ·refine zqk (hK2 _ ?_); clear hK2 K2
  repeat refine zqj ?_
  have hpos : 0 < Lcs.at_ a b i k := by omega
  have hcons := Lcs.pairsFrom_cons a b i k hpos
  obtain ⟨m, hm⟩ : ∃ m, Lcs.at_ a b i k = m + 1 := ⟨Lcs.at_ a b i k - 1, by omega⟩
  obtain ⟨q1, q2, q3, q4, q5, q6⟩ := Lcs.next_good a b i k m hm
  refine zqi ?_
  refine zqh fun K J => ?_
  simp only [go_sem, Nat.reduceBEq, Nat.reduceBeqDiff, Nat.reduceEqDiff, ↓reduceIte, reduceCtorEq, Nat.reduceAdd, Nat.reduceMul, Nat.reduceLeDiff, Nat.reduceLT, Int.reduceLT, Int.reduceLE, Int.reduceEq, h6, h8, h9]
  refine z0w (rc29 a b ha' hb' i k hi O hH0 hH1 hH2) ?_
  simp only [go_sem, Nat.reduceBEq, Nat.reduceBeqDiff, Nat.reduceEqDiff, ↓reduceIte, reduceCtorEq, Nat.reduceAdd, Nat.reduceMul, Nat.reduceLeDiff, Nat.reduceLT, Int.reduceLT, Int.reduceLE, Int.reduceEq]
  refine J _ ?_
  clear J K
  have e0 : (0 == st.nx) = false := by simp; omega
  have e1 : (1 == st.nx) = false := by simp; omega
  have e2 : (2 == st.nx) = false := by simp; omega
  have e3 : (3 == st.nx) = false := by simp; omega
  have b1 : (out.length + 1) * 16 <= 140737488355328 := by omega
  have b2 : out.length <= 9223372036854775806 := by omega
  (refine zqh fun K J => ?_); (simp only [go_sem, Nat.reduceBEq, Nat.reduceBeqDiff, Nat.reduceEqDiff, ↓reduceIte, reduceCtorEq, Nat.reduceAdd, Nat.reduceMul, Nat.reduceLeDiff, Nat.reduceLT, Int.reduceLT, Int.reduceLE, Int.reduceEq, h7, hH3, e3, b1, b2]); (refine J _ ?_); (clear J K)
  have wa : IntKind.i64.wrap (((Lcs.next a b i k).1 : Int) + 1) = (((Lcs.next a b i k).1 + 1 : Nat) : Int) := z6e (by omega)
  have wb : IntKind.i64.wrap (((Lcs.next a b i k).2 : Int) + 1) = (((Lcs.next a b i k).2 + 1 : Nat) : Int) := z6e (by omega)
  have e4 : (st.nx == 3) = false := by simp; omega
  (refine zk8 (by decide +kernel) ?_); (simp only [go_sem, Nat.reduceBEq, Nat.reduceBeqDiff, Nat.reduceEqDiff, ↓reduceIte, reduceCtorEq, Nat.reduceAdd, Nat.reduceMul, Nat.reduceLeDiff, Nat.reduceLT, Int.reduceLT, Int.reduceLE, Int.reduceEq, wa, wb, e4])
  have n0 : ¬ (0 = st.nx) := by omega
  have n1 : ¬ (1 = st.nx) := by omega
  have n2 : ¬ (2 = st.nx) := by omega
  refine ⟨m, by omega, (Lcs.next a b i k).1 + 1, (Lcs.next a b i k).2 + 1, out ++ [Lcs.next a b i k], by omega, by omega, by omega, h5, h6, ?_, rfl, rfl, ?_, ?_, ?_, ?_, ?_, ?_⟩
  ·rw [List.length_append]; rfl
  ·simp only [go_sem, Nat.reduceBEq, Nat.reduceBeqDiff, Nat.reduceEqDiff, ↓reduceIte, reduceCtorEq, Nat.reduceAdd, Nat.reduceMul, Nat.reduceLeDiff, Nat.reduceLT, Int.reduceLT, Int.reduceLE, Int.reduceEq, e0, hH0]
  ·simp only [go_sem, Nat.reduceBEq, Nat.reduceBeqDiff, Nat.reduceEqDiff, ↓reduceIte, reduceCtorEq, Nat.reduceAdd, Nat.reduceMul, Nat.reduceLeDiff, Nat.reduceLT, Int.reduceLT, Int.reduceLE, Int.reduceEq, e1, hH1]
  ·simp only [go_sem, Nat.reduceBEq, Nat.reduceBeqDiff, Nat.reduceEqDiff, ↓reduceIte, reduceCtorEq, Nat.reduceAdd, Nat.reduceMul, Nat.reduceLeDiff, Nat.reduceLT, Int.reduceLT, Int.reduceLE, Int.reduceEq, e2, hH2]
  ·simp only [go_sem, Nat.reduceBEq, Nat.reduceBeqDiff, Nat.reduceEqDiff, ↓reduceIte, reduceCtorEq, Nat.reduceAdd, Nat.reduceMul, Nat.reduceLeDiff, Nat.reduceLT, Int.reduceLT, Int.reduceLE, Int.reduceEq, e3]
   simp [zav]
  ·show 4 <= st.nx + 1; omega
  ·rw [List.append_assoc, <- ho, hcons]; rfl
 ·refine zql (show K _ from J _ ?_)
  (refine zqh fun K J => ?_); (simp only [go_sem, Nat.reduceBEq, Nat.reduceBeqDiff, Nat.reduceEqDiff, ↓reduceIte, reduceCtorEq, Nat.reduceAdd, Nat.reduceMul, Nat.reduceLeDiff, Nat.reduceLT, Int.reduceLT, Int.reduceLE, Int.reduceEq, h7]); (refine J _ ?_); (clear J K)
  (refine zqn ?_); (refine Exists.intro _ (And.intro rfl ?_))
  rw [Lcs.pairsFrom_nil a b i k (by omega), List.append_nil] at ho
  refine .inr ⟨hlong, ?_, ?_⟩
  ·unfold Lcs.pairs; rw [if_neg hlong, <- ho]; rfl
  ·unfold Lcs.pairs; rw [if_neg hlong, <- ho]; exact hH3
theorem pc15 (a b : List ByteArray) (ha : a.length <= maxLen) (hb : b.length <= maxLen) : PC prog 111 [z2j a, z2j b] (zut (Lcs.pairs a b)) := by
 refine z14 2 (by simp only [pureD.pureL, z2k, Bool.and_self]) (znp _) ((ac15 a b ha hb).mono fun d H nx h => ?_)
 rcases h with ⟨hl, rfl⟩ | ⟨hl, rfl, hH⟩
 ·refine fin_nil ?_
  unfold Lcs.pairs; rw [if_pos hl]; rfl
 ·exact z3i (z1e 0 hH zl7 zpw (fun _ => rfl) (fun _ => rfl))
end
section
open Abs Facts Tr
namespace Tr
structure Deed where
 kind : Int
 at_ : Int
 id : Idv
 parent : Idv
 words : List ByteArray
 label : ByteArray
 unit : T
theorem cap_len {s : ByteArray} (h : z4f s = true) : s.size <= 7 := by
 unfold z4f at h
 simp only [Bool.and_eq_true, decide_eq_true_eq] at h
 omega
theorem zvk {l : List Wd} (h : ziy l = true) : l.length <= 256 /\ ∀ w ∈ l, w.text.size <= 24 := by
 unfold ziy at h
 simp only [Bool.and_eq_true, decide_eq_true_eq, List.all_eq_true] at h
 refine ⟨h.1, fun w hw => ?_⟩
 have := h.2 w hw
 unfold z6q at this
 simp only [Bool.and_eq_true, decide_eq_true_eq] at this
 omega
theorem right_sz : ∀ t : T, z3v t = true -> szB t = true := by
 refine z4x fun t ih h => ?_
 rw [z4i] at h
 simp only [Bool.and_eq_true, List.all_eq_true] at h
 obtain ⟨ha, _, O, _⟩ := h
 unfold z3j at ha
 simp only [Bool.and_eq_true, decide_eq_true_eq] at ha
 obtain ⟨_, h1, h2, h3, h4⟩ := ha
 obtain ⟨a1, a2⟩ := zvk h2
 obtain ⟨b1, b2⟩ := zvk h3
 refine (z2f t).2 ⟨?_, by omega, fun w hw => by have := a2 w hw; omega, by omega, fun w hw => by have := b2 w hw; omega, by omega, fun k hk' => ih k hk' (O k hk')⟩
 split at h4
 ·simp only [Bool.and_eq_true, decide_eq_true_eq] at h4
  rw [h4.1]; decide
 ·have := cap_len h4; omega
theorem z21 {t : T} (h : standsT t = true) : szB t = true /\ cntT t <= 1024 /\ depT t <= 8 :=
 ⟨right_sz t ((z24 t).1 h).1, ((z24 t).1 h).2.2.1, ((z24 t).1 h).2.1⟩
theorem znv {u : T} {id : Idv} {l : List Wd} (h : z2z u id l = 0) : standsT (z1g id (fun q => q.setHead l) u) = true := by
 obtain ⟨h1, hm, h3, h4, h5⟩ := zki h
 obtain ⟨C, e, hq, hpre, _⟩ := focus id u hm
 generalize (z06 id u).1 = q at e hq h4
 have hpost : id ∉ z44 C := (z3m (x := q) (by rw [<- e]; exact z1m h1) (hq ▸ z2y q)).2
 rw [e, z68 (fun q => q.setHead l) hq C hpre hpost]
 rw [e] at h1
 refine zeh h1 rfl rfl rfl ?_ (fun h => h)
 have hr := ((z24 _).1 h1).1
 rw [z3y] at hr
 have ha := (zd3 hr.2).1
 unfold z3j at ha ⊢
 simp only [Bool.and_eq_true, decide_eq_true_eq] at ha ⊢
 obtain ⟨a1, a2, a3, a4, a5⟩ := ha
 refine ⟨a1, a2, ?_, a4, ?_⟩
 ·show ziy l = true
  unfold ziy
  rw [decide_eq_true h5, Bool.true_and, List.all_eq_true]
  intro w hw
  unfold zzn at h3
  have := List.any_eq_false.1 h3 w hw
  simpa using this
 ·rw [if_neg h4] at a5
  rw [if_neg (show ¬ (q.setHead l).kind = 0 from h4)]; exact a5
def putW (was : List Wd) (out : List Wd) (p : Nat × Nat) : List Wd := match was[p.1]? with | some w => out.set p.2 w | none => out
def z9o (was : List Wd) (l : List ByteArray) : List Wd := (Lcs.pairs (was.map (·.text)) l).foldl (putW was) (l.map fun s => ⟨s, Idv.zero⟩)
theorem zjm {α : Type} [DecidableEq α] (a b : List α) : ∀ p ∈ Lcs.pairs a b, ∃ (h1 : p.1 < a.length) (h2 : p.2 < b.length), a[p.1] = b[p.2] := by
 have key : ∀ n i k, Lcs.at_ a b i k = n -> ∀ p ∈ Lcs.pairsF a b n i k, ∃ (h1 : p.1 < a.length) (h2 : p.2 < b.length), a[p.1] = b[p.2] := by
  intro n
  induction n with
  | zero => intro i k _ p hp; simp [Lcs.pairsF] at hp
  | succ n ih =>
   intro i k hn p hp
   have hg := Lcs.next_good a b i k n hn
   simp only [Lcs.pairsF, List.mem_cons] at hp
   rcases hp with rfl | hp
   ·obtain ⟨_, h1, _, h2, h3, _⟩ := hg
    rw [List.getElem?_eq_getElem h1, List.getElem?_eq_getElem h2, Option.some.injEq] at h3
    exact ⟨h1, h2, h3⟩
   ·exact ih _ _ (by obtain ⟨_, _, _, _, _, h⟩ := hg; omega) p hp
 unfold Lcs.pairs
 split
 ·intro p hp; cases hp
 ·exact fun p hp => key _ 0 0 rfl p hp
theorem put_text {was out : List Wd} {l : List ByteArray} {p : Nat × Nat} (ho : out.map (·.text) = l) (hp : ∃ (h1 : p.1 < (was.map (·.text)).length) (h2 : p.2 < l.length), (was.map (·.text))[p.1] = l[p.2]) : (putW was out p).map (·.text) = l := by
 obtain ⟨h1, h2, h3⟩ := hp
 rw [List.length_map] at h1
 unfold putW
 rw [List.getElem?_eq_getElem h1]
 simp only [List.map_set, ho]
 rw [List.getElem_map] at h3
 rw [h3]
 exact List.set_getElem_self h2
theorem zfy {was : List Wd} {l : List ByteArray} : ∀ (ps : List (Nat × Nat)) (out : List Wd), (∀ p ∈ ps, ∃ (h1 : p.1 < (was.map (·.text)).length) (h2 : p.2 < l.length), (was.map (·.text))[p.1] = l[p.2]) -> out.map (·.text) = l -> (ps.foldl (putW was) out).map (·.text) = l
 | [], out, _, h => h
 | p :: ps, out, hp, h => zfy ps _ (fun q hq => hp q (List.mem_cons_of_mem _ hq)) (put_text h (hp p List.mem_cons_self))
theorem zi9 (was : List Wd) (l : List ByteArray) : (z9o was l).map (·.text) = l :=
 zfy _ _ (zjm _ _) (by rw [List.map_map]; exact List.map_id'' (fun _ => rfl) l)
theorem z8j (was : List Wd) (l : List ByteArray) : (z9o was l).length = l.length := by
 have := congrArg List.length (zi9 was l)
 rwa [List.length_map] at this
theorem z8z {was : List Wd} {l : List ByteArray} {n : Nat} (h : ∀ s ∈ l, s.size <= n) : ∀ w ∈ z9o was l, w.text.size <= n := fun w hw => by
 refine h _ ?_
 have := zi9 was l
 rw [<- this]
 exact List.mem_map.2 ⟨w, hw, rfl⟩
def T.setId (t : T) (i : Idv) : T := .mk i t.kind t.label t.head t.words t.kids
def z2b : List (Nat -> T × Nat) -> Nat -> List T × Nat
 | [], n => ([], n)
 | f :: fs, n => ((f n).1 :: (z2b fs (f n).2).1, (z2b fs (f n).2).2)
def z27 : T -> Nat -> T × Nat := zhs fun t l n => ((t.setId ⟨0, 0, n⟩).setKids (z2b l (n + 1)).1, (z2b l (n + 1)).2)
theorem zjn (t : T) (n : Nat) : z27 t n = ((t.setId ⟨0, 0, n⟩).setKids (z2b (t.kids.map z27) (n + 1)).1, (z2b (t.kids.map z27) (n + 1)).2) := by
 unfold z27; rw [z46]
theorem znw (fs : List (Nat -> T × Nat)) (f : Nat -> T × Nat) : ∀ n, z2b (fs ++ [f]) n = ((z2b fs n).1 ++ [(f (z2b fs n).2).1], (f (z2b fs n).2).2) := by
 induction fs with
 | nil => intro n; rfl
 | cons g fs ih => intro n; simp only [List.cons_append, z2b, ih]
theorem zaz (fs : List (Nat -> T × Nat)) : ∀ n, (z2b fs n).1.length = fs.length := by
 induction fs with
 | nil => intro n; rfl
 | cons g fs ih => intro n; simp only [z2b, List.length_cons, ih]
theorem zff (l : List T) : (l.flatMap z0l).length = (l.map cntT).sum := by
 induction l with
 | nil => rfl
 | cons k l ih => rw [List.flatMap_cons, List.length_append, ih, List.map_cons, List.sum_cons]; rfl
theorem zdr : ∀ t : T, szB t = true -> ∀ n, szB (z27 t n).1 = true /\ cntT (z27 t n).1 = cntT t /\ depT (z27 t n).1 = depT t /\ (z27 t n).2 = n + cntT t := by
 refine z4x fun t ih hs n => ?_
 obtain ⟨h0, h1, g1, h2, g2, h3, h4⟩ := (z2f t).1 hs
 have key : ∀ (l : List T), (∀ k ∈ l, ∀ n, szB (z27 k n).1 = true /\ cntT (z27 k n).1 = cntT k /\ depT (z27 k n).1 = depT k /\ (z27 k n).2 = n + cntT k) -> ∀ n,
   (∀ k ∈ (z2b (l.map z27) n).1, szB k = true) /\ ((z2b (l.map z27) n).1.map cntT) = l.map cntT /\ ((z2b (l.map z27) n).1.map depT) = l.map depT /\ (z2b (l.map z27) n).2 = n + (l.map cntT).sum := by
  intro l
  induction l with
  | nil => intro _ n; exact ⟨fun k O => (by cases O), rfl, rfl, rfl⟩
  | cons k l ihl =>
   intro h n
   obtain ⟨a1, a2, a3, a4⟩ := h k List.mem_cons_self n
   obtain ⟨b1, b2, b3, b4⟩ := ihl (fun k O => h k (List.mem_cons_of_mem _ O)) (z27 k n).2
   simp only [List.map_cons, z2b, List.sum_cons]
   refine ⟨fun x hx => ?_, by rw [a2, b2], by rw [a3, b3], by rw [b4, a4]; omega⟩
   rcases List.mem_cons.1 hx with rfl | hx
   ·exact a1
   ·exact b1 x hx
 obtain ⟨c1, c2, c3, c4⟩ := key t.kids (fun k O => ih k O (h4 k O)) (n + 1)
 rw [zjn]
 have hkl : (z2b (t.kids.map z27) (n + 1)).1.length = t.kids.length := by rw [zaz, List.length_map]
 refine ⟨(z2f _).2 ⟨h0, h1, g1, h2, g2, by show (z2b (t.kids.map z27) (n + 1)).1.length <= _; omega, c1⟩, ?_, ?_, ?_⟩
 ·rw [z8b, z8b t]
  rw [zff, zff]
  show _ + ((z2b (t.kids.map z27) (n + 1)).1.map cntT).sum = _
  rw [c2]
 ·rw [z4r, z4r t]
  show zel ((z2b (t.kids.map z27) (n + 1)).1.map depT) = _
  rw [c3]
 ·show (z2b (t.kids.map z27) (n + 1)).2 = _
  rw [c4, z8b, zff]; omega
def z3h (u : T) (o : Deed) : List Wd := z9o (if o.kind = 1 then (z06 o.id u).1.head else (z06 o.id u).1.words) o.words
def znx (t : T) : Bool := z64 t && decide (t = z5l t)
def doE (u : T) (o : Deed) (n : Nat) : Int :=
 if o.kind = 0 \/ o.kind = 1 then z2z u o.id (z3h u o)
 else if o.kind = 2 then zby u o.id o.label
 else if o.kind = 3 then (if znx o.unit = true then z3e u o.parent o.at_ (z27 o.unit (n + 1)).1 else 1)
 else if o.kind = 4 then z5m u o.id
 else if o.kind = 5 then z4a u o.id o.parent o.at_
 else 1
def doT (u : T) (o : Deed) (n : Nat) : T :=
 if o.kind = 0 then z1g o.id (fun q => q.setWords (z3h u o)) u
 else if o.kind = 1 then z1g o.id (fun q => q.setHead (z3h u o)) u
 else if o.kind = 2 then z1g o.id (fun q => q.setLabel o.label) u
 else if o.kind = 3 then z1g o.parent (z7r o.at_.toNat (z27 o.unit (n + 1)).1) u
 else if o.kind = 4 then z0o o.id u
 else z1g o.parent (z7r o.at_.toNat (z06 o.id u).1) (z0o o.id u)
def zjo (o : Deed) : Nat := if o.kind = 3 then cntT o.unit else 0
theorem wrong_nn {u x : T} {parent : Idv} {i : Int} (h : z3e u parent i x = 0) : 0 <= i := by
 unfold z3e at h
 split at h
 ·cases h
 split at h
 ·cases h
 split at h
 ·cases h
 split at h
 ·cases h
 omega
theorem z79 {u : T} {o : Deed} {n : Nat} (h : doE u o n = 0) : standsT (doT u o n) = true := by
 unfold doE at h
 unfold doT
 by_cases k0 : o.kind = 0
 ·rw [if_pos (.inl k0)] at h
  rw [if_pos k0]
  exact (zyo h).1
 by_cases k1 : o.kind = 1
 ·rw [if_pos (.inr k1)] at h
  rw [if_neg k0, if_pos k1]
  exact znv h
 rw [if_neg (by omega)] at h
 rw [if_neg k0, if_neg k1]
 by_cases k2 : o.kind = 2
 ·rw [if_pos k2] at h ⊢
  exact (zyp h).1
 rw [if_neg k2] at h ⊢
 by_cases k3 : o.kind = 3
 ·rw [if_pos k3] at h ⊢
  split at h
  ·have h0 := wrong_nn h
   obtain ⟨m, hm⟩ := Int.eq_ofNat_of_zero_le h0
   rw [hm] at h ⊢
   obtain ⟨C, q, l, r, _, _, _, _, f1, _⟩ := zli h
   exact f1
  ·cases h
 rw [if_neg k3] at h ⊢
 by_cases k4 : o.kind = 4
 ·rw [if_pos k4] at h ⊢
  exact (zu9 h).1
 rw [if_neg k4] at h ⊢
 split at h
 ·exact (zyq h).1
 ·cases h
end Tr
namespace Tr
def stepD (p : T × Nat) (o : Deed) : T × Nat := (doT p.1 o p.2, p.2 + zjo o)
def draft (b : T) (l : List Deed) : T := (l.foldl stepD (b, 0)).1
def z3a (l : List Deed) : Nat := (l.map zjo).sum
theorem zs0 : ∀ (l : List Deed) (p : T × Nat), (l.foldl stepD p).2 = p.2 + (l.map zjo).sum
 | [], p => rfl
 | o :: l, p => by rw [List.foldl_cons, zs0 l, List.map_cons, List.sum_cons]; show p.2 + zjo o + _ = _; omega
theorem zbe (b : T) (l : List Deed) (o : Deed) : draft b (l ++ [o]) = doT (draft b l) o (z3a l) := by
 unfold draft
 rw [List.foldl_append, List.foldl_cons, List.foldl_nil]
 show doT _ o (l.foldl stepD (b, 0)).2 = _
 rw [zs0]; simp [z3a]
theorem zye (l : List Deed) (o : Deed) : z3a (l ++ [o]) = z3a l + zjo o := by unfold z3a; simp
def OKrun (b : T) (l : List Deed) : Prop := ∀ i, (h : i < l.length) -> doE (draft b (l.take i)) l[i] (z3a (l.take i)) = 0
theorem ok_nil (b : T) : OKrun b [] := fun i h => by simp at h
theorem ok_snoc {b : T} {l : List Deed} {o : Deed} (h : OKrun b l) (ho : doE (draft b l) o (z3a l) = 0) : OKrun b (l ++ [o]) := by
 intro i hi
 by_cases hl : i < l.length
 ·rw [List.take_append_of_le_length (by omega), List.getElem_append_left hl]
  exact h i hl
 ·have : i = l.length := by simp at hi; omega
  subst this
  simpa using ho
theorem zp9 {b : T} {l : List Deed} (h : OKrun b l) (k : Nat) : OKrun b (l.take k) := by
 intro i hi
 have hi' : i < k /\ i < l.length := by simp at hi; omega
 have := h i hi'.2
 rw [List.take_take, show min i k = i by omega, List.getElem_take]
 exact this
theorem zn2 {b : T} {l m : List Deed} (h : OKrun b (l ++ m)) : OKrun b l := by
 have := zp9 h l.length
 rwa [List.take_left'] at this
 rfl
theorem z6a {b : T} (hb : standsT b = true) : ∀ {l : List Deed}, OKrun b l -> standsT (draft b l) = true := by
 refine fun {l} => zje (p := fun l => OKrun b l -> standsT (draft b l) = true) (fun _ => hb) (fun l o ih h => ?_) l
 rw [zbe]
 have := h l.length (by simp)
 simp only [List.take_left', List.getElem_append_right (Nat.le_refl _), Nat.sub_self, List.getElem_cons_zero] at this
 exact z79 this
def trees (b : T) (l : List Deed) : List T := (List.range (l.length + 1)).map fun k => draft b (l.take k)
theorem z7e (b : T) (l : List Deed) : (trees b l).length = l.length + 1 := by simp [trees]
theorem zn3 (b : T) (l m : List Deed) (h : l.length < (trees b (l ++ m)).length) : (trees b (l ++ m))[l.length] = draft b l := by
 simp [trees]
theorem zyf (b : T) : trees b [] = [b] := by simp [trees, draft]
theorem zj2 (b : T) (l : List Deed) (o : Deed) : trees b (l ++ [o]) = trees b l ++ [draft b (l ++ [o])] := by
 unfold trees
 rw [List.length_append, List.length_singleton, List.range_succ, List.map_append]
 congr 1
 ·refine List.map_congr_left fun k O => ?_
  rw [List.mem_range] at O
  rw [List.take_append_of_le_length (by omega)]
 ·simp only [List.map_cons, List.map_nil]
  rw [List.take_of_length_le (by simp)]
theorem zu6 (b : T) (l m : List Deed) : (trees b (l ++ m)).take (l.length + 1) = trees b l := by
 refine List.ext_getElem (by simp [trees]) fun i h1 h2 => ?_
 have hi : i < l.length + 1 := by rw [z7e] at h2; exact h2
 simp only [trees, List.getElem_take, List.getElem_map, List.getElem_range]
 rw [List.take_append_of_le_length (by omega)]
structure Ses where
 base : T
 dn : List Deed
 un : List Deed
structure SesOK (s : Ses) : Prop where
 st : standsT s.base = true
 ok : OKrun s.base (s.dn ++ s.un)
theorem SesOK.draft {s : Ses} (h : SesOK s) : standsT (draft s.base s.dn) = true := z6a h.st (zn2 h.ok)
def Ses.draft (s : Ses) : T := Tr.draft s.base s.dn
def z1r (s : Ses) (o : Deed) : Int × Ses :=
 if doE s.draft o (z3a s.dn) = 0 then (0, ⟨s.base, s.dn ++ [o], []⟩) else (doE s.draft o (z3a s.dn), s)
def z5i (s : Ses) : Bool × Ses :=
 match s.dn.getLast? with
 | none => (false, s)
 | some o => (true, ⟨s.base, s.dn.dropLast, o :: s.un⟩)
def z7f (s : Ses) : Bool × Ses :=
 match s.un with
 | [] => (false, s)
 | o :: l => (true, ⟨s.base, s.dn ++ [o], l⟩)
theorem apply_ok {s : Ses} (h : SesOK s) (o : Deed) : SesOK (z1r s o).2 := by
 unfold z1r
 split
 ·rename_i he
  refine ⟨h.st, ?_⟩
  show OKrun s.base ((s.dn ++ [o]) ++ [])
  rw [List.append_nil]
  exact ok_snoc (zn2 h.ok) he
 ·exact h
theorem undo_ok {s : Ses} (h : SesOK s) : SesOK (z5i s).2 := by
 unfold z5i
 split
 ·exact h
 ·rename_i o he
  refine ⟨h.st, ?_⟩
  show OKrun s.base (s.dn.dropLast ++ o :: s.un)
  have : s.dn.dropLast ++ o :: s.un = s.dn ++ s.un := by
   obtain ⟨l, hl⟩ := List.getLast?_eq_some_iff.1 he
   rw [hl, List.dropLast_concat, List.append_assoc]; rfl
  rw [this]; exact h.ok
theorem redo_ok {s : Ses} (h : SesOK s) : SesOK (z7f s).2 := by
 unfold z7f
 split
 ·exact h
 ·rename_i o l he
  refine ⟨h.st, ?_⟩
  show OKrun s.base ((s.dn ++ [o]) ++ l)
  have h2 := h.ok
  rw [he] at h2
  rwa [List.append_assoc]
def zef (i : Idv) : Bool := decide (i.act = 0) && (decide (i.item = 0) && decide (1 <= i.n))
end Tr
def z1l (o : Deed) : List D := .int .i64 o.kind :: .int .i64 o.at_ :: (z0b o.id ++ (z0b o.parent ++ (z2j o.words :: .str o.label :: z0a o.unit)))
def z39 (o : Deed) : D := .agg (z1l o)
def z20 (l : List Deed) : D := .rsl false 18 (l.map z39)
theorem zc8 (o : Deed) : z1l o = [.int .i64 o.kind, .int .i64 o.at_, .int .i64 o.id.act, .int .i64 o.id.item, .int .i64 o.id.n, .int .i64 o.parent.act, .int .i64 o.parent.item, .int .i64 o.parent.n, z2j o.words, .str o.label,
  .int .i64 o.unit.id.act, .int .i64 o.unit.id.item, .int .i64 o.unit.id.n, .int .i64 o.unit.kind, .str o.unit.label, z0n o.unit.head, z0n o.unit.words, z0q o.unit.kids] := by
 unfold z1l; rw [z0k]; rfl
@[go_sem] theorem z48 (o : Deed) : (z1l o).length = 18 := by rw [zc8]; rfl
@[go_sem] theorem cellsO_kind (o : Deed) : (z1l o)[0]? = some (.int .i64 o.kind) := rfl
@[go_sem] theorem cellsO_at (o : Deed) : (z1l o)[1]? = some (.int .i64 o.at_) := rfl
@[go_sem] theorem cellsO_id (o : Deed) : List.take 3 (List.drop 2 (z1l o)) = z0b o.id := rfl
@[go_sem] theorem cellsO_parent (o : Deed) : List.take 3 (List.drop 5 (z1l o)) = z0b o.parent := rfl
@[go_sem] theorem cellsO_words (o : Deed) : (z1l o)[8]? = some (z2j o.words) := rfl
@[go_sem] theorem cellsO_label (o : Deed) : (z1l o)[9]? = some (.str o.label) := rfl
@[go_sem] theorem cellsO_unit (o : Deed) : List.take 8 (List.drop 10 (z1l o)) = z0a o.unit := by
 show List.take 8 (z0a o.unit) = _
 rw [z0k]; rfl
@[go_sem] theorem znr (o : Deed) : List.take 18 (z1l o) = z1l o := List.take_of_length_le (by rw [z48]; decide)
theorem zns (o : Deed) : (z1l o).set 8 (z2j o.words) = z1l o := rfl
theorem znt (o : Deed) : z17 (z1l o) 10 (z0a o.unit) = z1l o := by
 rw [zc8, z0k]; rfl
@[go_sem] theorem cellsO_over (a0 a1 a2 a3 a4 a5 a6 a7 a8 a9 a10 a11 a12 a13 a14 a15 a16 a17 : D) (o : Deed) : z17 [a0, a1, a2, a3, a4, a5, a6, a7, a8, a9, a10, a11, a12, a13, a14, a15, a16, a17] 0 (z1l o) = z1l o := z4e _ _ (by rw [z48]; rfl)
theorem zla (i : Idv) : pureD.pureL (z0b i) = true := rfl
theorem z76 (o : Deed) : pureD.pureL (z1l o) = true := by
 rw [zc8]
 simp only [pureD.pureL, z2k, z0h, z3l, pureD, Bool.and_self]
theorem z3f (o : Deed) : pureD (z39 o) = true := z76 o
theorem z6x (l : List Deed) : pureD (z20 l) = true := z0r (f := z39) z3f l
attribute [go_sem] z76 z3f z6x
theorem z2o : ∀ l : List Deed, z1w 18 (l.map z39) = some (l.flatMap z1l)
 | [] => rfl
 | o :: l => by
  rw [List.map_cons, List.flatMap_cons]
  unfold z1w
  rw [z2o l]
  show (if (z1l o).length = 18 then _ else _) = _
  rw [z48]; rfl
theorem z6y (l : List Deed) : pureD.pureL (l.flatMap z1l) = true := z1t z76 l
theorem z62 (l : List Deed) : z1i true 18 l.length (l.flatMap z1l) = l.map z39 := z6z (f := z1l) (sz := 18) z48 l
def z13 (s : Ses) : List D := [.rsl true 8 ((trees s.base (s.dn ++ s.un)).map z0g), z20 (s.dn ++ s.un), .int .i64 s.dn.length]
theorem z2a (s : Ses) : pureD.pureL (z13 s) = true := by
 simp only [z13, pureD.pureL, z6x, pureD, z0r (f := z0g) z01, Bool.and_self]
def edO (s : Ses) : HObj := .box 74 (z13 s)
def z31 (s : Ses) : List D := z0a s.base ++ [z20 s.dn, z20 s.un.reverse]
theorem zbs (s : Ses) : pureD.pureL (z31 s) = true := by
 unfold z31
 rw [za2, z04]
 simp only [pureD.pureL, z6x, Bool.and_self]
def stO (s : Ses) : HObj := .box 61 (z31 s)
theorem z3u (s : Ses) : z31 s = [.int .i64 s.base.id.act, .int .i64 s.base.id.item, .int .i64 s.base.id.n, .int .i64 s.base.kind, .str s.base.label, z0n s.base.head, z0n s.base.words, z0q s.base.kids, z20 s.dn, z20 s.un.reverse] := by
 unfold z31; rw [z0k]; rfl
@[go_sem] theorem zc9 (s : Ses) : (z31 s).length = 10 := by rw [z3u]; rfl
@[go_sem] theorem cellsS_base (s : Ses) : List.take 8 (z31 s) = z0a s.base := by
 unfold z31
 rw [List.take_append_of_le_length (by rw [z0c]; decide), List.take_of_length_le (by rw [z0c]; decide)]
@[go_sem] theorem cellsS_dn (s : Ses) : (z31 s)[8]? = some (z20 s.dn) := by rw [z3u]; rfl
@[go_sem] theorem cellsS_un (s : Ses) : (z31 s)[9]? = some (z20 s.un.reverse) := by rw [z3u]; rfl
end
section
open Abs Facts Tr
attribute [local irreducible] awp
set_option maxRecDepth 100000
theorem z45 : ∀ t : T, szB t = true -> PC prog 40 [z0g t] (z0g t) := by
 refine z4x fun t ih hs => ?_
 obtain ⟨h0, h1, g1, h2, g2, h3, h4⟩ := (z2f t).1 hs
 have c1 := z8p t.head h1
 have c2 := z8p t.words h2
 have c3 := z8q t.kids h3
 refine z14 4 (by simp only [pureD.pureL, z01, Bool.and_self]) (z01 _) (z0z [3000006, 4000007, 3000009, 4000010, 3000026, 3000028, 5000029] func40 rfl (by decide +kernel) rfl ?_)
 show awp _ _ (Code.seq _ _) _ _
 rw [show Tryz.f40.results.toList = [.cell 2 27] from rfl]
 rw [z0g, z0k]
 repeat' (first | refine nxt ?_ | ((first | refine zqh fun K J => ?_ | refine zqe (by decide +kernel) fun K J => ?_ | refine z7v (c1) rfl rfl rfl ?_ | refine z7v (c2) rfl rfl rfl ?_ | refine z6n (c3) ?_); (simp (disch := omega) only [go_sem, Nat.reduceBEq, Nat.reduceEqDiff, ↓reduceIte, reduceCtorEq, Nat.reduceAdd, Nat.reduceLeDiff, Nat.reduceLT, zmr, zhz, List.set_cons_succ, List.set_cons_zero])) | (refine J _ ?_; clear J K))
 (refine z3c (fun U st => ∃ (i : _), U = t.kids.length - i /\ st.t 1 = .ptr 0 0 /\ st.t 2 = .ptr 1 0 /\ st.t 18 = .osl 4 t.kids.length /\ st.t 19 = .int .i64 t.kids.length /\ st.t 20 = .int .i64 i /\ st.H 0 = some (.box 27 (z83 t 2 3 4)) /\ st.H 1 = some (.box 27 z67) /\ st.H 2 = some (.row 50 t.head.length (t.head.flatMap z10)) /\ st.H 3 = some (.row 50 t.words.length (t.words.flatMap z10)) /\ st.H 4 = some (.row 27 t.kids.length (t.kids.flatMap z0a)) /\ (i <= t.kids.length) /\ (5 <= st.nx)) ?_ ?_); rotate_left; (rintro U st ⟨i, rfl, q1, q2, q18, q19, q20, qH0, qH1, qH2, qH3, qH4, qp0, qp1⟩); rotate_left
 ·(refine ⟨_, 0, rfl, ?_⟩); (simp (disch := omega) only [go_sem, Nat.reduceBEq, Nat.reduceLeDiff, and_self, Int.natCast_zero, z83, z67])
 by_cases hi : i < t.kids.length
 ·have hin := ih t.kids[i] (List.getElem_mem hi) (h4 _ (List.getElem_mem hi))
  have hld := zms t.kids hi
  have hst := ziu t.kids hi
  have hln := zgx t.kids
  repeat' (first | ((first | refine zqh fun K J => ?_ | refine zqr fun K J => ?_ | refine zqq (by decide +kernel) fun K J => ?_ | refine zqt (hin) ?_); (simp (disch := omega) only [go_sem, Nat.reduceBEq, Nat.reduceEqDiff, ↓reduceIte, reduceCtorEq, Nat.reduceAdd, Nat.reduceLeDiff, q1, q18, q19, q20, qH0, qH4, hld, hst, hln, z83])) | (refine zqd _ rfl ?_ ?_ <;> intro hc <;> (((try simp only [z07] at hc); (try omega)))) | refine nxt ?_ | (refine J _ ?_; clear J K))
  (refine Exists.intro _ (And.intro ?_ ⟨i + 1, rfl, ?_⟩)); rotate_left; (simp (disch := omega) only [go_sem, Nat.reduceBEq, Nat.reduceLeDiff, q1, q2, q18, q19, q20, qH0, qH1, qH2, qH3, qH4, true_and, Int.natCast_add, Int.natCast_one]); rotate_left
  all_goals omega
 ·repeat' (first | ((refine zqh fun K J => ?_); (simp (disch := omega) only [go_sem, Nat.reduceBEq, ↓reduceIte, Nat.reduceAdd, Nat.reduceLeDiff, q1, q2, q19, q20, qH0, qH1, z83, z67, List.set_cons_succ, List.set_cons_zero])) | (refine zqd _ rfl ?_ ?_ <;> intro hc <;> (((try simp only [z07] at hc); (try omega)))) | refine nxt ?_ | refine zqz ?_ | refine zqu (by (simp (disch := omega) only [go_sem, Nat.reduceBEq, ↓reduceIte, Nat.reduceAdd, Nat.reduceLeDiff, q2, qH1, z67]); rfl) rfl ?_ | (refine J _ ?_; clear J K))
  refine z3i (z4z (k := 3) ?_ ?_)
  ·simp [pureD.pureL, pureD]
  refine z00 (z02 2 rfl) (z00 (z02 2 rfl) (z00 (z02 2 rfl) (z00 (z02 2 rfl) (z00 (z02 2 rfl) (z00 ?_ (z00 ?_ (z00 ?_ z0d)))))))
  ·refine z16 (f := z10) (l := t.head) 1 rfl ?_ z5y z89 (fun _ => rfl) (fun _ => rfl)
   (simp (disch := omega) only [go_sem, Nat.reduceBEq, qH2])
  ·refine z16 (f := z10) (l := t.words) 1 rfl ?_ z5y z89 (fun _ => rfl) (fun _ => rfl)
   (simp (disch := omega) only [go_sem, Nat.reduceBEq, qH3])
  ·refine z16 (f := z0a) (l := t.kids) 1 rfl ?_ z0j z2s z0c z04
   (simp (disch := omega) only [go_sem, Nat.reduceBEq, qH4])
theorem zvf (l : List ByteArray) (hl : l.length <= 1000000000000) : PC prog 69 [z2j l] (z2j l) := by
  refine PC_nn (fun he => ?_) ?_
  · refine z14 2 rfl (z2k l) (z0z [1000005, 1000007] func69 rfl (by decide +kernel) rfl ?_)
    show awp _ _ (Code.seq _ _) _ _
    repeat' (first | refine nxt ?_ | ((refine zqh fun K J => ?_); (simp (disch := omega) only [go_sem, Nat.reduceBEq, ↓reduceIte])) | (refine zqd _ rfl ?_ ?_ <;> intro hc <;> (first | (cases hc; done) | ((try simp only [] at hc); (try omega)))) | refine zqu (by simp only [go_sem]; rfl) rfl ?_ | (refine J _ ?_; clear J K))
    exact z08 rfl (by have h2 : z2j l = .rsl false 1 [] := by unfold z2j; rw [he]
                      rw [h2]; exact Le.nil 1)
  · refine z14 2 (by simp only [pureD.pureL, pureD, z0r (f := D.str) (fun _ => rfl) l, Bool.and_self]) (z2k l) (z0z [1000005, 1000007] func69 rfl (by decide +kernel) rfl ?_)
    show awp _ _ (Code.seq _ _) _ _
    repeat' (first | refine nxt ?_ | ((refine zqh fun K J => ?_); (simp (disch := omega) only [go_sem, Nat.reduceBEq, ↓reduceIte, reduceCtorEq, Nat.reduceAdd, Nat.reduceLT])) | (refine zqd _ rfl ?_ ?_ <;> intro hc <;> (first | (cases hc; done) | ((try simp only [] at hc); (try omega)))) | refine zqu (by simp only [go_sem]; rfl) rfl ?_ | (refine J _ ?_; clear J K))
    all_goals first | exact z08 (z2k l) (Le.refl _)
theorem za0 (o : Deed) (hw : o.words.length <= 1000000) (hu : szB o.unit = true) : PC prog 42 [z39 o] (z39 o) := by
 have c1 := zvf o.words (by omega)
 have c2 := z45 o.unit hu
 refine z14 2 (by simp only [pureD.pureL, z3f, Bool.and_self]) (z3f o) (z0z [3000004, 5000005, 3000007, 5000008] func42 rfl (by decide +kernel) rfl ?_)
 show awp _ _ (Code.seq _ _) _ _
 rw [show Tryz.f42.results.toList = [.cell 2 32] from rfl]
 have hsw : (z1l o).set 8 (.rsl false 1 (o.words.map .str)) = z1l o := zns o
 repeat' (first | ((first | refine zqh fun K J => ?_ | refine zqe (by decide +kernel) fun K J => ?_ | refine zqt (c1) ?_ | refine zqt (c2) ?_); (simp (disch := omega) only [go_sem, Nat.reduceBEq, Nat.reduceEqDiff, ↓reduceIte, reduceCtorEq, Nat.reduceAdd, Nat.reduceLeDiff, Nat.reduceLT, z39, z0g, hsw, znt])) | refine nxt ?_ | refine zqu (by (simp (disch := omega) only [go_sem, Nat.reduceBEq, ↓reduceIte, Nat.reduceLeDiff]); rfl) rfl ?_ | (refine J _ ?_; clear J K))
 all_goals first | exact z08 (z3f o) (Le.refl _)
theorem pc_own (i : Idv) : PC prog 39 [z1a i] (.bool (zef i)) := by
 refine z14 1 rfl rfl (z0z [] func39 rfl (by decide +kernel) rfl ?_)
 show awp _ _ (Code.seq _ _) _ _
 repeat' (first | ((refine zqh fun K J => ?_); (simp (disch := omega) only [go_sem, Nat.reduceBEq, ↓reduceIte, reduceCtorEq, Nat.reduceAdd])) | refine nxt ?_ | refine zqu (by simp only [go_sem]; rfl) rfl ?_ | (refine J _ ?_; clear J K) | (refine zqf (fun hb => ?_) (fun hb => ?_) <;> (have hb2 := hb; try simp only [z07] at hb2) <;> ((first | have F := eq_false hb2 | have F := eq_true hb2); (simp (disch := omega) only [go_sem, Nat.reduceBEq, ↓reduceIte, reduceCtorEq, Nat.reduceAdd, F]); clear hb F; (try omega))))
 all_goals (refine z03 ?_; unfold zef; simp_all)
end
end Go.Proofs.YtlfohdkfpdkhhaaGreatDoor
namespace Go.Proofs.YtlfohdkfpdkhhaaGreatDoor.Lcs
variable {α : Type} [DecidableEq α]
theorem zkg : ∀ (n : Nat) (a b : List α), a.length + b.length <= n -> ∃ s : List α, s.Sublist a /\ s.Sublist b /\ s.length = len a b
 | _, [], b, _ => ⟨[], List.Sublist.refl _, List.nil_sublist _, rfl⟩
 | _, x :: xs, [], _ => ⟨[], List.nil_sublist _, List.Sublist.refl _, by rw [zyg]; rfl⟩
 | 0, x :: xs, y :: ys, h => by simp at h
 | n + 1, x :: xs, y :: ys, h => by
  simp only [List.length_cons] at h
  obtain ⟨s1, h1, h2, h3⟩ := zkg n xs (y :: ys) (by simp only [List.length_cons]; omega)
  obtain ⟨s2, g1, g2, g3⟩ := zkg n (x :: xs) ys (by simp only [List.length_cons]; omega)
  obtain ⟨s3, k1, k2, k3⟩ := zkg n xs ys (by omega)
  rw [zfm]
  split
  ·rename_i he
   subst he
   by_cases c1 : len xs ys + 1 <= max (len xs (x :: ys)) (len (x :: xs) ys)
   ·by_cases c2 : len (x :: xs) ys <= len xs (x :: ys)
    ·exact ⟨s1, h1.cons _, h2, by omega⟩
    ·exact ⟨s2, g1, g2.cons _, by omega⟩
   ·exact ⟨x :: s3, k1.cons_cons _, k2.cons_cons _, by simp only [List.length_cons]; omega⟩
  ·by_cases c2 : len (x :: xs) ys <= len xs (y :: ys)
   ·exact ⟨s1, h1.cons _, h2, by omega⟩
   ·exact ⟨s2, g1, g2.cons _, by omega⟩
theorem zkh : ∀ (n : Nat) (a b s : List α), a.length + b.length <= n -> s.Sublist a -> s.Sublist b -> s.length <= len a b
 | _, [], b, s, _, h1, _ => by have := List.Sublist.length_le h1; simp at this; simp [this]
 | _, x :: xs, [], s, _, _, h2 => by have := List.Sublist.length_le h2; simp at this; simp [this]
 | 0, x :: xs, y :: ys, s, h, _, _ => by simp at h
 | n + 1, x :: xs, y :: ys, s, h, h1, h2 => by
  simp only [List.length_cons] at h
  have hc := zfm x y xs ys
  cases h1 with
  | cons _ h1 =>
   have := zkh n xs (y :: ys) s (by simp only [List.length_cons]; omega) h1 h2
   rw [hc]; split <;> omega
  | cons_cons _ h1 =>
   rename_i s'
   cases h2 with
   | cons _ h2 =>
    have := zkh n (x :: xs) ys (x :: s') (by simp only [List.length_cons]; omega) (h1.cons_cons x) h2
    rw [hc]; split <;> omega
   | cons_cons _ h2 =>
    have := zkh n xs ys s' (by omega) h1 h2
    rw [hc, if_pos rfl]
    simp only [List.length_cons]; omega
theorem len_ge (a b s : List α) (h1 : s.Sublist a) (h2 : s.Sublist b) : s.length <= len a b := zkh _ a b s (Nat.le_refl _) h1 h2
theorem len_ex (a b : List α) : ∃ s : List α, s.Sublist a /\ s.Sublist b /\ s.length = len a b := zkg _ a b (Nat.le_refl _)
theorem len_comm (a b : List α) : len a b = len b a := by
 obtain ⟨s, h1, h2, h3⟩ := len_ex a b
 obtain ⟨t, k1, k2, k3⟩ := len_ex b a
 have := len_ge b a s h2 h1
 have := len_ge a b t k2 k1
 omega
theorem len_le2 (a b : List α) : len a b <= b.length := by rw [len_comm]; exact zkt b a
theorem zd0 (a b : List α) : ∀ n i k, (pairsF a b n i k).length = n
 | 0, _, _ => rfl
 | n + 1, i, k => by simp [pairsF, zd0 a b n]
theorem zmv (a b : List α) (ha : a.length <= 256) (hb : b.length <= 256) : (pairs a b).length = len a b := by
 unfold pairs
 rw [if_neg (by omega)]
 unfold pairsFrom
 rw [zd0]
 simp [at_]
theorem pairs_long (a b : List α) (h : 256 < a.length \/ 256 < b.length) : pairs a b = [] := by unfold pairs; rw [if_pos h]
theorem pairs_le (a b : List α) : (pairs a b).length <= 256 /\ (pairs a b).length <= a.length /\ (pairs a b).length <= b.length := by
 by_cases h : 256 < a.length \/ 256 < b.length
 ·rw [pairs_long a b h]; simp
 ·rw [zmv a b (by omega) (by omega)]
  have := zkt a b; have := len_le2 a b
  omega
end Go.Proofs.YtlfohdkfpdkhhaaGreatDoor.Lcs
namespace Go.Proofs.YtlfohdkfpdkhhaaGreatDoor
open _root_.Go.Proofs.Tryz
section
open Abs Facts Tr
attribute [local irreducible] awp
set_option maxRecDepth 100000
namespace Tr
def z9v (was : List Wd) (l : List ByteArray) (k : Nat) : List Wd := ((Lcs.pairs (was.map (·.text)) l).take k).foldl (putW was) (l.map fun s => ⟨s, Idv.zero⟩)
theorem zn5 (was : List Wd) (l : List ByteArray) (k : Nat) : (z9v was l k).map (·.text) = l :=
 zfy _ _ (fun p hp => zjm _ _ p (List.mem_of_mem_take hp)) (by rw [List.map_map]; exact List.map_id'' (fun _ => rfl) l)
theorem zd9 (was : List Wd) (l : List ByteArray) (k : Nat) : (z9v was l k).length = l.length := by
 have := congrArg List.length (zn5 was l k)
 rwa [List.length_map] at this
theorem zs4 (was : List Wd) (l : List ByteArray) : z9v was l (Lcs.pairs (was.map (·.text)) l).length = z9o was l := by
 unfold z9v z9o; rw [List.take_length]
theorem zn6 (was : List Wd) (l : List ByteArray) {k : Nat} (O : k < (Lcs.pairs (was.map (·.text)) l).length) :
  ∃ (h1 : (Lcs.pairs (was.map (·.text)) l)[k].1 < was.length) (h2 : (Lcs.pairs (was.map (·.text)) l)[k].2 < (z9v was l k).length),
   (z9v was l k)[(Lcs.pairs (was.map (·.text)) l)[k].2].text = was[(Lcs.pairs (was.map (·.text)) l)[k].1].text /\
   z9v was l (k + 1) = (z9v was l k).set (Lcs.pairs (was.map (·.text)) l)[k].2 was[(Lcs.pairs (was.map (·.text)) l)[k].1] := by
 obtain ⟨h1, h2, h3⟩ := zjm (was.map (·.text)) l _ (List.getElem_mem O)
 have h1' : (Lcs.pairs (was.map (·.text)) l)[k].1 < was.length := by simpa using h1
 refine ⟨h1', by rw [zd9]; exact h2, ?_, ?_⟩
 ·rw [List.getElem_map] at h3
  rw [h3]
  have : ∀ (q : List ByteArray) (e : (z9v was l k).map (·.text) = q) (i : Nat) (hi : i < (z9v was l k).length) (hq : i < q.length), (z9v was l k)[i].text = q[i] := by
   intro q e i hi hq; subst e; rw [List.getElem_map]
  exact this l (zn5 was l k) _ _ h2
 ·unfold z9v
  rw [List.take_succ_eq_append_getElem O, List.foldl_append, List.foldl_cons, List.foldl_nil]
  show putW was (z9v was l k) _ = (z9v was l k).set _ _
  generalize z9v was l k = out
  unfold putW
  rw [List.getElem?_eq_getElem h1']
end Tr
theorem zs5 (was : List Wd) (hwl : was.length <= 1000000) (l : List ByteArray) (hl : l.length <= 1000000) : PC prog 83 [z0n was, z2j l] (z0n (z9o was l)) := by
 refine z14 3 (by simp only [pureD.pureL, z0h, z2k, Bool.and_self]) (z0h _) (z0z [5, 8] func83 rfl (by decide +kernel) rfl ?_)
 show awp _ _ (Code.seq _ _) _ _
 repeat' (first | refine nxt ?_ | ((refine zqh fun K J => ?_); (simp (disch := omega) only [go_sem, Nat.reduceBEq, ↓reduceIte, z2j, z0n])) | (refine J _ ?_; clear J K))
 (refine z3c (fun U st => ∃ (i : _), U = was.length - i /\ st.t 0 = z0n was /\ st.t 1 = z2j l /\ st.t 5 = .osl 0 i /\ st.t 13 = z0n was /\ st.t 14 = .int .i64 was.length /\ st.t 15 = .int .i64 i /\ st.H 0 = some (.row 9 i ((was.take i).map fun w => D.str w.text)) /\ (i <= was.length) /\ (1 <= st.nx)) ?_ ?_); rotate_left; (rintro U st ⟨i, rfl, a0, a1, a5, a13, a14, a15, aH0, ap0, ap1⟩); rotate_left
 ·(refine ⟨_, 0, rfl, ?_⟩); (simp (disch := omega) only [go_sem, Nat.reduceBEq, Nat.reduceLeDiff, and_self, Int.natCast_zero, List.map_nil, z2j, z0n])
  all_goals first | omega
 by_cases hi : i < was.length
 ·repeat' (first | ((first | refine zqh fun K J => ?_ | refine zqr fun K J => ?_); (simp (disch := omega) only [go_sem, Nat.reduceBEq, ↓reduceIte, reduceCtorEq, Nat.reduceAdd, Nat.reduceLeDiff, Nat.reduceLT, a5, a13, a14, a15, aH0, z0n, z7q, z10])) | (refine zqd _ rfl ?_ ?_ <;> intro hc <;> (((try simp only [z07] at hc); (try omega)))) | refine nxt ?_ | (refine J _ ?_; clear J K))
  (refine Exists.intro _ (And.intro ?_ ⟨i + 1, rfl, ?_⟩)); rotate_left; (simp (disch := omega) only [go_sem, Nat.reduceBEq, Nat.reduceLeDiff, a0, a1, a5, a13, a14, a15, aH0, true_and, and_true, Int.natCast_add, Int.natCast_one, List.map_append, List.map_cons, List.map_nil, List.take_succ_eq_append_getElem hi]); rotate_left
  all_goals first | omega
 have hie : i = was.length := by omega
 subst hie
 rw [List.take_length] at aH0
 repeat' (first | ((refine zqh fun K J => ?_); (simp (disch := omega) only [go_sem, ↓reduceIte, a14, a15])) | (refine zqd _ rfl ?_ ?_ <;> intro hc <;> (((try simp only [z07] at hc); (try omega)))) | refine nxt ?_ | (refine J _ ?_; clear J K))
 have u0 : pureD.pureL (was.map fun w => D.str w.text) = true := z0r (fun _ => rfl) _
 refine zqz (zg0 _ (zg2 (P := prog) (id := 0) (by exact aH0) (by decide +kernel) u0) ?_)
 have v0 : z1i false 1 was.length (was.map fun w => D.str w.text) = (was.map (·.text)).map D.str := by
  rw [zbt (by simp), List.map_map]; rfl
 repeat' (first | refine nxt ?_ | ((refine zqh fun K J => ?_); (simp (disch := omega) only [go_sem, Nat.reduceBEq, ↓reduceIte, a1, z2j, v0])) | (refine J _ ?_; clear J K))
 (refine z3c (fun U st => ∃ (j : _) (r : _), U = l.length - j /\ st.t 0 = z0n was /\ st.t 1 = z2j l /\ st.t 5 = z2j (was.map (·.text)) /\ st.t 8 = .osl r j /\ st.t 25 = z2j l /\ st.t 26 = .int .i64 l.length /\ st.t 27 = .int .i64 j /\ st.H (r) = some (.row 50 j ((l.take j).flatMap fun s => z10 ⟨s, Idv.zero⟩)) /\ (j <= l.length) /\ (r < st.nx)) ?_ ?_); rotate_left; (rintro U st ⟨j, r, rfl, b0, b1, b5, b8, b25, b26, b27, bHr, bp0, bp1⟩); rotate_left
 ·(refine ⟨_, 0, st.nx, rfl, ?_⟩); (simp (disch := omega) only [go_sem, Nat.reduceBEq, a0, a1, a5, true_and, Int.natCast_zero, List.flatMap_nil, z2j, z0n, v0])
  all_goals first | omega
 by_cases hj : j < l.length
 ·repeat' (first | ((first | refine zqh fun K J => ?_ | refine zqr fun K J => ?_); (simp (disch := omega) only [go_sem, Nat.reduceBEq, ↓reduceIte, reduceCtorEq, Nat.reduceAdd, Nat.reduceMul, Nat.reduceLeDiff, b8, b25, b26, b27, bHr, z2j])) | (refine zqd _ rfl ?_ ?_ <;> intro hc <;> (((try simp only [z07] at hc); (try omega)))) | refine nxt ?_ | (refine J _ ?_; clear J K))
  (refine Exists.intro _ (And.intro ?_ ⟨j + 1, r, rfl, ?_⟩)); rotate_left; (simp (disch := omega) only [go_sem, Nat.reduceBEq, b0, b1, b5, b8, b25, b26, b27, bHr, true_and, Int.natCast_add, Int.natCast_one, List.flatMap_append, List.flatMap_cons, List.flatMap_nil, List.append_nil, List.take_succ_eq_append_getElem hj, z10, Idv.zero]); rotate_left
  all_goals first | omega | exact ⟨by omega, by omega⟩
 have hje : j = l.length := by omega
 subst hje
 have hout : ((l.take l.length).flatMap fun s => z10 ⟨s, Idv.zero⟩) = (z9v was l 0).flatMap z10 := by
  rw [List.take_length]
  unfold z9v
  rw [List.take_zero, List.foldl_nil, List.flatMap_map]
 rw [hout] at bHr
 have hps := Lcs.pairs_le (was.map (·.text)) l
 have c1 := pc15 (was.map (·.text)) l (by rw [List.length_map]; unfold maxLen; omega) (by unfold maxLen; omega)
 obtain ⟨ps, hpsd⟩ : ∃ ps, ps = Lcs.pairs (was.map (·.text)) l := ⟨_, rfl⟩
 rw [<- hpsd] at c1 hps
 rw [z2j, List.map_map] at c1
 repeat' (first | refine nxt ?_ | ((first | refine zqh fun K J => ?_ | refine zqs (c1) ?_); (simp (disch := omega) only [go_sem, Nat.reduceBEq, ↓reduceIte, Nat.reduceAdd, b1, b5, b26, b27])) | (refine zqd _ rfl ?_ ?_ <;> intro hc <;> (((try simp only [z07] at hc); (try omega)))) | refine zqz ?_ | (refine J _ ?_; clear J K))
 (refine z3c (fun U st => ∃ (k : _), U = ps.length - k /\ st.t 0 = z0n was /\ st.t 1 = z2j l /\ st.t 8 = .osl r l.length /\ st.t 39 = zut ps /\ st.t 40 = .int .i64 ps.length /\ st.t 41 = .int .i64 k /\ st.H (r) = some (.row 50 l.length ((z9v was l k).flatMap z10)) /\ (k <= ps.length) /\ (r < st.nx)) ?_ ?_); rotate_left; (rintro U st ⟨k, rfl, c0, c1, c8, c39, c40, c41, cHr, cp0, cp1⟩); rotate_left
 ·(refine ⟨_, 0, rfl, ?_⟩); (simp (disch := omega) only [go_sem, Nat.reduceBEq, b0, b1, b8, bHr, true_and, Int.natCast_zero, zut])
  all_goals first | omega
 by_cases O : k < ps.length
 ·obtain ⟨h1, h2, h3, h4⟩ : ∃ (h1 : ps[k].1 < was.length) (h2 : ps[k].2 < (z9v was l k).length), (z9v was l k)[ps[k].2].text = was[ps[k].1].text /\ z9v was l (k + 1) = (z9v was l k).set ps[k].2 was[ps[k].1] := by
   subst hpsd; exact zn6 was l O
  have hlen : ((z9v was l k).flatMap z10).length = l.length * 4 := by rw [z43 (f := z10) (sz := 4) (fun _ => rfl), zd9]
  have hol := zd9 was l k
  have hsp : z17 ((z9v was l k).flatMap z10) (ps[k].2 * 4 + 1) [.int .i64 was[ps[k].1].by_.act, .int .i64 was[ps[k].1].by_.item, .int .i64 was[ps[k].1].by_.n] = (z9v was l (k + 1)).flatMap z10 := by
   rw [h4]
   refine zc5 (f := z10) (sz := 4) (fun _ => rfl) h2 (by simp) ?_
   simp only [z10, z17, List.set_cons_succ, List.set_cons_zero, h3]
  have hsp2 : (((((z9v was l k).flatMap z10).set (ps[k].2 * 4 + 1) (.int .i64 was[ps[k].1].by_.act)).set (ps[k].2 * 4 + 1 + 1) (.int .i64 was[ps[k].1].by_.item)).set (ps[k].2 * 4 + 1 + 1 + 1) (.int .i64 was[ps[k].1].by_.n)) = (z9v was l (k + 1)).flatMap z10 := hsp
  clear hsp
  repeat' (first | ((first | refine zqh fun K J => ?_ | refine zqr fun K J => ?_ | refine zqq (by decide +kernel) fun K J => ?_); (simp (disch := omega) only [go_sem, Nat.reduceBEq, Nat.reduceEqDiff, ↓reduceIte, reduceCtorEq, Nat.reduceAdd, Nat.reduceLeDiff, c0, c8, c39, c40, c41, cHr, zut, zav, z0n, z7q, z10, hlen])) | (refine zqd _ rfl ?_ ?_ <;> intro hc <;> (((try simp only [z07] at hc); (try omega)))) | refine nxt ?_ | (refine J _ ?_; clear J K))
  (refine Exists.intro _ (And.intro ?_ ⟨k + 1, rfl, ?_⟩)); rotate_left; (simp (disch := omega) only [go_sem, Nat.reduceBEq, c0, c1, c8, c39, c40, c41, cHr, true_and, and_true, Int.natCast_add, Int.natCast_one, zut, hsp2]); rotate_left
  all_goals first | omega | exact ⟨by omega, by omega⟩
 ·have hke : k = ps.length := by omega
  subst hke
  rw [hpsd, zs4] at cHr
  repeat' (first | ((refine zqh fun K J => ?_); (simp (disch := omega) only [go_sem, Nat.reduceBEq, ↓reduceIte, c8, c40, c41])) | (refine zqd _ rfl ?_ ?_ <;> intro hc <;> (((try simp only [z07] at hc); (try omega)))) | refine nxt ?_ | refine zqz ?_ | refine zqu (by simp only [go_sem]; rfl) rfl ?_ | (refine J _ ?_; clear J K))
  refine z3i ?_
  have hln := z8j was l
  rw [<- hln] at cHr ⊢
  exact z1e 1 cHr z5y z89 (fun _ => rfl) (fun _ => rfl)
def objsN (u : T) (b : Bool) : List HObj := [.box 27 (z0a u), .box 4 [.bool b], .box 88 [.fn 56 [.ptr 1 0, .ptr 2 0]]]
theorem low_N (u : T) : Low 3 fun b H => ∀ j, j < 3 -> H j = (objsN u b)[j]? := zjt (objsN u) (fun _ => rfl) fun b o ho => by
 simp only [objsN, List.mem_cons, List.not_mem_nil, or_false] at ho
 rcases ho with rfl | rfl | rfl
 ·exact zed _ _
 ·rfl
 ·rfl
theorem zfq {α : Type} {f : α -> Bool} {l : List α} {i : Nat} (c : Bool) (h : i < l.length) : (c && (l.take i).all f && f l[i]) = (c && (l.take (i + 1)).all f) := by
 rw [List.take_succ_eq_append_getElem h, List.all_append, Bool.and_assoc]; simp
theorem zpr (u : T) : ∀ x : T, szB x = true -> ∀ b : Bool, Eff prog 56 [z0g x, .ptr 1 0, .ptr 2 0] 3 (fun b H => ∀ j, j < 3 -> H j = (objsN u b)[j]?) b (b && z23 x) (.tup []) := by
 refine z4x fun x ih hs b => ?_
 obtain ⟨h0, h1, g1, h2, g2, h3, h4⟩ := (z2f x).1 hs
 refine zce (low_N u) rfl fun H nx hlo hI => ?_
 have e0 : H 0 = some (.box 27 (z0a u)) := hI 0 (by omega)
 have e1 : H 1 = some (.box 4 [.bool b]) := hI 1 (by omega)
 have e2 : H 2 = some (.box 88 [.fn 56 [.ptr 1 0, .ptr 2 0]]) := hI 2 (by omega)
 have n0 : (0 == nx) = false := by simp; omega
 have n1 : (1 == nx) = false := by simp; omega
 have n2 : (2 == nx) = false := by simp; omega
 have m1 : (nx == 1) = false := by simp; omega
 have m2 : (nx == 2) = false := by simp; omega
 refine (z0z [] func56 rfl (by decide +kernel) rfl ?_)
 show awp _ _ (Code.seq _ _) _ _
 rw [zh4]
 have hcase : (b = false) \/ (b = true /\ x.kind = 0) \/ (b = true /\ ¬ x.kind = 0 /\ x.id = Idv.zero) \/ (b = true /\ ¬ x.kind = 0 /\ ¬ x.id = Idv.zero) := by
  by_cases h1 : x.kind = 0 <;> by_cases h2 : x.id = Idv.zero <;> cases b <;> simp [h1, h2]
 have hzz : x.id = Idv.zero ↔ (x.id.act = 0 /\ x.id.item = 0 /\ x.id.n = 0) := ⟨fun h => by rw [h]; exact ⟨rfl, rfl, rfl⟩, fun ⟨a, b, c⟩ => by
  cases hx : x.id with
  | mk p q r => rw [hx] at a b c; simp only at a b c; subst a; subst b; subst c; rfl⟩
 rcases hcase with rfl | ⟨rfl, O⟩ | ⟨rfl, O, hz⟩ | ⟨rfl, O, hz⟩
 ·have hcv : ∀ r : Bool, (false && ((decide (x.kind = 0) || decide (x.id ≠ Idv.zero)) && r)) = (false && r) := fun r => by rfl
  rw [hcv]
  repeat' (first | ((refine zqh fun K J => ?_); (simp (disch := omega) only [go_sem, Nat.reduceBEq, ↓reduceIte, reduceCtorEq, Nat.reduceAdd, Nat.reduceLeDiff, Nat.reduceLT, e1, n1, m1])) | refine nxt ?_ | (refine J _ ?_; clear J K))
  (refine z3c (fun U st => ∃ (i : _), U = x.kids.length - i /\ st.t 1 = .ptr 1 0 /\ st.t 2 = .ptr 2 0 /\ st.t 19 = z0q x.kids /\ st.t 20 = .int .i64 x.kids.length /\ st.t 21 = .int .i64 i /\ st.H 0 = some (.box 27 (z0a u)) /\ st.H 1 = some (.box 4 [.bool (false && (x.kids.take i).all z23)]) /\ st.H 2 = some (.box 88 [.fn 56 [.ptr 1 0, .ptr 2 0]]) /\ (i <= x.kids.length) /\ (nx < st.nx) /\ (∀ id, 3 <= id -> id < nx -> st.H id = H id)) ?_ ?_); rotate_left; (rintro U st ⟨i, rfl, q1, q2, q19, q20, q21, qH0, qH1, qH2, qp0, qp1, qp2⟩); rotate_left
  ·(refine ⟨_, 0, rfl, ?_⟩); (simp (disch := omega) only [go_sem, Nat.reduceBEq, true_and, Int.natCast_zero, z0q, e0, e1, e2, n0, n1, n2])
   first
    | exact ⟨Nat.lt_succ_self _, fun id h1 h2 => by simp (disch := omega) only [z1p]⟩
    | exact ⟨rfl, Nat.lt_succ_self _, fun id h1 h2 => by simp (disch := omega) only [z1p]⟩
  by_cases hi : i < x.kids.length
  ·repeat' (first | ((first | refine zqh fun K J => ?_ | refine zqr fun K J => ?_); (simp (disch := omega) only [go_sem, Nat.reduceBEq, ↓reduceIte, reduceCtorEq, Nat.reduceAdd, Nat.reduceLeDiff, q2, q19, q20, q21, qH2, z0q])) | (refine zqd _ rfl ?_ ?_ <;> intro hc <;> (((try simp only [z07] at hc); (try omega)))) | refine nxt ?_ | (refine J _ ?_; clear J K))
   refine z4h (ih x.kids[i] (List.getElem_mem hi) (h4 _ (List.getElem_mem hi)) (false && (x.kids.take i).all z23)) (by show 3 <= st.nx + 1; omega) (fun j hj => ?_) fun H2 hs2 hH2 => ?_
   ·have e : ∀ a b, z12 (z12 st.H st.nx a) st.nx b j = st.H j := fun a b => by unfold z12; rw [if_neg (by omega), if_neg (by omega)]
    refine (e _ _).trans ?_
    match j, hj with
    | 0, _ => exact qH0
    | 1, _ => exact qH1
    | 2, _ => exact qH2
   have k0 : H2 0 = some (.box 27 (z0a u)) := hs2 0 (by omega)
   have k1 : H2 1 = some (.box 4 [.bool (false && (x.kids.take i).all z23 && z23 x.kids[i])]) := hs2 1 (by omega)
   have k2 : H2 2 = some (.box 88 [.fn 56 [.ptr 1 0, .ptr 2 0]]) := hs2 2 (by omega)
   have kk : ∀ id, 3 <= id -> id < nx -> H2 id = H id := fun id a b => by
    have e := hH2 id a
    refine e.trans ?_
    refine Eq.trans ?_ (qp2 id a b)
    show z12 (z12 st.H st.nx _) st.nx _ id = _
    unfold z12; rw [if_neg (by omega), if_neg (by omega)]
   clear hH2
   (try (simp (disch := omega) only [go_sem])); repeat' (first | ((refine zqr fun K J => ?_); (simp (disch := omega) only [go_sem, Nat.reduceBEq, ↓reduceIte, q21])) | refine nxt ?_ | (refine J _ ?_; clear J K))
   (refine Exists.intro _ (And.intro ?_ ⟨i + 1, rfl, ?_⟩)); rotate_left; (simp (disch := omega) only [go_sem, Nat.reduceBEq, q1, q2, q19, q20, q21, true_and, Int.natCast_add, Int.natCast_one, k0, k1, k2]); rotate_left
   all_goals first | omega | exact ⟨by omega, kk⟩ | exact ⟨by rw [show ((x.kids.take i).all z23 && z23 x.kids[i]) = (x.kids.take (i + 1)).all z23 from by have h := zfq (f := z23) true hi; simpa using h], by omega, kk⟩
  ·have hie : i = x.kids.length := by omega
   subst hie
   rw [List.take_length] at qH1
   repeat' (first | ((refine zqh fun K J => ?_); (simp (disch := omega) only [go_sem, ↓reduceIte, q20, q21])) | (refine zqd _ rfl ?_ ?_ <;> intro hc <;> (((try simp only [z07] at hc); (try omega)))) | refine nxt ?_ | refine zqz ?_ | refine zqu (by simp only [go_sem]; rfl) rfl ?_ | (refine J _ ?_; clear J K))
   refine ⟨rfl, fun j hj => ?_, fun id a b => qp2 id a b⟩
   match j, hj with
   | 0, _ => exact qH0
   | 1, _ => exact qH1
   | 2, _ => exact qH2
 ·have hcv : ∀ r : Bool, (true && ((decide (x.kind = 0) || decide (x.id ≠ Idv.zero)) && r)) = (true && r) := fun r => by rw [decide_eq_true O]; rfl
  rw [hcv]
  repeat' (first | ((refine zqh fun K J => ?_); (simp (disch := omega) only [go_sem, Nat.reduceBEq, ↓reduceIte, reduceCtorEq, Nat.reduceAdd, Nat.reduceLeDiff, Nat.reduceLT, e1, n1, m1, O])) | refine nxt ?_ | (refine J _ ?_; clear J K))
  (refine z3c (fun U st => ∃ (i : _), U = x.kids.length - i /\ st.t 1 = .ptr 1 0 /\ st.t 2 = .ptr 2 0 /\ st.t 19 = z0q x.kids /\ st.t 20 = .int .i64 x.kids.length /\ st.t 21 = .int .i64 i /\ st.H 0 = some (.box 27 (z0a u)) /\ st.H 1 = some (.box 4 [.bool (true && (x.kids.take i).all z23)]) /\ st.H 2 = some (.box 88 [.fn 56 [.ptr 1 0, .ptr 2 0]]) /\ (i <= x.kids.length) /\ (nx < st.nx) /\ (∀ id, 3 <= id -> id < nx -> st.H id = H id)) ?_ ?_); rotate_left; (rintro U st ⟨i, rfl, q1, q2, q19, q20, q21, qH0, qH1, qH2, qp0, qp1, qp2⟩); rotate_left
  ·(refine ⟨_, 0, rfl, ?_⟩); (simp (disch := omega) only [go_sem, Nat.reduceBEq, true_and, Int.natCast_zero, z0q, e0, e1, e2, n0, n1, n2])
   first
    | exact ⟨Nat.lt_succ_self _, fun id h1 h2 => by simp (disch := omega) only [z1p]⟩
    | exact ⟨rfl, Nat.lt_succ_self _, fun id h1 h2 => by simp (disch := omega) only [z1p]⟩
  by_cases hi : i < x.kids.length
  ·repeat' (first | ((first | refine zqh fun K J => ?_ | refine zqr fun K J => ?_); (simp (disch := omega) only [go_sem, Nat.reduceBEq, ↓reduceIte, reduceCtorEq, Nat.reduceAdd, Nat.reduceLeDiff, q2, q19, q20, q21, qH2, z0q])) | (refine zqd _ rfl ?_ ?_ <;> intro hc <;> (((try simp only [z07] at hc); (try omega)))) | refine nxt ?_ | (refine J _ ?_; clear J K))
   refine z4h (ih x.kids[i] (List.getElem_mem hi) (h4 _ (List.getElem_mem hi)) (true && (x.kids.take i).all z23)) (by show 3 <= st.nx + 1; omega) (fun j hj => ?_) fun H2 hs2 hH2 => ?_
   ·have e : ∀ a b, z12 (z12 st.H st.nx a) st.nx b j = st.H j := fun a b => by unfold z12; rw [if_neg (by omega), if_neg (by omega)]
    refine (e _ _).trans ?_
    match j, hj with
    | 0, _ => exact qH0
    | 1, _ => exact qH1
    | 2, _ => exact qH2
   have k0 : H2 0 = some (.box 27 (z0a u)) := hs2 0 (by omega)
   have k1 : H2 1 = some (.box 4 [.bool (true && (x.kids.take i).all z23 && z23 x.kids[i])]) := hs2 1 (by omega)
   have k2 : H2 2 = some (.box 88 [.fn 56 [.ptr 1 0, .ptr 2 0]]) := hs2 2 (by omega)
   have kk : ∀ id, 3 <= id -> id < nx -> H2 id = H id := fun id a b => by
    have e := hH2 id a
    refine e.trans ?_
    refine Eq.trans ?_ (qp2 id a b)
    show z12 (z12 st.H st.nx _) st.nx _ id = _
    unfold z12; rw [if_neg (by omega), if_neg (by omega)]
   clear hH2
   (try (simp (disch := omega) only [go_sem])); repeat' (first | ((refine zqr fun K J => ?_); (simp (disch := omega) only [go_sem, Nat.reduceBEq, ↓reduceIte, q21])) | refine nxt ?_ | (refine J _ ?_; clear J K))
   (refine Exists.intro _ (And.intro ?_ ⟨i + 1, rfl, ?_⟩)); rotate_left; (simp (disch := omega) only [go_sem, Nat.reduceBEq, q1, q2, q19, q20, q21, true_and, Int.natCast_add, Int.natCast_one, k0, k1, k2]); rotate_left
   all_goals first | omega | exact ⟨by omega, kk⟩ | exact ⟨by rw [show ((x.kids.take i).all z23 && z23 x.kids[i]) = (x.kids.take (i + 1)).all z23 from by have h := zfq (f := z23) true hi; simpa using h], by omega, kk⟩
  ·have hie : i = x.kids.length := by omega
   subst hie
   rw [List.take_length] at qH1
   repeat' (first | ((refine zqh fun K J => ?_); (simp (disch := omega) only [go_sem, ↓reduceIte, q20, q21])) | (refine zqd _ rfl ?_ ?_ <;> intro hc <;> (((try simp only [z07] at hc); (try omega)))) | refine nxt ?_ | refine zqz ?_ | refine zqu (by simp only [go_sem]; rfl) rfl ?_ | (refine J _ ?_; clear J K))
   refine ⟨rfl, fun j hj => ?_, fun id a b => qp2 id a b⟩
   match j, hj with
   | 0, _ => exact qH0
   | 1, _ => exact qH1
   | 2, _ => exact qH2
 ·have hcv : ∀ r : Bool, (true && ((decide (x.kind = 0) || decide (x.id ≠ Idv.zero)) && r)) = (false && r) := fun r => by rw [decide_eq_false O, decide_eq_false (fun h => h hz)]; rfl
  rw [hcv]
  repeat' (first | ((refine zqh fun K J => ?_); (simp (disch := omega) only [go_sem, Nat.reduceBEq, ↓reduceIte, reduceCtorEq, Nat.reduceAdd, Nat.reduceLeDiff, Nat.reduceLT, e1, n1, m1, O, hz])) | refine nxt ?_ | (refine J _ ?_; clear J K))
  (refine z3c (fun U st => ∃ (i : _), U = x.kids.length - i /\ st.t 1 = .ptr 1 0 /\ st.t 2 = .ptr 2 0 /\ st.t 19 = z0q x.kids /\ st.t 20 = .int .i64 x.kids.length /\ st.t 21 = .int .i64 i /\ st.H 0 = some (.box 27 (z0a u)) /\ st.H 1 = some (.box 4 [.bool (false && (x.kids.take i).all z23)]) /\ st.H 2 = some (.box 88 [.fn 56 [.ptr 1 0, .ptr 2 0]]) /\ (i <= x.kids.length) /\ (nx < st.nx) /\ (∀ id, 3 <= id -> id < nx -> st.H id = H id)) ?_ ?_); rotate_left; (rintro U st ⟨i, rfl, q1, q2, q19, q20, q21, qH0, qH1, qH2, qp0, qp1, qp2⟩); rotate_left
  ·(refine ⟨_, 0, rfl, ?_⟩); (simp (disch := omega) only [go_sem, Nat.reduceBEq, true_and, Int.natCast_zero, z0q, e0, e1, e2, n0, n1, n2])
   first
    | exact ⟨Nat.lt_succ_self _, fun id h1 h2 => by simp (disch := omega) only [z1p]⟩
    | exact ⟨rfl, Nat.lt_succ_self _, fun id h1 h2 => by simp (disch := omega) only [z1p]⟩
  by_cases hi : i < x.kids.length
  ·repeat' (first | ((first | refine zqh fun K J => ?_ | refine zqr fun K J => ?_); (simp (disch := omega) only [go_sem, Nat.reduceBEq, ↓reduceIte, reduceCtorEq, Nat.reduceAdd, Nat.reduceLeDiff, q2, q19, q20, q21, qH2, z0q])) | (refine zqd _ rfl ?_ ?_ <;> intro hc <;> (((try simp only [z07] at hc); (try omega)))) | refine nxt ?_ | (refine J _ ?_; clear J K))
   refine z4h (ih x.kids[i] (List.getElem_mem hi) (h4 _ (List.getElem_mem hi)) (false && (x.kids.take i).all z23)) (by show 3 <= st.nx + 1; omega) (fun j hj => ?_) fun H2 hs2 hH2 => ?_
   ·have e : ∀ a b, z12 (z12 st.H st.nx a) st.nx b j = st.H j := fun a b => by unfold z12; rw [if_neg (by omega), if_neg (by omega)]
    refine (e _ _).trans ?_
    match j, hj with
    | 0, _ => exact qH0
    | 1, _ => exact qH1
    | 2, _ => exact qH2
   have k0 : H2 0 = some (.box 27 (z0a u)) := hs2 0 (by omega)
   have k1 : H2 1 = some (.box 4 [.bool (false && (x.kids.take i).all z23 && z23 x.kids[i])]) := hs2 1 (by omega)
   have k2 : H2 2 = some (.box 88 [.fn 56 [.ptr 1 0, .ptr 2 0]]) := hs2 2 (by omega)
   have kk : ∀ id, 3 <= id -> id < nx -> H2 id = H id := fun id a b => by
    have e := hH2 id a
    refine e.trans ?_
    refine Eq.trans ?_ (qp2 id a b)
    show z12 (z12 st.H st.nx _) st.nx _ id = _
    unfold z12; rw [if_neg (by omega), if_neg (by omega)]
   clear hH2
   (try (simp (disch := omega) only [go_sem])); repeat' (first | ((refine zqr fun K J => ?_); (simp (disch := omega) only [go_sem, Nat.reduceBEq, ↓reduceIte, q21])) | refine nxt ?_ | (refine J _ ?_; clear J K))
   (refine Exists.intro _ (And.intro ?_ ⟨i + 1, rfl, ?_⟩)); rotate_left; (simp (disch := omega) only [go_sem, Nat.reduceBEq, q1, q2, q19, q20, q21, true_and, Int.natCast_add, Int.natCast_one, k0, k1, k2]); rotate_left
   all_goals first | omega | exact ⟨by omega, kk⟩ | exact ⟨by rw [show ((x.kids.take i).all z23 && z23 x.kids[i]) = (x.kids.take (i + 1)).all z23 from by have h := zfq (f := z23) true hi; simpa using h], by omega, kk⟩
  ·have hie : i = x.kids.length := by omega
   subst hie
   rw [List.take_length] at qH1
   repeat' (first | ((refine zqh fun K J => ?_); (simp (disch := omega) only [go_sem, ↓reduceIte, q20, q21])) | (refine zqd _ rfl ?_ ?_ <;> intro hc <;> (((try simp only [z07] at hc); (try omega)))) | refine nxt ?_ | refine zqz ?_ | refine zqu (by simp only [go_sem]; rfl) rfl ?_ | (refine J _ ?_; clear J K))
   refine ⟨rfl, fun j hj => ?_, fun id a b => qp2 id a b⟩
   match j, hj with
   | 0, _ => exact qH0
   | 1, _ => exact qH1
   | 2, _ => exact qH2
 ·have hcv : ∀ r : Bool, (true && ((decide (x.kind = 0) || decide (x.id ≠ Idv.zero)) && r)) = (true && r) := fun r => by rw [decide_eq_true (p := x.id ≠ Idv.zero) hz, Bool.or_true]; rfl
  rw [hcv]
  repeat' (first | ((refine zqh fun K J => ?_); (simp (disch := omega) only [go_sem, Nat.reduceBEq, ↓reduceIte, reduceCtorEq, Nat.reduceAdd, Nat.reduceLeDiff, Nat.reduceLT, e1, n1, m1, O, hz])) | refine nxt ?_ | (refine J _ ?_; clear J K))
  (refine z3c (fun U st => ∃ (i : _), U = x.kids.length - i /\ st.t 1 = .ptr 1 0 /\ st.t 2 = .ptr 2 0 /\ st.t 19 = z0q x.kids /\ st.t 20 = .int .i64 x.kids.length /\ st.t 21 = .int .i64 i /\ st.H 0 = some (.box 27 (z0a u)) /\ st.H 1 = some (.box 4 [.bool (true && (x.kids.take i).all z23)]) /\ st.H 2 = some (.box 88 [.fn 56 [.ptr 1 0, .ptr 2 0]]) /\ (i <= x.kids.length) /\ (nx < st.nx) /\ (∀ id, 3 <= id -> id < nx -> st.H id = H id)) ?_ ?_); rotate_left; (rintro U st ⟨i, rfl, q1, q2, q19, q20, q21, qH0, qH1, qH2, qp0, qp1, qp2⟩); rotate_left
  ·(refine ⟨_, 0, rfl, ?_⟩); (simp (disch := omega) only [go_sem, Nat.reduceBEq, true_and, Int.natCast_zero, z0q, e0, e1, e2, n0, n1, n2])
   first
    | exact ⟨Nat.lt_succ_self _, fun id h1 h2 => by simp (disch := omega) only [z1p]⟩
    | exact ⟨rfl, Nat.lt_succ_self _, fun id h1 h2 => by simp (disch := omega) only [z1p]⟩
  by_cases hi : i < x.kids.length
  ·repeat' (first | ((first | refine zqh fun K J => ?_ | refine zqr fun K J => ?_); (simp (disch := omega) only [go_sem, Nat.reduceBEq, ↓reduceIte, reduceCtorEq, Nat.reduceAdd, Nat.reduceLeDiff, q2, q19, q20, q21, qH2, z0q])) | (refine zqd _ rfl ?_ ?_ <;> intro hc <;> (((try simp only [z07] at hc); (try omega)))) | refine nxt ?_ | (refine J _ ?_; clear J K))
   refine z4h (ih x.kids[i] (List.getElem_mem hi) (h4 _ (List.getElem_mem hi)) (true && (x.kids.take i).all z23)) (by show 3 <= st.nx + 1; omega) (fun j hj => ?_) fun H2 hs2 hH2 => ?_
   ·have e : ∀ a b, z12 (z12 st.H st.nx a) st.nx b j = st.H j := fun a b => by unfold z12; rw [if_neg (by omega), if_neg (by omega)]
    refine (e _ _).trans ?_
    match j, hj with
    | 0, _ => exact qH0
    | 1, _ => exact qH1
    | 2, _ => exact qH2
   have k0 : H2 0 = some (.box 27 (z0a u)) := hs2 0 (by omega)
   have k1 : H2 1 = some (.box 4 [.bool (true && (x.kids.take i).all z23 && z23 x.kids[i])]) := hs2 1 (by omega)
   have k2 : H2 2 = some (.box 88 [.fn 56 [.ptr 1 0, .ptr 2 0]]) := hs2 2 (by omega)
   have kk : ∀ id, 3 <= id -> id < nx -> H2 id = H id := fun id a b => by
    have e := hH2 id a
    refine e.trans ?_
    refine Eq.trans ?_ (qp2 id a b)
    show z12 (z12 st.H st.nx _) st.nx _ id = _
    unfold z12; rw [if_neg (by omega), if_neg (by omega)]
   clear hH2
   (try (simp (disch := omega) only [go_sem])); repeat' (first | ((refine zqr fun K J => ?_); (simp (disch := omega) only [go_sem, Nat.reduceBEq, ↓reduceIte, q21])) | refine nxt ?_ | (refine J _ ?_; clear J K))
   (refine Exists.intro _ (And.intro ?_ ⟨i + 1, rfl, ?_⟩)); rotate_left; (simp (disch := omega) only [go_sem, Nat.reduceBEq, q1, q2, q19, q20, q21, true_and, Int.natCast_add, Int.natCast_one, k0, k1, k2]); rotate_left
   all_goals first | omega | exact ⟨by omega, kk⟩ | exact ⟨by rw [show ((x.kids.take i).all z23 && z23 x.kids[i]) = (x.kids.take (i + 1)).all z23 from by have h := zfq (f := z23) true hi; simpa using h], by omega, kk⟩
  ·have hie : i = x.kids.length := by omega
   subst hie
   rw [List.take_length] at qH1
   repeat' (first | ((refine zqh fun K J => ?_); (simp (disch := omega) only [go_sem, ↓reduceIte, q20, q21])) | (refine zqd _ rfl ?_ ?_ <;> intro hc <;> (((try simp only [z07] at hc); (try omega)))) | refine nxt ?_ | refine zqz ?_ | refine zqu (by simp only [go_sem]; rfl) rfl ?_ | (refine J _ ?_; clear J K))
   refine ⟨rfl, fun j hj => ?_, fun id a b => qp2 id a b⟩
   match j, hj with
   | 0, _ => exact qH0
   | 1, _ => exact qH1
   | 2, _ => exact qH2
theorem zps (u : T) (hs : szB u = true) (hc : cntT u <= 1000000000) (V : depT u <= 1000000000) : PC prog 36 [z0g u] (.bool (standsT u)) := by
 have h2 := zkp u hs hc V
 rw [zah]
 refine z14 1 (by simp only [pureD.pureL, z01, Bool.and_self]) rfl (z0z [] func36 rfl (by decide +kernel) rfl ?_)
 show awp _ _ (Code.seq _ _) _ _
 repeat' (first | ((refine zqh fun K J => ?_); (simp (disch := omega) only [go_sem, Nat.reduceBEq, ↓reduceIte, Nat.reduceAdd, Nat.reduceLeDiff, Nat.reduceLT])) | (refine J _ ?_; clear J K))
 refine z4h (zpr u u hs true) (Nat.le_refl _) (fun j hj => ?_) fun H2 hs2 hH2 => ?_
 ·match j, hj with
  | 0, _ => rfl
  | 1, _ => rfl
  | 2, _ => rfl
 have k0 : H2 0 = some (.box 27 (z0a u)) := hs2 0 (by omega)
 have k1 : H2 1 = some (.box 4 [.bool (true && z23 u)]) := hs2 1 (by omega)
 rw [Bool.true_and] at k1
 (try (simp (disch := omega) only [go_sem])); repeat' (first | ((first | refine zqh fun K J => ?_ | refine zqs (h2) ?_); (simp (disch := omega) only [go_sem, Nat.reduceBEq, ↓reduceIte, Nat.reduceAdd, k1])) | refine nxt ?_ | refine zqu (by simp only [go_sem]; rfl) rfl ?_ | (refine J _ ?_; clear J K) | (refine zqf (fun hb => ?_) (fun hb => ?_) <;> (have hb2 := hb; try simp only [z07] at hb2) <;> ((have F : (_ : Bool) = _ := hb2); (simp (disch := omega) only [go_sem, Nat.reduceBEq, ↓reduceIte, Nat.reduceAdd, Nat.reduceLeDiff, hb, k0]); clear hb F; (try omega))))
 all_goals (refine z03 ?_; simp_all)
def zl6 (s : Ses) : D := .rptr (.agg (z13 s))
theorem z59 (s : Ses) : pureD (zl6 s) = true := by simp only [zl6, pureD, z2a]
def z6b (u : T) (o : Deed) (n : Nat) : D := .tup [z0g (if doE u o n = 0 then doT u o n else T.zero), .int .i64 (doE u o n)]
theorem z73 (u : T) (o : Deed) (n : Nat) : pureD (z6b u o n) = true := by simp only [z6b, pureD, pureD.pureL, z01, Bool.and_self]
theorem zam (s : Ses) : PC prog 44 [zl6 s] (z0g s.draft) := by
 have hlt : s.dn.length < (trees s.base (s.dn ++ s.un)).length := by rw [z7e, List.length_append]; omega
 have hg := zn3 s.base s.dn s.un hlt
 refine z14 2 (by simp only [pureD.pureL, z59, Bool.and_self]) (z01 _) (z0z [] func44 rfl (by decide +kernel) rfl ?_)
 show awp _ _ (Code.seq _ _) _ _
 rw [show Tryz.f44.results.toList = [.cell 2 27] from rfl]
 repeat' (first | ((first | refine zqh fun K J => ?_ | refine zqe (by decide +kernel) fun K J => ?_); (simp (disch := omega) only [go_sem, Nat.reduceBEq, ↓reduceIte, reduceCtorEq, Nat.reduceAdd, Nat.reduceLeDiff, zl6, z13, hg])) | refine nxt ?_ | refine zqu (by (simp (disch := omega) only [go_sem, Nat.reduceBEq, ↓reduceIte, Nat.reduceLeDiff]); rfl) rfl ?_ | (refine J _ ?_; clear J K))
 exact z08 (z01 _) (Le.refl _)
theorem zbf {t : T} (h : szB t = true) : t.head.length <= 1000000 /\ t.words.length <= 1000000 := by
 obtain ⟨_, h1, _, h2, _⟩ := (z2f t).1 h
 exact ⟨h1, h2⟩
theorem zpe (s : Ses) (hs : standsT s.draft = true) (o : Deed) (O : o.kind = 0) (hw : o.words.length <= 1000000) (hws : ∀ w ∈ o.words, w.size <= 1000000) :
  PC prog 63 [zl6 s, z39 o] (z6b s.draft o (z3a s.dn)) := by
 obtain ⟨z1, z2, z3⟩ := z21 hs
 have c0 := zam s
 have c1 := z7i s.draft (z8l _ z1) (by omega) o.id
 have hfs := zbf (z4p o.id s.draft z1)
 have c2 := zs5 (z06 o.id s.draft).1.words (by omega) o.words hw
 have hwd : z9o (z06 o.id s.draft).1.words o.words = z3h s.draft o := by unfold z3h; rw [O]; rfl
 have c3 := zp2 s.draft z1 (by omega) (by omega) o.id (z3h s.draft o) (by rw [<- hwd, z8j]; exact hw) (fun w hm => by
  have := z8z (n := 1000000) hws w (by rw [hwd]; exact hm)
  unfold maxLen; omega)
 rw [hwd] at c2
 have hr : z6b s.draft o (z3a s.dn) = .tup [z0g (if z2z s.draft o.id (z3h s.draft o) = 0 then z1g o.id (fun q => q.setWords (z3h s.draft o)) s.draft else T.zero), .int .i64 (z2z s.draft o.id (z3h s.draft o))] := by
  unfold z6b doE doT; rw [O]; rfl
 have hpr := z73 s.draft o (z3a s.dn)
 rw [hr]
 refine z14 3 (by simp only [pureD.pureL, z59, z3f, Bool.and_self]) (by rw [<- hr]; exact hpr) (z0z [8000000, 3000012, 5000010, 5000013, 5000017, 3000019, 3000021, 3000023, 5000024, 5000025] func63 rfl (by decide +kernel) rfl ?_)
 show awp _ _ (Code.seq _ _) _ _
 rw [show Tryz.f63.results.toList = [.cell 4 27, .tmp 5] from rfl]
 repeat' (first | ((first | refine zqh fun K J => ?_ | refine zqe (by decide +kernel) fun K J => ?_ | refine zqt (c0) ?_ | refine zqt (c1) ?_ | refine zqt (c2) ?_ | refine zqt (c3) ?_); (simp (disch := omega) only [go_sem, Nat.reduceBEq, Nat.reduceEqDiff, ↓reduceIte, reduceCtorEq, Nat.reduceAdd, Nat.reduceLeDiff, Nat.reduceLT, z39, z0g])) | refine nxt ?_ | refine zqu (by (simp (disch := omega) only [go_sem, Nat.reduceBEq, ↓reduceIte, Nat.reduceLeDiff]); rfl) rfl ?_ | (refine J _ ?_; clear J K))
 rw [hr] at hpr
 exact z08 hpr (Le.refl _)
theorem zuj (s : Ses) (hs : standsT s.draft = true) (o : Deed) (O : o.kind = 1) (hw : o.words.length <= 1000000) (hws : ∀ w ∈ o.words, w.size <= 1000000) :
  PC prog 64 [zl6 s, z39 o] (z6b s.draft o (z3a s.dn)) := by
 obtain ⟨z1, z2, z3⟩ := z21 hs
 have c0 := zam s
 have c1 := z7i s.draft (z8l _ z1) (by omega) o.id
 have hfs := zbf (z4p o.id s.draft z1)
 have c2 := zs5 (z06 o.id s.draft).1.head (by omega) o.words hw
 have hwd : z9o (z06 o.id s.draft).1.head o.words = z3h s.draft o := by unfold z3h; rw [O]; rfl
 have c3 := zkj s.draft z1 (by omega) (by omega) o.id (z3h s.draft o) (by rw [<- hwd, z8j]; exact hw) (fun w hm => by
  have := z8z (n := 1000000) hws w (by rw [hwd]; exact hm)
  unfold maxLen; omega)
 rw [hwd] at c2
 have hr : z6b s.draft o (z3a s.dn) = .tup [z0g (if z2z s.draft o.id (z3h s.draft o) = 0 then z1g o.id (fun q => q.setHead (z3h s.draft o)) s.draft else T.zero), .int .i64 (z2z s.draft o.id (z3h s.draft o))] := by
  unfold z6b doE doT; rw [O]; rfl
 have hpr := z73 s.draft o (z3a s.dn)
 rw [hr]
 refine z14 3 (by simp only [pureD.pureL, z59, z3f, Bool.and_self]) (by rw [<- hr]; exact hpr) (z0z [8000000, 3000012, 5000010, 5000013, 5000017, 3000019, 3000021, 3000023, 5000024, 5000025] func64 rfl (by decide +kernel) rfl ?_)
 show awp _ _ (Code.seq _ _) _ _
 rw [show Tryz.f64.results.toList = [.cell 4 27, .tmp 5] from rfl]
 repeat' (first | ((first | refine zqh fun K J => ?_ | refine zqe (by decide +kernel) fun K J => ?_ | refine zqt (c0) ?_ | refine zqt (c1) ?_ | refine zqt (c2) ?_ | refine zqt (c3) ?_); (simp (disch := omega) only [go_sem, Nat.reduceBEq, Nat.reduceEqDiff, ↓reduceIte, reduceCtorEq, Nat.reduceAdd, Nat.reduceLeDiff, Nat.reduceLT, z39, z0g])) | refine nxt ?_ | refine zqu (by (simp (disch := omega) only [go_sem, Nat.reduceBEq, ↓reduceIte, Nat.reduceLeDiff]); rfl) rfl ?_ | (refine J _ ?_; clear J K))
 rw [hr] at hpr
 exact z08 hpr (Le.refl _)
theorem zpf (s : Ses) (hs : standsT s.draft = true) (o : Deed) (O : o.kind = 2) (hw : o.label.size <= 1000000) :
  PC prog 65 [zl6 s, z39 o] (z6b s.draft o (z3a s.dn)) := by
 obtain ⟨z1, z2, z3⟩ := z21 hs
 have c0 := zam s
 have c1 := ztb s.draft z1 (by omega) (by omega) o.id o.label hw
 have hr : z6b s.draft o (z3a s.dn) = .tup [z0g (if zby s.draft o.id o.label = 0 then z1g o.id (fun q => q.setLabel o.label) s.draft else T.zero), .int .i64 (zby s.draft o.id o.label)] := by
  unfold z6b doE doT; rw [O]; rfl
 have hpr := z73 s.draft o (z3a s.dn)
 rw [hr]
 refine z14 3 (by simp only [pureD.pureL, z59, z3f, Bool.and_self]) (by rw [<- hr]; exact hpr) (z0z [5000007, 3000009, 3000011, 5000012] func65 rfl (by decide +kernel) rfl ?_)
 show awp _ _ (Code.seq _ _) _ _
 rw [show Tryz.f65.results.toList = [.cell 4 27, .tmp 5] from rfl]
 repeat' (first | ((first | refine zqh fun K J => ?_ | refine zqe (by decide +kernel) fun K J => ?_ | refine zqt (c0) ?_ | refine zqt (c1) ?_); (simp (disch := omega) only [go_sem, Nat.reduceBEq, Nat.reduceEqDiff, ↓reduceIte, reduceCtorEq, Nat.reduceAdd, Nat.reduceLeDiff, z39, z0g])) | refine nxt ?_ | refine zqu (by (simp (disch := omega) only [go_sem, Nat.reduceBEq, ↓reduceIte, Nat.reduceLeDiff]); rfl) rfl ?_ | (refine J _ ?_; clear J K))
 rw [hr] at hpr
 exact z08 hpr (Le.refl _)
theorem zuk (s : Ses) (hs : standsT s.draft = true) (o : Deed) (O : o.kind = 5) :
  PC prog 68 [zl6 s, z39 o] (z6b s.draft o (z3a s.dn)) := by
 obtain ⟨z1, z2, z3⟩ := z21 hs
 have c0 := zam s
 have c1 := pc_Move s.draft z1 (by omega) (by omega) o.id o.parent o.at_
 have hr : z6b s.draft o (z3a s.dn) = .tup [z0g (if z4a s.draft o.id o.parent o.at_ = 0 then z1g o.parent (z7r o.at_.toNat (z06 o.id s.draft).1) (z0o o.id s.draft) else T.zero), .int .i64 (z4a s.draft o.id o.parent o.at_)] := by
  unfold z6b doE doT; rw [O]; rfl
 have hpr := z73 s.draft o (z3a s.dn)
 rw [hr]
 refine z14 3 (by simp only [pureD.pureL, z59, z3f, Bool.and_self]) (by rw [<- hr]; exact hpr) (z0z [5000007, 3000009, 3000011, 3000013, 5000014] func68 rfl (by decide +kernel) rfl ?_)
 show awp _ _ (Code.seq _ _) _ _
 rw [show Tryz.f68.results.toList = [.cell 4 27, .tmp 5] from rfl]
 repeat' (first | ((first | refine zqh fun K J => ?_ | refine zqe (by decide +kernel) fun K J => ?_ | refine zqt (c0) ?_ | refine zqt (c1) ?_); (simp (disch := omega) only [go_sem, Nat.reduceBEq, Nat.reduceEqDiff, ↓reduceIte, reduceCtorEq, Nat.reduceAdd, Nat.reduceLeDiff, z39, z0g])) | refine nxt ?_ | refine zqu (by (simp (disch := omega) only [go_sem, Nat.reduceBEq, ↓reduceIte, Nat.reduceLeDiff]); rfl) rfl ?_ | (refine J _ ?_; clear J K))
 rw [hr] at hpr
 exact z08 hpr (Le.refl _)
end
end Go.Proofs.YtlfohdkfpdkhhaaGreatDoor
namespace Go.Proofs.YtlfohdkfpdkhhaaGreatDoor.Abs
open Go.RowKit
variable {P : Program}
def hiH (n : Nat) (H : HM) : HM := fun id => if n <= id then H id else none
theorem zzd {n id : Nat} {H : HM} (h : n <= id) : hiH n H id = H id := if_pos h
theorem zze {s : RS} {w : World} (h : RH P s w) (H' : HM) (V : ∀ id, H' id = s.H id \/ H' id = none) : RH P { s with H := H' } w := by
 have hl : Later s { s with H := H' } := ⟨Nat.le_refl _, fun _ _ h => h, fun id _ => by
  rcases V id with e | e
  ·show objLe (s.H id) (H' id) _ _
   rw [e]; exact objLe.refl _ _
  ·show objLe (s.H id) (H' id) _ _
   rw [e]
   unfold objLe
   cases s.H id with
   | none => rfl
   | some o => cases o <;> exact .inl rfl⟩
 have ho : ∀ k, owned { s with H := H' } k -> owned s k := by
  rintro k ⟨id, hid, hH, hb⟩
  rcases V id with e | e
  ·exact ⟨id, hid, by rw [<- e]; exact hH, hb⟩
  ·exact (hH e).elim
 refine ⟨fun a u hm => ⟨(h.mem a u hm).1, fun O => (h.mem a u hm).2 (ho _ O)⟩, fun id o hido => ?_, fun i j hi hj hij hb => ?_, fun g => rel.later hl _ _ (h.glob g)⟩
 ·have hido : H' id = some o := hido
  rcases V id with e | e
  ·rw [e] at hido
   obtain ⟨h1, h2⟩ := h.obj id o hido
   exact ⟨h1, h2.mono hl fun b _ => rfl⟩
  ·rw [e] at hido; cases hido
 ·have hi' : s.H i ≠ none := by
   rcases V i with e | e
   ·rw [<- e]; exact hi
   ·exact (hi e).elim
  have hj' : s.H j ≠ none := by
   rcases V j with e | e
   ·rw [<- e]; exact hj
   ·exact (hj e).elim
  exact h.apart i j hi' hj' hij hb
noncomputable def finS (s : RS) (w : World) (n : Nat) : RS :=
 {m := (RS.shut { s with H := hiH n s.H } w).m, κ := s.κ, H := zuv n s.H, nx := n }
theorem zsd {f : FuncId} {ds : List D} {H : HM} {nx k : Nat} {r : D} {KK : HM -> Prop} (hr : pureD r = true) (h : AC P f ds H nx fun r' H' _ => (∃ d, z2p P (hiH nx H') k r' = some d /\ Le d r) /\ KK H')
  (O : ∀ H', KK H' -> ∀ id o, id < nx -> H' id = some o -> H id = some o \/ lowO nx o = true) :
  AC P f ds H nx fun r' H2 nx2 => r' = r /\ nx2 = nx /\ ∃ H', KK H' /\ H2 = zuv nx H' := by
 refine ⟨h.1, fun s w vs h1 h2 h3 h4 => (h.2 s w vs h1 h2 h3 h4).mono fun e w' ⟨v, r', s', he, ⟨⟨d, V, hle⟩, J⟩, hstep, hRH, hrel⟩ => ?_⟩
 subst h1; subst h2
 have hlow := O _ J
 let s1 : RS := { s' with H := hiH s.nx s'.H }
 have hl1 : Later s' s1 := ⟨Nat.le_refl _, fun _ _ h => h, fun id _ => by
  show objLe (s'.H id) (hiH s.nx s'.H id) _ _
  unfold hiH
  split
  ·exact objLe.refl _ _
  ·unfold objLe
   cases s'.H id with
   | none => rfl
   | some o => cases o <;> exact .inl rfl⟩
 have hRH1 : RH P s1 w' := zze hRH _ fun id => by
  unfold hiH; split
  ·exact .inl rfl
  ·exact .inr rfl
 obtain ⟨hst1, hRH2⟩ := zba hRH1
 have hrel1 : rel s1 r' v := rel.later hl1 _ _ hrel
 have hd2 : rel (s1.shut w') d v := ze5 hRH1 k r' v d hrel1 V
 have hr2 : rel (s1.shut w') r v := hle _ _ hd2
 let s2 : RS := finS s' w' s.nx
 have hm2 : ∀ a u, s'.m a = some u -> s2.m a = some u := fun a u hm => hst1.mem a u hm
 have hH : ∀ id, id < s.nx -> s2.H id = s'.H id /\ s2.κ id = s'.κ id := fun id hid => ⟨if_pos hid, rfl⟩
 have hown : ∀ k, owned s2 k -> ∃ id, id < s.nx /\ s'.H id ≠ none /\ blockOf (s'.κ id) = some k := fun k ⟨id, hid, h5, h6⟩ => by
  have hid : id < s.nx := hid
  rw [(hH id hid).1] at h5
  exact ⟨id, hid, h5, h6⟩
 have hown' : ∀ k, owned s2 k -> owned s' k := fun k hk2 => by
  obtain ⟨id, hid, h5, h6⟩ := hown k hk2
  exact ⟨id, Nat.lt_of_lt_of_le hid hstep.nx, h5, h6⟩
 -- memory: what was read, and the objects of the callee's own
 have hmem : ∀ a u, s2.m a = some u -> (s'.m a = some u) \/ (w'.cell? a = some u /\ ∃ id, s.nx <= id /\ s'.H id ≠ none /\ blockOf (s'.κ id) = some a.block) := by
  intro a u hu
  have hu : (s1.shut w').m a = some u := hu
  simp only [RS.shut] at hu
  split at hu
  ·rename_i ho
   obtain ⟨id, hid, h5, h6⟩ := ho
   have h5 : hiH s.nx s'.H id ≠ none := h5
   unfold hiH at h5
   split at h5
   ·rename_i hge
    exact .inr ⟨hu, id, hge, h5, h6⟩
   ·exact (h5 rfl).elim
  ·exact .inl hu
 have hcut : ∀ (d : D) (v : Value), lowD s.nx d = true -> rel s' d v -> rel s2 d v := zjs (s := s') (s' := s2) hm2 (Nat.le_refl _) hH
 refine ⟨v, r, s2, he, ⟨rfl, rfl, s'.H, J, rfl⟩, ?_, ?_, z1y (s := s1.shut w') (s' := s2) (fun _ _ h => h) _ _ hr hr2⟩
 ·refine ⟨hstep.os, hstep.tape, hstep.output, hstep.size, Nat.le_refl _, fun a u hm => hm2 a u (hstep.mem a u hm), fun a u hu => ?_, fun id hid => by rw [(hH id hid).1]; exact hstep.objs id hid, hstep.keep, fun k hk' => hstep.own k (hown' k hk')⟩
  rcases hmem a u hu with h5 | ⟨_, id, hge, h6, h7⟩
  ·exact hstep.new a u h5
  ·rcases hstep.own a.block ⟨id, hRH.fresh h6, h6, h7⟩ with h8 | h8
   ·exact .inr (.inr h8)
   ·exact .inr (.inl h8)
 ·refine ⟨fun a u hu => ?_, fun id o ho => ?_, fun i j hi hj hij hb => ?_, fun g => ?_⟩
  ·rcases hmem a u hu with h5 | ⟨h5, id, hge, h6, h7⟩
   ·exact ⟨(hRH.mem a u h5).1, fun ho => (hRH.mem a u h5).2 (hown' _ ho)⟩
   ·refine ⟨h5, fun ho => ?_⟩
    obtain ⟨j, hj, h8, h9⟩ := hown _ ho
    exact hRH.apart j id h8 h6 (by omega) (by rw [h9]; simp) (by rw [h9, h7])
  ·have hid : id < s.nx := by
    rcases Nat.lt_or_ge id s.nx with h9 | h9
    ·exact h9
    ·have : s2.H id = none := if_neg (by omega)
     rw [this] at ho; cases ho
   rw [(hH id hid).1] at ho
   refine ⟨hid, zlm (s := s') (s' := s2) (n := s.nx) hm2 (Nat.le_refl _) hH ?_ (hRH.obj id o ho).2⟩
   rcases hlow id o hid ho with h9 | h9
   ·exact zll (s := s) (h3.obj id o h9).2
   ·exact h9
  ·have lt : ∀ i, s2.H i ≠ none -> i < s.nx /\ s'.H i ≠ none := fun i hi => by
    rcases Nat.lt_or_ge i s.nx with h9 | h9
    ·exact ⟨h9, by rw [<- (hH i h9).1]; exact hi⟩
    ·exact (hi (if_neg (by omega))).elim
   exact hRH.apart i j (lt i hi).2 (lt j hj).2 hij hb
  ·exact hcut _ _ (zcd _ _ (z4t g)) (hRH.glob g)
theorem RC_fin {f : FuncId} {ds : List D} {H : HM} {nx k : Nat} {r : D} (hr : pureD r = true)
  (h : AC P f ds H nx fun r' H' _ => (∃ d, z2p P (hiH nx H') k r' = some d /\ Le d r) /\ ∀ id, id < nx -> H' id = H id) : RC P f ds H nx r := by
 have h1 := zsd hr h (fun H' O id o hid ho => .inl (by rw [<- O id hid]; exact ho))
 refine ⟨h1.1, fun s w vs e1 e2 e3 e4 => (h1.2 s w vs e1 e2 e3 e4).mono fun e w' ⟨v, r1, s1, he, ⟨hr', hnx, H', O, hcut⟩, hstep, hRH, hrel⟩ => ⟨v, r1, s1, he, ⟨hr', ?_, hnx⟩, hstep, hRH, hrel⟩⟩
 subst e1; subst e2
 rw [hcut]; exact cut_keep e3 O
theorem cut_upd {s : RS} {w : World} (hRH : RH P s w) {H' : HM} {i : Nat} {o' : HObj} (hi : i < s.nx) (hu : H' i = some o') (O : ∀ id, id < s.nx -> id ≠ i -> H' id = s.H id) : zuv s.nx H' = z12 s.H i (some o') := by
 funext id
 unfold zuv z12
 by_cases e : id = i
 ·subst e; rw [if_pos hi, if_pos rfl]; exact hu
 ·rw [if_neg e]
  split
  ·rename_i hlt; exact O id hlt e
  ·rename_i hlt
   cases hH : s.H id with
   | none => rfl
   | some o => have := (hRH.obj id o hH).1; omega
theorem zhm {f : FuncId} {ds : List D} {k i : Nat} {r : D} {o o' : HObj} (hr : pureD r = true) (ho : ∀ n, i < n -> lowO n o' = true)
  (h : ∀ H nx, i < nx -> H i = some o -> AC P f ds H nx fun r' H' _ => (∃ d, z2p P (hiH nx H') k r' = some d /\ Le d r) /\ (H' i = some o' /\ ∀ id, id < nx -> id ≠ i -> H' id = H id)) : TC P f ds i o o' r := by
 intro H nx hi hH
 have h1 := zsd hr (h H nx hi hH) (fun H' ⟨hu, O⟩ id o1 hid ho2 => by
  by_cases e : id = i
  ·subst e; rw [hu] at ho2; cases ho2; exact .inr (ho _ hi)
  ·exact .inl (by rw [<- O id hid e]; exact ho2))
 refine ⟨h1.1, fun s w vs e1 e2 e3 e4 => (h1.2 s w vs e1 e2 e3 e4).mono fun e w' ⟨v, r1, s1, he, ⟨hr', hnx, H', ⟨hu, O⟩, hcut⟩, hstep, hRH, hrel⟩ => ⟨v, r1, s1, he, ⟨hr', ?_, hnx⟩, hstep, hRH, hrel⟩⟩
 subst e1; subst e2
 rw [hcut]; exact cut_upd e3 hi hu O
theorem nx_facts {nx : Nat} (h : 3 < nx + 1) : (nx == nx + 1) = false /\ (nx == nx + 2) = false /\ (nx == nx + 3) = false /\ (nx + 1 == nx) = false /\ (nx + 2 == nx) = false /\ (nx + 3 == nx) = false /\ (nx + 1 == nx + 2) = false /\ (nx + 2 == nx + 1) = false /\ (nx + 1 == nx + 3) = false /\ (nx + 3 == nx + 1) = false /\ (nx + 2 == nx + 3) = false /\ (nx + 3 == nx + 2) = false /\
  (2 == nx) = false /\ (nx == 2) = false /\ (1 == nx) = false /\ (nx == 1) = false /\ (0 == nx) = false /\ (nx == 0) = false := by
 have key : ∀ a b : Nat, ¬ a = b -> (a == b) = false := fun a b h => by simpa using h
 exact ⟨key _ _ (by omega), key _ _ (by omega), key _ _ (by omega), key _ _ (by omega), key _ _ (by omega), key _ _ (by omega), key _ _ (by omega), key _ _ (by omega), key _ _ (by omega), key _ _ (by omega), key _ _ (by omega), key _ _ (by omega), key _ _ (by omega), key _ _ (by omega), key _ _ (by omega), key _ _ (by omega), key _ _ (by omega), key _ _ (by omega)⟩
end Go.Proofs.YtlfohdkfpdkhhaaGreatDoor.Abs
namespace Go.Proofs.YtlfohdkfpdkhhaaGreatDoor
open _root_.Go.Proofs.Tryz
section
open Abs Facts Tr
attribute [local irreducible] awp
set_option maxRecDepth 100000
namespace Tr
def zpn (t : T) (n i : Nat) : List T := (z2b ((t.kids.take i).map z27) (n + 1)).1 ++ t.kids.drop i
def z9w (t : T) (n i : Nat) : Nat := (z2b ((t.kids.take i).map z27) (n + 1)).2
theorem zl3 (t : T) (n i : Nat) (hi : i <= t.kids.length) : (z2b ((t.kids.take i).map z27) (n + 1)).1.length = i := by
 rw [zaz, List.length_map, List.length_take]; omega
theorem rowN_len (t : T) (n i : Nat) (hi : i <= t.kids.length) : (zpn t n i).length = t.kids.length := by
 unfold zpn
 rw [List.length_append, zl3 t n i hi, List.length_drop]; omega
theorem rowN_get (t : T) (n i : Nat) (hi : i < t.kids.length) (h : i < (zpn t n i).length) : (zpn t n i)[i] = t.kids[i] := by
 have hp := zl3 t n i (by omega)
 have key : ∀ (a b : List T) (hb : i < (a ++ b).length), a.length = i -> (h0 : 0 < b.length) -> (a ++ b)[i] = b[0] := by
  intro a b hb ha h0
  subst ha
  rw [List.getElem_append_right (Nat.le_refl _)]; simp
 have h' : i < ((z2b ((t.kids.take i).map z27) (n + 1)).1 ++ t.kids.drop i).length := h
 show ((z2b ((t.kids.take i).map z27) (n + 1)).1 ++ t.kids.drop i)[i] = _
 refine (key _ _ h' hp (by rw [List.length_drop]; omega)).trans ?_
 rw [List.getElem_drop]; simp
theorem zej (t : T) (n i : Nat) (hi : i < t.kids.length) : z2b ((t.kids.take (i + 1)).map z27) (n + 1) = ((z2b ((t.kids.take i).map z27) (n + 1)).1 ++ [(z27 t.kids[i] (z9w t n i)).1], (z27 t.kids[i] (z9w t n i)).2) := by
 rw [List.take_succ_eq_append_getElem hi, List.map_append, List.map_cons, List.map_nil, znw]; rfl
theorem zzf (t : T) (n i : Nat) (hi : i < t.kids.length) : (zpn t n i).set i (z27 t.kids[i] (z9w t n i)).1 = zpn t n (i + 1) := by
 have hp := zl3 t n i (by omega)
 unfold zpn
 rw [zej t n i hi]
 simp only
 rw [List.set_append_right _ _ (by omega), hp, Nat.sub_self, List.drop_eq_getElem_cons hi, List.set_cons_zero, List.append_assoc]; rfl
theorem zek (t : T) (n i : Nat) (hi : i < t.kids.length) : z9w t n (i + 1) = (z27 t.kids[i] (z9w t n i)).2 := by
 unfold z9w; rw [zej t n i hi]; rfl
theorem nextN_eq {t : T} (hs : szB t = true) (n : Nat) : ∀ i, i <= t.kids.length -> z9w t n i = n + 1 + ((t.kids.take i).map cntT).sum := by
 intro i
 induction i with
 | zero => intro _; rfl
 | succ i ih =>
  intro hi
  rw [zek t n i (by omega), (zdr _ ((z9g hs).2 _ (List.getElem_mem _)) _).2.2.2, ih (by omega), List.take_succ_eq_append_getElem (by omega), List.map_append, List.sum_append]
  simp; omega
theorem zse {t : T} (hs : szB t = true) (n : Nat) {i : Nat} (hi : i < t.kids.length) : z9w t n i + cntT t.kids[i] <= n + cntT t := by
 rw [nextN_eq hs n i (by omega)]
 have hct := z8b t
 rw [zff] at hct
 have h : t.kids = t.kids.take i ++ t.kids[i] :: t.kids.drop (i + 1) := by rw [List.getElem_cons_drop, List.take_append_drop]
 have h2 : (t.kids.map cntT).sum = ((t.kids.take i).map cntT).sum + (cntT t.kids[i] + ((t.kids.drop (i + 1)).map cntT).sum) := by
  conv => lhs; rw [h]
  rw [List.map_append, List.sum_append, List.map_cons, List.sum_cons]
 omega
def zat (t : T) (n c : Nat) : List D := [.int .i64 0, .int .i64 0, .int .i64 (n : Nat), .int .i64 t.kind, .str t.label, z0n t.head, z0n t.words, .osl c t.kids.length]
end Tr
theorem tc_named : ∀ t : T, szB t = true -> ∀ n : Nat, n + cntT t <= 1000000000 ->
  TC prog 88 [z0g t, .ptr 2 0] 2 (.box 3 [.int .i64 (n : Nat)]) (.box 3 [.int .i64 ((z27 t n).2 : Nat)]) (z0g (z27 t n).1) := by
 refine z4x fun t ih hs n hn => ?_
 obtain ⟨h0, h1, g1, h2, g2, h3, h4⟩ := (z2f t).1 hs
 have c3 := z8q t.kids h3
 have hcp := zgf t
 have hnt := zjn t n
 have hall : zpn t n t.kids.length = (z2b (t.kids.map z27) (n + 1)).1 := by unfold zpn; rw [List.take_length, List.drop_length, List.append_nil]
 have hnall : z9w t n t.kids.length = (z2b (t.kids.map z27) (n + 1)).2 := by unfold z9w; rw [List.take_length]
 refine zhm (k := 3) (z01 _) (fun m hm => rfl) fun H nx hlo hH => (z0z [8000003, 4000034, 9000030, 9000032, 9000035, 600034, 900002] func88 rfl (by decide +kernel) rfl ?_)
 show awp _ _ (Code.seq _ _) _ _
 rw [show Tryz.f88.results.toList = [.cell 4 27] from rfl]
 rw [show z0g t = .agg _ from by rw [z0g, z0k]]
 have hnb := nx_facts (nx := nx) (by omega)
 repeat' (first | refine nxt ?_ | ((first | refine zqh fun K J => ?_ | refine z6n (c3) ?_); (simp (disch := omega) only [go_sem, Nat.reduceBEq, Nat.reduceBeqDiff, ↓reduceIte, reduceCtorEq, Nat.reduceAdd, Nat.reduceLeDiff, Nat.reduceLT, zhz, List.set_cons_succ, List.set_cons_zero, hH, hnb])) | (refine J _ ?_; clear J K))
 (refine z3c (fun U st => ∃ (i : _), U = t.kids.length - i /\ st.t 1 = .ptr 2 0 /\ st.t 2 = .ptr nx 0 /\ st.t 4 = .ptr (nx + 1) 0 /\ st.t 22 = .osl (nx + 2) t.kids.length /\ st.t 23 = .int .i64 t.kids.length /\ st.t 24 = .int .i64 i /\ st.H 2 = some (.box 3 [.int .i64 (z9w t n i : Nat)]) /\ st.H (nx) = some (.box 27 (zat t n (nx + 2))) /\ st.H (nx + 1) = some (.box 27 z67) /\ st.H (nx + 2) = some (.row 27 t.kids.length ((zpn t n i).flatMap z0a)) /\ (i <= t.kids.length) /\ (nx + 3 <= st.nx) /\ (∀ id, id < nx -> id ≠ 2 -> st.H id = H id)) ?_ ?_); rotate_left; (rintro U st ⟨i, rfl, q1, q2, q4, q22, q23, q24, qH2, qHnx, qHnx1, qHnx2, qp0, qp1, qp2⟩); rotate_left
 ·(refine ⟨_, 0, rfl, ?_⟩); (simp (disch := omega) only [go_sem, Nat.reduceBEq, Nat.reduceBeqDiff, Nat.reduceLeDiff, true_and, Int.natCast_zero, zat, z67, hnb])
  exact ⟨rfl, rfl, Nat.le_refl _, fun id a b => by simp (disch := omega) only [z1p]⟩
 by_cases hi : i < t.kids.length
 ·have hrl := rowN_len t n i (by omega)
  have hri : i < (zpn t n i).length := by omega
  have hle := zse hs n hi
  have hin := ih t.kids[i] (List.getElem_mem hi) (h4 _ (List.getElem_mem hi)) (z9w t n i) (by omega)
  have hld : (((zpn t n i).flatMap z0a).drop (i * 8)).take 8 = z0a t.kids[i] := by rw [zhr z0c hri, rowN_get t n i hi hri]
  have hst : z17 ((zpn t n i).flatMap z0a) (i * 8) (z0a (z27 t.kids[i] (z9w t n i)).1) = (zpn t n (i + 1)).flatMap z0a := by rw [z6d z0c hri, zzf t n i hi]
  have hln : ((zpn t n i).flatMap z0a).length = t.kids.length * 8 := by rw [z43 z0c, hrl]
  have b1 : 3 <= nx := by omega
  have b2 : 3 <= nx + 2 := by omega
  have b3 : 3 <= st.nx := by omega
  repeat' (first | ((first | refine zqh fun K J => ?_ | refine zqr fun K J => ?_ | refine zqq (by decide +kernel) fun K J => ?_ | ((refine zfj (hin) ?_ rfl rfl rfl (by decide) ?_ ?_); (focus ((simp (disch := omega) only [go_sem, qH2]); done)); (focus (((simp (disch := omega) only [go_sem, ↓reduceIte, Nat.reduceLeDiff]); omega))))); (simp (disch := omega) only [go_sem, Nat.reduceBEq, Nat.reduceBeqDiff, Nat.reduceEqDiff, ↓reduceIte, reduceCtorEq, Nat.reduceAdd, Nat.reduceLeDiff, q1, q2, q22, q23, q24, qHnx, qHnx2, hld, hst, hln, zat, z0g, hnb, b1, b2, b3])) | (refine zqd _ rfl ?_ ?_ <;> intro hc <;> (((try simp only [z07] at hc); (try omega)))) | refine nxt ?_ | (refine J _ ?_; clear J K))
  (refine Exists.intro _ (And.intro ?_ ⟨i + 1, rfl, ?_⟩)); rotate_left; (simp (disch := omega) only [go_sem, Nat.reduceBEq, Nat.reduceBeqDiff, Nat.reduceLeDiff, q1, q2, q4, q22, q23, q24, qH2, qHnx, qHnx1, qHnx2, true_and, Int.natCast_add, Int.natCast_one, hnb, zek t n i hi, zat, z67]); rotate_left
  ·omega
  ·refine ⟨by omega, by omega, fun id hid hne => ?_⟩
   simp (disch := omega) only [z1p]
   exact qp2 id hid hne
 ·have hie : i = t.kids.length := by omega
  subst hie
  rw [hall] at qHnx2
  rw [hnall] at qH2
  repeat' (first | ((refine zqh fun K J => ?_); (simp (disch := omega) only [go_sem, Nat.reduceBEq, ↓reduceIte, Nat.reduceAdd, Nat.reduceLeDiff, q2, q4, q23, q24, qHnx, qHnx1, zat, z67, List.set_cons_succ, List.set_cons_zero])) | (refine zqd _ rfl ?_ ?_ <;> intro hc <;> (((try simp only [z07] at hc); (try omega)))) | refine nxt ?_ | refine zqz ?_ | refine zqu (by (simp (disch := omega) only [go_sem, Nat.reduceBEq, ↓reduceIte, Nat.reduceAdd, Nat.reduceLeDiff, q4, qHnx1, z67]); rfl) rfl ?_ | (refine J _ ?_; clear J K))
  rw [show (z27 t n).1 = (t.setId ⟨0, 0, (n : Int)⟩).setKids (z2b (t.kids.map z27) (n + 1)).1 from by rw [hnt], show (z27 t n).2 = (z2b (t.kids.map z27) (n + 1)).2 from by rw [hnt]]
  refine ⟨⟨_, z4z (k := 2) ?_ (z00 (z02 1 rfl) (z00 (z02 1 rfl) (z00 (z02 1 rfl) (z00 (z02 1 rfl) (z00 (z02 1 rfl) (z00 (z02 1 (z0h _)) (z00 (z02 1 (z0h _)) (z00 (z16 (f := z0a) (l := (z2b (t.kids.map z27) (n + 1)).1) 0 (by rw [zaz, List.length_map]) ?_ z0j z2s z0c z04) z0d)))))))), ?_⟩, ?_, ?_⟩
  ·simp [pureD.pureL, pureD]
  ·rw [zzd (by omega)]
   (simp (disch := omega) only [go_sem, qHnx2, hnb])
  ·rw [z0g, z0k]
   exact Le.refl _
  ·(simp (disch := omega) only [go_sem, Nat.reduceBeqDiff, qH2, hnb])
  ·intro id hid hne
   (simp (disch := omega) only [go_sem])
   simp (disch := omega) only [z1p]
   exact qp2 id hid hne
namespace Tr
theorem zcp (l : List Deed) {i : Nat} (hi : i < l.length) : z3a (l.take (i + 1)) = z3a (l.take i) + zjo l[i] := by
 rw [List.take_succ_eq_append_getElem hi, zye]
theorem zo8 (l : List Deed) : ∀ i, z3a (l.take i) <= z3a l := by
 intro i
 have h : z3a l = z3a (l.take i) + z3a (l.drop i) := by
  unfold z3a
  conv => lhs; rw [<- List.take_append_drop i l]
  rw [List.map_append, List.sum_append]
 omega
end Tr
theorem zwb (s : Ses) (hs : standsT s.draft = true) (o : Deed) (O : o.kind = 3) (hu : szB o.unit = true) (hc : cntT o.unit <= 1000000) (V : depT o.unit <= 1000000)
  (hdn : ∀ d ∈ s.dn, d.kind = 3 -> szB d.unit = true /\ cntT d.unit <= 1000000) (hn : z3a s.dn <= 100000000) (hl : s.dn.length <= 1000000) :
  PC prog 66 [zl6 s, z39 o] (z6b s.draft o (z3a s.dn)) := by
 obtain ⟨z1, z2, z3⟩ := z21 hs
 have c0 := zam s
 have c1 := zyb o.unit hu (by omega) (by omega)
 have hfa := zdr o.unit hu (z3a s.dn + 1)
 have c2 := tc_named o.unit hu (z3a s.dn + 1) (by omega)
 have c3 := zxm s.draft (z27 o.unit (z3a s.dn + 1)).1 z1 hfa.1 (by omega) (by omega) (by omega) (by omega) o.parent o.at_
 have hr : z6b s.draft o (z3a s.dn) = .tup [z0g (if (if znx o.unit = true then z3e s.draft o.parent o.at_ (z27 o.unit (z3a s.dn + 1)).1 else 1) = 0 then z1g o.parent (z7r o.at_.toNat (z27 o.unit (z3a s.dn + 1)).1) s.draft else T.zero), .int .i64 (if znx o.unit = true then z3e s.draft o.parent o.at_ (z27 o.unit (z3a s.dn + 1)).1 else 1)] := by
  unfold z6b doE doT; rw [O]; rfl
 have hpr := z73 s.draft o (z3a s.dn)
 simp only [ne_eq, ite_not] at c3
 rw [hr]
 refine z14 3 (by simp only [pureD.pureL, z59, z3f, Bool.and_self]) (by rw [<- hr]; exact hpr) (z0z [8000003, 5000034, 5000038, 4000045, 5000046, 600040, 900000, 600042, 900000, 600044, 900000, 600045, 900002] func66 rfl (by decide +kernel) rfl ?_)
 show awp _ _ (Code.seq _ _) _ _
 rw [show Tryz.f66.results.toList = [.cell 4 27, .tmp 5] from rfl]
 have hct : (s.dn ++ s.un).take s.dn.length = s.dn := List.take_left' rfl
 by_cases hb : znx o.unit = true
 ·rw [if_pos hb]
  rw [show (z64 o.unit && decide (o.unit = z5l o.unit)) = true from hb] at c1
  repeat' (first | refine nxt ?_ | ((first | refine zqh fun K J => ?_ | refine zqe (by decide +kernel) fun K J => ?_ | refine zqs (c1) ?_); (simp (disch := omega) only [go_sem, Nat.reduceBEq, Nat.reduceEqDiff, ↓reduceIte, reduceCtorEq, Nat.reduceAdd, Nat.reduceLeDiff, Nat.reduceLT, z39, zl6, z13, z20, List.length_append, List.length_map, <- List.map_take, hct])) | (refine zqd _ rfl ?_ ?_ <;> intro hc <;> (first | (cases hc; done) | ((try simp only [] at hc); (try omega)))) | (refine J _ ?_; clear J K))
  (refine z3c (fun U st => ∃ (i : _), U = s.dn.length - i /\ st.t 0 = zl6 s /\ st.t 3 = .ptr 0 0 /\ st.t 4 = .ptr 1 0 /\ st.t 6 = .ptr 2 0 /\ st.t 22 = .rsl false 18 (s.dn.map z39) /\ st.t 23 = .int .i64 s.dn.length /\ st.t 24 = .int .i64 i /\ st.H 0 = some (.box 32 (z1l o)) /\ st.H 1 = some (.box 27 z67) /\ st.H 2 = some (.box 3 [.int .i64 ((z3a (s.dn.take i) + 1 : Nat) : Int)]) /\ (i <= s.dn.length) /\ (3 <= st.nx)) ?_ ?_); rotate_left; (rintro U st ⟨i, rfl, q0, q3, q4, q6, q22, q23, q24, qH0, qH1, qH2, qp0, qp1⟩); rotate_left
  ·(refine ⟨_, 0, rfl, ?_⟩); (simp (disch := omega) only [go_sem, Nat.reduceBEq, Nat.reduceLeDiff, true_and, and_true, and_self, Int.natCast_add, Int.natCast_one, Int.natCast_zero, zl6, z13, z20, z67])
   rfl
  by_cases hi : i < s.dn.length
  ·have h1 := zo8 s.dn i
   have h2 := zo8 s.dn (i + 1)
   rw [zcp s.dn hi] at h2
   have hg : s.dn[i] ∈ s.dn := List.getElem_mem hi
   by_cases h3 : s.dn[i].kind = 3
   ·obtain ⟨f1, f2⟩ := hdn _ hg h3
    have hinc : zjo s.dn[i] = cntT s.dn[i].unit := if_pos h3
    rw [hinc] at h2
    have c4 := zfl s.dn[i].unit (z80 _ f1) (by omega)
    repeat' (first | ((first | refine zqh fun K J => ?_ | refine zqr fun K J => ?_ | refine zqq (by decide +kernel) fun K J => ?_ | refine zqt (c4) ?_); (simp (disch := omega) only [go_sem, Nat.reduceBEq, Nat.reduceEqDiff, ↓reduceIte, reduceCtorEq, Nat.reduceAdd, Nat.reduceLeDiff, Nat.reduceLT, q6, q22, q23, q24, qH2, h3, z39, zjg])) | ((first | refine zqd _ rfl (fun hc => ?_) (fun hc => ?_) | refine zqm _ rfl (fun hc => ?_) (fun hc => ?_)) <;> (first | (cases hc; done) | ((try simp only [z07] at hc); (try omega)))) | refine nxt ?_ | (refine J _ ?_; clear J K))
    (refine Exists.intro _ (And.intro ?_ ⟨i + 1, rfl, ?_⟩)); rotate_left; (simp (disch := omega) only [go_sem, Nat.reduceBEq, Nat.reduceLeDiff, q0, q3, q4, q6, q22, q23, q24, qH0, qH1, qH2, true_and, Int.natCast_add, Int.natCast_one, zcp s.dn hi, hinc]); rotate_left
    ·omega
    ·exact ⟨by rw [show ((z3a (s.dn.take i) : Nat) : Int) + 1 + (cntT s.dn[i].unit : Nat) = (z3a (s.dn.take i) : Nat) + (cntT s.dn[i].unit : Nat) + 1 from by omega], by omega, by omega⟩
   ·have hinc : zjo s.dn[i] = 0 := if_neg h3
    repeat' (first | ((first | refine zqh fun K J => ?_ | refine zqr fun K J => ?_); (simp (disch := omega) only [go_sem, Nat.reduceBEq, ↓reduceIte, reduceCtorEq, Nat.reduceAdd, Nat.reduceLeDiff, q22, q23, q24, h3, z39, zjg])) | ((first | refine zqd _ rfl (fun hc => ?_) (fun hc => ?_) | refine zqm _ rfl (fun hc => ?_) (fun hc => ?_)) <;> (first | (cases hc; done) | ((try simp only [z07] at hc); (try omega)))) | refine nxt ?_ | (refine J _ ?_; clear J K))
    (refine Exists.intro _ (And.intro ?_ ⟨i + 1, rfl, ?_⟩)); rotate_left; (simp (disch := omega) only [go_sem, Nat.reduceBEq, Nat.reduceLeDiff, q0, q3, q4, q6, q22, q23, q24, qH0, qH1, qH2, true_and, Int.natCast_add, Int.natCast_one, zcp s.dn hi, hinc]); rotate_left
    all_goals first | omega | exact ⟨by omega, by omega⟩
  ·have hie : i = s.dn.length := by omega
   subst hie
   rw [List.take_length] at qH2
   repeat' (first | ((first | refine zqh fun K J => ?_ | refine zqe (by decide +kernel) fun K J => ?_ | refine zqt (c0) ?_ | ((refine zfj (c2) ?_ rfl rfl rfl (by decide) ?_ ?_); (focus ((simp (disch := omega) only [go_sem, qH2]); done)); (focus (((simp (disch := omega) only [go_sem, ↓reduceIte, Nat.reduceLeDiff]); omega)))) | refine zqt (c3) ?_); (simp (disch := omega) only [go_sem, Nat.reduceBEq, Nat.reduceEqDiff, ↓reduceIte, reduceCtorEq, Nat.reduceAdd, Nat.reduceLeDiff, q0, q3, q4, q6, q23, q24, qH0, qH1, z0g, z67])) | (refine zqd _ rfl ?_ ?_ <;> intro hc <;> (((try simp only [z07] at hc); (try omega)))) | refine nxt ?_ | refine zqz ?_ | refine zqu (by (simp (disch := omega) only [go_sem, Nat.reduceBEq, ↓reduceIte, Nat.reduceLeDiff, q4, qH1, z67]); rfl) rfl ?_ | (refine J _ ?_; clear J K))
   rw [hr, if_pos hb] at hpr
   exact z08 hpr (Le.refl _)
 ·rw [if_neg hb, if_neg (show ¬ (1 : Int) = 0 by decide)]
  rw [if_neg hb, if_neg (show ¬ (1 : Int) = 0 by decide)] at hr
  rw [show (z64 o.unit && decide (o.unit = z5l o.unit)) = false from by simpa [znx] using hb] at c1
  repeat' (first | refine nxt ?_ | ((first | refine zqh fun K J => ?_ | refine zqs (c1) ?_); (simp (disch := omega) only [go_sem, Nat.reduceBEq, ↓reduceIte, reduceCtorEq, Nat.reduceAdd, Nat.reduceLeDiff, z39, zl6, z13, z20])) | (refine zqd _ rfl ?_ ?_ <;> intro hc <;> (first | (cases hc; done) | ((try simp only [] at hc); (try omega)))) | refine zqu (by (simp (disch := omega) only [go_sem, Nat.reduceBEq, ↓reduceIte, Nat.reduceAdd, Nat.reduceLeDiff]); rfl) rfl ?_ | (refine J _ ?_; clear J K))
  exact z08 rfl (Le.tup ⟨z0t, Le.refl _, trivial⟩)
end
end Go.Proofs.YtlfohdkfpdkhhaaGreatDoor
namespace Go.Proofs.YtlfohdkfpdkhhaaGreatDoor.Abs
open Go.RowKit
variable {P : Program}
def thickD (c : Nat) : D -> Bool
 | .rsl _ sz els => els.isEmpty || (decide (c < sz) && thickL c els)
 | .agg ds => thickL c ds
 | .tup ds => thickL c ds
 | .int .. | .bool _ | .str _ | .nil | .nptr | .nfun | .nmp | .e0 | .any => true
 | _ => false
where thickL (c : Nat) : List D -> Bool
 | [] => true
 | d :: ds => thickD c d && thickL c ds
theorem zh3 (a : Addr) (n : Nat) : (a.add n).block = a.block := by unfold Addr.add; split <;> rfl
theorem zy2 (a : Addr) (n : Nat) : (a.add n).off = a.off + n := by
 unfold Addr.add; split
 ·rename_i h; subst h; rfl
 ·rfl
theorem zp3 {m1 m : Addr -> Option Value} {b c sz : Nat} {a : Addr} {cs : List Value} (hm : ∀ a u, m1 a = some u -> (m a = some u \/ a.block = b) /\ (a.block = b -> a.off < c)) (hc : c < sz) (hl : cs.length = sz) (h : cellsAt m1 a cs) : cellsAt m a cs := by
 intro j u hj
 rcases (hm _ _ (h j u hj)).1 with g | g1
 ·exact g
 ·exfalso
  have hlast : cs[sz - 1]? = some (cs[sz - 1]'(by omega)) := List.getElem?_eq_getElem (by omega)
  have g2 := (hm _ _ (h (sz - 1) _ hlast)).2 (by rw [zh3] at g1 ⊢; exact g1)
  rw [zy2] at g2
  omega
mutual
theorem zmx {s s' : RS} {b c : Nat} (hm : ∀ a u, s.m a = some u -> (s'.m a = some u \/ a.block = b) /\ (a.block = b -> a.off < c)) : ∀ (d : D) (v : Value), thickD c d = true -> rel s d v -> rel s' d v
 | .any, _, _, _ => by simp [rel]
 | .int k n, v, _, hr => by simpa [rel] using hr
 | .bool b, v, _, hr => by simpa [rel] using hr
 | .str x, v, _, hr => by simpa [rel] using hr
 | .nil, v, _, hr => by simpa [rel] using hr
 | .nptr, v, _, hr => by simpa [rel] using hr
 | .nfun, v, _, hr => by simpa [rel] using hr
 | .nmp, v, _, hr => by simpa [rel] using hr
 | .e0, v, _, hr => by simpa [rel] using hr
 | .agg ds, v, h, hr => by
  simp only [rel] at hr ⊢
  obtain ⟨vs, h1, h2, h3⟩ := hr
  exact ⟨vs, h1, zbd hm ds vs h h2, h3⟩
 | .tup ds, v, h, hr => by
  simp only [rel] at hr ⊢
  obtain ⟨vs, h1, h2⟩ := hr
  exact ⟨vs, h1, zbd hm ds vs h h2⟩
 | .rsl nn sz els, v, h, hr => by
  simp only [rel] at hr ⊢
  rcases hr with h1 | ⟨a, cap, vs, h1, h2, h3, h4, h5⟩
  ·exact .inl h1
  ·simp only [thickD, Bool.or_eq_true, Bool.and_eq_true, decide_eq_true_eq, List.isEmpty_iff] at h
   rcases h with rfl | ⟨hsz, h⟩
   ·simp only [relAll] at h4
    subst h4
    exact .inr ⟨a, cap, [], h1, h2, h3, z0y, fun i u hu => by simp at hu⟩
   ·exact .inr ⟨a, cap, vs, h1, h2, h3, zbd hm els vs h h4, fun i u hu => ⟨(h5 i u hu).1, zp3 hm hsz (by simpa using (h5 i u hu).1) (h5 i u hu).2⟩⟩
 | .rptr _, _, h, _ => by cases h
 | .fn _ _, _, h, _ => by cases h
 | .osl _ _, _, h, _ => by cases h
 | .ptr _ _, _, h, _ => by cases h
 | .eptr _ _ _, _, h, _ => by cases h
 | .mp _, _, h, _ => by cases h
 | .fsl _ _, _, h, _ => by cases h
 | .it _, _, h, _ => by cases h
theorem zbd {s s' : RS} {b c : Nat} (hm : ∀ a u, s.m a = some u -> (s'.m a = some u \/ a.block = b) /\ (a.block = b -> a.off < c)) : ∀ (ds : List D) (vs : List Value), thickD.thickL c ds = true -> relAll s ds vs -> relAll s' ds vs
 | [], vs, _, hr => by simpa [relAll] using hr
 | d :: ds, vs, h, hr => by
  simp only [thickD.thickL, Bool.and_eq_true] at h
  simp only [relAll] at hr
  obtain ⟨v, r, rfl, h1, h2⟩ := hr
  exact z0m (zmx hm d v h.1 h1) (zbd hm ds r h.2 h2)
end
theorem PC.lend {f : FuncId} {rest cs : List D} {r : D} {id e : Nat} {H : HM} {nx : Nat} (h : PC P f (.rptr (.agg cs) :: rest) r) (hH : H id = some (.box e cs)) (ht : thickD cs.length r = true) : RC P f (.ptr id 0 :: rest) H nx r := by
 refine ⟨h.2.2.1, fun s w vs hH' hnx hRH hr => ?_⟩
 subst hH'; subst hnx
 simp only [relAll] at hr
 obtain ⟨v, us, rfl, hv, hus⟩ := hr
 simp only [rel] at hv
 obtain ⟨hid, _, hlive⟩ := hv
 obtain ⟨b, hκ, rfl⟩ := hlive _ _ hH
 obtain ⟨b', ws, hκ', hheap, hws, hones⟩ := (hRH.obj id _ hH).2
 rw [hκ] at hκ'
 have hbb : b = b' := by injection hκ' with h1; injection h1 with h2; injection h2
 subst hbb
 have hown : owned s b := ⟨id, hid, by rw [hH]; simp, by rw [hκ]; rfl⟩
 have hcell : ∀ a u, w.cell? a = some u -> a.block = b -> a.off < cs.length := by
  intro a u hu hb
  unfold World.cell? at hu
  rw [hb, hheap] at hu
  simp only at hu
  split at hu
  ·cases hu
  ·have := (Array.getElem?_eq_some_iff.1 hu).1
   rw [<- z0e hws]; simpa using this
 let s1 : RS := { s with m := fun a => if a.block = b then w.cell? a else s.m a, H := noH, nx := 0 }
 have hsub : ∀ a u, s.m a = some u -> s1.m a = some u := fun a u hm => by
  have hne : a.block ≠ b := fun e => (hRH.mem a u hm).2 (e ▸ hown)
  show (if a.block = b then w.cell? a else s.m a) = some u
  rw [if_neg hne]; exact hm
 have hno : ∀ k, ¬ owned s1 k := by rintro k ⟨id, hid, _⟩; exact absurd hid (Nat.not_lt_zero _)
 have hRH1 : RH P s1 w := ⟨fun a u hm => ⟨by
   have hm : (if a.block = b then w.cell? a else s.m a) = some u := hm
   split at hm
   ·exact hm
   ·exact (hRH.mem a u hm).1, hno _⟩, fun id o ho => (by cases ho), fun i j hi => (hi rfl).elim, fun g => z1y (s := s) (s' := s1) hsub _ _ (z4t g) (hRH.glob g)⟩
 have hp := h.1
 simp only [pureD.pureL, pureD, Bool.and_eq_true] at hp
 have hr1 : relAll s1 (.rptr (.agg cs) :: rest) (.pointer (some ⟨b, 0, none⟩) :: us) := by
  refine z0m ?_ (z1q (s := s) (s' := s1) hsub rest us hp.2 hus)
  simp only [rel]
  refine ⟨⟨b, 0, none⟩, .agg ws.toArray, rfl, ⟨ws, rfl, z1q (s := s) (s' := s1) hsub cs ws hp.1 hws, hones⟩, fun j c hj => ?_⟩
  have hj : ws[j]? = some c := by simpa [Value.cells] using hj
  show (if _ = b then w.cell? _ else s.m _) = some c
  rw [zh3, if_pos rfl]
  unfold World.cell?
  rw [zh3, hheap]
  simp only
  rw [zy2]
  have hsp : ((⟨b, 0, none⟩ : Addr).add j).spot = none := by unfold Addr.add; split <;> rfl
  rw [hsp]
  simpa using hj
 refine (h.2.2.2 s1 w _ rfl rfl hRH1 hr1).mono fun e w' ⟨v, r', s3, he, hrr, hstep, hRH3, hrel⟩ => ?_
 subst hrr
 have hold : ∀ k, k < w.heap.size -> w'.heap[k]? = w.heap[k]? := fun k O => hstep.keep k O (hno k)
 have hgrew : Grew w w' := ⟨hstep.os, hstep.tape, hstep.output, hstep.size, hold⟩
 obtain ⟨g1, g2⟩ := z9k hRH hgrew
 have hbs : b < w.heap.size := (Array.getElem?_eq_some_iff.1 hheap).1
 refine ⟨v, r', s.grow w w', he, ⟨rfl, rfl, rfl⟩, g1, g2, ?_⟩
 refine zmx (b := b) (c := cs.length) (fun a u hm3 => ⟨?_, fun hb => ?_⟩) r' v ht hrel
 ·by_cases hb : a.block = b
  ·exact .inr hb
  ·refine .inl ?_
   simp only [RS.grow]
   rcases hstep.new a u hm3 with h1 | h1 | h1
   ·have hlt := hRH1.mem_lt h1
    rw [if_pos hlt]
    have h1 : (if a.block = b then w.cell? a else s.m a) = some u := h1
    rw [if_neg hb] at h1; exact h1
   ·rw [if_neg (by omega)]; exact (hRH3.mem a u hm3).1
   ·exact (hno _ h1).elim
 ·refine hcell a u ?_ hb
  have h1 := (hRH3.mem a u hm3).1
  unfold World.cell? at h1 ⊢
  rw [hold a.block (by omega)] at h1
  exact h1
theorem z61 {st : St} {b : Nat} {e : TypeId} {cs cs' : List D} (hb : st.H b = some (.box e cs)) (hl : LeL cs cs') :
  SealTo P st { st with H := z12 st.H b (some (.box e cs')) } := by
 intro N s a w hf
 have hHb : s.H b = some (.box e cs) := by rw [hf.H]; exact hb
 obtain ⟨_, q2⟩ := hf.heap.obj b _ hHb
 obtain ⟨g3, g4⟩ := z8f (w' := w) hf.heap b _ (.box e cs') (s.κ b) hHb rfl rfl rfl (Nat.le_refl _) (fun _ _ _ => rfl) (.inr ⟨_, rfl, rfl⟩) (fun b hb => .inl hb) (fun hL => by
  obtain ⟨b', vs, u1, u2, u3, u4⟩ := q2
  exact ⟨b', vs, u1, u2, relAll.later hL _ _ (z7d hl u3), u4⟩)
 refine ⟨_, ⟨?_, ?_, hf.size, hf.defers, fun i => rel.later g3.later _ _ (hf.tmps i), g4⟩, g3⟩
 ·simp only [RS.set, hf.H]
 ·simp only [RS.set, hf.nx]
theorem zag {k nx : Nat} (h : k < nx) : (nx == nx + 1) = false /\ (nx == nx + 2) = false /\ (nx == nx + 3) = false /\ (nx + 1 == nx) = false /\ (nx + 2 == nx) = false /\ (nx + 3 == nx) = false /\ (nx + 1 == nx + 2) = false /\ (nx + 2 == nx + 1) = false /\ (nx + 1 == nx + 3) = false /\ (nx + 3 == nx + 1) = false /\ (nx + 2 == nx + 3) = false /\ (nx + 3 == nx + 2) = false /\
  (k == nx) = false /\ (nx == k) = false /\ (k == nx + 1) = false /\ (nx + 1 == k) = false /\ (k == nx + 2) = false /\ (nx + 2 == k) = false /\ (k == nx + 3) = false /\ (nx + 3 == k) = false := by
 have key : ∀ a b : Nat, ¬ a = b -> (a == b) = false := fun a b h => by simpa using h
 exact ⟨key _ _ (by omega), key _ _ (by omega), key _ _ (by omega), key _ _ (by omega), key _ _ (by omega), key _ _ (by omega), key _ _ (by omega), key _ _ (by omega), key _ _ (by omega), key _ _ (by omega), key _ _ (by omega), key _ _ (by omega), key _ _ (by omega), key _ _ (by omega), key _ _ (by omega), key _ _ (by omega), key _ _ (by omega), key _ _ (by omega), key _ _ (by omega), key _ _ (by omega)⟩
def noBox : HObj -> Bool
 | .box .. => false
 | _ => true
theorem ztz (st : St) {objs : List HObj} (hr : objs.all noBox = true) : z9u st (zjr st.H st.nx objs) (st.nx + objs.length) := by
 refine ⟨Nat.le_add_right _ _, fun id => ⟨fun hlt e cs h => ?_, fun hlt e cs h => ?_⟩⟩
 ·rw [zbu, if_neg (by omega)]; exact h
 ·rw [zbu] at h
  split at h
  ·obtain ⟨hl, he⟩ := List.getElem?_eq_some_iff.1 h
   have := List.all_eq_true.1 hr _ (List.getElem_mem hl)
   rw [he] at this; cases this
  ·exact ⟨by omega, h⟩
theorem z4c {own : List Nat} {objs : List HObj} {r : D} {n : FuncId} {args cap : List D} {g : List Oper -> (St -> Prop) -> St -> Prop} {rest : List Oper} {K : St -> Prop} {st : St} {dst : Option Nat} (h : OC P n (args ++ cap) objs r) (h0 : z0x 5000000 own dst = false) (hm : z0x 4000000 own dst = true) (hr : objs.all noBox = true)
  (O : g rest K ((st.withH (zjr st.H st.nx objs) (st.nx + objs.length)).put dst (renD (fun j => st.nx + j) r))) (ht : tcM own dst = none := by rfl) : zoq P own (.fn n cap) args g rest K st dst :=
 .inr (.inr ⟨h0, hm, _, _, _, h.2.2.2 st.H st.nx, .inl ⟨ht, ztz st hr⟩, O⟩)
end Go.Proofs.YtlfohdkfpdkhhaaGreatDoor.Abs
namespace Go.Proofs.YtlfohdkfpdkhhaaGreatDoor
open _root_.Go.Proofs.Tryz
section
open Abs Facts Tr
attribute [local irreducible] awp
set_option maxRecDepth 100000
theorem zsw (s : Ses) (hs : standsT s.draft = true) (o : Deed) (O : o.kind = 4) :
  PC prog 67 [zl6 s, z39 o] (z6b s.draft o (z3a s.dn)) := by
 obtain ⟨z1, z2, z3⟩ := z21 hs
 have c0 := zam s
 have c1 := zuz s.draft z1 (by omega) (by omega) o.id
 have hr : z6b s.draft o (z3a s.dn) = .tup [z0g (if z5m s.draft o.id = 0 then z0o o.id s.draft else T.zero), .int .i64 (z5m s.draft o.id)] := by
  unfold z6b doE doT; rw [O]; rfl
 have hpr := z73 s.draft o (z3a s.dn)
 rw [hr]
 refine z14 3 (by simp only [pureD.pureL, z59, z3f, Bool.and_self]) (by rw [<- hr]; exact hpr) (z0z [5000011, 3000013, 5000014] func67 rfl (by decide +kernel) rfl ?_)
 show awp _ _ (Code.seq _ _) _ _
 rw [show Tryz.f67.results.toList = [.cell 4 27, .tmp 5] from rfl]
 repeat' (first | ((refine z1j (N := 1) rfl fun K J => ?_); (simp (disch := omega) only [go_sem, Nat.reduceAdd, z39])) | (refine J _ ?_; clear J K))
 refine zmi 9 (by decide +kernel) (by decide) fun K J => ?_
 simp only [List.take_succ_cons, List.take_zero, List.drop_succ_cons, List.drop_zero, zww]
 (try (simp (disch := omega) only [go_sem, Nat.reduceBEq, Nat.reduceEqDiff, ↓reduceIte, Nat.reduceAdd])); repeat' (((first | refine zqt (c0) ?_ | refine zqt (c1) ?_); (simp (disch := omega) only [go_sem, Nat.reduceBEq, Nat.reduceEqDiff, ↓reduceIte, reduceCtorEq, Nat.reduceAdd, Nat.reduceLeDiff, z0g])))
 refine ⟨J _ ?_, J _ ?_⟩ <;> clear J K
 all_goals
  repeat' (first | ((refine zqh fun K J => ?_); (simp (disch := omega) only [go_sem, Nat.reduceBEq, ↓reduceIte, Nat.reduceAdd, Nat.reduceLeDiff])) | refine nxt ?_ | refine zqu (by (simp (disch := omega) only [go_sem, Nat.reduceBEq, ↓reduceIte, Nat.reduceLeDiff]); rfl) rfl ?_ | (refine J _ ?_; clear J K))
 all_goals
  rw [hr] at hpr
  exact z08 hpr (Le.refl _)
theorem oc_doers : OC prog 41 [] [.map [(.int .i64 0, .fn 63 []), (.int .i64 1, .fn 64 []), (.int .i64 2, .fn 65 []), (.int .i64 3, .fn 66 []), (.int .i64 4, .fn 67 []), (.int .i64 5, .fn 68 [])]] (.mp 0) := by
 refine z91 rfl rfl (by intro o ho; simp at ho; subst ho; rfl) (z0z [] func41 rfl (by decide +kernel) rfl ?_)
 show awp _ _ (Code.seq _ _) _ _
 repeat' (first | ((refine zqh fun K J => ?_); (simp (disch := omega) only [go_sem, Nat.reduceBEq, ↓reduceIte, Int.reduceEq])) | refine nxt ?_ | refine zqu (by simp only [go_sem]; rfl) rfl ?_ | (refine J _ ?_; clear J K))
 refine ⟨fun j => j, fun i j _ _ h => h, ?_, fun j hj => ?_⟩
 ·(simp (disch := omega) only [go_sem, Nat.reduceBEq, renD])
 ·match j, hj with
  | 0, _ => (simp (disch := omega) only [go_sem])
end
section
open Abs Facts
attribute [local irreducible] awp
theorem rep_int (n : Nat) : (List.replicate n [D.int .i64 0]).flatten = (List.replicate n (0 : Int)).map (D.int .i64) := zjp (D.int .i64) 0 n
theorem zk3 (a b : List ByteArray) (ha : a.length <= 256) (hb : b.length <= 256) : PC prog 186 [z2j a, z2j b] (zl5 (Lcs.tab a b)) := by
 refine z14 2 (by simp only [pureD.pureL, z2k, Bool.and_self]) (z8k _) (z0z [] func186 rfl (by decide +kernel) rfl ?_)
 show awp _ _ (Code.seq _ _) _ _
 obtain ⟨n, hn⟩ : ∃ n, n = (a.length + 1) * (b.length + 1) := ⟨_, rfl⟩
 have hnle : n <= 66049 := by rw [hn]; exact Nat.mul_le_mul (show a.length + 1 <= 257 by omega) (show b.length + 1 <= 257 by omega)
 have hprod : ((a.length : Int) + 1) * ((b.length : Int) + 1) = (n : Int) := by rw [hn]; simp
 repeat' (first | refine nxt ?_ | ((refine zqh fun K J => ?_); (simp (disch := omega) only [go_sem, Nat.reduceBEq, ↓reduceIte, Nat.reduceLT, hprod, rep_int])) | (refine J _ ?_; clear J K))
 (refine z3c (fun U st => ∃ (m : _) (cs : List Int), U = m + 1 /\ st.t 0 = z2j a /\ st.t 1 = z2j b /\ st.t 5 = .int .i64 ((b.length : Int) + 1) /\ st.t 6 = .osl 0 n /\ st.t 7 = .int .i64 ((m : Int) - 1) /\ st.H 0 = some (.row 3 n (cs.map (.int .i64))) /\ (m <= a.length) /\ (Lcs.Known a b cs m 0) /\ (1 <= st.nx)) ?_ ?_); rotate_left; (rintro U st ⟨m, cs, rfl, s0, s1, s5, s6, s7, sH0, sp0, sp1, sp2⟩); rotate_left
 ·refine ⟨_, a.length, List.replicate n 0, rfl, ?_⟩
  simp (disch := omega) only [go_sem, Nat.reduceBEq, Nat.reduceLeDiff, true_and, and_true]
  exact ⟨Nat.le_refl _, by rw [hn]; exact Lcs.known_zero a b⟩
 by_cases hm0 : m = 0
 ·subst hm0
  repeat' (first | refine nxt ?_ | ((refine zqh fun K J => ?_); (simp (disch := omega) only [go_sem, Nat.reduceBEq, ↓reduceIte, s6, s7])) | (refine zqd _ rfl ?_ ?_ <;> intro hc <;> (first | (cases hc; done) | ((try simp only [decide_eq_false_iff_not] at hc); (try omega)))) | refine zqz ?_ | refine zqu (by simp only [go_sem]; rfl) rfl ?_ | (refine J _ ?_; clear J K))
  have := Lcs.known_all sp1
  subst this
  exact fin_row 0 sH0 z40 z9z (by rw [List.length_map, Lcs.tab_len, hn]) (z0r (fun _ => rfl) _) rfl
 obtain ⟨i, rfl⟩ : ∃ i, m = i + 1 := ⟨m - 1, by omega⟩
 replace s7 : st.t 7 = .int .i64 (i : Int) := by rw [s7]; congr 1; omega
 repeat' (first | refine nxt ?_ | ((refine zqh fun K J => ?_); (simp (disch := omega) only [go_sem, Nat.reduceBEq, ↓reduceIte, s1, s7])) | (refine zqd _ rfl ?_ ?_ <;> intro hc <;> (first | (cases hc; done) | ((try simp only [] at hc); (try omega)))) | (refine J _ ?_; clear J K))
 (refine z3c (fun U st => ∃ (k : _) (cs : List Int), U = k + 1 /\ st.t 0 = z2j a /\ st.t 1 = z2j b /\ st.t 5 = .int .i64 ((b.length : Int) + 1) /\ st.t 6 = .osl 0 n /\ st.t 7 = .int .i64 (i : Nat) /\ st.t 8 = .int .i64 ((k : Int) - 1) /\ st.H 0 = some (.row 3 n (cs.map (.int .i64))) /\ (k <= b.length) /\ (Lcs.Known a b cs i k) /\ (1 <= st.nx)) ?_ ?_); rotate_left; (rintro U st ⟨k, cs, rfl, t0, t1, t5, t6, t7, t8, tH0, tp0, tp1, tp2⟩); rotate_left
 ·refine ⟨_, b.length, cs, rfl, ?_⟩
  simp (disch := omega) only [go_sem, Nat.reduceBEq, true_and, s0, s1, s5, s6, s7, sH0]
  exact ⟨Nat.le_refl _, Lcs.known_row sp1, sp2⟩
 by_cases hk0 : k = 0
 ·subst hk0
  repeat' (first | refine nxt ?_ | ((first | refine zqh fun K J => ?_ | refine zqr fun K J => ?_); (simp (disch := omega) only [go_sem, Nat.reduceBEq, ↓reduceIte, t7, t8])) | (refine zqd _ rfl ?_ ?_ <;> intro hc <;> (first | (cases hc; done) | ((try simp only [decide_eq_false_iff_not] at hc); (try omega)))) | refine zqz ?_ | (refine J _ ?_; clear J K))
  (refine Exists.intro _ (And.intro ?_ ⟨i, cs, rfl, ?_⟩)); rotate_left; (simp (disch := omega) only [go_sem, Nat.reduceBEq, t0, t1, t5, t6, t7, tH0, true_and, Int.natCast_zero]); rotate_left
  ·omega
  ·exact ⟨by omega, tp1, tp2⟩
 obtain ⟨k', rfl⟩ : ∃ k', k = k' + 1 := ⟨k - 1, by omega⟩
 replace t8 : st.t 8 = .int .i64 (k' : Int) := by rw [t8]; congr 1; omega
 have hkn := tp1
 have v1 := hkn.2 (i + 1) k' (by omega) (by omega) (.inl (by omega))
 have v2 := hkn.2 i (k' + 1) (by omega) (by omega) (.inr (.inl ⟨rfl, by omega⟩))
 have v3 := hkn.2 (i + 1) (k' + 1) (by omega) (by omega) (.inl (by omega))
 have l1 := Lcs.at_le a b (i + 1) k'
 have l2 := Lcs.at_le a b i (k' + 1)
 have l3 := Lcs.at_le a b (i + 1) (k' + 1)
 have hcl : cs.length = n := by rw [hkn.1, hn]
 have hst := Lcs.at_step a b i k' (by omega) (by omega)
 have hlt : (i + 1) * (b.length + 1) + (k' + 1) < n := by rw [hn]; exact Lcs.idx_lt (by omega) (by omega)
 obtain ⟨p0, hp0⟩ : ∃ p0, p0 = i * (b.length + 1) := ⟨_, rfl⟩
 have hp1 : (i + 1) * (b.length + 1) = p0 + b.length + 1 := by rw [hp0, Nat.add_mul]; omega
 have e0 : (i : Int) * ((b.length : Int) + 1) = (p0 : Int) := by rw [hp0]; simp
 have e1 : ((i : Int) + 1) * ((b.length : Int) + 1) = (p0 : Int) + b.length + 1 := by
  have := congrArg (fun (x : Nat) => (x : Int)) hp1
  simpa using this
 rw [hp1] at v1 v3 hlt
 rw [<- hp0] at v2
 have v1' : cs[((p0 : Int) + b.length + 1 + k').toNat]? = some (Lcs.at_ a b (i + 1) k' : Int) := by rw [<- v1]; congr 1
 have v2' : cs[((p0 : Int) + k' + 1).toNat]? = some (Lcs.at_ a b i (k' + 1) : Int) := by rw [<- v2]; congr 1
 have v3' : cs[((p0 : Int) + b.length + 1 + k' + 1).toNat]? = some (Lcs.at_ a b (i + 1) (k' + 1) : Int) := by rw [<- v3]; congr 1
 have hidx : ((p0 : Int) + k').toNat = i * (b.length + 1) + k' := by rw [<- hp0]; omega
 have hks := Lcs.known_set (show i <= a.length by omega) (show k' <= b.length by omega) tp1
 rw [<- hidx] at hks
 repeat' (first | refine nxt ?_ | ((first | refine zqh fun K J => ?_ | refine zqe (by decide +kernel) fun K J => ?_ | refine zqr fun K J => ?_); (simp (disch := omega) only [go_sem, Nat.reduceBEq, ↓reduceIte, reduceCtorEq, Nat.reduceAdd, Nat.reduceLT, t0, t1, t5, t6, t7, t8, tH0, e0, e1, v1', v2', v3', hcl, zr8])) | (refine zqd _ rfl ?_ ?_ <;> intro hc <;> (first | (cases hc; done) | ((try simp only [z07] at hc); (try omega)))) | (refine J _ ?_; clear J K) | (refine zqf (fun hb => ?_) (fun hb => ?_) <;> (have hb2 := hb; try simp only [z07] at hb2) <;> ((first | have F := eq_false hb2 | have F := eq_true hb2); (simp (disch := omega) only [go_sem, Nat.reduceBEq, ↓reduceIte, reduceCtorEq, Nat.reduceAdd, F, t5, t6, t7, t8, tH0, e1, v3']); clear hb F; (try omega))))
 all_goals
  (try rw [if_pos (by assumption)] at hst)
  (try rw [if_neg (by assumption)] at hst)
  (refine Exists.intro _ (And.intro ?_ ⟨k', cs.set ((p0 : Int) + k').toNat (Lcs.at_ a b i k' : Int), rfl, ?_⟩)); rotate_left; (simp (disch := omega) only [go_sem, Nat.reduceBEq, t0, t1, t5, t6, t7, t8, tH0, true_and]); rotate_left
  ·omega
  ·refine ⟨congrArg (fun x => HObj.row 3 n ((cs.set ((p0 : Int) + k').toNat x).map (D.int .i64))) (by omega), by omega, hks, by omega⟩
theorem zys (a b : List ByteArray) (i k m : Nat) (h : Lcs.at_ a b i k = m + 1) : Lcs.search a b (Lcs.at_ a b i k) k i = some (Lcs.next a b i k) := by
 unfold Lcs.next
 cases hs : Lcs.search a b (Lcs.at_ a b i k) k i with
 | some r => rfl
 | none =>
  obtain ⟨x, y, hx, hx', hy, hy', hg⟩ := Lcs.good_ex a b _ i k m (Nat.le_refl _) h
  have := Lcs.search_none hs hx hx' hy hy'
  rw [h] at this
  rw [hg] at this; cases this
theorem zyt (a b : List ByteArray) (i k : Nat) (z : Int) (hi : i <= a.length) (O : k <= b.length) (hz : z = ((i * (b.length + 1) + k : Nat) : Int)) : zun ((Lcs.tab a b).map fun n => D.int .i64 n) z = some (.int .i64 (Lcs.at_ a b i k : Int)) := by
 have h1 := Lcs.tab_get a b i k hi O
 obtain ⟨h2, h3⟩ := List.getElem?_eq_some_iff.1 h1
 rw [hz, z7t (fun n => D.int .i64 n) _ _ h2, h3]
theorem zyu (a b : List ByteArray) (ha : a.length <= maxLen) (hb : b.length <= maxLen) : AC prog 143 [z2j a, z2j b] noH 0 fun d H _ =>
  d = .osl 0 (Lcs.pairs a b).length /\ H 0 = some (.row 129 (Lcs.pairs a b).length ((Lcs.pairs a b).flatMap zav)) := by
 unfold maxLen at ha hb
 refine (z0z [5, 14] func143 rfl (by decide +kernel) rfl ?_)
 show awp _ _ (Code.seq _ _) _ _
 by_cases hl : 256 < a.length \/ 256 < b.length
 ·repeat' (first | refine nxt ?_ | ((refine zqh fun K J => ?_); (simp (disch := omega) only [go_sem, Nat.reduceBEq, ↓reduceIte, reduceCtorEq, Nat.reduceMul])) | (refine zqd _ rfl ?_ ?_ <;> intro hc <;> (first | (cases hc; done) | ((try simp only [z07] at hc); (try omega)))) | refine zqu (by simp only [go_sem]; rfl) rfl ?_ | (refine J _ ?_; clear J K) | (refine zqf (fun hb => ?_) (fun hb => ?_) <;> (have hb2 := hb; try simp only [z07] at hb2) <;> ((first | have F := eq_false hb2 | have F := eq_true hb2); (simp (disch := omega) only [go_sem, Nat.reduceBEq, ↓reduceIte, F]); clear hb F; (try omega))))
  all_goals first | (exfalso; omega) | skip
  all_goals
   rw [Lcs.pairs_long a b hl]
   exact ⟨rfl, rfl⟩
 have hpp : Lcs.pairs a b = Lcs.pairsFrom a b 0 0 := by unfold Lcs.pairs; rw [if_neg hl]
 have hplen : (Lcs.pairsFrom a b 0 0).length <= 256 := by rw [<- hpp]; exact (Lcs.pairs_le a b).1
 repeat' (first | refine nxt ?_ | ((first | refine zqh fun K J => ?_ | refine zqs (zk3 a b (by omega) (by omega)) ?_); (simp (disch := omega) only [go_sem, Nat.reduceBEq, ↓reduceIte, reduceCtorEq, Nat.reduceMul])) | (refine zqd _ rfl ?_ ?_ <;> intro hc <;> (((try simp only [z07] at hc); (try omega)))) | (refine J _ ?_; clear J K) | (refine zqf (fun hb => ?_) (fun hb => ?_) <;> (have hb2 := hb; try simp only [z07] at hb2) <;> ((first | have F := eq_false hb2 | have F := eq_true hb2); (simp (disch := omega) only [go_sem, Nat.reduceBEq, ↓reduceIte, F]); clear hb F; (try omega))))
 (refine z3c (fun U st => ∃ (i : _) (k : _) (out : List (Nat × Nat)), U = Lcs.at_ a b i k + 1 /\ st.t 0 = z2j a /\ st.t 1 = z2j b /\ st.t 5 = .osl 0 out.length /\ st.t 6 = zl5 (Lcs.tab a b) /\ st.t 7 = .int .i64 ((b.length : Int) + 1) /\ st.t 8 = .int .i64 (i : Nat) /\ st.t 9 = .int .i64 (k : Nat) /\ st.H 0 = some (.row 129 out.length (out.flatMap zav)) /\ (i <= a.length) /\ (k <= b.length) /\ (out ++ Lcs.pairsFrom a b i k = Lcs.pairsFrom a b 0 0) /\ (1 <= st.nx)) ?_ ?_); rotate_left; (rintro U st ⟨i, k, out, rfl, s0, s1, s5, s6, s7, s8, s9, sH0, sp0, sp1, sp2, sp3⟩); rotate_left
 ·(refine ⟨_, 0, 0, [], rfl, ?_⟩); (simp (disch := omega) only [go_sem, Nat.reduceBEq, Nat.reduceLeDiff, and_self, Int.natCast_zero, List.flatMap_nil, List.nil_append])
  try simp
 have hol := congrArg List.length sp2
 rw [List.length_append] at hol
 have e0 : (i : Int) * ((b.length : Int) + 1) = ((i * (b.length + 1) : Nat) : Int) := by simp
 have q0 := zyt a b i k (((i * (b.length + 1) : Nat) : Int) + k) sp0 sp1 (by simp)
 have b0 : i * (b.length + 1) <= 66049 := Nat.mul_le_mul (show i <= 257 by omega) (show b.length + 1 <= 257 by omega)
 by_cases hz : Lcs.at_ a b i k = 0
 ·have q0' := q0
  rw [hz] at q0'
  repeat' (first | refine nxt ?_ | ((refine zqh fun K J => ?_); (simp (disch := omega) only [go_sem, Nat.reduceBEq, ↓reduceIte, reduceCtorEq, Nat.reduceAdd, s5, s6, s7, s8, s9, e0, q0'])) | (refine zqd _ rfl ?_ ?_ <;> intro hc <;> (first | (cases hc; done) | ((try simp only [decide_eq_false_iff_not] at hc); (try omega)))) | refine zqz ?_ | refine zqu (by simp only [go_sem]; rfl) rfl ?_ | (refine J _ ?_; clear J K))
  rw [Lcs.pairsFrom_nil a b i k hz, List.append_nil] at sp2
  rw [hpp, <- sp2]
  exact ⟨rfl, sH0⟩
 obtain ⟨m, hm⟩ : ∃ m, Lcs.at_ a b i k = m + 1 := ⟨Lcs.at_ a b i k - 1, by omega⟩
 have hse := zys a b i k m hm
 have hcons := Lcs.pairsFrom_cons a b i k (by omega)
 rw [hcons] at sp2 hol
 simp only [List.length_cons] at hol
 have hatl := Lcs.at_le a b i k
 repeat' (first | refine nxt ?_ | ((refine zqh fun K J => ?_); (simp (disch := omega) only [go_sem, Nat.reduceBEq, ↓reduceIte, reduceCtorEq, Nat.reduceAdd, s6, s7, s8, s9, e0, q0])) | (refine zqd _ rfl ?_ ?_ <;> intro hc <;> (((try simp only [z07] at hc); (try omega)))) | (refine J _ ?_; clear J K))
 obtain ⟨p, hp⟩ : ∃ p, p = Lcs.next a b i k := ⟨_, rfl⟩
 obtain ⟨g1, g2, g3, g4, g5, g6⟩ := Lcs.next_good a b i k m hm
 rw [<- hp] at g1 g2 g3 g4 g5 g6 hse sp2
 obtain ⟨n, hn⟩ : ∃ n, n = Lcs.at_ a b i k := ⟨_, rfl⟩
 rw [<- hn] at hse hatl
 (refine z3c (fun U st => ∃ (x : _) (fd : Bool) (i2 : _) (k2 : _) (out2 : List (Nat × Nat)), U = (if fd then 1 else a.length + 2 - x) /\ st.t 0 = z2j a /\ st.t 1 = z2j b /\ st.t 5 = .osl 0 out2.length /\ st.t 6 = zl5 (Lcs.tab a b) /\ st.t 7 = .int .i64 ((b.length : Int) + 1) /\ st.t 8 = .int .i64 (i2 : Nat) /\ st.t 9 = .int .i64 (k2 : Nat) /\ st.t 10 = .int .i64 (n : Nat) /\ st.t 11 = .bool fd /\ st.t 12 = .int .i64 (x : Nat) /\ st.H 0 = some (.row 129 out2.length (out2.flatMap zav)) /\ (x <= a.length + 1) /\ (1 <= st.nx) /\ (fd = false -> i2 = i /\ k2 = k /\ out2 = out /\ i <= x /\ x <= a.length /\ Lcs.search a b n k x = some p) /\ (fd = true -> i2 = p.1 + 1 /\ k2 = p.2 + 1 /\ out2 = out ++ [p])) ?_ ?_); rotate_left; (rintro U st ⟨x, fd, i2, k2, out2, rfl, t0, t1, t5, t6, t7, t8, t9, t10, t11, t12, tH0, tp0, tp1, tp2, tp3⟩); rotate_left
 ·refine ⟨_, i, false, i, k, out, rfl, ?_⟩
  simp (disch := omega) only [go_sem, Nat.reduceBEq, true_and, s0, s1, s5, s6, s7, s8, s9, sH0]
  exact ⟨by rw [hn], by omega, sp3, fun _ => ⟨Nat.le_refl _, sp0, hse⟩, fun h => by cases h⟩
 cases fd with
 | true =>
  obtain ⟨rfl, rfl, rfl⟩ := tp3 rfl
  repeat' (first | refine nxt ?_ | ((refine zqh fun K J => ?_); (simp (disch := omega) only [go_sem, Nat.reduceBEq, ↓reduceIte, t0, t12])) | (refine zqd _ rfl ?_ ?_ <;> intro hc <;> (first | (cases hc; done) | ((try simp only [] at hc); (try omega)))) | refine zqz ?_ | (refine J _ ?_; clear J K) | (refine zqf (fun hb => ?_) (fun hb => ?_) <;> (have hb2 := hb; try simp only [z07] at hb2) <;> ((first | have F := eq_false hb2 | have F := eq_true hb2); (simp (disch := omega) only [go_sem, Nat.reduceBEq, ↓reduceIte, F, t11]); clear hb F; (try omega))))
  all_goals
   (refine Exists.intro _ (And.intro ?_ ⟨p.1 + 1, p.2 + 1, out ++ [p], rfl, ?_⟩)); rotate_left; (simp (disch := omega) only [go_sem, Nat.reduceBEq, t0, t1, t5, t6, t7, t8, t9, tH0, true_and, Int.natCast_add, Int.natCast_one, List.flatMap_append, List.flatMap_cons, List.flatMap_nil, List.append_nil]); rotate_left
   ·omega
   ·refine ⟨by omega, by omega, by simpa using sp2, by omega⟩
 | false =>
  obtain ⟨rfl, rfl, rfl, tx1, tx2, tse⟩ := tp2 rfl
  by_cases hx : x < a.length
  ·have hstep := Lcs.search_step a b n k2 x hx
   rw [tse] at hstep
   repeat' (first | refine nxt ?_ | ((refine zqh fun K J => ?_); (simp (disch := omega) only [go_sem, Nat.reduceBEq, ↓reduceIte, t0, t9, t12])) | (refine zqd _ rfl ?_ ?_ <;> intro hc <;> (first | (cases hc; done) | ((try simp only [] at hc); (try omega)))) | (refine J _ ?_; clear J K) | (refine zqf (fun hb => ?_) (fun hb => ?_) <;> (have hb2 := hb; try simp only [z07] at hb2) <;> ((first | have F := eq_false hb2 | have F := eq_true hb2); (simp (disch := omega) only [go_sem, Nat.reduceBEq, ↓reduceIte, F, t11]); clear hb F; (try omega))))
   (refine z3c (fun U st => ∃ (y : _) (fd : Bool) (i3 : _) (k3 : _) (out3 : List (Nat × Nat)), U = (if fd then 1 else b.length + 2 - y) /\ st.t 0 = z2j a /\ st.t 1 = z2j b /\ st.t 5 = .osl 0 out3.length /\ st.t 6 = zl5 (Lcs.tab a b) /\ st.t 7 = .int .i64 ((b.length : Int) + 1) /\ st.t 8 = .int .i64 (i3 : Nat) /\ st.t 9 = .int .i64 (k3 : Nat) /\ st.t 10 = .int .i64 (n : Nat) /\ st.t 11 = .bool fd /\ st.t 12 = .int .i64 (x : Nat) /\ st.t 13 = .int .i64 (y : Nat) /\ st.H 0 = some (.row 129 out3.length (out3.flatMap zav)) /\ (y <= b.length + 1) /\ (1 <= st.nx) /\ (fd = false -> i3 = i2 /\ k3 = k2 /\ out3 = out2 /\ k2 <= y /\ y <= b.length /\ Lcs.inRow a b n x y = Lcs.inRow a b n x k2) /\ (fd = true -> i3 = p.1 + 1 /\ k3 = p.2 + 1 /\ out3 = out2 ++ [p])) ?_ ?_); rotate_left; (rintro U st ⟨y, fd, i3, k3, out3, rfl, u0, u1, u5, u6, u7, u8, u9, u10, u11, u12, u13, uH0, up0, up1, up2, up3⟩); rotate_left
   ·refine ⟨_, k2, false, i2, k2, out2, rfl, ?_⟩
    simp (disch := omega) only [go_sem, Nat.reduceBEq, true_and, and_true, t0, t1, t5, t6, t7, t8, t9, t10, t11, t12, tH0]
    exact ⟨by omega, by omega, fun _ => ⟨Nat.le_refl _, sp1⟩, fun h => by cases h⟩
   cases fd with
   | true =>
    obtain ⟨rfl, rfl, rfl⟩ := up3 rfl
    repeat' (first | refine nxt ?_ | ((first | refine zqh fun K J => ?_ | refine zqr fun K J => ?_); (simp (disch := omega) only [go_sem, Nat.reduceBEq, ↓reduceIte, u1, u12, u13])) | (refine zqd _ rfl ?_ ?_ <;> intro hc <;> (first | (cases hc; done) | ((try simp only [] at hc); (try omega)))) | refine zqz ?_ | (refine J _ ?_; clear J K) | (refine zqf (fun hb => ?_) (fun hb => ?_) <;> (have hb2 := hb; try simp only [z07] at hb2) <;> ((first | have F := eq_false hb2 | have F := eq_true hb2); (simp (disch := omega) only [go_sem, Nat.reduceBEq, ↓reduceIte, F, u11]); clear hb F; (try omega))))
    all_goals
     (refine Exists.intro _ (And.intro ?_ ⟨x + 1, true, p.1 + 1, p.2 + 1, out2 ++ [p], rfl, ?_⟩)); rotate_left; (simp (disch := omega) only [go_sem, Nat.reduceBEq, reduceCtorEq, Nat.reduceLeDiff, u0, u1, u5, u6, u7, u8, u9, u10, u11, u12, uH0, true_and, and_self, Int.natCast_add, Int.natCast_one, List.flatMap_append, List.flatMap_cons, List.flatMap_nil, List.append_nil]); rotate_left
     ·simp; omega
     ·exact ⟨by omega, by omega, fun h => h.elim, fun _ => trivial⟩
   | false =>
    obtain ⟨rfl, rfl, rfl, uy1, uy2, use⟩ := up2 rfl
    by_cases hy : y < b.length
    ·have hrow := Lcs.inRow_step a b n x y hy
     have e1 : ((x : Int) + 1) * ((b.length : Int) + 1) = (((x + 1) * (b.length + 1) : Nat) : Int) := by simp
     have q1 := zyt a b (x + 1) (y + 1) ((((x + 1) * (b.length + 1) : Nat) : Int) + y + 1) (by omega) (by omega) (by simp; omega)
     have b1 : (x + 1) * (b.length + 1) <= 66049 := Nat.mul_le_mul (show x + 1 <= 257 by omega) (show b.length + 1 <= 257 by omega)
     have hat1 := Lcs.at_le a b (x + 1) (y + 1)
     have hgd : Lcs.good a b n x y = (decide (a[x] = b[y]) && decide (Lcs.at_ a b (x + 1) (y + 1) + 1 = n)) := by
      unfold Lcs.good
      rw [List.getElem?_eq_getElem hx, List.getElem?_eq_getElem hy]; simp
     have hgT : a[x] = b[y] -> Lcs.at_ a b (x + 1) (y + 1) + 1 = n -> p.1 = x /\ p.2 = y := by
      intro h1 h2
      have h3 : Lcs.good a b n x y = true := by rw [hgd]; simp [h1, h2]
      rw [if_pos h3] at hrow
      rw [<- use, hrow] at hstep
      simp only [Option.some.injEq] at hstep
      rw [hstep]; exact ⟨rfl, rfl⟩
     have hgF : ¬ (a[x] = b[y] /\ Lcs.at_ a b (x + 1) (y + 1) + 1 = n) -> Lcs.inRow a b n x (y + 1) = Lcs.inRow a b n x k3 := by
      intro h1
      have h3 : ¬ Lcs.good a b n x y = true := by rw [hgd]; simpa using h1
      rw [if_neg h3] at hrow
      rw [<- use, hrow]
     repeat' (first | refine nxt ?_ | ((first | refine zqh fun K J => ?_ | refine zqe (by decide +kernel) fun K J => ?_ | refine zqr fun K J => ?_); (simp (disch := omega) only [go_sem, Nat.reduceBEq, Nat.reduceEqDiff, ↓reduceIte, reduceCtorEq, Nat.reduceAdd, Nat.reduceMul, Nat.reduceLeDiff, u0, u1, u5, u12, u13, uH0])) | ((first | refine zqd _ rfl (fun hc => ?_) (fun hc => ?_) | refine zqm _ rfl (fun hc => ?_) (fun hc => ?_)) <;> (first | (cases hc; done) | ((try simp only [z07] at hc); (try omega)))) | (refine J _ ?_; clear J K) | (refine zqf (fun hb => ?_) (fun hb => ?_) <;> (have hb2 := hb; try simp only [z07] at hb2) <;> ((first | have F := eq_false hb2 | have F := eq_true hb2); (simp (disch := omega) only [go_sem, Nat.reduceBEq, Nat.reduceEqDiff, ↓reduceIte, reduceCtorEq, Nat.reduceAdd, F, u6, u7, u10, u11, u12, u13, e1, q1]); clear hb F; (try omega))))
     ·obtain ⟨px, py⟩ := hgT (by assumption) (by omega)
      (refine Exists.intro _ (And.intro ?_ ⟨y + 1, true, p.1 + 1, p.2 + 1, out3 ++ [p], rfl, ?_⟩)); rotate_left; (simp (disch := omega) only [go_sem, Nat.reduceBEq, reduceCtorEq, Nat.reduceLeDiff, u0, u1, u5, u6, u7, u8, u9, u10, u11, u12, u13, uH0, true_and, and_self, Int.natCast_add, Int.natCast_one, List.flatMap_append, List.flatMap_cons, List.flatMap_nil, List.append_nil, px, py, zav]); rotate_left
      ·simp; omega
      ·first | exact ⟨by omega, by omega, fun h => h.elim, fun _ => trivial⟩ | (simp; omega)
     ·have hr := hgF (by rintro ⟨_, h2⟩; omega)
      (refine Exists.intro _ (And.intro ?_ ⟨y + 1, false, i3, k3, out3, rfl, ?_⟩)); rotate_left; (simp (disch := omega) only [go_sem, Nat.reduceBEq, Nat.reduceLeDiff, u0, u1, u5, u6, u7, u8, u9, u10, u11, u12, u13, uH0, true_and, Int.natCast_add, Int.natCast_one]); rotate_left
      ·simp; omega
      ·exact ⟨by omega, by omega, fun _ => ⟨by omega, by omega, hr⟩, fun h => h.elim⟩
     ·have hr := hgF (by rintro ⟨h1, _⟩; exact (by assumption : ¬ a[x] = b[y]) h1)
      (refine Exists.intro _ (And.intro ?_ ⟨y + 1, false, i3, k3, out3, rfl, ?_⟩)); rotate_left; (simp (disch := omega) only [go_sem, Nat.reduceBEq, Nat.reduceLeDiff, u0, u1, u5, u6, u7, u8, u9, u10, u11, u12, u13, uH0, true_and, Int.natCast_add, Int.natCast_one]); rotate_left
      ·simp; omega
      ·exact ⟨by omega, by omega, fun _ => ⟨by omega, by omega, hr⟩, fun h => h.elim⟩
    ·have hnone := Lcs.inRow_end a b n x y (by omega)
     rw [use] at hnone
     rw [hnone] at hstep
     repeat' (first | refine nxt ?_ | ((first | refine zqh fun K J => ?_ | refine zqr fun K J => ?_); (simp (disch := omega) only [go_sem, Nat.reduceBEq, ↓reduceIte, u1, u12, u13])) | (refine zqd _ rfl ?_ ?_ <;> intro hc <;> (first | (cases hc; done) | ((try simp only [] at hc); (try omega)))) | refine zqz ?_ | (refine J _ ?_; clear J K) | (refine zqf (fun hb => ?_) (fun hb => ?_) <;> (have hb2 := hb; try simp only [z07] at hb2) <;> ((first | have F := eq_false hb2 | have F := eq_true hb2); (simp (disch := omega) only [go_sem, Nat.reduceBEq, ↓reduceIte, F, u11]); clear hb F; (try omega))))
     (refine Exists.intro _ (And.intro ?_ ⟨x + 1, false, i3, k3, out3, rfl, ?_⟩)); rotate_left; (simp (disch := omega) only [go_sem, Nat.reduceBEq, Nat.reduceLeDiff, u0, u1, u5, u6, u7, u8, u9, u10, u11, u12, uH0, true_and, Int.natCast_add, Int.natCast_one]); rotate_left
     ·simp; omega
     ·exact ⟨by omega, by omega, fun _ => ⟨by omega, by omega, hstep.symm⟩, fun h => h.elim⟩
  ·rw [Lcs.search_end a b n k2 x (by omega)] at tse
   cases tse
theorem zyv (a b : List ByteArray) (ha : a.length <= maxLen) (hb : b.length <= maxLen) : PC prog 143 [z2j a, z2j b] (zut (Lcs.pairs a b)) :=
 z14 2 (by simp only [pureD.pureL, z2k, Bool.and_self]) (znp _) ((zyu a b ha hb).mono fun d H nx h => by
  obtain ⟨rfl, hH⟩ := h
  exact z3i (z1e 0 hH zl7 zpw (fun _ => rfl) (fun _ => rfl)))
end
section
open Abs Facts Tr
attribute [local irreducible] awp
set_option maxRecDepth 100000
theorem zr7 (was : List Wd) (hwl : was.length <= 1000000) (l : List ByteArray) (hl : l.length <= 1000000) : PC prog 94 [z0n was, z2j l] (z0n (z9o was l)) := by
 have c0 := zrp was hwl
 have hps := Lcs.pairs_le (was.map (·.text)) l
 have c1 := zyv (was.map (·.text)) l (by rw [List.length_map]; unfold maxLen; omega) (by unfold maxLen; omega)
 obtain ⟨ps, hpsd⟩ : ∃ ps, ps = Lcs.pairs (was.map (·.text)) l := ⟨_, rfl⟩
 rw [<- hpsd] at c1 hps
 rw [z2j, z2j, List.map_map] at c1
 rw [z2j, List.map_map] at c0
 refine z14 3 (by simp only [pureD.pureL, z0h, z2k, Bool.and_self]) (z0h _) (z0z [9] func94 rfl (by decide +kernel) rfl ?_)
 show awp _ _ (Code.seq _ _) _ _
 repeat' (first | refine nxt ?_ | ((refine zqh fun K J => ?_); (simp (disch := omega) only [go_sem, Nat.reduceBEq, ↓reduceIte, reduceCtorEq, Nat.reduceMul, z2j])) | (refine J _ ?_; clear J K))
 (refine z3c (fun U st => ∃ (j : _), U = l.length - j /\ st.t 0 = z0n was /\ st.t 1 = z2j l /\ st.t 5 = .osl 0 j /\ st.t 6 = .int .i64 j /\ st.H 0 = some (.row 50 j ((l.take j).flatMap fun s => z10 ⟨s, Idv.zero⟩)) /\ (j <= l.length) /\ (1 <= st.nx)) ?_ ?_); rotate_left; (rintro U st ⟨j, rfl, b0, b1, b5, b6, bH0, bp0, bp1⟩); rotate_left
 ·(refine ⟨_, 0, rfl, ?_⟩); (simp (disch := omega) only [go_sem, Nat.reduceBEq, Nat.reduceLeDiff, and_self, Int.natCast_zero, List.flatMap_nil, z2j, z0n])
  all_goals first | omega
 by_cases hj : j < l.length
 ·repeat' (first | refine nxt ?_ | ((first | refine zqh fun K J => ?_ | refine zqr fun K J => ?_); (simp (disch := omega) only [go_sem, Nat.reduceBEq, ↓reduceIte, reduceCtorEq, Nat.reduceAdd, Nat.reduceMul, Nat.reduceLeDiff, b1, b5, b6, bH0, z2j])) | (refine zqd _ rfl ?_ ?_ <;> intro hc <;> (((try simp only [z07] at hc); (try omega)))) | (refine J _ ?_; clear J K))
  (refine Exists.intro _ (And.intro ?_ ⟨j + 1, rfl, ?_⟩)); rotate_left; (simp (disch := omega) only [go_sem, Nat.reduceBEq, b0, b1, b5, b6, bH0, true_and, Int.natCast_add, Int.natCast_one, List.flatMap_append, List.flatMap_cons, List.flatMap_nil, List.append_nil, List.take_succ_eq_append_getElem hj, z10, Idv.zero]); rotate_left
  all_goals first | omega | exact ⟨by omega, by omega⟩
 have hje : j = l.length := by omega
 subst hje
 have hout : ((l.take l.length).flatMap fun s => z10 ⟨s, Idv.zero⟩) = (z9v was l 0).flatMap z10 := by
  rw [List.take_length]
  unfold z9v
  rw [List.take_zero, List.foldl_nil, List.flatMap_map]
 rw [hout] at bH0
 repeat' (first | refine nxt ?_ | ((first | refine zqh fun K J => ?_ | refine zqs (c0) ?_ | refine zqs (c1) ?_); (simp (disch := omega) only [go_sem, Nat.reduceBEq, ↓reduceIte, b0, b1, b6])) | (refine zqd _ rfl ?_ ?_ <;> intro hc <;> (((try simp only [z07] at hc); (try omega)))) | refine zqz ?_ | (refine J _ ?_; clear J K))
 (refine z3c (fun U st => ∃ (k : _), U = ps.length - k /\ st.t 0 = z0n was /\ st.t 1 = z2j l /\ st.t 5 = .osl 0 l.length /\ st.t 7 = zut ps /\ st.t 8 = .int .i64 k /\ st.H 0 = some (.row 50 l.length ((z9v was l k).flatMap z10)) /\ (k <= ps.length) /\ (1 <= st.nx)) ?_ ?_); rotate_left; (rintro U st ⟨k, rfl, c0, c1, c5, c7, c8, cH0, cp0, cp1⟩); rotate_left
 ·(refine ⟨_, 0, rfl, ?_⟩); (simp (disch := omega) only [go_sem, Nat.reduceBEq, b0, b1, b5, bH0, true_and, Int.natCast_zero, zut])
  all_goals first | omega
 by_cases O : k < ps.length
 ·obtain ⟨h1, h2, h3, h4⟩ : ∃ (h1 : ps[k].1 < was.length) (h2 : ps[k].2 < (z9v was l k).length), (z9v was l k)[ps[k].2].text = was[ps[k].1].text /\ z9v was l (k + 1) = (z9v was l k).set ps[k].2 was[ps[k].1] := by
   subst hpsd; exact zn6 was l O
  have hlen : ((z9v was l k).flatMap z10).length = l.length * 4 := by rw [z43 (f := z10) (sz := 4) (fun _ => rfl), zd9]
  have hol := zd9 was l k
  have hsp : z17 ((z9v was l k).flatMap z10) (ps[k].2 * 4) (z10 was[ps[k].1]) = (z9v was l (k + 1)).flatMap z10 := by
   rw [h4]
   exact z6d (f := z10) (sz := 4) (fun _ => rfl) h2
  have hcl : ∀ w : Wd, (z10 w).length = 4 := fun _ => rfl
  repeat' (first | refine nxt ?_ | ((first | refine zqh fun K J => ?_ | refine zqr fun K J => ?_ | refine zqq (by decide +kernel) fun K J => ?_); (simp (disch := omega) only [go_sem, Nat.reduceBEq, ↓reduceIte, reduceCtorEq, Nat.reduceAdd, c0, c5, c7, c8, cH0, zut, zav, z0n, z7q, hsp, hlen, hcl])) | (refine zqd _ rfl ?_ ?_ <;> intro hc <;> (((try simp only [z07] at hc); (try omega)))) | (refine J _ ?_; clear J K))
  (refine Exists.intro _ (And.intro ?_ ⟨k + 1, rfl, ?_⟩)); rotate_left; (simp (disch := omega) only [go_sem, Nat.reduceBEq, c0, c1, c5, c7, c8, cH0, true_and, Int.natCast_add, Int.natCast_one, zut]); rotate_left
  all_goals first | omega | exact ⟨by omega, by omega⟩
 ·have hke : k = ps.length := by omega
  subst hke
  rw [hpsd, zs4] at cH0
  repeat' (first | refine nxt ?_ | ((refine zqh fun K J => ?_); (simp (disch := omega) only [go_sem, Nat.reduceBEq, ↓reduceIte, c5, c7, c8, zut])) | (refine zqd _ rfl ?_ ?_ <;> intro hc <;> (((try simp only [z07] at hc); (try omega)))) | refine zqz ?_ | refine zqu (by simp only [go_sem]; rfl) rfl ?_ | (refine J _ ?_; clear J K))
  refine z3i ?_
  have hln := z8j was l
  rw [<- hln] at cH0 ⊢
  exact z1e 1 cH0 z5y z89 (fun _ => rfl) (fun _ => rfl)
theorem zwe : ∀ t : T, szB t = true -> ∀ n : Nat, n + cntT t <= 1000000000 ->
  PC prog 97 [z0g t, .int .i64 (n : Nat)] (.tup [z0g (z27 t n).1, .int .i64 ((z27 t n).2 : Nat)]) := by
 refine z4x fun t ih hs n hn => ?_
 obtain ⟨h0, h1, g1, h2, g2, h3, h4⟩ := (z2f t).1 hs
 have hcp := zgf t
 have hnt := zjn t n
 refine z14 4 (by simp only [pureD.pureL, z01, pureD, Bool.and_self]) (by simp only [pureD.pureL, z01, pureD, Bool.and_self]) (z0z [14] func97 rfl (by decide +kernel) rfl ?_)
 show awp _ _ (Code.seq _ _) _ _
 rw [show Tryz.f97.results.toList = [.cell 4 27, .tmp 5] from rfl]
 rw [show z0g t = .agg _ from by rw [z0g, z0k]]
 repeat' (first | refine nxt ?_ | ((refine zqh fun K J => ?_); (simp (disch := omega) only [go_sem, Nat.reduceBEq, ↓reduceIte, reduceCtorEq, Nat.reduceAdd, Nat.reduceMul, Nat.reduceLeDiff, List.set_cons_succ, List.set_cons_zero])) | (refine J _ ?_; clear J K))
 (refine z3c (fun U st => ∃ (i : _), U = t.kids.length - i /\ st.t 1 = .int .i64 (z9w t n i : Nat) /\ st.t 2 = .ptr 0 0 /\ st.t 4 = .ptr 1 0 /\ st.t 6 = .osl 2 i /\ st.t 7 = .int .i64 i /\ st.H 0 = some (.box 27 [.int .i64 0, .int .i64 0, .int .i64 (n : Nat), .int .i64 t.kind, .str t.label, z0n t.head, z0n t.words, z0q t.kids]) /\ st.H 1 = some (.box 27 z67) /\ st.H 2 = some (.row 27 i ((z2b ((t.kids.take i).map z27) (n + 1)).1.flatMap z0a)) /\ (i <= t.kids.length) /\ (3 <= st.nx)) ?_ ?_); rotate_left; (rintro U st ⟨i, rfl, q1, q2, q4, q6, q7, qH0, qH1, qH2, qp0, qp1⟩); rotate_left
 ·(refine ⟨_, 0, rfl, ?_⟩); (simp (disch := omega) only [go_sem, Nat.reduceBEq, Nat.reduceLeDiff, true_and, and_true, and_self, Int.natCast_zero, List.map_nil, z67, z9w])
  exact ⟨rfl, rfl⟩
 by_cases hi : i < t.kids.length
 ·have hle := zse hs n hi
  have hin := ih t.kids[i] (List.getElem_mem hi) (h4 _ (List.getElem_mem hi)) (z9w t n i) (by omega)
  have hsn := zej t n i hi
  repeat' (first | refine nxt ?_ | ((first | refine zqh fun K J => ?_ | refine zqr fun K J => ?_ | refine zqs (hin) ?_); (simp (disch := omega) only [go_sem, Nat.reduceBEq, ↓reduceIte, reduceCtorEq, Nat.reduceAdd, Nat.reduceMul, Nat.reduceLeDiff, q1, q2, q6, q7, qH0, qH2, z0q, z0g])) | (refine zqd _ rfl ?_ ?_ <;> intro hc <;> (((try simp only [z07] at hc); (try omega)))) | (refine J _ ?_; clear J K))
  (refine Exists.intro _ (And.intro ?_ ⟨i + 1, rfl, ?_⟩)); rotate_left; (simp (disch := omega) only [go_sem, Nat.reduceBEq, Nat.reduceLeDiff, q1, q2, q4, q6, q7, qH0, qH1, qH2, true_and, Int.natCast_add, Int.natCast_one, List.flatMap_append, List.flatMap_cons, List.flatMap_nil, List.append_nil, hsn, zek t n i hi, z67]); rotate_left
  all_goals first | omega | exact ⟨by omega, by omega⟩
 ·have hie : i = t.kids.length := by omega
  subst hie
  rw [List.take_length] at qH2
  repeat' (first | refine nxt ?_ | ((refine zqh fun K J => ?_); (simp (disch := omega) only [go_sem, Nat.reduceBEq, ↓reduceIte, reduceCtorEq, Nat.reduceAdd, Nat.reduceLeDiff, Nat.reduceLT, q1, q2, q4, q6, q7, qH0, qH1, z0q, z67, List.set_cons_succ, List.set_cons_zero])) | (refine zqd _ rfl ?_ ?_ <;> intro hc <;> (((try simp only [z07] at hc); (try omega)))) | refine zqz ?_ | refine zqu (by (simp (disch := omega) only [go_sem, Nat.reduceBEq, ↓reduceIte, Nat.reduceAdd, Nat.reduceLeDiff, q4, qH1, z67]); rfl) rfl ?_ | (refine J _ ?_; clear J K))
  rw [show (z27 t n).1 = (t.setId ⟨0, 0, (n : Int)⟩).setKids (z2b (t.kids.map z27) (n + 1)).1 from by rw [hnt], show (z27 t n).2 = z9w t n t.kids.length from by rw [hnt]; unfold z9w; rw [List.take_length]]
  refine z3i (zlj 3 (by simp only [pureD.pureL, pureD, Bool.and_false, Bool.false_and]) (z00 (z5p 1 (t := (t.setId ⟨0, 0, (n : Int)⟩).setKids (z2b (t.kids.map z27) (n + 1)).1) (z16 (f := z0a) (l := (z2b (t.kids.map z27) (n + 1)).1) 0 (by rw [zaz, List.length_map]) ?_ z0j z2s z0c z04) rfl) (z00 (z02 2 rfl) z0d)))
  (simp (disch := omega) only [go_sem, Nat.reduceBEq, qH2])
structure OpSz (o : Deed) : Prop where
 ws : o.words.length <= 1000000
 wt : ∀ w ∈ o.words, w.size <= 1000000
 lb : o.label.size <= 1000000
 un : szB o.unit = true
 ct : cntT o.unit <= 1000000
 dp : depT o.unit <= 1000000
 at1 : -9223372036854775808 <= o.at_
 at2 : o.at_ <= 9223372036854775807
def znq (u : T) (o : Deed) (n : Nat) : D := .tup [z0g (if doE u o n = 0 then doT u o n else u), .int .i64 ((n + if doE u o n = 0 then zjo o else 0 : Nat) : Int), .int .i64 (doE u o n)]
theorem zsn (u : T) (o : Deed) (n : Nat) : pureD (znq u o n) = true := by simp only [znq, pureD, pureD.pureL, z01, Bool.and_self]
theorem z4y {u : T} {o : Deed} {n : Nat} {e : Int} (h : doE u o n = e) (he : e ≠ 0) : znq u o n = .tup [z0g u, .int .i64 (n : Nat), .int .i64 e] := by
 unfold znq; rw [h, if_neg he, if_neg he]; rfl
theorem z7s {u : T} {o : Deed} {n m : Nat} {t : T} (h : doE u o n = 0) (ht : doT u o n = t) (hm : zjo o = m) : znq u o n = .tup [z0g t, .int .i64 ((n + m : Nat) : Int), .int .i64 0] := by
 unfold znq; rw [h, if_pos rfl, if_pos rfl, ht, hm]
theorem pc_Do (u : T) (hs : standsT u = true) (o : Deed) (ho : OpSz o) (n : Nat) (hn : n <= 100000000) :
  PC prog 74 [z0g u, z39 o, .int .i64 (n : Nat)] (znq u o n) := by
 obtain ⟨z1, z2, z3⟩ := z21 hs
 obtain ⟨hw, hws, hlb, hun, hct, hdp, ha1, ha2⟩ := ho
 refine z14 3 (by simp only [pureD.pureL, z01, z3f, pureD, Bool.and_self]) (zsn _ _ _) (z0z [5000043, 5000047] func74 rfl (by decide +kernel) rfl ?_)
 show awp _ _ (Code.seq _ _) _ _
 rw [show Tryz.f74.results.toList = [.cell 6 27, .tmp 7, .tmp 8] from rfl]
 have hsp : ∀ t x : T, z17 (z0a t) 0 (z0a x) = z0a x := fun t x => z4e _ _ (by rw [z0c, z0c])
 have fin : ∀ {t : T} {a b : Int}, pureD (.tup [z0g t, .int .i64 a, .int .i64 b]) = true := by intro t a b; simp only [pureD, pureD.pureL, z01, Bool.and_self]
 by_cases k0 : o.kind = 0
 ·have c1 := z49 o.id u z1
  have hfs := zbf (z4p o.id u z1)
  have c2 := zr7 (z06 o.id u).1.words (by omega) o.words hw
  have hwd : z9o (z06 o.id u).1.words o.words = z3h u o := by unfold z3h; rw [k0]; rfl
  have c3 := zm1 u z1 (by omega) (by omega) o.id (z3h u o) (by rw [<- hwd, z8j]; exact hw) (fun w hm => by
   have := z8z (n := 1000000) hws w (by rw [hwd]; exact hm)
   unfold maxLen; omega) false
  rw [hwd] at c2
  simp only [Bool.false_eq_true, if_false] at c3
  have he : doE u o n = z2z u o.id (z3h u o) := by unfold doE; rw [k0]; rfl
  by_cases hz : z2z u o.id (z3h u o) = 0
  ·rw [z7s (t := z1g o.id (fun q => q.setWords (z3h u o)) u) (m := 0) (he.trans hz) (by unfold doT; rw [k0]; rfl) (by unfold zjo; rw [k0]; rfl)]
   rw [hz, if_pos rfl] at c3
   repeat' (first | refine nxt ?_ | ((first | refine zqh fun K J => ?_ | refine zqq (by decide +kernel) fun K J => ?_ | refine zqs (c1) ?_ | refine zqt (c2) ?_ | refine zqt (c3) ?_); (simp (disch := omega) only [go_sem, Nat.reduceBEq, Nat.reduceEqDiff, ↓reduceIte, reduceCtorEq, Nat.reduceAdd, Nat.reduceLeDiff, Int.reduceEq, z0g, z39, k0, hsp])) | ((first | refine zqd _ rfl (fun hc => ?_) (fun hc => ?_) | refine zqm _ rfl (fun hc => ?_) (fun hc => ?_)) <;> (first | (cases hc; done) | ((try simp only [] at hc); (try omega)))) | refine zqu (by (simp (disch := omega) only [go_sem, Nat.reduceBEq, ↓reduceIte, Nat.reduceLeDiff]); rfl) rfl ?_ | (refine J _ ?_; clear J K))
   exact z08 fin (Le.refl _)
  ·rw [z4y he hz]
   repeat' (first | refine nxt ?_ | ((first | refine zqh fun K J => ?_ | refine zqq (by decide +kernel) fun K J => ?_ | refine zqs (c1) ?_ | refine zqt (c2) ?_ | refine zqt (c3) ?_); (simp (disch := omega) only [go_sem, Nat.reduceBEq, Nat.reduceEqDiff, ↓reduceIte, reduceCtorEq, Nat.reduceAdd, Nat.reduceLeDiff, Int.reduceEq, z0g, z39, k0, hsp])) | ((first | refine zqd _ rfl (fun hc => ?_) (fun hc => ?_) | refine zqm _ rfl (fun hc => ?_) (fun hc => ?_)) <;> (first | (cases hc; done) | ((try simp only [z07] at hc); (try omega)))) | refine zqu (by (simp (disch := omega) only [go_sem, Nat.reduceBEq, ↓reduceIte, Nat.reduceLeDiff]); rfl) rfl ?_ | (refine J _ ?_; clear J K))
   exact z08 fin (Le.refl _)
 by_cases k1 : o.kind = 1
 ·have c1 := z49 o.id u z1
  have hfs := zbf (z4p o.id u z1)
  have c2 := zr7 (z06 o.id u).1.head (by omega) o.words hw
  have hwd : z9o (z06 o.id u).1.head o.words = z3h u o := by unfold z3h; rw [k1]; rfl
  have c3 := zm1 u z1 (by omega) (by omega) o.id (z3h u o) (by rw [<- hwd, z8j]; exact hw) (fun w hm => by
   have := z8z (n := 1000000) hws w (by rw [hwd]; exact hm)
   unfold maxLen; omega) true
  rw [hwd] at c2
  simp only [if_true] at c3
  have he : doE u o n = z2z u o.id (z3h u o) := by unfold doE; rw [k1]; rfl
  by_cases hz : z2z u o.id (z3h u o) = 0
  ·rw [z7s (t := z1g o.id (fun q => q.setHead (z3h u o)) u) (m := 0) (he.trans hz) (by unfold doT; rw [k1]; rfl) (by unfold zjo; rw [k1]; rfl)]
   rw [hz, if_pos rfl] at c3
   repeat' (first | refine nxt ?_ | ((first | refine zqh fun K J => ?_ | refine zqq (by decide +kernel) fun K J => ?_ | refine zqs (c1) ?_ | refine zqt (c2) ?_ | refine zqt (c3) ?_); (simp (disch := omega) only [go_sem, Nat.reduceBEq, Nat.reduceEqDiff, ↓reduceIte, reduceCtorEq, Nat.reduceAdd, Nat.reduceLeDiff, Int.reduceEq, z0g, z39, k1, hsp])) | ((first | refine zqd _ rfl (fun hc => ?_) (fun hc => ?_) | refine zqm _ rfl (fun hc => ?_) (fun hc => ?_)) <;> (first | (cases hc; done) | ((try simp only [] at hc); (try omega)))) | refine zqu (by (simp (disch := omega) only [go_sem, Nat.reduceBEq, ↓reduceIte, Nat.reduceLeDiff]); rfl) rfl ?_ | (refine J _ ?_; clear J K))
   exact z08 fin (Le.refl _)
  ·rw [z4y he hz]
   repeat' (first | refine nxt ?_ | ((first | refine zqh fun K J => ?_ | refine zqq (by decide +kernel) fun K J => ?_ | refine zqs (c1) ?_ | refine zqt (c2) ?_ | refine zqt (c3) ?_); (simp (disch := omega) only [go_sem, Nat.reduceBEq, Nat.reduceEqDiff, ↓reduceIte, reduceCtorEq, Nat.reduceAdd, Nat.reduceLeDiff, Int.reduceEq, z0g, z39, k1, hsp])) | ((first | refine zqd _ rfl (fun hc => ?_) (fun hc => ?_) | refine zqm _ rfl (fun hc => ?_) (fun hc => ?_)) <;> (first | (cases hc; done) | ((try simp only [z07] at hc); (try omega)))) | refine zqu (by (simp (disch := omega) only [go_sem, Nat.reduceBEq, ↓reduceIte, Nat.reduceLeDiff]); rfl) rfl ?_ | (refine J _ ?_; clear J K))
   exact z08 fin (Le.refl _)
 by_cases k2 : o.kind = 2
 ·have c3 := zoe u z1 (by omega) (by omega) o.id o.label hlb
  have he : doE u o n = zby u o.id o.label := by unfold doE; rw [k2]; rfl
  by_cases hz : zby u o.id o.label = 0
  ·rw [z7s (t := z1g o.id (fun q => q.setLabel o.label) u) (m := 0) (he.trans hz) (by unfold doT; rw [k2]; rfl) (by unfold zjo; rw [k2]; rfl)]
   rw [hz, if_pos rfl] at c3
   repeat' (first | refine nxt ?_ | ((first | refine zqh fun K J => ?_ | refine zqr fun K J => ?_ | refine zqs (c3) ?_); (simp (disch := omega) only [go_sem, Nat.reduceBEq, ↓reduceIte, reduceCtorEq, Nat.reduceAdd, Nat.reduceLeDiff, Int.reduceEq, z0g, z39, k2, hsp])) | ((first | refine zqd _ rfl (fun hc => ?_) (fun hc => ?_) | refine zqm _ rfl (fun hc => ?_) (fun hc => ?_)) <;> (first | (cases hc; done) | ((try simp only [] at hc); (try omega)))) | refine zqu (by (simp (disch := omega) only [go_sem, Nat.reduceBEq, ↓reduceIte, Nat.reduceLeDiff]); rfl) rfl ?_ | (refine J _ ?_; clear J K))
   exact z08 fin (Le.refl _)
  ·rw [z4y he hz]
   repeat' (first | refine nxt ?_ | ((first | refine zqh fun K J => ?_ | refine zqr fun K J => ?_ | refine zqs (c3) ?_); (simp (disch := omega) only [go_sem, Nat.reduceBEq, ↓reduceIte, reduceCtorEq, Nat.reduceAdd, Nat.reduceLeDiff, Int.reduceEq, z0g, z39, k2, hsp])) | ((first | refine zqd _ rfl (fun hc => ?_) (fun hc => ?_) | refine zqm _ rfl (fun hc => ?_) (fun hc => ?_)) <;> (first | (cases hc; done) | ((try simp only [z07] at hc); (try omega)))) | refine zqu (by (simp (disch := omega) only [go_sem, Nat.reduceBEq, ↓reduceIte, Nat.reduceLeDiff]); rfl) rfl ?_ | (refine J _ ?_; clear J K))
   exact z08 fin (Le.refl _)
 by_cases k4 : o.kind = 4
 ·have c3 := pc_Take u z1 (by omega) (by omega) o.id
  have he : doE u o n = z5m u o.id := by unfold doE; rw [k4]; rfl
  by_cases hz : z5m u o.id = 0
  ·rw [z7s (t := z0o o.id u) (m := 0) (he.trans hz) (by unfold doT; rw [k4]; rfl) (by unfold zjo; rw [k4]; rfl)]
   rw [hz, if_pos rfl] at c3
   repeat' (first | refine nxt ?_ | ((first | refine zqh fun K J => ?_ | refine zqr fun K J => ?_ | refine zqs (c3) ?_); (simp (disch := omega) only [go_sem, Nat.reduceBEq, ↓reduceIte, reduceCtorEq, Nat.reduceAdd, Nat.reduceLeDiff, Int.reduceEq, z0g, z39, k4, hsp])) | ((first | refine zqd _ rfl (fun hc => ?_) (fun hc => ?_) | refine zqm _ rfl (fun hc => ?_) (fun hc => ?_)) <;> (first | (cases hc; done) | ((try simp only [] at hc); (try omega)))) | refine zqu (by (simp (disch := omega) only [go_sem, Nat.reduceBEq, ↓reduceIte, Nat.reduceLeDiff]); rfl) rfl ?_ | (refine J _ ?_; clear J K))
   exact z08 fin (Le.refl _)
  ·rw [z4y he hz]
   repeat' (first | refine nxt ?_ | ((first | refine zqh fun K J => ?_ | refine zqr fun K J => ?_ | refine zqs (c3) ?_); (simp (disch := omega) only [go_sem, Nat.reduceBEq, ↓reduceIte, reduceCtorEq, Nat.reduceAdd, Nat.reduceLeDiff, Int.reduceEq, z0g, z39, k4, hsp])) | ((first | refine zqd _ rfl (fun hc => ?_) (fun hc => ?_) | refine zqm _ rfl (fun hc => ?_) (fun hc => ?_)) <;> (first | (cases hc; done) | ((try simp only [z07] at hc); (try omega)))) | refine zqu (by (simp (disch := omega) only [go_sem, Nat.reduceBEq, ↓reduceIte, Nat.reduceLeDiff]); rfl) rfl ?_ | (refine J _ ?_; clear J K))
   exact z08 fin (Le.refl _)
 by_cases k5 : o.kind = 5
 ·have c3 := pc_MoveR u z1 (by omega) (by omega) o.id o.parent o.at_
  have he : doE u o n = z4a u o.id o.parent o.at_ := by unfold doE; rw [k5]; rfl
  by_cases hz : z4a u o.id o.parent o.at_ = 0
  ·rw [z7s (t := z1g o.parent (z7r o.at_.toNat (z06 o.id u).1) (z0o o.id u)) (m := 0) (he.trans hz) (by unfold doT; rw [k5]; rfl) (by unfold zjo; rw [k5]; rfl)]
   rw [hz, if_pos rfl] at c3
   repeat' (first | refine nxt ?_ | ((first | refine zqh fun K J => ?_ | refine zqr fun K J => ?_ | refine zqs (c3) ?_); (simp (disch := omega) only [go_sem, Nat.reduceBEq, ↓reduceIte, reduceCtorEq, Nat.reduceAdd, Nat.reduceLeDiff, Int.reduceEq, z0g, z39, k5, hsp])) | ((first | refine zqd _ rfl (fun hc => ?_) (fun hc => ?_) | refine zqm _ rfl (fun hc => ?_) (fun hc => ?_)) <;> (first | (cases hc; done) | ((try simp only [] at hc); (try omega)))) | refine zqu (by (simp (disch := omega) only [go_sem, Nat.reduceBEq, ↓reduceIte, Nat.reduceLeDiff]); rfl) rfl ?_ | (refine J _ ?_; clear J K))
   exact z08 fin (Le.refl _)
  ·rw [z4y he hz]
   repeat' (first | refine nxt ?_ | ((first | refine zqh fun K J => ?_ | refine zqr fun K J => ?_ | refine zqs (c3) ?_); (simp (disch := omega) only [go_sem, Nat.reduceBEq, ↓reduceIte, reduceCtorEq, Nat.reduceAdd, Nat.reduceLeDiff, Int.reduceEq, z0g, z39, k5, hsp])) | ((first | refine zqd _ rfl (fun hc => ?_) (fun hc => ?_) | refine zqm _ rfl (fun hc => ?_) (fun hc => ?_)) <;> (first | (cases hc; done) | ((try simp only [z07] at hc); (try omega)))) | refine zqu (by (simp (disch := omega) only [go_sem, Nat.reduceBEq, ↓reduceIte, Nat.reduceLeDiff]); rfl) rfl ?_ | (refine J _ ?_; clear J K))
   exact z08 fin (Le.refl _)
 by_cases k3 : o.kind = 3
 ·have c1 := pc_Bare o.unit hun (by omega) (by omega)
  have c1 : PC prog 96 [z0g o.unit] (.bool (znx o.unit)) := c1
  by_cases hb : znx o.unit = true
  ·have hfa := zdr o.unit hun (n + 1)
   have c2 := zwe o.unit hun (n + 1) (by omega)
   have c3 := zsl u (z27 o.unit (n + 1)).1 z1 hfa.1 (by omega) (by omega) (by omega) (by omega) o.parent o.at_ ⟨ha1, ha2⟩
   simp only [ne_eq, ite_not] at c3
   rw [hfa.2.2.2] at c2
   rw [hb] at c1
   have he : doE u o n = z3e u o.parent o.at_ (z27 o.unit (n + 1)).1 := by unfold doE; rw [k3]; simp only [hb]; rfl
   by_cases hz : z3e u o.parent o.at_ (z27 o.unit (n + 1)).1 = 0
   ·rw [z7s (t := z1g o.parent (z7r o.at_.toNat (z27 o.unit (n + 1)).1) u) (m := cntT o.unit) (he.trans hz) (by unfold doT; rw [k3]; rfl) (by unfold zjo; rw [k3]; rfl)]
    rw [hz, if_pos rfl] at c3
    repeat' (first | refine nxt ?_ | ((first | refine zqh fun K J => ?_ | refine zqr fun K J => ?_ | refine zqs (c1) ?_ | refine zqs (c2) ?_ | refine zqs (c3) ?_); (simp (disch := omega) only [go_sem, Nat.reduceBEq, ↓reduceIte, reduceCtorEq, Nat.reduceAdd, Nat.reduceLeDiff, Int.reduceEq, z0g, z39, k3, hsp])) | ((first | refine zqd _ rfl (fun hc => ?_) (fun hc => ?_) | refine zqm _ rfl (fun hc => ?_) (fun hc => ?_)) <;> (first | (cases hc; done) | ((try simp only [] at hc); (try omega)))) | refine zqu (by (simp (disch := omega) only [go_sem, Nat.reduceBEq, ↓reduceIte, Nat.reduceLeDiff]); rfl) rfl ?_ | (refine J _ ?_; clear J K))
    first
     | (rw [show ((n + cntT o.unit : Nat) : Int) = ((n + 1 + cntT o.unit : Nat) : Int) - 1 from by omega]; exact z08 fin (Le.refl _))
     | (rw [show ((n + cntT o.unit : Nat) : Int) = (n : Int) + 1 + (cntT o.unit : Nat) - 1 from by omega]; exact z08 fin (Le.refl _))
     | (rw [show ((n + cntT o.unit : Nat) : Int) = (n : Int) + (cntT o.unit : Nat) from by omega]; exact z08 fin (Le.refl _))
   ·rw [z4y he hz]
    repeat' (first | refine nxt ?_ | ((first | refine zqh fun K J => ?_ | refine zqs (c1) ?_ | refine zqs (c2) ?_ | refine zqs (c3) ?_); (simp (disch := omega) only [go_sem, Nat.reduceBEq, ↓reduceIte, reduceCtorEq, Nat.reduceAdd, Nat.reduceLeDiff, Int.reduceEq, z0g, z39, k3, hsp])) | ((first | refine zqd _ rfl (fun hc => ?_) (fun hc => ?_) | refine zqm _ rfl (fun hc => ?_) (fun hc => ?_)) <;> (first | (cases hc; done) | ((try simp only [z07] at hc); (try omega)))) | refine zqu (by (simp (disch := omega) only [go_sem, Nat.reduceBEq, ↓reduceIte, Nat.reduceLeDiff]); rfl) rfl ?_ | (refine J _ ?_; clear J K))
    exact z08 fin (Le.refl _)
  ·rw [Bool.not_eq_true] at hb
   rw [hb] at c1
   rw [z4y (e := 1) (by unfold doE; rw [k3]; simp only [hb]; rfl) (by decide)]
   repeat' (first | refine nxt ?_ | ((first | refine zqh fun K J => ?_ | refine zqs (c1) ?_); (simp (disch := omega) only [go_sem, Nat.reduceBEq, ↓reduceIte, reduceCtorEq, Nat.reduceAdd, Nat.reduceLeDiff, Int.reduceEq, z0g, z39, k3])) | ((first | refine zqd _ rfl (fun hc => ?_) (fun hc => ?_) | refine zqm _ rfl (fun hc => ?_) (fun hc => ?_)) <;> (first | (cases hc; done) | ((try simp only [] at hc); (try omega)))) | refine zqu (by (simp (disch := omega) only [go_sem, Nat.reduceBEq, ↓reduceIte, Nat.reduceLeDiff]); rfl) rfl ?_ | (refine J _ ?_; clear J K))
   exact z08 fin (Le.refl _)
 rw [z4y (e := 1) (by unfold doE; rw [if_neg (by omega), if_neg k2, if_neg k3, if_neg k4, if_neg k5]) (by decide)]
 repeat' (first | refine nxt ?_ | ((first | refine zqh fun K J => ?_ | refine zqr fun K J => ?_); (simp (disch := omega) only [go_sem, Nat.reduceBEq, ↓reduceIte, reduceCtorEq, Nat.reduceAdd, Nat.reduceLeDiff, Int.reduceEq, z0g, z39, k0, k1, k2, k3, k4, k5])) | ((first | refine zqd _ rfl (fun hc => ?_) (fun hc => ?_) | refine zqm _ rfl (fun hc => ?_) (fun hc => ?_)) <;> (first | (cases hc; done) | ((try simp only [] at hc); (try omega)))) | refine zqu (by (simp (disch := omega) only [go_sem, Nat.reduceBEq, ↓reduceIte, Nat.reduceLeDiff]); rfl) rfl ?_ | (refine J _ ?_; clear J K))
 exact z08 fin (Le.refl _)
theorem zjd {α : Type} {c : Nat} {f : α -> D} (h : ∀ x, thickD c (f x) = true) : ∀ l : List α, thickD.thickL c (l.map f) = true
 | [] => rfl
 | x :: l => by simp only [List.map_cons, thickD.thickL, h x, zjd h l, Bool.and_self]
theorem znm {c : Nat} : ∀ {l : List D}, (∀ d ∈ l, thickD c d = true) -> thickD.thickL c l = true
 | [], _ => rfl
 | d :: l, h => by simp only [thickD.thickL, h d List.mem_cons_self, znm (l := l) (fun x hx => h x (List.mem_cons_of_mem _ hx)), Bool.and_self]
theorem zpo (l : List Wd) : thickD 3 (z0n l) = true := by
 unfold z0n
 simp only [thickD, zjd (c := 3) (f := z7q) (fun _ => rfl) l]
 simp
theorem zbh : ∀ t : T, thickD 3 (z0g t) = true := by
 refine z4x fun t ih => ?_
 rw [z0g, z0k]
 have O : thickD 3 (z0q t.kids) = true := by
  unfold z0q
  have : thickD.thickL 3 (t.kids.map z0g) = true := znm fun d V => by
   obtain ⟨k, O, rfl⟩ := List.mem_map.1 V
   exact ih k O
  simp only [thickD, this]
  simp
 simp only [thickD, thickD.thickL, zpo, O, Bool.and_self]
theorem z5x (u : T) (o : Deed) (n : Nat) : thickD 3 (z6b u o n) = true := by
 simp only [z6b, thickD, thickD.thickL, zbh, Bool.and_self]
theorem zpp (s : Ses) (n : Nat) : lowO n (edO s) = true := z35 n (z13 s) (z2a s)
theorem z8v {u : T} {o : Deed} {n : Nat} {e : Int} (h : doE u o n = e) (he : e ≠ 0) : z6b u o n = .tup [z0g T.zero, .int .i64 e] := by
 unfold z6b; rw [h, if_neg he]
theorem zbi {u : T} {o : Deed} {n : Nat} {t : T} (h : doE u o n = 0) (ht : doT u o n = t) : z6b u o n = .tup [z0g t, .int .i64 0] := by
 unfold z6b; rw [h, if_pos rfl, ht]
theorem zdn {f : FuncId} {s : Ses} {rest : List D} {r : D} (h : PC prog f (zl6 s :: rest) r) (ht : thickD 3 r = true) (k : Nat) (H : HM) (nx : Nat) (_ : k < nx) (hH : H k = some (.box 74 (z13 s))) : RC prog f (.ptr k 0 :: rest) H nx r :=
 PC.lend h hH ht
theorem z8w (s : Ses) (o : Deed) : LeL [.rsl true 8 (List.map z0g (trees s.base (s.dn ++ [o]))), .rsl true 18 (List.map z39 (s.dn ++ [o])), .int .i64 ((s.dn.length : Nat) + 1 : Int)] (z13 ⟨s.base, s.dn ++ [o], []⟩) := by
 unfold z13
 simp only [List.append_nil]
 exact ⟨Le.refl _, Le.rsl, by rw [show (((s.dn ++ [o]).length : Nat) : Int) = (s.dn.length : Nat) + 1 from by simp]; exact Le.refl _, trivial⟩
theorem tc_Apply (s : Ses) (hs : standsT s.base = true) (hok : OKrun s.base s.dn) (ho : ∀ o ∈ s.dn, OpSz o) (hn : z3a s.dn <= 100000000) (hl : s.dn.length <= 1000) (hl2 : s.un.length <= 1000) (o : Deed) (hoo : OpSz o) (k : Nat) :
  TC prog 15 [.ptr k 0, z39 o] k (edO s) (edO (z1r s o).2) (.int .i64 (z1r s o).1) := by
 have V : standsT s.draft = true := z6a hs hok
 have hoc := oc_doers
 refine zhm (k := 1) rfl (fun n _ => zpp _ n) fun H nx O hH => (z0z [4000011, 3000013, 5000049, 5000062, 1000051, 1000064] func15 rfl (by decide +kernel) rfl ?_)
 show awp _ _ (Code.seq _ _) _ _
 rw [show Tryz.f15.results.toList = [.tmp 4] from rfl]
 have hnb := zag O
 have hH2 : H k = some (.box 74 (z13 s)) := hH
 have htl : (trees s.base (s.dn ++ s.un)).length = s.dn.length + s.un.length + 1 := by rw [z7e, List.length_append]
 have htt : (trees s.base (s.dn ++ s.un)).take (s.dn.length + 1) = trees s.base s.dn := zu6 _ _ _
 have hdt : (s.dn ++ s.un).take s.dn.length = s.dn := List.take_left' rfl
 have hdl : (s.dn ++ s.un).length = s.dn.length + s.un.length := List.length_append
 have hz : ((s.dn.length : Nat) : Int) + 1 - 1 = ((s.dn.length : Nat) : Int) := by omega
 have hz2 : ((s.dn.length : Nat) : Int) + 1 = ((s.dn.length + 1 : Nat) : Int) := by omega
 have htl2 : (trees s.base s.dn).length = s.dn.length + 1 := z7e _ _
 have hz3 : (((s.dn.length : Nat) : Int) + 1).toNat = s.dn.length + 1 := by omega
 have hmn : min (s.dn.length + 1) (s.dn.length + s.un.length + 1) = s.dn.length + 1 := by omega
 have hmn2 : min s.dn.length (s.dn.length + s.un.length) = s.dn.length := by omega
 have hg1 : z1i true 8 (s.dn.length + 1 + 1) ((trees s.base s.dn).flatMap z0a ++ z0a (doT s.draft o (z3a s.dn))) = (trees s.base (s.dn ++ [o])).map z0g := by
  have h := z6z (f := z0a) (sz := 8) z0c (trees s.base (s.dn ++ [o]))
  rw [z7e, List.length_append, List.length_singleton] at h
  rw [zj2, List.flatMap_append, List.flatMap_singleton, zbe] at h
  rw [zj2, zbe]
  exact h
 have hp1 : pureD.pureL ((trees s.base s.dn).flatMap z0a) = true := z1t z04 _
 have hg2 : z1i true 18 (s.dn.length + 1) (s.dn.flatMap z1l ++ z1l o) = (s.dn ++ [o]).map z39 := by
  have := z62 (s.dn ++ [o])
  rw [List.length_append, List.length_singleton, List.flatMap_append, List.flatMap_singleton] at this
  exact this
 have hp2 := z6y s.dn
 by_cases k0 : o.kind = 0
 ·have c1 := zdn (zpe s V o k0 hoo.ws hoo.wt) (z5x _ _ _) k
  by_cases he : doE s.draft o (z3a s.dn) = 0
  ·have ha : z1r s o = (0, ⟨s.base, s.dn ++ [o], []⟩) := by unfold z1r; rw [if_pos he]
   rw [ha]
   rw [zbi he rfl] at c1
   have hst : standsT (doT s.draft o (z3a s.dn)) = true := z79 he
   have hzs := z21 hst
   have c2 := z45 (doT s.draft o (z3a s.dn)) hzs.1
   have c3 := za0 o hoo.ws hoo.un
   repeat' (first | refine nxt ?_ | ((first | refine z1j (N := 12) rfl fun K J => ?_ | refine z38 (N := 12) rfl (by decide +kernel) fun K J => ?_ | refine z4c (hoc) rfl rfl rfl ?_ | ((refine z0w (c1 _ _ ?_ ?_) ?_); (focus (((simp (disch := omega) only [go_sem]); done))); (focus ((simp (disch := omega) only [go_sem, hH2, hnb, z13, z20]); done))) | refine zqt (c2) ?_ | refine zqt (c3) ?_); (simp (disch := omega) only [go_sem, Nat.reduceBEq, Nat.reduceEqDiff, ↓reduceIte, reduceCtorEq, Nat.reduceAdd, Nat.reduceMul, Nat.reduceLeDiff, Nat.reduceLT, hH2, hnb, z39, z0g, k0, z13, z20, htl, hdl, <- List.map_take, htt, hdt, List.length_map, hz, htl2, hz3, Int.toNat_natCast, List.append_nil, z2q, z2o, hg1, hp1, hg2, hp2])) | (refine zqd _ rfl ?_ ?_ <;> intro hc <;> (first | (cases hc; done) | ((try simp only [z07] at hc); (try omega)))) | (refine J _ ?_; clear J K))
   refine z1f fun K J => ?_
   (simp (disch := omega) only [go_sem])
   refine J _ _ (z61 (b := k) (cs' := z13 ⟨s.base, s.dn ++ [o], []⟩) (by (simp (disch := omega) only [go_sem, hnb]); rfl) (z8w s o)) ?_
   clear J K
   repeat' (first | refine nxt ?_ | refine zqu (by (simp (disch := omega) only [go_sem, Nat.reduceBEq]); rfl) rfl ?_)
   refine ⟨⟨_, z02 0 rfl, Le.refl _⟩, ?_, fun id hid hne => ?_⟩
   ·(simp (disch := omega) only [go_sem, hnb])
    first | done | rfl
   ·(simp (disch := omega) only [go_sem])
    simp (disch := omega) only [z1p]
  ·have ha : z1r s o = (doE s.draft o (z3a s.dn), s) := by unfold z1r; rw [if_neg he]
   rw [ha]
   rw [z8v rfl he] at c1
   repeat' (first | refine nxt ?_ | ((first | refine zqh fun K J => ?_ | refine zqe (by decide +kernel) fun K J => ?_ | refine z4c (hoc) rfl rfl rfl ?_ | ((refine z0w (c1 _ _ ?_ ?_) ?_); (focus (((simp (disch := omega) only [go_sem]); done))); (focus ((simp (disch := omega) only [go_sem, hH2, hnb]); done)))); (simp (disch := omega) only [go_sem, Nat.reduceBEq, Nat.reduceEqDiff, ↓reduceIte, reduceCtorEq, Nat.reduceAdd, Nat.reduceLeDiff, hnb, z39, k0])) | (refine zqd _ rfl ?_ ?_ <;> intro hc <;> (first | (cases hc; done) | ((try simp only [z07] at hc); (try omega)))) | refine zqu (by (simp (disch := omega) only [go_sem, Nat.reduceBEq]); rfl) rfl ?_ | (refine J _ ?_; clear J K))
   refine ⟨⟨_, z02 0 rfl, Le.refl _⟩, ?_, fun id hid hne => ?_⟩
   ·(simp (disch := omega) only [go_sem, hH2, hnb])
    first | done | rfl
   ·(simp (disch := omega) only [go_sem])
    simp (disch := omega) only [z1p]
 by_cases k1 : o.kind = 1
 ·have c1 := zdn (zuj s V o k1 hoo.ws hoo.wt) (z5x _ _ _) k
  by_cases he : doE s.draft o (z3a s.dn) = 0
  ·have ha : z1r s o = (0, ⟨s.base, s.dn ++ [o], []⟩) := by unfold z1r; rw [if_pos he]
   rw [ha]
   rw [zbi he rfl] at c1
   have hst : standsT (doT s.draft o (z3a s.dn)) = true := z79 he
   have hzs := z21 hst
   have c2 := z45 (doT s.draft o (z3a s.dn)) hzs.1
   have c3 := za0 o hoo.ws hoo.un
   repeat' (first | refine nxt ?_ | ((first | refine z1j (N := 12) rfl fun K J => ?_ | refine z38 (N := 12) rfl (by decide +kernel) fun K J => ?_ | refine z4c (hoc) rfl rfl rfl ?_ | ((refine z0w (c1 _ _ ?_ ?_) ?_); (focus (((simp (disch := omega) only [go_sem]); done))); (focus ((simp (disch := omega) only [go_sem, hH2, hnb, z13, z20]); done))) | refine zqt (c2) ?_ | refine zqt (c3) ?_); (simp (disch := omega) only [go_sem, Nat.reduceBEq, Nat.reduceEqDiff, ↓reduceIte, reduceCtorEq, Nat.reduceAdd, Nat.reduceMul, Nat.reduceLeDiff, Nat.reduceLT, Int.reduceEq, hH2, hnb, z39, z0g, k1, z13, z20, htl, hdl, <- List.map_take, htt, hdt, List.length_map, hz, htl2, hz3, Int.toNat_natCast, List.append_nil, z2q, z2o, hg1, hp1, hg2, hp2])) | (refine zqd _ rfl ?_ ?_ <;> intro hc <;> (first | (cases hc; done) | ((try simp only [z07] at hc); (try omega)))) | (refine J _ ?_; clear J K))
   refine z1f fun K J => ?_
   (simp (disch := omega) only [go_sem])
   refine J _ _ (z61 (b := k) (cs' := z13 ⟨s.base, s.dn ++ [o], []⟩) (by (simp (disch := omega) only [go_sem, hnb]); rfl) (z8w s o)) ?_
   clear J K
   repeat' (first | refine nxt ?_ | refine zqu (by (simp (disch := omega) only [go_sem, Nat.reduceBEq]); rfl) rfl ?_)
   refine ⟨⟨_, z02 0 rfl, Le.refl _⟩, ?_, fun id hid hne => ?_⟩
   ·(simp (disch := omega) only [go_sem, hnb])
    first | done | rfl
   ·(simp (disch := omega) only [go_sem])
    simp (disch := omega) only [z1p]
  ·have ha : z1r s o = (doE s.draft o (z3a s.dn), s) := by unfold z1r; rw [if_neg he]
   rw [ha]
   rw [z8v rfl he] at c1
   repeat' (first | refine nxt ?_ | ((first | refine zqh fun K J => ?_ | refine zqe (by decide +kernel) fun K J => ?_ | refine z4c (hoc) rfl rfl rfl ?_ | ((refine z0w (c1 _ _ ?_ ?_) ?_); (focus (((simp (disch := omega) only [go_sem]); done))); (focus ((simp (disch := omega) only [go_sem, hH2, hnb]); done)))); (simp (disch := omega) only [go_sem, Nat.reduceBEq, Nat.reduceEqDiff, ↓reduceIte, reduceCtorEq, Nat.reduceAdd, Nat.reduceLeDiff, Int.reduceEq, hnb, z39, k1])) | (refine zqd _ rfl ?_ ?_ <;> intro hc <;> (first | (cases hc; done) | ((try simp only [z07] at hc); (try omega)))) | refine zqu (by (simp (disch := omega) only [go_sem, Nat.reduceBEq]); rfl) rfl ?_ | (refine J _ ?_; clear J K))
   refine ⟨⟨_, z02 0 rfl, Le.refl _⟩, ?_, fun id hid hne => ?_⟩
   ·(simp (disch := omega) only [go_sem, hH2, hnb])
    first | done | rfl
   ·(simp (disch := omega) only [go_sem])
    simp (disch := omega) only [z1p]
 by_cases k2 : o.kind = 2
 ·have c1 := zdn (zpf s V o k2 hoo.lb) (z5x _ _ _) k
  by_cases he : doE s.draft o (z3a s.dn) = 0
  ·have ha : z1r s o = (0, ⟨s.base, s.dn ++ [o], []⟩) := by unfold z1r; rw [if_pos he]
   rw [ha]
   rw [zbi he rfl] at c1
   have hst : standsT (doT s.draft o (z3a s.dn)) = true := z79 he
   have hzs := z21 hst
   have c2 := z45 (doT s.draft o (z3a s.dn)) hzs.1
   have c3 := za0 o hoo.ws hoo.un
   repeat' (first | refine nxt ?_ | ((first | refine z1j (N := 12) rfl fun K J => ?_ | refine z38 (N := 12) rfl (by decide +kernel) fun K J => ?_ | refine z4c (hoc) rfl rfl rfl ?_ | ((refine z0w (c1 _ _ ?_ ?_) ?_); (focus (((simp (disch := omega) only [go_sem]); done))); (focus ((simp (disch := omega) only [go_sem, hH2, hnb, z13, z20]); done))) | refine zqt (c2) ?_ | refine zqt (c3) ?_); (simp (disch := omega) only [go_sem, Nat.reduceBEq, Nat.reduceEqDiff, ↓reduceIte, reduceCtorEq, Nat.reduceAdd, Nat.reduceMul, Nat.reduceLeDiff, Nat.reduceLT, Int.reduceEq, hH2, hnb, z39, z0g, k2, z13, z20, htl, hdl, <- List.map_take, htt, hdt, List.length_map, hz, htl2, hz3, Int.toNat_natCast, List.append_nil, z2q, z2o, hg1, hp1, hg2, hp2])) | (refine zqd _ rfl ?_ ?_ <;> intro hc <;> (first | (cases hc; done) | ((try simp only [z07] at hc); (try omega)))) | (refine J _ ?_; clear J K))
   refine z1f fun K J => ?_
   (simp (disch := omega) only [go_sem])
   refine J _ _ (z61 (b := k) (cs' := z13 ⟨s.base, s.dn ++ [o], []⟩) (by (simp (disch := omega) only [go_sem, hnb]); rfl) (z8w s o)) ?_
   clear J K
   repeat' (first | refine nxt ?_ | refine zqu (by (simp (disch := omega) only [go_sem, Nat.reduceBEq]); rfl) rfl ?_)
   refine ⟨⟨_, z02 0 rfl, Le.refl _⟩, ?_, fun id hid hne => ?_⟩
   ·(simp (disch := omega) only [go_sem, hnb])
    first | done | rfl
   ·(simp (disch := omega) only [go_sem])
    simp (disch := omega) only [z1p]
  ·have ha : z1r s o = (doE s.draft o (z3a s.dn), s) := by unfold z1r; rw [if_neg he]
   rw [ha]
   rw [z8v rfl he] at c1
   repeat' (first | refine nxt ?_ | ((first | refine zqh fun K J => ?_ | refine zqe (by decide +kernel) fun K J => ?_ | refine z4c (hoc) rfl rfl rfl ?_ | ((refine z0w (c1 _ _ ?_ ?_) ?_); (focus (((simp (disch := omega) only [go_sem]); done))); (focus ((simp (disch := omega) only [go_sem, hH2, hnb]); done)))); (simp (disch := omega) only [go_sem, Nat.reduceBEq, Nat.reduceEqDiff, ↓reduceIte, reduceCtorEq, Nat.reduceAdd, Nat.reduceLeDiff, Int.reduceEq, hnb, z39, k2])) | (refine zqd _ rfl ?_ ?_ <;> intro hc <;> (first | (cases hc; done) | ((try simp only [z07] at hc); (try omega)))) | refine zqu (by (simp (disch := omega) only [go_sem, Nat.reduceBEq]); rfl) rfl ?_ | (refine J _ ?_; clear J K))
   refine ⟨⟨_, z02 0 rfl, Le.refl _⟩, ?_, fun id hid hne => ?_⟩
   ·(simp (disch := omega) only [go_sem, hH2, hnb])
    first | done | rfl
   ·(simp (disch := omega) only [go_sem])
    simp (disch := omega) only [z1p]
 by_cases k3 : o.kind = 3
 ·have c1 := zdn (zwb s V o k3 hoo.un hoo.ct hoo.dp (fun d hm _ => ⟨(ho d hm).un, (ho d hm).ct⟩) hn (by omega)) (z5x _ _ _) k
  by_cases he : doE s.draft o (z3a s.dn) = 0
  ·have ha : z1r s o = (0, ⟨s.base, s.dn ++ [o], []⟩) := by unfold z1r; rw [if_pos he]
   rw [ha]
   rw [zbi he rfl] at c1
   have hst : standsT (doT s.draft o (z3a s.dn)) = true := z79 he
   have hzs := z21 hst
   have c2 := z45 (doT s.draft o (z3a s.dn)) hzs.1
   have c3 := za0 o hoo.ws hoo.un
   repeat' (first | refine nxt ?_ | ((first | refine z1j (N := 12) rfl fun K J => ?_ | refine z38 (N := 12) rfl (by decide +kernel) fun K J => ?_ | refine z4c (hoc) rfl rfl rfl ?_ | ((refine z0w (c1 _ _ ?_ ?_) ?_); (focus (((simp (disch := omega) only [go_sem]); done))); (focus ((simp (disch := omega) only [go_sem, hH2, hnb, z13, z20]); done))) | refine zqt (c2) ?_ | refine zqt (c3) ?_); (simp (disch := omega) only [go_sem, Nat.reduceBEq, Nat.reduceEqDiff, ↓reduceIte, reduceCtorEq, Nat.reduceAdd, Nat.reduceMul, Nat.reduceLeDiff, Nat.reduceLT, Int.reduceEq, hH2, hnb, z39, z0g, k3, z13, z20, htl, hdl, <- List.map_take, htt, hdt, List.length_map, hz, htl2, hz3, Int.toNat_natCast, List.append_nil, z2q, z2o, hg1, hp1, hg2, hp2])) | (refine zqd _ rfl ?_ ?_ <;> intro hc <;> (first | (cases hc; done) | ((try simp only [z07] at hc); (try omega)))) | (refine J _ ?_; clear J K))
   refine z1f fun K J => ?_
   (simp (disch := omega) only [go_sem])
   refine J _ _ (z61 (b := k) (cs' := z13 ⟨s.base, s.dn ++ [o], []⟩) (by (simp (disch := omega) only [go_sem, hnb]); rfl) (z8w s o)) ?_
   clear J K
   repeat' (first | refine nxt ?_ | refine zqu (by (simp (disch := omega) only [go_sem, Nat.reduceBEq]); rfl) rfl ?_)
   refine ⟨⟨_, z02 0 rfl, Le.refl _⟩, ?_, fun id hid hne => ?_⟩
   ·(simp (disch := omega) only [go_sem, hnb])
    first | done | rfl
   ·(simp (disch := omega) only [go_sem])
    simp (disch := omega) only [z1p]
  ·have ha : z1r s o = (doE s.draft o (z3a s.dn), s) := by unfold z1r; rw [if_neg he]
   rw [ha]
   rw [z8v rfl he] at c1
   repeat' (first | refine nxt ?_ | ((first | refine zqh fun K J => ?_ | refine zqe (by decide +kernel) fun K J => ?_ | refine z4c (hoc) rfl rfl rfl ?_ | ((refine z0w (c1 _ _ ?_ ?_) ?_); (focus (((simp (disch := omega) only [go_sem]); done))); (focus ((simp (disch := omega) only [go_sem, hH2, hnb]); done)))); (simp (disch := omega) only [go_sem, Nat.reduceBEq, Nat.reduceEqDiff, ↓reduceIte, reduceCtorEq, Nat.reduceAdd, Nat.reduceLeDiff, Int.reduceEq, hnb, z39, k3])) | (refine zqd _ rfl ?_ ?_ <;> intro hc <;> (first | (cases hc; done) | ((try simp only [z07] at hc); (try omega)))) | refine zqu (by (simp (disch := omega) only [go_sem, Nat.reduceBEq]); rfl) rfl ?_ | (refine J _ ?_; clear J K))
   refine ⟨⟨_, z02 0 rfl, Le.refl _⟩, ?_, fun id hid hne => ?_⟩
   ·(simp (disch := omega) only [go_sem, hH2, hnb])
    first | done | rfl
   ·(simp (disch := omega) only [go_sem])
    simp (disch := omega) only [z1p]
 by_cases k4 : o.kind = 4
 ·have c1 := zdn (zsw s V o k4) (z5x _ _ _) k
  by_cases he : doE s.draft o (z3a s.dn) = 0
  ·have ha : z1r s o = (0, ⟨s.base, s.dn ++ [o], []⟩) := by unfold z1r; rw [if_pos he]
   rw [ha]
   rw [zbi he rfl] at c1
   have hst : standsT (doT s.draft o (z3a s.dn)) = true := z79 he
   have hzs := z21 hst
   have c2 := z45 (doT s.draft o (z3a s.dn)) hzs.1
   have c3 := za0 o hoo.ws hoo.un
   repeat' (first | refine nxt ?_ | ((first | refine z1j (N := 12) rfl fun K J => ?_ | refine z38 (N := 12) rfl (by decide +kernel) fun K J => ?_ | refine z4c (hoc) rfl rfl rfl ?_ | ((refine z0w (c1 _ _ ?_ ?_) ?_); (focus (((simp (disch := omega) only [go_sem]); done))); (focus ((simp (disch := omega) only [go_sem, hH2, hnb, z13, z20]); done))) | refine zqt (c2) ?_ | refine zqt (c3) ?_); (simp (disch := omega) only [go_sem, Nat.reduceBEq, Nat.reduceEqDiff, ↓reduceIte, reduceCtorEq, Nat.reduceAdd, Nat.reduceMul, Nat.reduceLeDiff, Nat.reduceLT, Int.reduceEq, hH2, hnb, z39, z0g, k4, z13, z20, htl, hdl, <- List.map_take, htt, hdt, List.length_map, hz, htl2, hz3, Int.toNat_natCast, List.append_nil, z2q, z2o, hg1, hp1, hg2, hp2])) | (refine zqd _ rfl ?_ ?_ <;> intro hc <;> (first | (cases hc; done) | ((try simp only [z07] at hc); (try omega)))) | (refine J _ ?_; clear J K))
   refine z1f fun K J => ?_
   (simp (disch := omega) only [go_sem])
   refine J _ _ (z61 (b := k) (cs' := z13 ⟨s.base, s.dn ++ [o], []⟩) (by (simp (disch := omega) only [go_sem, hnb]); rfl) (z8w s o)) ?_
   clear J K
   repeat' (first | refine nxt ?_ | refine zqu (by (simp (disch := omega) only [go_sem, Nat.reduceBEq]); rfl) rfl ?_)
   refine ⟨⟨_, z02 0 rfl, Le.refl _⟩, ?_, fun id hid hne => ?_⟩
   ·(simp (disch := omega) only [go_sem, hnb])
    first | done | rfl
   ·(simp (disch := omega) only [go_sem])
    simp (disch := omega) only [z1p]
  ·have ha : z1r s o = (doE s.draft o (z3a s.dn), s) := by unfold z1r; rw [if_neg he]
   rw [ha]
   rw [z8v rfl he] at c1
   repeat' (first | refine nxt ?_ | ((first | refine zqh fun K J => ?_ | refine zqe (by decide +kernel) fun K J => ?_ | refine z4c (hoc) rfl rfl rfl ?_ | ((refine z0w (c1 _ _ ?_ ?_) ?_); (focus (((simp (disch := omega) only [go_sem]); done))); (focus ((simp (disch := omega) only [go_sem, hH2, hnb]); done)))); (simp (disch := omega) only [go_sem, Nat.reduceBEq, Nat.reduceEqDiff, ↓reduceIte, reduceCtorEq, Nat.reduceAdd, Nat.reduceLeDiff, Int.reduceEq, hnb, z39, k4])) | (refine zqd _ rfl ?_ ?_ <;> intro hc <;> (first | (cases hc; done) | ((try simp only [z07] at hc); (try omega)))) | refine zqu (by (simp (disch := omega) only [go_sem, Nat.reduceBEq]); rfl) rfl ?_ | (refine J _ ?_; clear J K))
   refine ⟨⟨_, z02 0 rfl, Le.refl _⟩, ?_, fun id hid hne => ?_⟩
   ·(simp (disch := omega) only [go_sem, hH2, hnb])
    first | done | rfl
   ·(simp (disch := omega) only [go_sem])
    simp (disch := omega) only [z1p]
 by_cases k5 : o.kind = 5
 ·have c1 := zdn (zuk s V o k5) (z5x _ _ _) k
  by_cases he : doE s.draft o (z3a s.dn) = 0
  ·have ha : z1r s o = (0, ⟨s.base, s.dn ++ [o], []⟩) := by unfold z1r; rw [if_pos he]
   rw [ha]
   rw [zbi he rfl] at c1
   have hst : standsT (doT s.draft o (z3a s.dn)) = true := z79 he
   have hzs := z21 hst
   have c2 := z45 (doT s.draft o (z3a s.dn)) hzs.1
   have c3 := za0 o hoo.ws hoo.un
   repeat' (first | refine nxt ?_ | ((first | refine z1j (N := 12) rfl fun K J => ?_ | refine z38 (N := 12) rfl (by decide +kernel) fun K J => ?_ | refine z4c (hoc) rfl rfl rfl ?_ | ((refine z0w (c1 _ _ ?_ ?_) ?_); (focus (((simp (disch := omega) only [go_sem]); done))); (focus ((simp (disch := omega) only [go_sem, hH2, hnb, z13, z20]); done))) | refine zqt (c2) ?_ | refine zqt (c3) ?_); (simp (disch := omega) only [go_sem, Nat.reduceBEq, Nat.reduceEqDiff, ↓reduceIte, reduceCtorEq, Nat.reduceAdd, Nat.reduceMul, Nat.reduceLeDiff, Nat.reduceLT, Int.reduceEq, hH2, hnb, z39, z0g, k5, z13, z20, htl, hdl, <- List.map_take, htt, hdt, List.length_map, hz, htl2, hz3, Int.toNat_natCast, List.append_nil, z2q, z2o, hg1, hp1, hg2, hp2])) | (refine zqd _ rfl ?_ ?_ <;> intro hc <;> (first | (cases hc; done) | ((try simp only [z07] at hc); (try omega)))) | (refine J _ ?_; clear J K))
   refine z1f fun K J => ?_
   (simp (disch := omega) only [go_sem])
   refine J _ _ (z61 (b := k) (cs' := z13 ⟨s.base, s.dn ++ [o], []⟩) (by (simp (disch := omega) only [go_sem, hnb]); rfl) (z8w s o)) ?_
   clear J K
   repeat' (first | refine nxt ?_ | refine zqu (by (simp (disch := omega) only [go_sem, Nat.reduceBEq]); rfl) rfl ?_)
   refine ⟨⟨_, z02 0 rfl, Le.refl _⟩, ?_, fun id hid hne => ?_⟩
   ·(simp (disch := omega) only [go_sem, hnb])
    first | done | rfl
   ·(simp (disch := omega) only [go_sem])
    simp (disch := omega) only [z1p]
  ·have ha : z1r s o = (doE s.draft o (z3a s.dn), s) := by unfold z1r; rw [if_neg he]
   rw [ha]
   rw [z8v rfl he] at c1
   repeat' (first | refine nxt ?_ | ((first | refine zqh fun K J => ?_ | refine zqe (by decide +kernel) fun K J => ?_ | refine z4c (hoc) rfl rfl rfl ?_ | ((refine z0w (c1 _ _ ?_ ?_) ?_); (focus (((simp (disch := omega) only [go_sem]); done))); (focus ((simp (disch := omega) only [go_sem, hH2, hnb]); done)))); (simp (disch := omega) only [go_sem, Nat.reduceBEq, Nat.reduceEqDiff, ↓reduceIte, reduceCtorEq, Nat.reduceAdd, Nat.reduceLeDiff, Int.reduceEq, hnb, z39, k5])) | (refine zqd _ rfl ?_ ?_ <;> intro hc <;> (first | (cases hc; done) | ((try simp only [z07] at hc); (try omega)))) | refine zqu (by (simp (disch := omega) only [go_sem, Nat.reduceBEq]); rfl) rfl ?_ | (refine J _ ?_; clear J K))
   refine ⟨⟨_, z02 0 rfl, Le.refl _⟩, ?_, fun id hid hne => ?_⟩
   ·(simp (disch := omega) only [go_sem, hH2, hnb])
    first | done | rfl
   ·(simp (disch := omega) only [go_sem])
    simp (disch := omega) only [z1p]
 have he : doE s.draft o (z3a s.dn) = 1 := by unfold doE; rw [if_neg (by omega), if_neg k2, if_neg k3, if_neg k4, if_neg k5]
 have ha : z1r s o = (1, s) := by unfold z1r; rw [he, if_neg (by decide)]
 rw [ha]
 have j0 : ¬ 0 = o.kind := fun h => k0 h.symm
 have j1 : ¬ 1 = o.kind := fun h => k1 h.symm
 have j2 : ¬ 2 = o.kind := fun h => k2 h.symm
 have j3 : ¬ 3 = o.kind := fun h => k3 h.symm
 have j4 : ¬ 4 = o.kind := fun h => k4 h.symm
 have j5 : ¬ 5 = o.kind := fun h => k5 h.symm
 repeat' (first | refine nxt ?_ | ((first | refine zqh fun K J => ?_ | refine zqe (by decide +kernel) fun K J => ?_ | refine z4c (hoc) rfl rfl rfl ?_); (simp (disch := omega) only [go_sem, Nat.reduceBEq, Nat.reduceEqDiff, ↓reduceIte, reduceCtorEq, Nat.reduceAdd, hnb, z39, k0, k1, k2, k3, k4, k5])) | (refine zqd _ rfl ?_ ?_ <;> intro hc <;> (first | (cases hc; done) | ((try simp only [] at hc); (try omega)))) | refine zqu (by (simp (disch := omega) only [go_sem, Nat.reduceBEq]); rfl) rfl ?_ | (refine J _ ?_; clear J K))
 refine ⟨⟨_, z02 0 rfl, Le.refl _⟩, ?_, fun id hid hne => ?_⟩
 ·(simp (disch := omega) only [go_sem, hH2, hnb])
  first | done | rfl
 ·(simp (disch := omega) only [go_sem])
  simp (disch := omega) only [z1p]
theorem tc_Undo (s : Ses) (hl : s.dn.length <= 1000) (hl2 : s.un.length <= 1000) (k : Nat) :
  TC prog 21 [.ptr k 0] k (edO s) (edO (z5i s).2) (.bool (z5i s).1) := by
 refine zhm (k := 1) rfl (fun n _ => zpp _ n) fun H nx O hH => (z0z [] func21 rfl (by decide +kernel) rfl ?_)
 show awp _ _ (Code.seq _ _) _ _
 rw [show Tryz.f21.results.toList = [.tmp 2] from rfl]
 have hnb := zag O
 obtain ⟨b, d, u⟩ := s
 have hH2 : H k = some (.box 74 (z13 ⟨b, d, u⟩)) := hH
 rcases List.eq_nil_or_concat d with rfl | ⟨l, o, V⟩
 ·have ha : z5i ⟨b, [], u⟩ = (false, ⟨b, [], u⟩) := rfl
  rw [ha]
  repeat' (first | refine nxt ?_ | ((refine zqh fun K J => ?_); (simp (disch := omega) only [go_sem, Nat.reduceBEq, ↓reduceIte, reduceCtorEq, Nat.reduceAdd, hH2, z13])) | (refine zqd _ rfl ?_ ?_ <;> intro hc <;> (first | (cases hc; done) | ((try simp only [decide_eq_true_eq] at hc); (try omega)))) | refine zqu (by (simp (disch := omega) only [go_sem, Nat.reduceBEq]); rfl) rfl ?_ | (refine J _ ?_; clear J K))
  refine ⟨⟨_, z02 0 rfl, Le.refl _⟩, ?_, fun id hid hne => ?_⟩
  ·(simp (disch := omega) only [go_sem, hH2])
   first | done | rfl
  ·(simp (disch := omega) only [go_sem])
 ·simp only [List.concat_eq_append] at V
  subst V
  have ha : z5i ⟨b, l ++ [o], u⟩ = (true, ⟨b, l, o :: u⟩) := by unfold z5i; simp
  rw [ha]
  have hlen : (l ++ [o]).length = l.length + 1 := by simp
  have hl : l.length + 1 <= 1000 := by rw [<- hlen]; exact hl
  have hz : ((l.length + 1 : Nat) : Int) - 1 = ((l.length : Nat) : Int) := by omega
  have hfin : z13 ⟨b, l, o :: u⟩ = [.rsl true 8 ((trees b ((l ++ [o]) ++ u)).map z0g), z20 ((l ++ [o]) ++ u), .int .i64 (l.length : Nat)] := by
   unfold z13; simp only [List.append_assoc, List.singleton_append]
  repeat' (first | refine nxt ?_ | ((refine zqh fun K J => ?_); (simp (disch := omega) only [go_sem, Nat.reduceBEq, ↓reduceIte, reduceCtorEq, Nat.reduceAdd, Nat.reduceLeDiff, Nat.reduceLT, hH2, z13, hlen, hz])) | (refine zqd _ rfl ?_ ?_ <;> intro hc <;> (first | (cases hc; done) | ((try simp only [decide_eq_false_iff_not] at hc); (try omega)))) | refine zqu (by (simp (disch := omega) only [go_sem, Nat.reduceBEq]); rfl) rfl ?_ | (refine J _ ?_; clear J K))
  refine ⟨⟨_, z02 0 rfl, Le.refl _⟩, ?_, fun id hid hne => ?_⟩
  ·unfold edO
   rw [hfin]
   (simp (disch := omega) only [go_sem])
   first | done | rfl
  ·(simp (disch := omega) only [go_sem])
   simp (disch := omega) only [z1p]
theorem tc_Redo (s : Ses) (hl : s.dn.length <= 1000) (hl2 : s.un.length <= 1000) (k : Nat) :
  TC prog 22 [.ptr k 0] k (edO s) (edO (z7f s).2) (.bool (z7f s).1) := by
 refine zhm (k := 1) rfl (fun n _ => zpp _ n) fun H nx O hH => (z0z [] func22 rfl (by decide +kernel) rfl ?_)
 show awp _ _ (Code.seq _ _) _ _
 rw [show Tryz.f22.results.toList = [.tmp 2] from rfl]
 have hnb := zag O
 obtain ⟨b, d, u⟩ := s
 have hH2 : H k = some (.box 74 (z13 ⟨b, d, u⟩)) := hH
 have hl : d.length <= 1000 := hl
 cases u with
 | nil =>
  have ha : z7f ⟨b, d, []⟩ = (false, ⟨b, d, []⟩) := rfl
  rw [ha]
  repeat' (first | refine nxt ?_ | ((first | refine zqh fun K J => ?_ | refine zqe (by decide +kernel) fun K J => ?_); (simp (disch := omega) only [go_sem, Nat.reduceBEq, ↓reduceIte, reduceCtorEq, Nat.reduceAdd, hH2, z13, z20, List.append_nil, List.length_map])) | (refine zqd _ rfl ?_ ?_ <;> intro hc <;> (first | (cases hc; done) | ((try simp only [] at hc); (try omega)))) | refine zqu (by (simp (disch := omega) only [go_sem, Nat.reduceBEq]); rfl) rfl ?_ | (refine J _ ?_; clear J K))
  refine ⟨⟨_, z02 0 rfl, Le.refl _⟩, ?_, fun id hid hne => ?_⟩
  ·(simp (disch := omega) only [go_sem, hH2])
   first | done | rfl
  ·(simp (disch := omega) only [go_sem])
 | cons o u =>
  have ha : z7f ⟨b, d, o :: u⟩ = (true, ⟨b, d ++ [o], u⟩) := rfl
  rw [ha]
  have hdl : (d ++ o :: u).length = d.length + u.length + 1 := by simp; omega
  have hl2 : u.length + 1 <= 1000 := hl2
  have hfin : z13 ⟨b, d ++ [o], u⟩ = [.rsl true 8 ((trees b (d ++ o :: u)).map z0g), z20 (d ++ o :: u), .int .i64 ((d.length : Nat) + 1 : Int)] := by
   unfold z13; simp only [List.append_assoc, List.singleton_append, List.length_append, List.length_singleton]; rfl
  repeat' (first | refine nxt ?_ | ((first | refine zqh fun K J => ?_ | refine zqe (by decide +kernel) fun K J => ?_); (simp (disch := omega) only [go_sem, Nat.reduceBEq, ↓reduceIte, reduceCtorEq, Nat.reduceAdd, Nat.reduceLeDiff, Nat.reduceLT, hH2, z13, z20, hdl, List.length_map])) | (refine zqd _ rfl ?_ ?_ <;> intro hc <;> (((try simp only [z07] at hc); (try omega)))) | refine zqu (by (simp (disch := omega) only [go_sem, Nat.reduceBEq]); rfl) rfl ?_ | (refine J _ ?_; clear J K))
  refine ⟨⟨_, z02 0 rfl, Le.refl _⟩, ?_, fun id hid hne => ?_⟩
  ·unfold edO
   rw [hfin]
   (simp (disch := omega) only [go_sem])
   first | done | rfl
  ·(simp (disch := omega) only [go_sem])
   simp (disch := omega) only [z1p]
theorem pc_Draft (s : Ses) (hs : standsT s.draft = true) : PC prog 18 [zl6 s] (z0g s.draft) := by
 obtain ⟨z1, z2, z3⟩ := z21 hs
 have c0 := zam s
 have c1 := z45 s.draft z1
 have hsp : ∀ t x : T, z17 (z0a t) 0 (z0a x) = z0a x := fun t x => z4e _ _ (by rw [z0c, z0c])
 refine z14 2 (by simp only [pureD.pureL, z59, Bool.and_self]) (z01 _) (z0z [] func18 rfl (by decide +kernel) rfl ?_)
 show awp _ _ (Code.seq _ _) _ _
 rw [show Tryz.f18.results.toList = [.cell 2 27] from rfl]
 repeat' (first | ((first | refine zqh fun K J => ?_ | refine zqs (c0) ?_ | refine zqs (c1) ?_); (simp (disch := omega) only [go_sem, Nat.reduceBEq, ↓reduceIte, Nat.reduceAdd, Nat.reduceLeDiff, z0g])) | refine nxt ?_ | refine zqu (by (simp (disch := omega) only [go_sem, Nat.reduceBEq, ↓reduceIte, Nat.reduceLeDiff]); rfl) rfl ?_ | (refine J _ ?_; clear J K))
 exact z08 (z01 _) (Le.refl _)
theorem le_open (t : T) : LeL [.rsl true 8 [z0g t], .nil, .int .i64 0] (z13 ⟨t, [], []⟩) := by
 unfold z13
 rw [List.append_nil, zyf]
 exact ⟨Le.refl _, Le.nil 18, Le.refl _, trivial⟩
theorem zz3 (t : T) (hs : standsT t = true) (hb : (z0i t).any zef = false) :
  OC prog 13 [z0g t] [edO ⟨t, [], []⟩] (.tup [.ptr 0 0, .int .i64 0]) := by
 obtain ⟨hz, hc, V⟩ := z21 hs
 have c0 := zps t hz (by omega) (by omega)
 have c1 := zrx t (z80 t hz) (by omega)
 have c2 := z4m false (z0i t) (by unfold maxLen; rw [z2c]; omega) (g := 39) (cap := []) zef rfl (fun x _ => pc_own x)
 have c3 := z45 t hz
 rw [hs] at c0
 rw [hb] at c2
 refine z91 (by simp only [pureD.pureL, z01, Bool.and_self]) rfl (fun o ho => by
  simp only [List.mem_singleton] at ho
  subst ho
  exact z2a _) (z0z [] func13 rfl (by decide +kernel) rfl ?_)
 show awp _ _ (Code.seq _ _) _ _
 rw [show Tryz.f13.results.toList = [.tmp 2, .tmp 3] from rfl]
 repeat' (first | refine nxt ?_ | ((first | refine z1j (N := 3) rfl fun K J => ?_ | refine zqs (c0) ?_ | refine zqs (c1) ?_ | refine zqs (c2) ?_); (simp (disch := omega) only [go_sem, Nat.reduceBEq, ↓reduceIte, Nat.reduceAdd, Nat.reduceLeDiff, z0g, z15])) | (refine zqd _ rfl ?_ ?_ <;> intro hc <;> (first | (cases hc; done) | ((try simp only [] at hc); (try omega)))) | (refine J _ ?_; clear J K))
 refine z1f fun K J => ?_
 (try (simp (disch := omega) only [go_sem, Nat.reduceBEq, ↓reduceIte, Nat.reduceAdd, Nat.reduceLeDiff])); repeat' (((refine zqs (c3) ?_); (simp (disch := omega) only [go_sem, Nat.reduceBEq, ↓reduceIte, reduceCtorEq, Nat.reduceAdd, Nat.reduceMul, Nat.reduceLeDiff, z0g])))
 refine J _ _ (z61 (b := 1) (e := 74) (by (simp (disch := omega) only [go_sem, Nat.reduceBEq])) (le_open t)) ?_
 clear J K
 repeat' (first | refine nxt ?_ | refine zqu (by (simp (disch := omega) only [go_sem, Nat.reduceBEq]); rfl) rfl ?_)
 refine ⟨fun j => 1 + j, fun i j _ _ h => Nat.add_left_cancel h, ?_, fun j hj => ?_⟩
 ·(simp (disch := omega) only [go_sem, renD])
 ·match j, hj with
  | 0, _ => (simp (disch := omega) only [go_sem, Nat.reduceBEq, edO])
theorem zwi (i : Idv) : PC prog 35 [z1a i] (.bool (zef i)) := by
 refine z14 1 rfl rfl (z0z [] func35 rfl (by decide +kernel) rfl ?_)
 show awp _ _ (Code.seq _ _) _ _
 repeat' (first | ((refine zqh fun K J => ?_); (simp (disch := omega) only [go_sem, Nat.reduceBEq, ↓reduceIte, reduceCtorEq, Nat.reduceAdd])) | refine nxt ?_ | refine zqu (by simp only [go_sem]; rfl) rfl ?_ | (refine J _ ?_; clear J K) | (refine zqf (fun hb => ?_) (fun hb => ?_) <;> (have hb2 := hb; try simp only [z07] at hb2) <;> ((first | have F := eq_false hb2 | have F := eq_true hb2); (simp (disch := omega) only [go_sem, Nat.reduceBEq, ↓reduceIte, reduceCtorEq, Nat.reduceAdd, F]); clear hb F; (try omega))))
 all_goals (refine z03 ?_; unfold zef; simp_all)
theorem pc_MayE (t : T) (hz : szB t = true) (hc : cntT t <= 1000000) (V : depT t <= 1000000) : PC prog 12 [z0g t] (.bool (!(z0i t).any zef && standsT t)) := by
 have c0 := zr6 t hz (by omega)
 have c1 := z5u t hz (by omega) (by omega)
 have hil := z2c t
 refine z14 1 (by simp only [pureD.pureL, z01, Bool.and_self]) rfl (z0z [] func12 rfl (by decide +kernel) rfl ?_)
 show awp _ _ (Code.seq _ _) _ _
 repeat' (first | refine nxt ?_ | ((first | refine zqh fun K J => ?_ | refine zqs (c0) ?_); (simp (disch := omega) only [go_sem, Nat.reduceBEq, ↓reduceIte, Nat.reduceAdd, Nat.reduceLeDiff, z0g, z15])) | (refine J _ ?_; clear J K))
 (refine z3c (fun U st => ∃ (i : _), U = (z0i t).length - i /\ st.t 1 = .ptr 0 0 /\ st.t 3 = z15 (z0i t) /\ st.t 4 = .int .i64 i /\ st.H 0 = some (.box 27 (z0a t)) /\ (i <= (z0i t).length) /\ (((z0i t).take i).any zef = false)) ?_ ?_); rotate_left; (rintro U st ⟨i, rfl, q1, q3, q4, qH0, qp0, qp1⟩); rotate_left
 ·(refine ⟨_, 0, rfl, ?_⟩); (simp (disch := omega) only [go_sem, Nat.reduceBEq, and_self, Int.natCast_zero, z15, List.take_zero, List.any_nil])
 by_cases hi : i < (z0i t).length
 ·have c2 := zwi (z0i t)[i]
  have htk := List.take_succ_eq_append_getElem hi
  by_cases hw : zef (z0i t)[i] = true
  ·have ha : (z0i t).any zef = true := List.any_eq_true.2 ⟨_, List.getElem_mem hi, hw⟩
   rw [hw] at c2
   repeat' (first | refine nxt ?_ | ((first | refine zqh fun K J => ?_ | refine zqs (c2) ?_); (simp (disch := omega) only [go_sem, Nat.reduceBEq, ↓reduceIte, reduceCtorEq, Nat.reduceAdd, q3, q4, z15, z1a])) | ((first | refine zqd _ rfl (fun hc => ?_) (fun hc => ?_) | refine zqm _ rfl (fun hc => ?_) (fun hc => ?_)) <;> (first | (cases hc; done) | ((try simp only [z07] at hc); (try omega)))) | refine zqu (by simp only [go_sem]; rfl) rfl ?_ | (refine J _ ?_; clear J K))
   exact z03 (by rw [ha]; rfl)
  ·rw [Bool.not_eq_true] at hw
   rw [hw] at c2
   repeat' (first | refine nxt ?_ | ((first | refine zqh fun K J => ?_ | refine zqr fun K J => ?_ | refine zqs (c2) ?_); (simp (disch := omega) only [go_sem, Nat.reduceBEq, ↓reduceIte, reduceCtorEq, Nat.reduceAdd, q3, q4, z15, z1a])) | ((first | refine zqd _ rfl (fun hc => ?_) (fun hc => ?_) | refine zqm _ rfl (fun hc => ?_) (fun hc => ?_)) <;> (first | (cases hc; done) | ((try simp only [z07] at hc); (try omega)))) | (refine J _ ?_; clear J K))
   (refine Exists.intro _ (And.intro ?_ ⟨i + 1, rfl, ?_⟩)); rotate_left; (simp (disch := omega) only [go_sem, Nat.reduceBEq, q1, q3, q4, qH0, true_and, Int.natCast_add, Int.natCast_one, htk, List.any_append, List.any_cons, List.any_nil, hw]); rotate_left
   all_goals first | omega | exact ⟨by omega, qp1⟩
 ·have hie : i = (z0i t).length := by omega
  subst hie
  rw [List.take_length] at qp1
  rw [qp1]
  repeat' (first | refine nxt ?_ | ((first | refine zqh fun K J => ?_ | refine zqs (c1) ?_); (simp (disch := omega) only [go_sem, Nat.reduceBEq, ↓reduceIte, Nat.reduceAdd, Nat.reduceLeDiff, q1, q3, q4, qH0, z15])) | (refine zqd _ rfl ?_ ?_ <;> intro hc <;> (((try simp only [z07] at hc); (try omega)))) | refine zqz ?_ | refine zqu (by simp only [go_sem]; rfl) rfl ?_ | (refine J _ ?_; clear J K))
  exact z03 (by simp)
def fewO (o : Deed) : Bool := decide (o.words.length <= 20) && decide (o.label.size <= 40) && zuw o.unit 12 && o.words.all fun w => decide (w.size <= 60)
theorem pc_FewE (l : List Deed) (hl : l.length <= 606627104963) (hw : ∀ o ∈ l, o.words.length <= maxLen /\ o.label.size <= maxLen /\ (∀ w ∈ o.words, w.size <= maxLen) /\ fitB o.unit = true) : PC prog 33 [z20 l] (.bool (l.all fewO)) := by
 refine z14 1 (by simp only [pureD.pureL, z6x, Bool.and_self]) rfl (z0z [] func33 rfl (by decide +kernel) rfl ?_)
 show awp _ _ (Code.seq _ _) _ _
 repeat' (first | refine nxt ?_ | ((refine zqh fun K J => ?_); (simp (disch := omega) only [go_sem, z20])) | (refine J _ ?_; clear J K))
 (refine z3c (fun U st => ∃ (i : _), U = l.length - i /\ st.t 0 = z20 l /\ st.t 3 = .int .i64 i /\ (i <= l.length) /\ ((l.take i).all fewO = true)) ?_ ?_); rotate_left; (rintro U st ⟨i, rfl, q0, q3, qp0, qp1⟩); rotate_left
 ·(refine ⟨_, 0, rfl, ?_⟩); (simp (disch := omega) only [go_sem, Nat.reduceBEq, and_self, Int.natCast_zero, z20, List.take_zero, List.all_nil])
 by_cases hi : i < l.length
 ·obtain ⟨hw1, hw2, hw3, hw4⟩ := hw l[i] (List.getElem_mem hi)
  have c1 := pc_Few l[i].unit hw4 12 (by decide) (by decide)
  have htk := List.take_succ_eq_append_getElem hi
  unfold maxLen at hw1 hw2
  have hfl : fewO l[i] = false -> false = l.all fewO := fun h => (List.all_eq_false.2 ⟨l[i], List.getElem_mem hi, by rw [h]; simp⟩).symm
  have hxo : ∀ x ∈ l, fewO x = fewO x := fun _ _ => rfl
  repeat' (first | refine nxt ?_ | ((first | refine zqh fun K J => ?_ | refine zqs (c1) ?_); (simp (disch := omega) only [go_sem, Nat.reduceBEq, ↓reduceIte, reduceCtorEq, Nat.reduceAdd, q0, q3, z20, z39])) | (refine zqd _ rfl ?_ ?_ <;> intro hc <;> (first | (cases hc; done) | ((try simp only [z07] at hc); (try omega)))) | refine zqu (by simp only [go_sem]; rfl) rfl ?_ | (refine J _ ?_; clear J K) | (refine zqf (fun hb => ?_) (fun hb => ?_) <;> (have hb2 := hb; try simp only [z07] at hb2) <;> ((first | have F := eq_false hb2 | have F := eq_true hb2); (simp (disch := omega) only [go_sem, Nat.reduceBEq, ↓reduceIte, reduceCtorEq, Nat.reduceAdd, Nat.reduceLeDiff, F, q0, q3, z20, z39]); clear hb F; (try omega))))
  ·exact z03 (hfl (by unfold fewO; rw [hc]; simp))
  ·have d1 : decide (l[i].words.length <= 20) = true := decide_eq_true (by omega)
   have d2 : decide (l[i].label.size <= 40) = true := decide_eq_true (by omega)
   have hfo : fewO l[i] = l[i].words.all fun w => decide (w.size <= 60) := by unfold fewO; rw [d1, d2, hc]; simp
   (refine z3c (fun U st => ∃ (j : _), U = l[i].words.length - j /\ st.t 0 = z20 l /\ st.t 3 = .int .i64 i /\ st.t 4 = .int .i64 j /\ (j <= l[i].words.length) /\ (((l[i].words.take j).all fun w => decide (w.size <= 60)) = true)) ?_ ?_); rotate_left; (rintro U st ⟨j, rfl, p0, p3, p4, pp0, pp1⟩); rotate_left
   ·(refine ⟨_, 0, rfl, ?_⟩); (simp (disch := omega) only [go_sem, Nat.reduceBEq, q0, q3, and_self, Int.natCast_zero, z20, List.take_zero, List.all_nil])
   by_cases hj : j < l[i].words.length
   ·have hw5 := hw3 l[i].words[j] (List.getElem_mem hj)
    unfold maxLen at hw5
    have htj := List.take_succ_eq_append_getElem hj
    repeat' (first | refine nxt ?_ | ((first | refine zqh fun K J => ?_ | refine zqr fun K J => ?_); (simp (disch := omega) only [go_sem, Nat.reduceBEq, ↓reduceIte, reduceCtorEq, Nat.reduceAdd, p0, p3, p4, z20, z39, z2j])) | ((first | refine zqd _ rfl (fun hc => ?_) (fun hc => ?_) | refine zqm _ rfl (fun hc => ?_) (fun hc => ?_)) <;> (((try simp only [z07] at hc); (try omega)))) | refine zqu (by simp only [go_sem]; rfl) rfl ?_ | (refine J _ ?_; clear J K))
    ·exact z03 (hfl (by rw [hfo]; exact List.all_eq_false.2 ⟨_, List.getElem_mem hj, by simp; omega⟩))
    ·have d3 : decide (l[i].words[j].size <= 60) = true := decide_eq_true (by omega)
     (refine Exists.intro _ (And.intro ?_ ⟨j + 1, rfl, ?_⟩)); rotate_left; (simp (disch := omega) only [go_sem, Nat.reduceBEq, p0, p3, p4, true_and, and_true, Int.natCast_add, Int.natCast_one, htj, List.all_append, List.all_cons, List.all_nil, d3, pp1]); rotate_left
     all_goals omega
   ·have hje : j = l[i].words.length := by omega
    subst hje
    rw [List.take_length] at pp1
    repeat' (first | refine nxt ?_ | ((first | refine zqh fun K J => ?_ | refine zqr fun K J => ?_); (simp (disch := omega) only [go_sem, Nat.reduceBEq, ↓reduceIte, reduceCtorEq, Nat.reduceAdd, p0, p3, p4, z20, z39, z2j])) | (refine zqd _ rfl ?_ ?_ <;> intro hc <;> (((try simp only [z07] at hc); (try omega)))) | refine zqz ?_ | (refine J _ ?_; clear J K))
    (refine Exists.intro _ (And.intro ?_ ⟨i + 1, rfl, ?_⟩)); rotate_left; (simp (disch := omega) only [go_sem, Nat.reduceBEq, true_and, Int.natCast_add, Int.natCast_one, p0, p3, htk, List.all_append, List.all_cons, List.all_nil, hfo, pp1]); rotate_left
    all_goals first | omega | exact ⟨by omega, qp1⟩
  ·exact z03 (hfl (by unfold fewO; rw [decide_eq_false (show ¬ l[i].label.size <= 40 by omega)]; simp))
  ·exact z03 (hfl (by unfold fewO; rw [decide_eq_false (show ¬ l[i].words.length <= 20 by omega)]; simp))
 ·have hie : i = l.length := by omega
  subst hie
  rw [List.take_length] at qp1
  rw [qp1]
  repeat' (first | refine nxt ?_ | ((refine zqh fun K J => ?_); (simp (disch := omega) only [go_sem, Nat.reduceBEq, ↓reduceIte, q0, q3, z20])) | (refine zqd _ rfl ?_ ?_ <;> intro hc <;> (((try simp only [z07] at hc); (try omega)))) | refine zqz ?_ | refine zqu (by simp only [go_sem]; rfl) rfl ?_ | (refine J _ ?_; clear J K))
  exact z03 rfl
structure Ky where
 k : Int
 o : Deed
def za9 (p : Ky) : List D := .int .u8 p.k :: z1l p.o
def zk4 (p : Ky) : D := .agg (za9 p)
def z5q (l : List Ky) : D := .rsl false 19 (l.map zk4)
theorem z70 (p : Ky) : (za9 p).length = 19 := by unfold za9; rw [List.length_cons, z48]
theorem zgi (p : Ky) : pureD (zk4 p) = true := by
 show pureD.pureL (.int .u8 p.k :: z1l p.o) = true
 simp only [pureD.pureL, z76, pureD, Bool.and_self]
theorem zdz (l : List Ky) : pureD (z5q l) = true := z0r (f := zk4) zgi l
theorem zm0 (p : Ky) : List.take 18 (List.drop 1 (za9 p)) = z1l p.o := by
 show List.take 18 (z1l p.o) = _
 exact znr _
theorem zwf (t : T) (hf : fitB t = true) (l : List Ky) (hl : l.length <= 606627104963) (hw : ∀ p ∈ l, p.o.words.length <= maxLen /\ p.o.label.size <= maxLen /\ (∀ w ∈ p.o.words, w.size <= maxLen) /\ fitB p.o.unit = true) :
  PC prog 11 [z0g t, z5q l] (.bool (decide (l.length <= 16) && zuw t 40 && (l.map (·.o)).all fewO)) := by
 have c0 := pc_Few t hf 40 (by decide) (by decide)
 have c1 := pc_FewE (l.map (·.o)) (by rw [List.length_map]; exact hl) (fun o ho => by
  obtain ⟨p, hp, rfl⟩ := List.mem_map.1 ho
  exact hw p hp)
 refine z14 2 (by simp only [pureD.pureL, z01, zdz, Bool.and_self]) rfl (z0z [7] func11 rfl (by decide +kernel) rfl ?_)
 show awp _ _ (Code.seq _ _) _ _
 repeat' (first | refine nxt ?_ | ((refine zqh fun K J => ?_); (simp (disch := omega) only [go_sem, Nat.reduceBEq, ↓reduceIte, reduceCtorEq, Nat.reduceAdd, Nat.reduceMul, z0g])) | (refine J _ ?_; clear J K))
 (refine z3c (fun U st => ∃ (i : _), U = l.length - i /\ st.t 1 = z5q l /\ st.t 2 = .ptr 0 0 /\ st.t 5 = .osl 1 i /\ st.t 6 = .int .i64 i /\ st.H 0 = some (.box 27 (z0a t)) /\ st.H 1 = some (.row 32 i ((l.take i).flatMap fun p => z1l p.o)) /\ (i <= l.length) /\ (2 <= st.nx)) ?_ ?_); rotate_left; (rintro U st ⟨i, rfl, q1, q2, q5, q6, qH0, qH1, qp0, qp1⟩); rotate_left
 ·(refine ⟨_, 0, rfl, ?_⟩); (simp (disch := omega) only [go_sem, Nat.reduceBEq, Nat.reduceLeDiff, and_self, Int.natCast_zero, List.flatMap_nil, z5q])
 by_cases hi : i < l.length
 ·have htk := List.take_succ_eq_append_getElem hi
  repeat' (first | refine nxt ?_ | ((first | refine zqh fun K J => ?_ | refine zqr fun K J => ?_); (simp (disch := omega) only [go_sem, Nat.reduceBEq, ↓reduceIte, reduceCtorEq, Nat.reduceAdd, Nat.reduceMul, Nat.reduceLeDiff, q1, q5, q6, qH1, z5q, zk4, z70, zm0])) | (refine zqd _ rfl ?_ ?_ <;> intro hc <;> (((try simp only [z07] at hc); (try omega)))) | (refine J _ ?_; clear J K))
  (refine Exists.intro _ (And.intro ?_ ⟨i + 1, rfl, ?_⟩)); rotate_left; (simp (disch := omega) only [go_sem, Nat.reduceBEq, q1, q2, q5, q6, qH0, qH1, true_and, Int.natCast_add, Int.natCast_one, List.flatMap_append, List.flatMap_cons, List.flatMap_nil, List.append_nil, htk]); rotate_left
  all_goals first | omega | exact ⟨by omega, by omega⟩
 ·have hie : i = l.length := by omega
  subst hie
  rw [List.take_length] at qH1
  have hfl : (l.flatMap fun p => z1l p.o) = (l.map (·.o)).flatMap z1l := by rw [List.flatMap_map]
  rw [hfl] at qH1
  have u0 : pureD.pureL ((l.map (·.o)).flatMap z1l) = true := z6y _
  have v0 : z1i true 18 l.length ((l.map (·.o)).flatMap z1l) = (l.map (·.o)).map z39 := by
   have := z62 (l.map (·.o))
   rwa [List.length_map] at this
  repeat' (first | refine nxt ?_ | ((refine zqh fun K J => ?_); (simp (disch := omega) only [go_sem, Nat.reduceBEq, ↓reduceIte, q1, q6, z5q])) | (refine zqd _ rfl ?_ ?_ <;> intro hc <;> (((try simp only [z07] at hc); (try omega)))) | (refine J _ ?_; clear J K))
  refine zqz (zg0 _ (zg2 (P := prog) (id := 1) (by exact qH1) (by decide +kernel) u0) ?_)
  have hsu : (z0a t).map (zht prog 1 32 l.length ((l.map (·.o)).flatMap z1l)) = z0a t := z5o _ (z04 t)
  have c1' : PC prog 33 [.rsl false 18 ((l.map (·.o)).map z39)] (.bool ((l.map (·.o)).all fewO)) := c1
  rw [List.map_map] at c1'
  repeat' (first | ((first | refine zqh fun K J => ?_ | refine zqs (c0) ?_ | refine zqs (c1') ?_); (simp (disch := omega) only [go_sem, Nat.reduceBEq, ↓reduceIte, q1, z5q, v0])) | refine nxt ?_ | refine zqu (by simp only [go_sem]; rfl) rfl ?_ | (refine J _ ?_; clear J K) | (refine zqf (fun hb => ?_) (fun hb => ?_) <;> (have hb2 := hb; try simp only [z07] at hb2) <;> ((first | have F : (_ : Bool) = _ := hb2 | have F := eq_false hb2 | have F := eq_true hb2); (simp (disch := omega) only [go_sem, Nat.reduceBEq, ↓reduceIte, Nat.reduceAdd, Nat.reduceLeDiff, hb, F, q2, q5, qH0, v0, hsu]); clear hb F; (try omega))))
  ·refine ⟨_, z02 1 rfl, ?_⟩
   rw [decide_eq_true (show l.length <= 16 by omega), show zuw t 40 = true from by assumption]
   exact Le.refl _
  ·refine ⟨_, z02 1 rfl, ?_⟩
   rw [show zuw t 40 = false from by assumption, Bool.and_false, Bool.false_and]
   exact Le.refl _
  ·refine ⟨_, z02 1 rfl, ?_⟩
   rw [decide_eq_false (show ¬ l.length <= 16 by omega), Bool.false_and, Bool.false_and]
   exact Le.refl _
end
end Go.Proofs.YtlfohdkfpdkhhaaGreatDoor
