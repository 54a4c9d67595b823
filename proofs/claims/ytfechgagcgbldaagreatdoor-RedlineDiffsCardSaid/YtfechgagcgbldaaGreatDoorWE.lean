import Derived.Test.YtfechgagcgbldaaGreatDoorWD
import Derived.WalkKit
import Derived.Lib.Walk
import Derived.Lib.SliceRun
import Derived.Lib.AppendZerosOnto
import Derived.Lib.Overlaps
import Derived.Laws.Externs
import Derived.Laws.NewBlocks
import Derived.Shelf.Spec.SlicesInsert
/-
 Lemmas of the claim. No condition but those that each names.
-/
set_option linter.unusedSimpArgs false
set_option linter.unusedVariables false
set_option maxHeartbeats 8000000
set_option maxRecDepth 100000
set_option linter.unusedSectionVars false
namespace Go.Proofs.YtfechgagcgbldaaGreatDoor
open _root_.Go.Proofs.Tryz
section
open Abs Facts Tr
attribute [local irreducible] awp
set_option maxRecDepth 100000
theorem zax : ∀ l : List (Nat × Nat), z1a 2 (l.map fun p => D.agg (z16 p)) = some (l.flatMap z16)
 | [] => rfl
 | p :: l => by
  rw [List.map_cons, List.flatMap_cons]
  unfold z1a
  rw [zax l]
  rfl
def rowP (l : List (Nat × Nat)) : HObj := .row 90 l.length (l.flatMap z16)
theorem ztz (l : List (Nat × Nat)) (hl : l.length <= 1000000) (H : HM) (nx : Nat) : AC prog 82 [zx6 l] H nx fun r H' nx' => r = .osl nx l.length /\ H' = z17 H nx (some (rowP l)) /\ nx' = nx + 1 := by
 refine AC.split (pre := []) (post := []) (sz := 2) (els := l.map fun p => .agg (z16 p)) (fun he => ?_) ?_
 ·have hl0 : l = [] := by simpa using he
  subst hl0
  have hp : PC prog 82 [.nil] .nil := by
   refine z2f 2 rfl rfl (z23 [] func82 rfl (by decide +kernel) rfl ?_)
   show awp _ _ (Code.seq _ _) _ _
   repeat' (first | refine nxt ?_ | ((refine zqh fun K hK => ?_); (simp (disch := omega) only [go_sem, Nat.reduceBEq, ↓reduceIte])) | (refine zqd _ rfl ?_ ?_ <;> intro hc <;> (first | (cases hc; done) | ((try simp only [] at hc); (try omega)))) | refine zqu (by simp only [go_sem]; rfl) rfl ?_ | (refine hK _ ?_; clear hK K))
   exact z18 rfl (Le.refl _)
  exact zvk 90 (hp.ac ⟨rfl, rfl, rfl, rfl⟩)
 ·have ho : OC prog 82 [.rsl true 2 (l.map fun p => .agg (z16 p))] [rowP l] (.osl 0 l.length) := by
   refine ze7 (by simp only [pureD.pureL, pureD, z0d (f := fun p => D.agg (z16 p)) (fun _ => rfl) l, Bool.and_self]) rfl (fun o ho => by simp at ho; subst ho; exact z15 (fun _ => rfl) _) (z23 [5] func82 rfl (by decide +kernel) rfl ?_)
   show awp _ _ (Code.seq _ _) _ _
   repeat' (first | refine nxt ?_ | ((refine zqh fun K hK => ?_); (simp (disch := omega) only [go_sem, Nat.reduceBEq, ↓reduceIte, reduceCtorEq, Nat.reduceAdd, Nat.reduceMul, zax])) | (refine zqd _ rfl ?_ ?_ <;> intro hc <;> (first | (cases hc; done) | ((try simp only [] at hc); (try omega)))) | refine zqu (by simp only [go_sem]; rfl) rfl ?_ | (refine hK _ ?_; clear hK K))
   refine ⟨fun _ => 0, fun i j hi hj _ => by simp at hi hj; omega, ?_, fun j hj => ?_⟩
   ·(simp (disch := omega) only [go_sem, Nat.reduceBEq, renD])
   ·obtain rfl : j = 0 := by simp at hj; omega
    (simp (disch := omega) only [go_sem, rowP])
    try rfl
  exact ho.ac ⟨by simp [renD], rfl, rfl⟩
theorem zk8 (l : List (Nat × Nat)) (hl : l.length <= 1000000) : OC prog 82 [zx6 l] [rowP l] (.osl 0 l.length) :=
 ⟨by simp only [pureD.pureL, zl7, Bool.and_self], rfl, fun o ho => by simp at ho; subst ho; exact z15 (fun _ => rfl) _, fun H nx => (ztz l hl H nx).mono fun r H' nx' ⟨h1, h2, h3⟩ => ⟨by rw [h1]; rfl, h2, h3⟩⟩
theorem zoi (l : List Wd) (hl : l.length <= 1000000) : PC prog 77 [z1y l] (z1e (txt l)) := by
 refine z2f 2 (by simp only [pureD.pureL, z1v, Bool.and_self]) (z1t _) (z23 [3] func77 rfl (by decide +kernel) rfl ?_)
 show awp _ _ (Code.seq _ _) _ _
 repeat' (first | refine nxt ?_ | ((refine zqh fun K hK => ?_); (simp (disch := omega) only [go_sem, Nat.reduceBEq, ↓reduceIte, z1y])) | (refine hK _ ?_; clear hK K))
 (refine z3i (fun U st => ∃ (k : _), U = l.length - k /\ st.t 3 = .osl 0 k /\ st.t 6 = z1y l /\ st.t 7 = .int .i64 l.length /\ st.t 8 = .int .i64 k /\ st.H 0 = some (.row 9 k (((l.take k).map (·.text)).map .str)) /\ (k <= l.length) /\ (0 < st.nx)) ?_ ?_); rotate_left; (rintro U st ⟨k, rfl, s3, s6, s7, s8, sH0, sp0, sp1⟩); rotate_left
 ·(refine ⟨_, 0, rfl, ?_⟩); (simp (disch := omega) only [go_sem, Nat.reduceBEq, Nat.reduceLT, and_self, Int.natCast_zero, List.map_nil, z1y])
  try simp
 have htk : ∀ h : k < l.length, l.take (k + 1) = l.take k ++ [l[k]] := fun h => List.take_succ_eq_append_getElem h
 repeat' (first | ((first | refine zqh fun K hK => ?_ | refine zqr fun K hK => ?_); (simp (disch := omega) only [go_sem, Nat.reduceBEq, ↓reduceIte, reduceCtorEq, Nat.reduceAdd, Nat.reduceLeDiff, Nat.reduceLT, s3, s6, s7, s8, sH0, z1y])) | (refine zqd _ rfl ?_ ?_ <;> intro hc <;> (((try simp only [z03] at hc); (try omega)))) | refine nxt ?_ | refine zqz ?_ | refine zqu (by simp only [go_sem]; rfl) rfl ?_ | (refine hK _ ?_; clear hK K))
 ·have htk := htk (by omega)
  (refine Exists.intro _ (And.intro ?_ ⟨k + 1, rfl, ?_⟩)); rotate_left; (simp (disch := omega) only [go_sem, Nat.reduceBEq, s3, s6, s7, s8, sH0, true_and, and_true, Int.natCast_add, Int.natCast_one, List.map_append, List.map_cons, List.map_nil, htk]); rotate_left
  ·omega
  ·omega
 ·have O : k = l.length := by omega
  subst O
  rw [List.take_length] at sH0
  have h2 : l.length = (txt l).length := by simp [txt]
  rw [h2] at sH0 ⊢
  exact z47 (z7m 0 sH0 z7v zb4 (by simp) (ze6 _))

theorem zih {α β γ : Type} {ga : α -> γ} {gb : β -> γ} {gs : α -> β -> γ} {a : List α} {b : List β} : ∀ (l : List (Nat × Nat)) (i k : Nat), Rise a.length b.length l i k -> (wov ga gb gs a b l i k).length + i + k <= a.length + b.length
 | [], i, k, h => by
  obtain ⟨h1, h2⟩ := h
  simp only [wov, List.length_append, List.length_map, List.length_drop]; omega
 | (x, y) :: l, i, k, h => by
  obtain ⟨h1, h2, h3, h4, h5⟩ := h
  have ih := zih (ga := ga) (gb := gb) (gs := gs) l _ _ h5
  rw [wov]
  rw [List.getElem?_eq_getElem h3, List.getElem?_eq_getElem h4]
  simp only [List.length_append, List.length_map, List.length_take, List.length_drop, List.length_cons, List.length_nil]
  omega
theorem zay {α : Type} (a : List α) {i j : Nat} (h1 : i <= j) (h2 : j < a.length) : (a.drop i).take (j + 1 - i) = (a.drop i).take (j - i) ++ [a[j]] := by
 rw [show j + 1 - i = (j - i) + 1 by omega, List.take_succ_eq_append_getElem (by rw [List.length_drop]; omega), List.getElem_drop]
 congr 2
 simp only [show i + (j - i) = j by omega]
theorem zk9 {α β γ : Type} {ga : α -> γ} {gb : β -> γ} {gs : α -> β -> γ} {a : List α} {b : List β} {ps : List (Nat × Nat)} {W out : List γ} {j i k : Nat} (hj : j <= ps.length) (h : out ++ wov ga gb gs a b (ps.drop j) i k = W) (hr : Rise a.length b.length (ps.drop j) i k) :
  ∃ x y, (ps ++ [(a.length, b.length)])[j]? = some (x, y) /\ i <= x /\ x <= a.length /\ k <= y /\ y <= b.length /\ ∃ R, W = out ++ (((a.drop i).take (x - i)).map ga ++ (((b.drop k).take (y - k)).map gb ++ R)) /\
   ((j = ps.length /\ x = a.length /\ y = b.length /\ R = []) \/ (j < ps.length /\ ∃ (hx : x < a.length) (hy : y < b.length), R = gs a[x] b[y] :: wov ga gb gs a b (ps.drop (j + 1)) (x + 1) (y + 1) /\ Rise a.length b.length (ps.drop (j + 1)) (x + 1) (y + 1))) := by
 rcases Nat.lt_or_ge j ps.length with hlt | hge
 ·obtain ⟨x, y⟩ : Nat × Nat := ps[j]
  have V := List.drop_eq_getElem_cons hlt
  obtain ⟨x, y, he⟩ : ∃ x y, ps[j] = (x, y) := ⟨_, _, rfl⟩
  rw [V, he] at h hr
  obtain ⟨h1, h2, h3, h4, h5⟩ := hr
  refine ⟨x, y, by rw [List.getElem?_append_left hlt, List.getElem?_eq_getElem hlt, he], h1, by omega, h2, by omega, _, ?_, .inr ⟨hlt, h3, h4, rfl, h5⟩⟩
  rw [<- h, wov, List.getElem?_eq_getElem h3, List.getElem?_eq_getElem h4]
  rfl
 ·have e : j = ps.length := by omega
  subst e
  rw [List.drop_length] at h hr
  obtain ⟨h1, h2⟩ := hr
  refine ⟨a.length, b.length, by simp, h1, Nat.le_refl _, h2, Nat.le_refl _, [], ?_, .inl ⟨rfl, rfl, rfl, rfl⟩⟩
  rw [<- h, wov, List.take_of_length_le (by rw [List.length_drop]; omega), List.take_of_length_le (by rw [List.length_drop]; omega), List.append_nil]
set_option maxHeartbeats 16000000 in
theorem zu0 {H : HM} {nx : Nat} (ga : ByteArray -> Tw) (gb : ByteArray -> Tw) (gs : ByteArray -> ByteArray -> Tw) (a : List ByteArray) (b : List ByteArray) (ha : a.length <= 1000000) (hb : b.length <= 1000000) (ps : List (Nat × Nat)) (hps : ps.length <= 1000000) (hr : Rise a.length b.length ps 0 0)
  {g1 g2 g3 : FuncId} {c1 c2 c3 : List D}
  (h1 : ∀ x ∈ a, ∀ H' n', nx <= n' -> z3z nx H H' -> RC prog g1 (D.str x :: c1) H' n' (.agg (z1q (ga x))))
  (h2 : ∀ y ∈ b, ∀ H' n', nx <= n' -> z3z nx H H' -> RC prog g2 (D.str y :: c2) H' n' (.agg (z1q (gb y))))
  (h3 : ∀ x ∈ a, ∀ y ∈ b, ∀ H' n', nx <= n' -> z3z nx H H' -> RC prog g3 ((fun s : ByteArray => D.str s) x :: (fun s : ByteArray => D.str s) y :: c3) H' n' (.agg (z1q (gs x y)))) :
  AC prog 79 [z1e a, z1e b, zx6 ps, .fn g1 c1, .fn g2 c2, .fn g3 c3] H nx fun r H' _ => r = .osl nx (wov ga gb gs a b ps 0 0).length /\ H' nx = some (.row 48 (wov ga gb gs a b ps 0 0).length ((wov ga gb gs a b ps 0 0).flatMap z1q)) /\ z3z nx H H' := by
 have cl := zk8 ps hps
 have hcl : ps.flatMap z16 ++ [.int .i64 a.length, .int .i64 b.length] = (ps ++ [(a.length, b.length)]).flatMap z16 := by rw [List.flatMap_append]; rfl
 have hgr : z1j true 2 (ps.length + 1) ((ps ++ [(a.length, b.length)]).flatMap z16) = (ps ++ [(a.length, b.length)]).map fun p => D.agg (z16 p) := by
  have h := z4y (f := z16) (sz := 2) (fun _ => rfl) (ps ++ [(a.length, b.length)])
  rw [List.length_append] at h
  exact h
 have hpu : pureD.pureL ((ps ++ [(a.length, b.length)]).flatMap z16) = true := z15 (fun _ => rfl) _
 obtain ⟨W, hW⟩ : ∃ W, W = wov ga gb gs a b ps 0 0 := ⟨_, rfl⟩
 have hWl : W.length <= a.length + b.length := by have := zih (ga := ga) (gb := gb) (gs := gs) ps 0 0 hr; rw [hW]; omega
 obtain ⟨L, hL⟩ : ∃ L, L = (ps ++ [(a.length, b.length)]).map fun p => D.agg (z16 p) := ⟨_, rfl⟩
 have hLl : L.length = ps.length + 1 := by rw [hL]; simp
 have hLg : ∀ j (h : j < (ps ++ [(a.length, b.length)]).length), L[j]? = some (.agg [.int .i64 ((ps ++ [(a.length, b.length)])[j].1 : Nat), .int .i64 ((ps ++ [(a.length, b.length)])[j].2 : Nat)]) := fun j h => by
  rw [hL, List.getElem?_map, List.getElem?_eq_getElem h]; rfl
 rw [<- hL] at hgr
 rw [<- hW]
 have hn1 : (nx == nx + 1) = false := z28 (by omega)
 refine (z23 [13, 2000026] func79 rfl (by decide +kernel) rfl ?_)
 show awp _ _ (Code.seq _ _) _ _
 repeat' (first | refine nxt ?_ | ((first | refine z1n (N := 4) rfl fun K hK => ?_ | refine zbk (cl) ?_); (simp (disch := omega) only [go_sem, Nat.reduceBEq, ↓reduceIte, reduceCtorEq, Nat.reduceAdd, Nat.reduceMul, Nat.reduceLeDiff, z1e, rowP, hcl, hgr, hpu, hLl])) | (refine hK _ ?_; clear hK K))
 (refine z3i (fun U st => ∃ (j : _) (i : Nat) (k : Nat) (out : List Tw), U = ps.length + 1 - j /\ st.t 0 = z1e a /\ st.t 1 = z1e b /\ st.t 3 = .fn g1 c1 /\ st.t 4 = .fn g2 c2 /\ st.t 5 = .fn g3 c3 /\ st.t 13 = .osl nx out.length /\ st.t 14 = .int .i64 i /\ st.t 15 = .int .i64 k /\ st.t 26 = .rsl false 2 L /\ st.t 27 = .int .i64 ((ps.length + 1 : Nat) : Int) /\ st.t 28 = .int .i64 j /\ st.H (nx) = some (.row 48 out.length (out.flatMap z1q)) /\ (j <= ps.length + 1) /\ (nx < st.nx) /\ (z3z nx H st.H) /\ ((j <= ps.length /\ out ++ wov ga gb gs a b (ps.drop j) i k = W /\ Rise a.length b.length (ps.drop j) i k) \/ (j = ps.length + 1 /\ out = W))) ?_ ?_); rotate_left; (rintro U st ⟨j, i, k, out, rfl, q0, q1, q3, q4, q5, q13, q14, q15, q26, q27, q28, qHnx, qp0, qp1, qp2, qp3⟩); rotate_left
 ·(refine ⟨_, 0, 0, 0, [], rfl, ?_⟩); (simp (disch := omega) only [go_sem, Nat.reduceBEq, reduceCtorEq, true_and, Int.natCast_add, Int.natCast_one, Int.natCast_zero, List.flatMap_nil, List.nil_append, z1e, hn1])
  exact ⟨fun id hid => by simp (disch := omega) only [z5h], .inl ⟨hW.symm, hr⟩⟩
 have hq := z05 qp1
 have hst : ∀ {H' : HM} {n' : Nat}, z3z (nx + 1) st.H H' -> z3z nx H H' := fun h id hid => (h id (by omega)).trans (qp2 id hid)
 by_cases hj : j <= ps.length
 ·obtain ⟨hw, hri⟩ : out ++ wov ga gb gs a b (ps.drop j) i k = W /\ Rise a.length b.length (ps.drop j) i k := by
   rcases qp3 with ⟨_, h4, h5⟩ | ⟨h4, _⟩
   ·exact ⟨h4, h5⟩
   ·omega
  clear qp3
  obtain ⟨x, y, hxy, hix, hxa, hky, hyb, R, hWd, hR⟩ := zk9 hj hw hri
  have hg : L[j]? = some (.agg [.int .i64 (x : Int), .int .i64 (y : Int)]) := by rw [hL, List.getElem?_map, hxy]; rfl
  have hg : zgb L (j : Int) = some (.agg [.int .i64 (x : Int), .int .i64 (y : Int)]) := by
   unfold zgb
   rw [if_pos ⟨by omega, by omega⟩, Int.toNat_natCast, hg]
  obtain ⟨B, hB⟩ : ∃ B, B = st.nx := ⟨_, rfl⟩
  rw [<- hB] at hq
  have hol : (out ++ ((a.drop i).take (x - i)).map ga).length + ((b.drop k).take (y - k)).length + R.length = W.length := by rw [hWd]; simp; omega
  have hsc : ∀ z, (z1q z).length = 2 := fun z => rfl
  repeat' (first | ((refine z1n (N := 6) rfl fun K hK => ?_); (simp (disch := omega) only [go_sem, Nat.reduceBEq, ↓reduceIte, reduceCtorEq, Nat.reduceAdd, Nat.reduceLeDiff, q26, q27, q28, hg])) | (refine zqd _ rfl ?_ ?_ <;> intro hc <;> (((try simp only [z03] at hc); (try omega)))) | refine nxt ?_ | (refine hK _ ?_; clear hK K))
  have hBn : nx < B := by omega
  (refine z3i (fun U st => ∃ (m : Nat) (o1 : List Tw), U = x - m /\ st.t 0 = z1e a /\ st.t 1 = z1e b /\ st.t 3 = .fn g1 c1 /\ st.t 4 = .fn g2 c2 /\ st.t 5 = .fn g3 c3 /\ st.t 17 = .ptr B 0 /\ st.t 26 = .rsl false 2 L /\ st.t 27 = .int .i64 ((ps.length + 1 : Nat) : Int) /\ st.t 28 = .int .i64 j /\ st.t 13 = .osl nx o1.length /\ st.t 14 = .int .i64 m /\ st.t 15 = .int .i64 k /\ st.H (nx) = some (.row 48 o1.length (o1.flatMap z1q)) /\ st.H (B) = some (.box 90 [.int .i64 x, .int .i64 y]) /\ (i <= m) /\ (m <= x) /\ (B < st.nx) /\ (z3z nx H st.H) /\ (o1 = out ++ ((a.drop i).take (m - i)).map ga)) ?_ ?_); rotate_left; (rintro U st ⟨m, o1, rfl, r0, r1, r3, r4, r5, r17, r26, r27, r28, r13, r14, r15, rHnx, rHB, rp0, rp1, rp2, rp3, rp4⟩); rotate_left
  ·(refine ⟨_, i, out, rfl, ?_⟩); (simp (disch := omega) only [go_sem, Nat.reduceBEq, q0, q1, q3, q4, q5, q13, q14, q15, q26, q27, q28, qHnx, true_and, Int.natCast_add, Int.natCast_one, z1e, hB])
   refine ⟨Nat.le_refl _, hix, by omega, fun id hid => by simp (disch := omega) only [z5h]; exact qp2 id hid, by simp⟩
  have hrq := z05 rp2
  have hrn := z05 (show nx < st.nx by omega)
  have hBx : (B == nx) = false := z28 (by omega)
  have hxB : (nx == B) = false := z28 (by omega)
  by_cases hm : m < x
  ·have hma : m < a.length := by omega
   have c1 := h1 a[m] (List.getElem_mem hma) st.H st.nx (by omega) rp3
   have htm := zay a rp0 hma
   have ho1 : o1.length <= 2000000 := by rw [rp4, List.length_append, List.length_map, List.length_take]; simp only [List.length_append, List.length_map, List.length_take] at hol; omega
   repeat' (first | refine nxt ?_ | ((first | refine zqh fun K hK => ?_ | refine zqr fun K hK => ?_ | refine z41 (c1) ?_); (simp (disch := omega) only [go_sem, Nat.reduceBEq, ↓reduceIte, reduceCtorEq, Nat.reduceAdd, Nat.reduceMul, Nat.reduceLeDiff, r0, r3, r17, r13, r14, rHnx, rHB, z1e, hsc, List.append_nil])) | (refine zqd _ rfl ?_ ?_ <;> intro hc <;> (((try simp only [z03] at hc); (try omega)))) | (refine hK _ ?_; clear hK K))
   (refine Exists.intro _ (And.intro ?_ ⟨m + 1, o1 ++ [ga a[m]], rfl, ?_⟩)); rotate_left; (simp (disch := omega) only [go_sem, Nat.reduceBEq, r0, r1, r3, r4, r5, r17, r26, r27, r28, r13, r14, r15, rHnx, rHB, true_and, Int.natCast_add, Int.natCast_one, List.flatMap_append, List.flatMap_cons, List.flatMap_nil, List.append_nil, hBx]); rotate_left
   ·omega
   ·exact ⟨by omega, by omega, rp2, fun id hid => by rw [z2v _ (by omega)]; exact rp3 id hid, by rw [rp4, htm, List.map_append, List.append_assoc]; rfl⟩
  ·obtain rfl : m = x := by omega
   repeat' (first | refine nxt ?_ | ((refine z1n (N := 9) rfl fun K hK => ?_); (simp (disch := omega) only [go_sem, Nat.reduceBEq, ↓reduceIte, reduceCtorEq, Nat.reduceAdd, r17, r14, rHB])) | (refine zqd _ rfl ?_ ?_ <;> intro hc <;> (((try simp only [z03] at hc); (try omega)))) | refine zqz ?_ | (refine hK _ ?_; clear hK K))
   (refine z3i (fun U st => ∃ (n : Nat) (o2 : List Tw), U = y - n /\ st.t 0 = z1e a /\ st.t 1 = z1e b /\ st.t 3 = .fn g1 c1 /\ st.t 4 = .fn g2 c2 /\ st.t 5 = .fn g3 c3 /\ st.t 17 = .ptr B 0 /\ st.t 26 = .rsl false 2 L /\ st.t 27 = .int .i64 ((ps.length + 1 : Nat) : Int) /\ st.t 28 = .int .i64 j /\ st.t 13 = .osl nx o2.length /\ st.t 14 = .int .i64 m /\ st.t 15 = .int .i64 n /\ st.H (nx) = some (.row 48 o2.length (o2.flatMap z1q)) /\ st.H (B) = some (.box 90 [.int .i64 m, .int .i64 y]) /\ (k <= n) /\ (n <= y) /\ (B < st.nx) /\ (z3z nx H st.H) /\ (o2 = out ++ (((a.drop i).take (m - i)).map ga ++ ((b.drop k).take (n - k)).map gb))) ?_ ?_); rotate_left; (rintro U st ⟨n, o2, rfl, t0, t1, t3, t4, t5, t17, t26, t27, t28, t13, t14, t15, tHnx, tHB, tp0, tp1, tp2, tp3, tp4⟩); rotate_left
   ·(refine ⟨_, k, o1, rfl, ?_⟩); (simp (disch := omega) only [go_sem, Nat.reduceBEq, r0, r1, r3, r4, r5, r17, r26, r27, r28, r13, r14, r15, rHnx, rHB, true_and, Int.natCast_add, Int.natCast_one, z1e])
    refine ⟨Nat.le_refl _, hky, rp2, rp3, by rw [rp4]; simp⟩
   have htq := z05 tp2
   have htn := z05 (show nx < st.nx by omega)
   have hto : o2.length + ((b.drop k).take (y - k)).length - ((b.drop k).take (n - k)).length + R.length = W.length /\ o2.length <= 2000000 := by
    rw [tp4]
    simp only [List.length_append, List.length_map, List.length_take, List.length_drop] at hol ⊢
    omega
   by_cases hn : n < y
   ·have hnb : n < b.length := by omega
    have c2 := h2 b[n] (List.getElem_mem hnb) st.H st.nx (by omega) tp3
    have htm := zay b tp0 hnb
    repeat' (first | refine nxt ?_ | ((first | refine zqh fun K hK => ?_ | refine zqr fun K hK => ?_ | refine z41 (c2) ?_); (simp (disch := omega) only [go_sem, Nat.reduceBEq, ↓reduceIte, reduceCtorEq, Nat.reduceAdd, Nat.reduceMul, Nat.reduceLeDiff, t1, t4, t17, t13, t15, tHnx, tHB, z1e, hsc, List.append_nil])) | (refine zqd _ rfl ?_ ?_ <;> intro hc <;> (((try simp only [z03] at hc); (try omega)))) | (refine hK _ ?_; clear hK K))
    (refine Exists.intro _ (And.intro ?_ ⟨n + 1, o2 ++ [gb b[n]], rfl, ?_⟩)); rotate_left; (simp (disch := omega) only [go_sem, Nat.reduceBEq, t0, t1, t3, t4, t5, t17, t26, t27, t28, t13, t14, t15, tHnx, tHB, true_and, Int.natCast_add, Int.natCast_one, List.flatMap_append, List.flatMap_cons, List.flatMap_nil, List.append_nil, hBx]); rotate_left
    ·omega
    ·exact ⟨by omega, by omega, tp2, fun id hid => by rw [z2v _ (by omega)]; exact tp3 id hid, by rw [tp4, htm]; simp⟩
   ·obtain rfl : n = y := by omega
    rcases hR with ⟨rfl, rfl, rfl, rfl⟩ | ⟨hjl, hxl, hyl, rfl, hri2⟩
    ·repeat' (first | refine nxt ?_ | ((first | refine zqh fun K hK => ?_ | refine zqr fun K hK => ?_); (simp (disch := omega) only [go_sem, Nat.reduceBEq, ↓reduceIte, reduceCtorEq, Nat.reduceAdd, t0, t17, t28, t15, tHB, z1e])) | ((first | refine zqd _ rfl (fun hc => ?_) (fun hc => ?_) | refine zqm _ rfl (fun hc => ?_) (fun hc => ?_)) <;> (first | (cases hc; done) | ((try simp only [z03] at hc); (try omega)))) | refine zqz ?_ | (refine hK _ ?_; clear hK K) | (refine zqf (fun hb => ?_) (fun hb => ?_) <;> (have hb2 := hb; try simp only [z03] at hb2) <;> ((first | have F := eq_false hb2 | have F := eq_true hb2); (simp (disch := omega) only [go_sem, Nat.reduceBEq, ↓reduceIte, reduceCtorEq, Nat.reduceAdd, F, t1, t17, tHB, z1e]); clear hb F; (try omega))))
     (refine Exists.intro _ (And.intro ?_ ⟨ps.length + 1, a.length, b.length, o2, rfl, ?_⟩)); rotate_left; (simp (disch := omega) only [go_sem, Nat.reduceBEq, Nat.reduceLeDiff, t0, t1, t3, t4, t5, t26, t27, t28, t13, t14, t15, tHnx, true_and, Int.natCast_add, Int.natCast_one]); rotate_left
     ·omega
     ·exact ⟨Nat.le_refl _, by omega, tp3, .inr (by rw [hWd, tp4]; simp)⟩
    ·have c3 := h3 a[m] (List.getElem_mem hxl) b[n] (List.getElem_mem hyl) st.H st.nx (by omega) tp3
     repeat' (first | refine nxt ?_ | ((first | refine zqh fun K hK => ?_ | refine zqe (by decide +kernel) fun K hK => ?_ | refine zqr fun K hK => ?_ | refine ziv (c3) rfl ?_); (simp (disch := omega) only [go_sem, Nat.reduceBEq, Nat.reduceEqDiff, ↓reduceIte, reduceCtorEq, Nat.reduceAdd, Nat.reduceMul, Nat.reduceLeDiff, t0, t1, t5, t17, t28, t13, t14, t15, tHnx, tHB, z1e, hsc, List.append_nil])) | ((first | refine zqd _ rfl (fun hc => ?_) (fun hc => ?_) | refine zqm _ rfl (fun hc => ?_) (fun hc => ?_)) <;> (((try simp only [z03] at hc); (try omega)))) | refine zqz ?_ | (refine hK _ ?_; clear hK K) | (refine zqf (fun hb => ?_) (fun hb => ?_) <;> (have hb2 := hb; try simp only [z03] at hb2) <;> ((first | have F := eq_false hb2 | have F := eq_true hb2); (simp (disch := omega) only [go_sem, Nat.reduceBEq, ↓reduceIte, reduceCtorEq, Nat.reduceAdd, F, t1, t17, tHB, z1e]); clear hb F; (try omega))))
     (refine Exists.intro _ (And.intro ?_ ⟨j + 1, m + 1, n + 1, o2 ++ [gs a[m] b[n]], rfl, ?_⟩)); rotate_left; (simp (disch := omega) only [go_sem, Nat.reduceBEq, Nat.reduceEqDiff, Nat.reduceLeDiff, t0, t1, t3, t4, t5, t26, t27, t28, t13, t14, t15, tHnx, true_and, Int.natCast_add, Int.natCast_one, List.flatMap_append, List.flatMap_cons, List.flatMap_nil, List.append_nil]); rotate_left
     ·omega
     ·exact ⟨by omega, by omega, fun id hid => by rw [z2v _ (by omega)]; exact tp3 id hid, .inl ⟨by omega, by rw [hWd, tp4]; simp, hri2⟩⟩
 ·skip
  repeat' (first | ((refine zqh fun K hK => ?_); (simp (disch := omega) only [go_sem, Nat.reduceBEq, ↓reduceIte, q13, q27, q28])) | (refine zqd _ rfl ?_ ?_ <;> intro hc <;> (((try simp only [z03] at hc); (try omega)))) | refine nxt ?_ | refine zqz ?_ | refine zqu (by simp only [go_sem]; rfl) rfl ?_ | (refine hK _ ?_; clear hK K))
  obtain rfl : out = W := by
   rcases qp3 with ⟨h, _⟩ | ⟨_, h⟩
   ·omega
   ·exact h
  (simp (disch := omega) only [go_sem, Nat.reduceBEq, qHnx])
  exact qp2
set_option maxHeartbeats 16000000 in
theorem zu1 {H : HM} {nx : Nat} (ga : T -> TT) (gb : T -> TT) (gs : T -> T -> TT) (a : List T) (b : List T) (ha : a.length <= 1000000) (hb : b.length <= 1000000) (ps : List (Nat × Nat)) (hps : ps.length <= 1000000) (hr : Rise a.length b.length ps 0 0)
  {g1 g2 g3 : FuncId} {c1 c2 c3 : List D}
  (h1 : ∀ x ∈ a, ∀ H' n', nx <= n' -> z3z nx H H' -> RC prog g1 (c1 ++ [z1f x]) H' n' (.agg (z0p (ga x))))
  (h2 : ∀ y ∈ b, ∀ H' n', nx <= n' -> z3z nx H H' -> RC prog g2 (c2 ++ [z1f y]) H' n' (.agg (z0p (gb y))))
  (h3 : ∀ x ∈ a, ∀ y ∈ b, ∀ H' n', nx <= n' -> z3z nx H H' -> RC prog g3 (z1f x :: z1f y :: c3) H' n' (.agg (z0p (gs x y)))) :
  AC prog 50 [z0b a, z0b b, zx6 ps, .bfn g1 c1, .bfn g2 c2, .fn g3 c3] H nx fun r H' _ => r = .osl nx (wov ga gb gs a b ps 0 0).length /\ H' nx = some (.row 33 (wov ga gb gs a b ps 0 0).length ((wov ga gb gs a b ps 0 0).flatMap z0p)) /\ z3z nx H H' := by
 have cl := zk8 ps hps
 have hcl : ps.flatMap z16 ++ [.int .i64 a.length, .int .i64 b.length] = (ps ++ [(a.length, b.length)]).flatMap z16 := by rw [List.flatMap_append]; rfl
 have hgr : z1j true 2 (ps.length + 1) ((ps ++ [(a.length, b.length)]).flatMap z16) = (ps ++ [(a.length, b.length)]).map fun p => D.agg (z16 p) := by
  have h := z4y (f := z16) (sz := 2) (fun _ => rfl) (ps ++ [(a.length, b.length)])
  rw [List.length_append] at h
  exact h
 have hpu : pureD.pureL ((ps ++ [(a.length, b.length)]).flatMap z16) = true := z15 (fun _ => rfl) _
 obtain ⟨W, hW⟩ : ∃ W, W = wov ga gb gs a b ps 0 0 := ⟨_, rfl⟩
 have hWl : W.length <= a.length + b.length := by have := zih (ga := ga) (gb := gb) (gs := gs) ps 0 0 hr; rw [hW]; omega
 obtain ⟨L, hL⟩ : ∃ L, L = (ps ++ [(a.length, b.length)]).map fun p => D.agg (z16 p) := ⟨_, rfl⟩
 have hLl : L.length = ps.length + 1 := by rw [hL]; simp
 have hLg : ∀ j (h : j < (ps ++ [(a.length, b.length)]).length), L[j]? = some (.agg [.int .i64 ((ps ++ [(a.length, b.length)])[j].1 : Nat), .int .i64 ((ps ++ [(a.length, b.length)])[j].2 : Nat)]) := fun j h => by
  rw [hL, List.getElem?_map, List.getElem?_eq_getElem h]; rfl
 rw [<- hL] at hgr
 rw [<- hW]
 have hn1 : (nx == nx + 1) = false := z28 (by omega)
 refine (z23 [13, 2000026] func50 rfl (by decide +kernel) rfl ?_)
 show awp _ _ (Code.seq _ _) _ _
 repeat' (first | refine nxt ?_ | ((first | refine z1n (N := 4) rfl fun K hK => ?_ | refine zbk (cl) ?_); (simp (disch := omega) only [go_sem, Nat.reduceBEq, ↓reduceIte, reduceCtorEq, Nat.reduceAdd, Nat.reduceMul, Nat.reduceLeDiff, z0b, rowP, hcl, hgr, hpu, hLl])) | (refine hK _ ?_; clear hK K))
 (refine z3i (fun U st => ∃ (j : _) (i : Nat) (k : Nat) (out : List TT), U = ps.length + 1 - j /\ st.t 0 = z0b a /\ st.t 1 = z0b b /\ st.t 3 = .bfn g1 c1 /\ st.t 4 = .bfn g2 c2 /\ st.t 5 = .fn g3 c3 /\ st.t 13 = .osl nx out.length /\ st.t 14 = .int .i64 i /\ st.t 15 = .int .i64 k /\ st.t 26 = .rsl false 2 L /\ st.t 27 = .int .i64 ((ps.length + 1 : Nat) : Int) /\ st.t 28 = .int .i64 j /\ st.H (nx) = some (.row 33 out.length (out.flatMap z0p)) /\ (j <= ps.length + 1) /\ (nx < st.nx) /\ (z3z nx H st.H) /\ ((j <= ps.length /\ out ++ wov ga gb gs a b (ps.drop j) i k = W /\ Rise a.length b.length (ps.drop j) i k) \/ (j = ps.length + 1 /\ out = W))) ?_ ?_); rotate_left; (rintro U st ⟨j, i, k, out, rfl, q0, q1, q3, q4, q5, q13, q14, q15, q26, q27, q28, qHnx, qp0, qp1, qp2, qp3⟩); rotate_left
 ·(refine ⟨_, 0, 0, 0, [], rfl, ?_⟩); (simp (disch := omega) only [go_sem, Nat.reduceBEq, reduceCtorEq, true_and, Int.natCast_add, Int.natCast_one, Int.natCast_zero, List.flatMap_nil, List.nil_append, z0b, hn1])
  exact ⟨fun id hid => by simp (disch := omega) only [z5h], .inl ⟨hW.symm, hr⟩⟩
 have hq := z05 qp1
 have hst : ∀ {H' : HM} {n' : Nat}, z3z (nx + 1) st.H H' -> z3z nx H H' := fun h id hid => (h id (by omega)).trans (qp2 id hid)
 by_cases hj : j <= ps.length
 ·obtain ⟨hw, hri⟩ : out ++ wov ga gb gs a b (ps.drop j) i k = W /\ Rise a.length b.length (ps.drop j) i k := by
   rcases qp3 with ⟨_, h4, h5⟩ | ⟨h4, _⟩
   ·exact ⟨h4, h5⟩
   ·omega
  clear qp3
  obtain ⟨x, y, hxy, hix, hxa, hky, hyb, R, hWd, hR⟩ := zk9 hj hw hri
  have hg : L[j]? = some (.agg [.int .i64 (x : Int), .int .i64 (y : Int)]) := by rw [hL, List.getElem?_map, hxy]; rfl
  have hg : zgb L (j : Int) = some (.agg [.int .i64 (x : Int), .int .i64 (y : Int)]) := by
   unfold zgb
   rw [if_pos ⟨by omega, by omega⟩, Int.toNat_natCast, hg]
  obtain ⟨B, hB⟩ : ∃ B, B = st.nx := ⟨_, rfl⟩
  rw [<- hB] at hq
  have hol : (out ++ ((a.drop i).take (x - i)).map ga).length + ((b.drop k).take (y - k)).length + R.length = W.length := by rw [hWd]; simp; omega
  have hsc : ∀ z, (z0p z).length = 11 := fun z => z2p z
  repeat' (first | ((refine z1n (N := 6) rfl fun K hK => ?_); (simp (disch := omega) only [go_sem, Nat.reduceBEq, ↓reduceIte, reduceCtorEq, Nat.reduceAdd, Nat.reduceLeDiff, q26, q27, q28, hg])) | (refine zqd _ rfl ?_ ?_ <;> intro hc <;> (((try simp only [z03] at hc); (try omega)))) | refine nxt ?_ | (refine hK _ ?_; clear hK K))
  have hBn : nx < B := by omega
  (refine z3i (fun U st => ∃ (m : Nat) (o1 : List TT), U = x - m /\ st.t 0 = z0b a /\ st.t 1 = z0b b /\ st.t 3 = .bfn g1 c1 /\ st.t 4 = .bfn g2 c2 /\ st.t 5 = .fn g3 c3 /\ st.t 17 = .ptr B 0 /\ st.t 26 = .rsl false 2 L /\ st.t 27 = .int .i64 ((ps.length + 1 : Nat) : Int) /\ st.t 28 = .int .i64 j /\ st.t 13 = .osl nx o1.length /\ st.t 14 = .int .i64 m /\ st.t 15 = .int .i64 k /\ st.H (nx) = some (.row 33 o1.length (o1.flatMap z0p)) /\ st.H (B) = some (.box 90 [.int .i64 x, .int .i64 y]) /\ (i <= m) /\ (m <= x) /\ (B < st.nx) /\ (z3z nx H st.H) /\ (o1 = out ++ ((a.drop i).take (m - i)).map ga)) ?_ ?_); rotate_left; (rintro U st ⟨m, o1, rfl, r0, r1, r3, r4, r5, r17, r26, r27, r28, r13, r14, r15, rHnx, rHB, rp0, rp1, rp2, rp3, rp4⟩); rotate_left
  ·(refine ⟨_, i, out, rfl, ?_⟩); (simp (disch := omega) only [go_sem, Nat.reduceBEq, q0, q1, q3, q4, q5, q13, q14, q15, q26, q27, q28, qHnx, true_and, Int.natCast_add, Int.natCast_one, z0b, hB])
   refine ⟨Nat.le_refl _, hix, by omega, fun id hid => by simp (disch := omega) only [z5h]; exact qp2 id hid, by simp⟩
  have hrq := z05 rp2
  have hrn := z05 (show nx < st.nx by omega)
  have hBx : (B == nx) = false := z28 (by omega)
  have hxB : (nx == B) = false := z28 (by omega)
  by_cases hm : m < x
  ·have hma : m < a.length := by omega
   have c1 := h1 a[m] (List.getElem_mem hma) st.H st.nx (by omega) rp3
   have htm := zay a rp0 hma
   have ho1 : o1.length <= 2000000 := by rw [rp4, List.length_append, List.length_map, List.length_take]; simp only [List.length_append, List.length_map, List.length_take] at hol; omega
   repeat' (first | refine nxt ?_ | ((first | refine zqh fun K hK => ?_ | refine zqr fun K hK => ?_ | refine zoy (c1) ?_); (simp (disch := omega) only [go_sem, Nat.reduceBEq, ↓reduceIte, reduceCtorEq, Nat.reduceAdd, Nat.reduceMul, Nat.reduceLeDiff, r0, r3, r17, r13, r14, rHnx, rHB, z0b, hsc, List.append_nil])) | (refine zqd _ rfl ?_ ?_ <;> intro hc <;> (((try simp only [z03] at hc); (try omega)))) | (refine hK _ ?_; clear hK K))
   (refine Exists.intro _ (And.intro ?_ ⟨m + 1, o1 ++ [ga a[m]], rfl, ?_⟩)); rotate_left; (simp (disch := omega) only [go_sem, Nat.reduceBEq, r0, r1, r3, r4, r5, r17, r26, r27, r28, r13, r14, r15, rHnx, rHB, true_and, Int.natCast_add, Int.natCast_one, List.flatMap_append, List.flatMap_cons, List.flatMap_nil, List.append_nil, hBx]); rotate_left
   ·omega
   ·exact ⟨by omega, by omega, rp2, fun id hid => by rw [z2v _ (by omega)]; exact rp3 id hid, by rw [rp4, htm, List.map_append, List.append_assoc]; rfl⟩
  ·obtain rfl : m = x := by omega
   repeat' (first | refine nxt ?_ | ((refine z1n (N := 9) rfl fun K hK => ?_); (simp (disch := omega) only [go_sem, Nat.reduceBEq, ↓reduceIte, reduceCtorEq, Nat.reduceAdd, r17, r14, rHB])) | (refine zqd _ rfl ?_ ?_ <;> intro hc <;> (((try simp only [z03] at hc); (try omega)))) | refine zqz ?_ | (refine hK _ ?_; clear hK K))
   (refine z3i (fun U st => ∃ (n : Nat) (o2 : List TT), U = y - n /\ st.t 0 = z0b a /\ st.t 1 = z0b b /\ st.t 3 = .bfn g1 c1 /\ st.t 4 = .bfn g2 c2 /\ st.t 5 = .fn g3 c3 /\ st.t 17 = .ptr B 0 /\ st.t 26 = .rsl false 2 L /\ st.t 27 = .int .i64 ((ps.length + 1 : Nat) : Int) /\ st.t 28 = .int .i64 j /\ st.t 13 = .osl nx o2.length /\ st.t 14 = .int .i64 m /\ st.t 15 = .int .i64 n /\ st.H (nx) = some (.row 33 o2.length (o2.flatMap z0p)) /\ st.H (B) = some (.box 90 [.int .i64 m, .int .i64 y]) /\ (k <= n) /\ (n <= y) /\ (B < st.nx) /\ (z3z nx H st.H) /\ (o2 = out ++ (((a.drop i).take (m - i)).map ga ++ ((b.drop k).take (n - k)).map gb))) ?_ ?_); rotate_left; (rintro U st ⟨n, o2, rfl, t0, t1, t3, t4, t5, t17, t26, t27, t28, t13, t14, t15, tHnx, tHB, tp0, tp1, tp2, tp3, tp4⟩); rotate_left
   ·(refine ⟨_, k, o1, rfl, ?_⟩); (simp (disch := omega) only [go_sem, Nat.reduceBEq, r0, r1, r3, r4, r5, r17, r26, r27, r28, r13, r14, r15, rHnx, rHB, true_and, Int.natCast_add, Int.natCast_one, z0b])
    refine ⟨Nat.le_refl _, hky, rp2, rp3, by rw [rp4]; simp⟩
   have htq := z05 tp2
   have htn := z05 (show nx < st.nx by omega)
   have hto : o2.length + ((b.drop k).take (y - k)).length - ((b.drop k).take (n - k)).length + R.length = W.length /\ o2.length <= 2000000 := by
    rw [tp4]
    simp only [List.length_append, List.length_map, List.length_take, List.length_drop] at hol ⊢
    omega
   by_cases hn : n < y
   ·have hnb : n < b.length := by omega
    have c2 := h2 b[n] (List.getElem_mem hnb) st.H st.nx (by omega) tp3
    have htm := zay b tp0 hnb
    repeat' (first | refine nxt ?_ | ((first | refine zqh fun K hK => ?_ | refine zqr fun K hK => ?_ | refine zoy (c2) ?_); (simp (disch := omega) only [go_sem, Nat.reduceBEq, ↓reduceIte, reduceCtorEq, Nat.reduceAdd, Nat.reduceMul, Nat.reduceLeDiff, t1, t4, t17, t13, t15, tHnx, tHB, z0b, hsc, List.append_nil])) | (refine zqd _ rfl ?_ ?_ <;> intro hc <;> (((try simp only [z03] at hc); (try omega)))) | (refine hK _ ?_; clear hK K))
    (refine Exists.intro _ (And.intro ?_ ⟨n + 1, o2 ++ [gb b[n]], rfl, ?_⟩)); rotate_left; (simp (disch := omega) only [go_sem, Nat.reduceBEq, t0, t1, t3, t4, t5, t17, t26, t27, t28, t13, t14, t15, tHnx, tHB, true_and, Int.natCast_add, Int.natCast_one, List.flatMap_append, List.flatMap_cons, List.flatMap_nil, List.append_nil, hBx]); rotate_left
    ·omega
    ·exact ⟨by omega, by omega, tp2, fun id hid => by rw [z2v _ (by omega)]; exact tp3 id hid, by rw [tp4, htm]; simp⟩
   ·obtain rfl : n = y := by omega
    rcases hR with ⟨rfl, rfl, rfl, rfl⟩ | ⟨hjl, hxl, hyl, rfl, hri2⟩
    ·repeat' (first | refine nxt ?_ | ((first | refine zqh fun K hK => ?_ | refine zqr fun K hK => ?_); (simp (disch := omega) only [go_sem, Nat.reduceBEq, ↓reduceIte, reduceCtorEq, Nat.reduceAdd, t0, t17, t28, t15, tHB, z0b])) | ((first | refine zqd _ rfl (fun hc => ?_) (fun hc => ?_) | refine zqm _ rfl (fun hc => ?_) (fun hc => ?_)) <;> (first | (cases hc; done) | ((try simp only [z03] at hc); (try omega)))) | refine zqz ?_ | (refine hK _ ?_; clear hK K) | (refine zqf (fun hb => ?_) (fun hb => ?_) <;> (have hb2 := hb; try simp only [z03] at hb2) <;> ((first | have F := eq_false hb2 | have F := eq_true hb2); (simp (disch := omega) only [go_sem, Nat.reduceBEq, ↓reduceIte, reduceCtorEq, Nat.reduceAdd, F, t1, t17, tHB, z0b]); clear hb F; (try omega))))
     (refine Exists.intro _ (And.intro ?_ ⟨ps.length + 1, a.length, b.length, o2, rfl, ?_⟩)); rotate_left; (simp (disch := omega) only [go_sem, Nat.reduceBEq, Nat.reduceLeDiff, t0, t1, t3, t4, t5, t26, t27, t28, t13, t14, t15, tHnx, true_and, Int.natCast_add, Int.natCast_one]); rotate_left
     ·omega
     ·exact ⟨Nat.le_refl _, by omega, tp3, .inr (by rw [hWd, tp4]; simp)⟩
    ·have c3 := h3 a[m] (List.getElem_mem hxl) b[n] (List.getElem_mem hyl) st.H st.nx (by omega) tp3
     repeat' (first | refine nxt ?_ | ((first | refine zqh fun K hK => ?_ | refine zqe (by decide +kernel) fun K hK => ?_ | refine zqr fun K hK => ?_ | refine ziv (c3) rfl ?_); (simp (disch := omega) only [go_sem, Nat.reduceBEq, Nat.reduceEqDiff, ↓reduceIte, reduceCtorEq, Nat.reduceAdd, Nat.reduceMul, Nat.reduceLeDiff, t0, t1, t5, t17, t28, t13, t14, t15, tHnx, tHB, z0b, hsc, List.append_nil])) | ((first | refine zqd _ rfl (fun hc => ?_) (fun hc => ?_) | refine zqm _ rfl (fun hc => ?_) (fun hc => ?_)) <;> (((try simp only [z03] at hc); (try omega)))) | refine zqz ?_ | (refine hK _ ?_; clear hK K) | (refine zqf (fun hb => ?_) (fun hb => ?_) <;> (have hb2 := hb; try simp only [z03] at hb2) <;> ((first | have F := eq_false hb2 | have F := eq_true hb2); (simp (disch := omega) only [go_sem, Nat.reduceBEq, ↓reduceIte, reduceCtorEq, Nat.reduceAdd, F, t1, t17, tHB, z0b]); clear hb F; (try omega))))
     (refine Exists.intro _ (And.intro ?_ ⟨j + 1, m + 1, n + 1, o2 ++ [gs a[m] b[n]], rfl, ?_⟩)); rotate_left; (simp (disch := omega) only [go_sem, Nat.reduceBEq, Nat.reduceEqDiff, Nat.reduceLeDiff, t0, t1, t3, t4, t5, t26, t27, t28, t13, t14, t15, tHnx, true_and, Int.natCast_add, Int.natCast_one, List.flatMap_append, List.flatMap_cons, List.flatMap_nil, List.append_nil]); rotate_left
     ·omega
     ·exact ⟨by omega, by omega, fun id hid => by rw [z2v _ (by omega)]; exact tp3 id hid, .inl ⟨by omega, by rw [hWd, tp4]; simp, hri2⟩⟩
 ·skip
  repeat' (first | ((refine zqh fun K hK => ?_); (simp (disch := omega) only [go_sem, Nat.reduceBEq, ↓reduceIte, q13, q27, q28])) | (refine zqd _ rfl ?_ ?_ <;> intro hc <;> (((try simp only [z03] at hc); (try omega)))) | refine nxt ?_ | refine zqz ?_ | refine zqu (by simp only [go_sem]; rfl) rfl ?_ | (refine hK _ ?_; clear hK K))
  obtain rfl : out = W := by
   rcases qp3 with ⟨h, _⟩ | ⟨_, h⟩
   ·omega
   ·exact h
  (simp (disch := omega) only [go_sem, Nat.reduceBEq, qHnx])
  exact qp2
theorem zsf {H : HM} {nx : Nat} (ga : ByteArray -> Tw) (gb : ByteArray -> Tw) (gs : ByteArray -> ByteArray -> Tw) (a : List ByteArray) (b : List ByteArray) (ha : a.length <= 1000000) (hb : b.length <= 1000000) (ps : List (Nat × Nat)) (hps : ps.length <= 1000000) (hr : Rise a.length b.length ps 0 0)
  {g1 g2 g3 : FuncId} {c1 c2 c3 : List D}
  (h1 : ∀ x ∈ a, ∀ H' n', nx <= n' -> z3z nx H H' -> RC prog g1 (D.str x :: c1) H' n' (.agg (z1q (ga x))))
  (h2 : ∀ y ∈ b, ∀ H' n', nx <= n' -> z3z nx H H' -> RC prog g2 (D.str y :: c2) H' n' (.agg (z1q (gb y))))
  (h3 : ∀ x ∈ a, ∀ y ∈ b, ∀ H' n', nx <= n' -> z3z nx H H' -> RC prog g3 ((fun s : ByteArray => D.str s) x :: (fun s : ByteArray => D.str s) y :: c3) H' n' (.agg (z1q (gs x y)))) :
  RC prog 79 [z1e a, z1e b, zx6 ps, .fn g1 c1, .fn g2 c2, .fn g3 c3] H nx (z0k (wov ga gb gs a b ps 0 0)) := by
 refine znv (k := 2) (z1m _) ((zu0 ga gb gs a b ha hb ps hps hr h1 h2 h3).mono fun r H' nx' ⟨e1, e2, e3⟩ => ⟨?_, e3⟩)
 subst e1
 have e4 : hiH nx H' nx = some (.row 48 (wov ga gb gs a b ps 0 0).length ((wov ga gb gs a b ps 0 0).flatMap z1q)) := by rw [z00a (Nat.le_refl _)]; exact e2
 refine ⟨_, z0t (f := z1q) (l := wov ga gb gs a b ps 0 0) (id := nx) 0 e4 ziq zmt (fun z => rfl) (fun z => rfl), Le.refl _⟩
theorem zsg {H : HM} {nx : Nat} (ga : T -> TT) (gb : T -> TT) (gs : T -> T -> TT) (a : List T) (b : List T) (ha : a.length <= 1000000) (hb : b.length <= 1000000) (ps : List (Nat × Nat)) (hps : ps.length <= 1000000) (hr : Rise a.length b.length ps 0 0)
  {g1 g2 g3 : FuncId} {c1 c2 c3 : List D}
  (h1 : ∀ x ∈ a, ∀ H' n', nx <= n' -> z3z nx H H' -> RC prog g1 (c1 ++ [z1f x]) H' n' (.agg (z0p (ga x))))
  (h2 : ∀ y ∈ b, ∀ H' n', nx <= n' -> z3z nx H H' -> RC prog g2 (c2 ++ [z1f y]) H' n' (.agg (z0p (gb y))))
  (h3 : ∀ x ∈ a, ∀ y ∈ b, ∀ H' n', nx <= n' -> z3z nx H H' -> RC prog g3 (z1f x :: z1f y :: c3) H' n' (.agg (z0p (gs x y)))) :
  RC prog 50 [z0b a, z0b b, zx6 ps, .bfn g1 c1, .bfn g2 c2, .fn g3 c3] H nx (z88 (wov ga gb gs a b ps 0 0)) := by
 refine znv (k := 2) (zm9 _) ((zu1 ga gb gs a b ha hb ps hps hr h1 h2 h3).mono fun r H' nx' ⟨e1, e2, e3⟩ => ⟨?_, e3⟩)
 subst e1
 have e4 : hiH nx H' nx = some (.row 33 (wov ga gb gs a b ps 0 0).length ((wov ga gb gs a b ps 0 0).flatMap z0p)) := by rw [z00a (Nat.le_refl _)]; exact e2
 refine ⟨_, z0t (f := z0p) (l := wov ga gb gs a b ps 0 0) (id := nx) 0 e4 zb5 zey (fun z => z2p z) (fun z => z32 z), Le.refl _⟩
def wordD (n : Int) : D := .fn 100 [.rptr (.int .i64 n)]
theorem zm0 (n : Int) : PC prog 78 [.int .i64 n] (wordD n) := by
 refine z2f 4 rfl rfl (z23 [] func78 rfl (by decide +kernel) rfl ?_)
 show awp _ _ (Code.seq _ _) _ _
 repeat' (first | ((refine zqh fun K hK => ?_); (simp (disch := omega) only [go_sem, Nat.reduceBEq])) | refine nxt ?_ | refine zqu (by simp only [go_sem]; rfl) rfl ?_ | (refine hK _ ?_; clear hK K))
 refine z47 (zj1 3 rfl (z04 ?_ z3r))
 exact z4g 2 rfl z2q (z02 _ rfl)
theorem zhq (n : Int) (s : ByteArray) : PC prog 100 [.str s, .rptr (.int .i64 n)] (.agg (z1q (stW n s))) := by
 refine z2f 2 rfl rfl (z23 [] func100 rfl (by decide +kernel) rfl ?_)
 show awp _ _ (Code.seq _ _) _ _
 repeat' (first | ((refine zqh fun K hK => ?_); (simp (disch := omega) only [go_sem, Nat.reduceBEq, ↓reduceIte, Nat.reduceAdd, Nat.reduceLeDiff])) | refine nxt ?_ | refine zqu (by simp only [go_sem]; rfl) rfl ?_ | (refine hK _ ?_; clear hK K))
 exact z18 rfl (Le.refl _)
theorem zsh (n : Int) (s t : ByteArray) : PC prog 81 [.str s, .str t, .rptr (wordD n)] (.agg (z1q (stW n s))) := by
 have c1 := zhq n s
 refine z2f 2 rfl rfl (z23 [] func81 rfl (by decide +kernel) rfl ?_)
 show awp _ _ (Code.seq _ _) _ _
 repeat' (first | ((first | refine zqh fun K hK => ?_ | refine zqs (c1) ?_); (simp (disch := omega) only [go_sem, Nat.reduceBEq, ↓reduceIte, Nat.reduceAdd, Nat.reduceLeDiff, wordD, z1q, stW])) | refine nxt ?_ | refine zqu (by simp only [go_sem]; rfl) rfl ?_ | (refine hK _ ?_; clear hK K))
 exact z18 rfl (Le.refl _)
theorem zbx {a b : List ByteArray} : ∀ (l : List (Nat × Nat)) (i k : Nat), zem a b l i k -> i <= a.length -> k <= b.length -> Rise a.length b.length l i k
 | [], _, _, _, h1, h2 => ⟨h1, h2⟩
 | (x, y) :: l, i, k, h, _, _ => by
  obtain ⟨q1, q2, q3, q4, _, q6⟩ := h
  simp only at q1 q2 q3 q4
  exact ⟨q1, q3, q2, q4, zbx l _ _ q6 (by omega) (by omega)⟩
theorem z91 (a b : List Wd) (ha : a.length <= 1000000) (hb : b.length <= 1000000) : PC prog 47 [z1y a, z1y b] (z0k (z3h (txt a) (txt b))) := by
 have la : (txt a).length <= 1000000 := by simpa [txt] using ha
 have lb : (txt b).length <= 1000000 := by simpa [txt] using hb
 have c1 := zoi a ha
 have c2 := zoi b hb
 have c3 := zm0 0
 have c4 := zm0 2
 have c5 := zm0 1
 have c6 := pc15 (txt a) (txt b) (by unfold maxLen; omega) (by unfold maxLen; omega)
 refine z2f 2 (by simp only [pureD.pureL, z1v, Bool.and_self]) (z1m _) (z23 [] func47 rfl (by decide +kernel) rfl ?_)
 show awp _ _ (Code.seq _ _) _ _
 repeat' (first | ((first | refine zqh fun K hK => ?_ | refine zqs (c1) ?_ | refine zqs (c2) ?_ | refine zqs (c3) ?_ | refine zqs (c4) ?_ | refine zqs (c5) ?_ | refine zqs (c6) ?_); (simp (disch := omega) only [go_sem, Nat.reduceBEq, ↓reduceIte])) | (refine hK _ ?_; clear hK K))
 refine z41 (zsf (stW 2) (stW 1) (fun s _ => stW 0 s) (txt a) (txt b) la lb (Lcs.pairs (txt a) (txt b)) (by have := (Lcs.pairs_le (txt a) (txt b)).1; omega) (zbx _ _ _ (z35 _ _) (Nat.zero_le _) (Nat.zero_le _)) (g1 := 100) (g2 := 100) (g3 := 81) (c1 := [.rptr (.int .i64 2)]) (c2 := [.rptr (.int .i64 1)]) (c3 := [.ptr 0 0])
  (fun x _ H' n' _ _ => (zhq 2 x).rc H' n') (fun x _ H' n' _ _ => (zhq 1 x).rc H' n') (fun x _ y _ H' n' _ hs => PC.borrow (zsh 0 x y) rfl 3 (z04 (z02 _ rfl) (z04 (z02 _ rfl) (z04 (z4g 2 ((hs 0 (by show 0 < 1; omega)).trans rfl) zuh (z02 _ rfl)) z3r))))) ?_
 (try (simp (disch := omega) only [go_sem, Nat.reduceBEq, ↓reduceIte])); repeat' (first | refine nxt ?_ | refine zqu (by simp only [go_sem]; rfl) rfl ?_ | (refine hK _ ?_; clear hK K))
 exact z18 (z1m _) (Le.refl _)
end
end Go.Proofs.YtfechgagcgbldaaGreatDoor
namespace Go.Proofs.YtfechgagcgbldaaGreatDoor.Lis

def upd1 (x : Int) (acc : Int) (p : Int × Int) : Int := if x < p.1 then max acc (p.2 + 1) else acc
def rows : List Int -> List Int
 | [] => []
 | x :: xs => ((xs.zip (rows xs)).foldl (upd1 x) 1) :: rows xs
theorem rows_length : ∀ l, (rows l).length = l.length
 | [] => rfl
 | x :: xs => by simp [rows, rows_length xs]
def most (l : List Int) : Int := (rows l).foldr max 0

def sel1 (l : List Int) (m : Int) (out : List Nat) (i : Nat) : List Nat :=
 if (out.length : Int) < m /\ (rows l).getD i 0 = m - out.length /\ (out = [] \/ l.getD (out.getLastD 0) 0 < l.getD i 0) then out ++ [i] else out
def sel (l : List Int) (n : Nat) : List Nat := (List.range n).foldl (sel1 l (most l)) []
def lis (l : List Int) : List Nat := if l.length > 256 then [] else sel l l.length
theorem sel_succ (l : List Int) (n : Nat) : sel l (n + 1) = sel1 l (most l) (sel l n) n := by
 simp [sel, List.range_succ]
theorem sel_lt (l : List Int) : ∀ n, ∀ i ∈ sel l n, i < n
 | 0, i, h => by simp [sel] at h
 | n + 1, i, h => by
  rw [sel_succ] at h
  unfold sel1 at h
  split at h
  ·rcases List.mem_append.1 h with h | h
   ·have := sel_lt l n i h; omega
   ·simp at h; omega
  ·have := sel_lt l n i h; omega

theorem zm6 (x : Int) : ∀ (ps : List (Int × Int)) (a : Int), a <= ps.foldl (upd1 x) a
 | [], a => by simp
 | p :: ps, a => by
  simp only [List.foldl_cons]
  have h1 := zm6 x ps (upd1 x a p)
  have h2 : a <= upd1 x a p := by unfold upd1; split <;> omega
  omega
theorem zdt (x : Int) : ∀ (ps : List (Int × Int)) (a : Int) (p : Int × Int), p ∈ ps -> x < p.1 -> p.2 + 1 <= ps.foldl (upd1 x) a
 | q :: ps, a, p, hp, hx => by
  simp only [List.foldl_cons]
  rcases List.mem_cons.1 hp with rfl | hp
  ·have h1 := zm6 x ps (upd1 x a p)
   have h2 : p.2 + 1 <= upd1 x a p := by unfold upd1; rw [if_pos hx]; omega
   omega
  ·exact zdt x ps _ p hp hx
theorem zgu (x : Int) : ∀ (ps : List (Int × Int)) (a : Int), ps.foldl (upd1 x) a = a \/ ∃ p ∈ ps, x < p.1 /\ ps.foldl (upd1 x) a = p.2 + 1
 | [], a => .inl rfl
 | q :: ps, a => by
  simp only [List.foldl_cons]
  rcases zgu x ps (upd1 x a q) with h | ⟨p, hp, h1, h2⟩
  ·unfold upd1 at h ⊢
   by_cases hx : x < q.1
   ·rw [if_pos hx] at h ⊢
    by_cases hm : a <= q.2 + 1
    ·have : max a (q.2 + 1) = q.2 + 1 := by omega
     rw [this] at h ⊢
     exact .inr ⟨q, by simp, hx, h⟩
    ·have : max a (q.2 + 1) = a := by omega
     rw [this] at h ⊢
     exact .inl h
   ·rw [if_neg hx] at h ⊢
    exact .inl h
  ·exact .inr ⟨p, List.mem_cons_of_mem _ hp, h1, h2⟩
theorem rows_pos : ∀ (l : List Int), ∀ r ∈ rows l, 1 <= r
 | [], r, h => by simp [rows] at h
 | x :: xs, r, h => by
  simp only [rows] at h
  rcases List.mem_cons.1 h with rfl | h
  ·exact zm6 x _ 1
  ·exact rows_pos xs r h
theorem foldr_ge : ∀ (l : List Int), ∀ r ∈ l, r <= l.foldr max 0
 | x :: xs, r, h => by
  simp only [List.foldr_cons]
  rcases List.mem_cons.1 h with rfl | h
  ·omega
  ·have := foldr_ge xs r h; omega
theorem foldr_reach : ∀ (l : List Int), l.foldr max 0 = 0 \/ l.foldr max 0 ∈ l
 | [] => .inl rfl
 | x :: xs => by
  simp only [List.foldr_cons]
  rcases foldr_reach xs with h | h
  ·rw [h]
   by_cases hx : x <= 0
   ·left; omega
   ·right; have : max x 0 = x := by omega
    rw [this]; simp
  ·by_cases hx : x <= xs.foldr max 0
   ·right; have : max x (xs.foldr max 0) = xs.foldr max 0 := by omega
    rw [this]; exact List.mem_cons_of_mem _ h
   ·right; have : max x (xs.foldr max 0) = x := by omega
    rw [this]; simp

theorem rows_step (l : List Int) (i j : Nat) (hij : i < j) (hj : j < l.length) (h : l[i]'(by omega) < l[j]) : (rows l).getD j 0 + 1 <= (rows l).getD i 0 := by
 induction l generalizing i j with
 | nil => simp at hj
 | cons x xs ih =>
  cases i with
  | zero =>
   cases j with
   | zero => omega
   | succ j =>
    simp only [List.length_cons] at hj
    simp only [rows, List.getD_cons_succ, List.getD_cons_zero]
    simp only [List.getElem_cons_zero, List.getElem_cons_succ] at h
    have hl := rows_length xs
    have hmem : (xs[j], (rows xs)[j]'(by omega)) ∈ xs.zip (rows xs) := by
     have : (xs.zip (rows xs))[j]'(by simp; omega) = (xs[j], (rows xs)[j]'(by omega)) := by simp
     rw [<- this]; exact List.getElem_mem _
    have := zdt x _ 1 _ hmem h
    simp only at this
    rw [List.getD_eq_getElem?_getD, List.getElem?_eq_getElem (by omega)]
    simpa using this
  | succ i =>
   cases j with
   | zero => omega
   | succ j =>
    simp only [rows, List.getD_cons_succ]
    simp only [List.getElem_cons_succ] at h
    exact ih i j (by omega) (by simpa using hj) h
theorem rows_next (l : List Int) (i : Nat) (hi : i < l.length) (h : 1 < (rows l).getD i 0) : ∃ j, i < j /\ ∃ hj : j < l.length, l[i] < l[j] /\ (rows l).getD j 0 + 1 = (rows l).getD i 0 := by
 induction l generalizing i with
 | nil => simp at hi
 | cons x xs ih =>
  cases i with
  | zero =>
   simp only [rows, List.getD_cons_zero] at h ⊢
   rcases zgu x (xs.zip (rows xs)) 1 with h1 | ⟨p, hp, h1, h2⟩
   ·omega
   ·obtain ⟨j, hj, rfl⟩ := List.getElem_of_mem hp
    simp only [List.length_zip] at hj
    have hl := rows_length xs
    refine ⟨j + 1, by omega, by simp; omega, ?_, ?_⟩
    ·simpa using h1
    ·rw [h2]
     simp only [List.getD_cons_succ]
     rw [List.getD_eq_getElem?_getD, List.getElem?_eq_getElem (by omega)]
     simp
  | succ i =>
   simp only [rows, List.getD_cons_succ] at h ⊢
   obtain ⟨j, h1, h2, h3, h4⟩ := ih i (by simpa using hi) h
   exact ⟨j + 1, by omega, by simpa using h2, by simpa using h3, by simpa using h4⟩
end Go.Proofs.YtfechgagcgbldaaGreatDoor.Lis
namespace Go.Proofs.YtfechgagcgbldaaGreatDoor.Lis
theorem rows_at (l : List Int) (j : Nat) (hj : j < l.length) :
  rows (l.drop j) = (((l.drop (j + 1)).zip (rows (l.drop (j + 1)))).foldl (upd1 l[j]) 1) :: rows (l.drop (j + 1)) := by
 rw [List.drop_eq_getElem_cons hj]; rfl
def inner (l : List Int) (j k : Nat) : Int := (((l.drop (j + 1)).zip (rows (l.drop (j + 1)))).take k).foldl (upd1 (l.getD j 0)) 1
theorem inner_zero (l : List Int) (j : Nat) : inner l j 0 = 1 := rfl
theorem inner_succ (l : List Int) (j k : Nat) (O : j + 1 + k < l.length) (cs : List Int) (hcl : cs.length = l.length) (hcd : cs.drop (j + 1) = rows (l.drop (j + 1))) :
  inner l j (k + 1) = upd1 (l[j]'(by omega)) (inner l j k) (l[j + 1 + k], cs[j + 1 + k]'(by omega)) := by
 unfold inner
 have hlen : ((l.drop (j + 1)).zip (rows (l.drop (j + 1)))).length = l.length - (j + 1) := by simp [rows_length]
 rw [List.take_succ_eq_append_getElem (by rw [hlen]; omega), List.foldl_append]
 simp only [List.foldl_cons, List.foldl_nil]
 have h1 : l.getD j 0 = l[j]'(by omega) := by rw [List.getD_eq_getElem?_getD, List.getElem?_eq_getElem (by omega)]; rfl
 rw [h1]
 congr 1
 simp only [List.getElem_zip, List.getElem_drop, <- hcd]
theorem inner_all (l : List Int) (j : Nat) (hj : j < l.length) : rows (l.drop j) = inner l j (l.length - (j + 1)) :: rows (l.drop (j + 1)) := by
 rw [rows_at l j hj]
 unfold inner
 rw [List.take_of_length_le (by simp [rows_length])]
 rw [List.getD_eq_getElem?_getD, List.getElem?_eq_getElem hj]; rfl
theorem zhx : ∀ (l : List Int), ∀ r ∈ rows l, r <= l.length
 | [], r, h => by simp [rows] at h
 | x :: xs, r, h => by
  simp only [rows] at h
  have ih := zhx xs
  have key : ∀ (ps : List (Int × Int)) (a : Int), a <= xs.length + 1 -> (∀ p ∈ ps, p.2 <= xs.length) -> ps.foldl (upd1 x) a <= xs.length + 1 := by
   intro ps
   induction ps with
   | nil => intro a ha _; simpa using ha
   | cons p ps ihp =>
    intro a ha hp
    simp only [List.foldl_cons]
    refine ihp _ ?_ (fun q hq => hp q (List.mem_cons_of_mem _ hq))
    have := hp p (by simp)
    unfold upd1; split <;> omega
  rcases List.mem_cons.1 h with rfl | h
  ·have := key (xs.zip (rows xs)) 1 (by omega) (fun p hp => ih _ (List.of_mem_zip hp).2)
   simpa using this
  ·have := ih r h
   simp; omega
theorem rows_get_le (l : List Int) (j : Nat) (cs : List Int) (hcl : cs.length = l.length) (n : Nat) (hcd : cs.drop n = rows (l.drop n)) (hn : n <= j) (hj : j < l.length) : 1 <= cs[j]'(by omega) /\ cs[j]'(by omega) <= l.length := by
 have hmem : cs[j]'(by omega) ∈ rows (l.drop n) := by
  rw [<- hcd]
  have : (cs.drop n)[j - n]'(by simp; omega) = cs[j]'(by omega) := by simp only [List.getElem_drop]; congr 1; omega
  rw [<- this]; exact List.getElem_mem _
 have h1 := rows_pos _ _ hmem
 have h2 := zhx _ _ hmem
 simp only [List.length_drop] at h2
 omega
end Go.Proofs.YtfechgagcgbldaaGreatDoor.Lis
namespace Go.Proofs.YtfechgagcgbldaaGreatDoor.Lis
theorem inner_le (l : List Int) (j k : Nat) (hj : j < l.length) : inner l j k <= l.length := by
 have key : ∀ (n : Nat) (x : Int) (ps : List (Int × Int)) (a : Int), a <= n + 1 -> (∀ p ∈ ps, p.2 <= n) -> ps.foldl (upd1 x) a <= n + 1 := by
  intro n x ps
  induction ps with
  | nil => intro a ha _; simpa using ha
  | cons p ps ihp =>
   intro a ha hp
   simp only [List.foldl_cons]
   refine ihp _ ?_ (fun q hq => hp q (List.mem_cons_of_mem _ hq))
   have := hp p (by simp)
   unfold upd1; split <;> omega
 have := key (l.drop (j + 1)).length (l.getD j 0) (((l.drop (j + 1)).zip (rows (l.drop (j + 1)))).take k) 1 (by omega)
  (fun p hp => zhx _ _ (List.of_mem_zip (List.mem_of_mem_take hp)).2)
 unfold inner
 simp only [List.length_drop] at this
 omega
end Go.Proofs.YtfechgagcgbldaaGreatDoor.Lis
namespace Go.Proofs.YtfechgagcgbldaaGreatDoor.Lis
theorem most_bd (l : List Int) : 0 <= most l /\ most l <= l.length := by
 unfold most
 rcases foldr_reach (rows l) with h | h
 ·rw [h]; omega
 ·have h1 := rows_pos l _ h
  have h2 := zhx l _ h
  omega
theorem sel_len (l : List Int) : ∀ n, (sel l n).length <= n
 | 0 => by simp [sel]
 | n + 1 => by
  rw [sel_succ]
  have := sel_len l n
  unfold sel1; split
  ·simp; omega
  ·omega
end Go.Proofs.YtfechgagcgbldaaGreatDoor.Lis
namespace Go.Proofs.YtfechgagcgbldaaGreatDoor
section
open Abs
theorem Lis.sel_rise (l : List Int) : ∀ n : Nat, n <= l.length -> (Lis.sel l n).Pairwise fun i j => i < j /\ l.getD i 0 < l.getD j 0
 | 0, _ => by simp [Lis.sel]
 | n + 1, hn => by
  have ih := Lis.sel_rise l n (by omega)
  rw [Lis.sel_succ]
  unfold Lis.sel1
  split
  ·rename_i h
   rw [List.pairwise_append]
   refine ⟨ih, List.pairwise_singleton _ _, fun i hi j hj => ?_⟩
   rw [List.mem_singleton] at hj
   rw [hj]
   refine ⟨Lis.sel_lt l n i hi, ?_⟩
   rcases h.2.2 with h | h
   ·rw [h] at hi; cases hi
   ·-- the last of the row is the greatest
    have key : ∀ m : List Nat, m.Pairwise (fun i j => i < j /\ l.getD i 0 < l.getD j 0) -> i ∈ m -> i = m.getLastD 0 \/ l.getD i 0 < l.getD (m.getLastD 0) 0 := by
     intro m hp him
     obtain ⟨a, x, rfl⟩ : ∃ a x, m = a ++ [x] := ⟨m.dropLast, m.getLast (by intro e; rw [e] at him; cases him), (List.dropLast_concat_getLast _).symm⟩
     rw [List.pairwise_append] at hp
     have e : (a ++ [x]).getLastD 0 = x := by simp
     rw [e]
     rcases List.mem_append.1 him with h | h
     ·exact .inr (hp.2.2 i h x (by simp)).2
     ·rw [List.mem_singleton] at h; exact .inl h
    rcases key _ ih hi with e | e
    ·rw [e]; exact h
    ·omega
  ·exact ih
theorem Lis.lis_rise (l : List Int) : (Lis.lis l).Pairwise (fun i j => i < j /\ l.getD i 0 < l.getD j 0) /\ ∀ i ∈ Lis.lis l, i < l.length := by
 unfold Lis.lis
 split
 ·exact ⟨List.Pairwise.nil, fun i hi => by cases hi⟩
 ·exact ⟨Lis.sel_rise l _ (Nat.le_refl _), Lis.sel_lt l _⟩
namespace Tr
theorem zgm {α : Type} [DecidableEq α] {s l : List α} (h : s.Sublist l) (hn : l.Nodup) : l.filter (fun x => decide (x ∈ s)) = s := by
 induction h with
 | slnil => rfl
 | @cons s l a h ih =>
  rw [List.nodup_cons] at hn
  rw [List.filter_cons_of_neg (by simpa using fun e => hn.1 (h.subset e))]
  exact ih hn.2
 | @cons_cons s l a h ih =>
  rw [List.nodup_cons] at hn
  rw [List.filter_cons_of_pos (by simp)]
  congr 1
  rw [<- ih hn.2]
  refine List.filter_congr fun x hx => ?_
  have : x ≠ a := fun e => hn.1 (e ▸ hx)
  rw [ih hn.2]
  simp [this]
theorem zht {α : Type} (d : α) (l : List α) : ∀ (p : List Nat) (n : Nat), p.Pairwise (· < ·) -> (∀ i ∈ p, n <= i /\ i < l.length) -> (p.map fun i => l.getD i d).Sublist (l.drop n)
 | [], _, _, _ => List.nil_sublist _
 | i :: p, n, hp, h => by
  rw [List.pairwise_cons] at hp
  obtain ⟨h1, h2⟩ := h i (by simp)
  have ih := zht d l p (i + 1) hp.2 (fun j hj => ⟨hp.1 j hj, (h j (by simp [hj])).2⟩)
  have e : l.drop i = l[i] :: l.drop (i + 1) := List.drop_eq_getElem_cons h2
  have h3 : (l.drop i).Sublist (l.drop n) := by
   rw [show i = n + (i - n) by omega, <- List.drop_drop]; exact List.drop_sublist _ _
  refine List.Sublist.trans ?_ h3
  rw [e, List.map_cons, show l.getD i d = l[i] by simp [List.getD, h2]]
  exact ih.cons_cons _
theorem z4p : ∀ t : T, (idsT t).Nodup -> ∀ p ∈ nodesT t, ∀ y ∈ p.kids, (z71 y.id t).1 = p.id := by
 refine z50 fun t ih hn p hp y hy => ?_
 obtain ⟨g1, g2, g3⟩ := zby hn
 rw [z1c, List.mem_cons] at hp
 rcases hp with rfl | hp
 ·obtain ⟨i, hi, rfl⟩ := List.getElem_of_mem hy
  rw [zjl (id := p.kids[i].id) (t := p) (i := i) (fun e => g1 _ hy (e ▸ z42 _)) hi (fun j hj h => (z57 _ _).2 (g3 i j hi h (by omega) _ (z42 _))) rfl]
 ·obtain ⟨k, O, hpk⟩ := List.mem_flatMap.1 hp
  obtain ⟨i, hi, rfl⟩ := List.getElem_of_mem O
  have hyi : y.id ∈ idsT t.kids[i] := List.mem_map.2 ⟨y, z0z _ p hpk y (z0i hy (z09 y)), rfl⟩
  have hne : ¬ t.kids[i].id = y.id := by
   intro e
   have hn2 := g2 _ O
   have key : ∀ t : T, (idsT t).Nodup -> ∀ p ∈ nodesT t, ∀ y ∈ p.kids, t.id ≠ y.id := by
    intro t hn p hp y hy e
    rw [z2h, List.nodup_cons] at hn
    refine hn.1 ?_
    rw [e]
    rw [z1c, List.mem_cons] at hp
    rcases hp with rfl | hp
    ·exact List.mem_flatMap.2 ⟨y, hy, z42 y⟩
    ·obtain ⟨k, O, hpk⟩ := List.mem_flatMap.1 hp
     refine List.mem_flatMap.2 ⟨k, O, List.mem_map.2 ⟨y, ?_, rfl⟩⟩
     exact z0z k p hpk y (z0i hy (z09 y))
   exact key _ hn2 p hpk y hy e
  rw [zsw (id := y.id) (t := t) (i := i) (fun e => g1 _ O (e ▸ hyi)) hi (fun j hj h => (z57 _ _).2 (g3 i j hi h (by omega) _ hyi)) hne (z9o.2 hyi)]
  exact ih _ O (g2 _ O) p hpk y hy
theorem z6e {t : T} (hn : (idsT t).Nodup) {q k : T} (hq : q ∈ nodesT t) (O : k ∈ q.kids) : ¬ t.id = k.id := by
 intro e
 rw [z2h, List.nodup_cons] at hn
 refine hn.1 ?_
 rw [e]
 rw [z1c, List.mem_cons] at hq
 rcases hq with rfl | hq
 ·exact List.mem_flatMap.2 ⟨k, O, z42 k⟩
 ·obtain ⟨z, hz, hpk⟩ := List.mem_flatMap.1 hq
  exact List.mem_flatMap.2 ⟨z, hz, List.mem_map.2 ⟨k, z0z z q hpk k (z0i O (z09 k)), rfl⟩⟩
theorem zpn {t x : T} (hn : (idsT t).Nodup) (hx : x ∈ nodesT t) : (idsT x).Nodup := by
 obtain ⟨C, h1, _⟩ := focus x.id t (List.mem_map.2 ⟨x, hx, rfl⟩)
 rw [z12 hn hx rfl] at h1
 rw [h1] at hn
 exact zhl hn
theorem z30 {t x : T} (hn : (idsT t).Nodup) (hx : x ∈ nodesT t) : (x.kids.map T.id).Nodup := by
 have h := zpn hn hx
 rw [z2h, List.nodup_cons] at h
 have h2 := List.pairwise_flatMap.1 h.2
 unfold List.Nodup
 rw [List.pairwise_map]
 exact h2.2.imp fun {a b} h e => h _ (z42 a) _ (z42 b) e
theorem zt2 {t q : T} (hn : (idsT t).Nodup) (hq : q ∈ nodesT t) (i : Nat) (hi : i < q.kids.length) : z71 q.kids[i].id t = (q.id, (i : Int), true) := by
 have O : q.kids[i] ∈ q.kids := List.getElem_mem hi
 have hkn : q.kids[i] ∈ nodesT t := z0z t q hq _ (z0i O (z09 _))
 obtain ⟨x, q', j, hj, h1, h2, h3, h4, h5, _, _, _, hq'⟩ := zec hn (id := q.kids[i].id) (List.mem_map.2 ⟨_, hkn, rfl⟩) (z6e hn hq O)
 have e1 := z4p t hn q hq _ O
 rw [h3] at e1
 simp only at e1
 have e2 := z12 hn hq e1.symm
 rw [h4] at e2
 simp only [Prod.mk.injEq, and_true] at e2
 subst e2
 rw [z12 hn hkn rfl] at h1
 simp only [Prod.mk.injEq, and_true] at h1
 rw [<- h1] at h5
 have : j = i := (List.getElem_inj (h₀ := by simpa using hj) (h₁ := by simpa using hi) (z30 hn hq)).1 (by simp [h5])
 rw [h3, this]
theorem zdw {t : T} (hn : (idsT t).Nodup) {id : Idv} (hm : id ∈ idsT t) (h0 : ¬ t.id = id) : ∃ q ∈ nodesT t, ∃ k ∈ q.kids, k.id = id /\ (z71 id t).1 = q.id := by
 obtain ⟨x, q, i, hi, h1, h2, h3, h4, h5, _, _, _, hq⟩ := zec hn hm h0
 exact ⟨q, hq, x, by rw [<- h5]; exact List.getElem_mem hi, h2, by rw [h3]⟩
def z31 (A : T) (u k : T) : Bool := z26 u.id A && ((z71 k.id A).2.2 && decide ((z71 k.id A).1 = u.id))
def z3b (A : T) (u : T) : List T := u.kids.filter (z31 A u)
def zao (A : T) (u : T) : List Int := (z3b A u).map fun k => (z71 k.id A).2.1
def z2d (A : T) (u : T) : List Idv := (Lis.lis (zao A u)).map fun n => ((z3b A u).map T.id).getD n Idv.zero
def edT (t : T) : List (T × T) := zei (fun t l => (t.kids.zip l).flatMap fun p => (t, p.1) :: p.2) t
theorem zjo (t : T) : edT t = t.kids.flatMap fun k => (t, k) :: edT k := by
 unfold edT
 rw [z3t]
 generalize zei (fun (t : T) (l : List (List (T × T))) => (t.kids.zip l).flatMap fun p => (t, p.1) :: p.2) = f
 induction t.kids with
 | nil => rfl
 | cons k l ih => simp only [List.map_cons, List.zip_cons_cons, List.flatMap_cons, ih]
def zg4 (A B : T) : List Idv := ((edT B).filter fun e => z26 e.2.id A && !decide (e.2.id ∈ z2d A e.1)).map fun e => e.2.id
def mvB (A B : T) (i : Idv) : Bool := decide (i ∈ zg4 A B)
theorem zt3 : ∀ (t : T) (e : T × T), e ∈ edT t ↔ e.1 ∈ nodesT t /\ e.2 ∈ e.1.kids := by
 refine z50 fun t ih e => ?_
 rw [zjo, List.mem_flatMap, z1c, List.mem_cons, List.mem_flatMap]
 constructor
 ·rintro ⟨k, O, he⟩
  rcases List.mem_cons.1 he with rfl | he
  ·exact ⟨.inl rfl, O⟩
  ·obtain ⟨h1, h2⟩ := (ih k O e).1 he
   exact ⟨.inr ⟨k, O, h1⟩, h2⟩
 ·rintro ⟨h1 | ⟨k, O, h1⟩, h2⟩
  ·exact ⟨e.2, h1 ▸ h2, by rw [<- h1]; simp⟩
  ·exact ⟨k, O, List.mem_cons_of_mem _ ((ih k O e).2 ⟨h1, h2⟩)⟩
theorem ed_ids : ∀ t : T, idsT t = t.id :: (edT t).map fun e => e.2.id := by
 refine z50 fun t ih => ?_
 rw [z2h, zjo, List.map_flatMap]
 congr 1
 rw [List.flatMap_def, List.flatMap_def]
 refine congrArg _ (List.map_congr_left fun k O => ?_)
 rw [ih k O, List.map_cons]
theorem zt4 {t q q' k k' : T} (hn : (idsT t).Nodup) (hq : q ∈ nodesT t) (O : k ∈ q.kids) (hq' : q' ∈ nodesT t) (hk' : k' ∈ q'.kids) (h : k.id = k'.id) : q = q' /\ k = k' := by
 have e1 := z4p t hn q hq k O
 have e2 := z4p t hn q' hq' k' hk'
 rw [h, e2] at e1
 have f1 := z12 hn hq rfl
 have f2 := z12 hn hq' e1
 rw [f1] at f2
 simp only [Prod.mk.injEq, and_true] at f2
 have g1 := z12 hn (z0z t q hq k (z0i O (z09 k))) h
 have g2 := z12 hn (z0z t q' hq' k' (z0i hk' (z09 k'))) rfl
 rw [g1] at g2
 simp only [Prod.mk.injEq, and_true] at g2
 exact ⟨f2, g2⟩
section
variable {A B : T}
theorem z74 {u : T} {i : Idv} (h : i ∈ z2d A u) : ∃ k ∈ u.kids, k.id = i /\ z31 A u k = true := by
 obtain ⟨n, hn, rfl⟩ := List.mem_map.1 h
 have hlt := (Lis.lis_rise (zao A u)).2 n hn
 have hl : n < (z3b A u).length := by simpa [zao] using hlt
 obtain ⟨h1, h2⟩ := List.mem_filter.1 (List.getElem_mem hl)
 exact ⟨_, h1, by simp [List.getD, hl], h2⟩
theorem zdx (u : T) : (z2d A u).Sublist (u.kids.map T.id) := by
 have h := zht Idv.zero ((z3b A u).map T.id) (Lis.lis (zao A u)) 0 ((Lis.lis_rise _).1.imp fun h => h.1) (fun i hi => ⟨Nat.zero_le _, by have := (Lis.lis_rise (zao A u)).2 i hi; simpa [zao] using this⟩)
 rw [List.drop_zero] at h
 refine h.trans ?_
 exact (List.filter_sublist).map _
theorem zjp (hn : (idsT A).Nodup) {x u : T} (hx : x ∈ nodesT A) (hid : x.id = u.id) : (z2d A u).Sublist (x.kids.map T.id) := by
 have key : ∀ n, n < (z3b A u).length -> ∃ i : Nat, (zao A u).getD n 0 = i /\ i < x.kids.length /\ (x.kids.map T.id).getD i Idv.zero = ((z3b A u).map T.id).getD n Idv.zero := by
  intro n hl
  obtain ⟨h1, h2⟩ := List.mem_filter.1 (List.getElem_mem hl)
  simp only [z31, Bool.and_eq_true, decide_eq_true_eq] at h2
  obtain ⟨_, h3, h4⟩ := h2
  have hm : (z3b A u)[n].id ∈ idsT A := by
   by_cases h : (z3b A u)[n].id ∈ idsT A
   ·exact h
   ·rw [<- z57] at h
    unfold z71 at h3
    simp [h] at h3
  have h0 : ¬ A.id = (z3b A u)[n].id := by
   intro e
   have h5 := z2u e
   unfold z71 at h3
   simp [h5] at h3
  obtain ⟨z, q, i, hi, g1, g2, g3, g4, g5, _, _, _, hq⟩ := zec hn hm h0
  have : q = x := by
   have e2 : q.id = x.id := by rw [hid, <- h4, g3]
   have f1 := z12 hn hq rfl
   rw [e2, z12 hn hx rfl] at f1
   simp only [Prod.mk.injEq, and_true] at f1
   exact f1.symm
  subst this
  refine ⟨i, ?_, hi, ?_⟩
  ·simp [List.getD, zao, hl, g3]
  ·simp [List.getD, hi, hl, g5, g2]
 have hr := Lis.lis_rise (zao A u)
 have hlt : ∀ n ∈ Lis.lis (zao A u), n < (z3b A u).length := fun n h => by have := hr.2 n h; simpa [zao] using this
 have e : z2d A u = ((Lis.lis (zao A u)).map fun n => ((zao A u).getD n 0).toNat).map fun i => (x.kids.map T.id).getD i Idv.zero := by
  unfold z2d
  rw [List.map_map]
  refine List.map_congr_left fun n hn => ?_
  obtain ⟨i, h1, h2, h3⟩ := key n (hlt n hn)
  simp only [Function.comp_apply, h1, Int.toNat_natCast, h3]
 rw [e]
 have h := zht Idv.zero (x.kids.map T.id) ((Lis.lis (zao A u)).map fun n => ((zao A u).getD n 0).toNat) 0 (by
  rw [List.pairwise_map]
  refine List.Pairwise.imp_of_mem ?_ hr.1
  intro a b ha hb h
  obtain ⟨i, h1, _⟩ := key a (hlt a ha)
  obtain ⟨j, h2, _⟩ := key b (hlt b hb)
  rw [h1, h2] at h ⊢
  have := h.2
  simp only [Int.toNat_natCast]
  omega) (fun i hi => by
  obtain ⟨n, hn, rfl⟩ := List.mem_map.1 hi
  obtain ⟨j, h1, h2, _⟩ := key n (hlt n hn)
  rw [h1]
  exact ⟨Nat.zero_le _, by simpa using h2⟩)
 rwa [List.drop_zero] at h
theorem zgn {i : Idv} : mvB A B i = true ↔ ∃ q ∈ nodesT B, ∃ k ∈ q.kids, k.id = i /\ i ∈ idsT A /\ i ∉ z2d A q := by
 unfold mvB zg4
 rw [decide_eq_true_eq, List.mem_map]
 constructor
 ·rintro ⟨e, he, rfl⟩
  obtain ⟨h1, h2⟩ := List.mem_filter.1 he
  obtain ⟨h3, h4⟩ := (zt3 B e).1 h1
  simp only [Bool.and_eq_true, Bool.not_eq_true', decide_eq_false_iff_not, z1k, decide_eq_true_eq] at h2
  exact ⟨e.1, h3, e.2, h4, rfl, h2.1, h2.2⟩
 ·rintro ⟨q, hq, k, O, rfl, h1, h2⟩
  refine ⟨(q, k), List.mem_filter.2 ⟨(zt3 B _).2 ⟨hq, O⟩, ?_⟩, rfl⟩
  simp [z1k, h1, h2]
theorem zxo (na : (idsT A).Nodup) (nb : (idsT B).Nodup) (hr : A.id = B.id)
  (O : ∀ i x y, findR i A = (x, true) -> findR i B = (y, true) -> x.kind = y.kind)
  (hl : ∀ i x y, findR i A = (x, true) -> findR i B = (y, true) -> ¬ x.label = y.label -> ¬ x.label = ByteArray.empty) : Books A B (mvB A B) where
 na := na
 nb := nb
 root := hr
 rootM := by
  cases h : mvB A B B.id with
  | false => rfl
  | true =>
   obtain ⟨q, hq, k, O, e, _⟩ := zgn.1 h
   exact absurd e.symm (z6e nb hq O)
 kept := fun i h => by
  obtain ⟨q, hq, k, O, rfl, h1, _⟩ := zgn.1 h
  exact ⟨h1, List.mem_map.2 ⟨k, z0z B q hq k (z0i O (z09 k)), rfl⟩⟩
 kind := O
 lab := hl
 line := fun i x y hx hy => by
  have hxi : x.id = i := by have := zah (id := i) (t := A) (by rw [hx]); rwa [hx] at this
  have hyi : y.id = i := by have := zah (id := i) (t := B) (by rw [hy]); rwa [hy] at this
  have hxn : x ∈ nodesT A := by have := z3o (id := i) (u := A) (by rw [hx]); rwa [hx] at this
  have hyn : y ∈ nodesT B := by have := z3o (id := i) (u := B) (by rw [hy]); rwa [hy] at this
  have s1 := zgm (zdx (A := A) y) (z30 nb hyn)
  have s2 := zgm (zjp na hxn (hxi.trans hyi.symm)) (z30 na hxn)
  -- who stays under y
  have hstay : ∀ k : Idv, stayB A B (mvB A B) k = true -> ∀ q ∈ nodesT B, (∃ z ∈ q.kids, z.id = k) -> k ∈ z2d A q := by
   intro k hs q hq ⟨z, hz, hzk⟩
   simp only [stayB, z1k, Bool.and_eq_true, decide_eq_true_eq, Bool.not_eq_true'] at hs
   obtain ⟨h1, h2, h3⟩ := hs
   by_cases hm : k ∈ z2d A q
   ·exact hm
   ·have := zgn.2 ⟨q, hq, z, hz, hzk, h1, hm⟩
    rw [h3] at this; cases this
  have hmem : ∀ k, k ∈ z2d A y -> stayB A B (mvB A B) k = true := by
   intro k hks
   obtain ⟨z, hz, hzk, hu⟩ := z74 hks
   have hkA : k ∈ idsT A := (zjp na hxn (hxi.trans hyi.symm)).subset hks |> fun h => by
    obtain ⟨w, hw, rfl⟩ := List.mem_map.1 h
    exact List.mem_map.2 ⟨w, z0z A x hxn w (z0i hw (z09 w)), rfl⟩
   have hkB : k ∈ idsT B := List.mem_map.2 ⟨z, z0z B y hyn z (z0i hz (z09 z)), hzk⟩
   have hnm : mvB A B k = false := by
    cases h : mvB A B k with
    | false => rfl
    | true =>
     obtain ⟨q, hq, z', hz', e, _, hns⟩ := zgn.1 h
     obtain ⟨e2, _⟩ := zt4 nb hq hz' hyn hz (e.trans hzk.symm)
     subst e2
     exact absurd hks hns
   simp [stayB, z1k, hkA, hkB, hnm]
  have g1 : (y.kids.filter fun k => stayB A B (mvB A B) k.id).map T.id = z2d A y := by
   rw [<- s1, List.filter_map]
   refine congrArg _ (List.filter_congr fun k O => ?_)
   rw [Bool.eq_iff_iff]
   constructor
   ·intro h; simp only [Function.comp_apply, decide_eq_true_eq]; exact hstay _ h y hyn ⟨k, O, rfl⟩
   ·intro h; simp only [Function.comp_apply, decide_eq_true_eq] at h; exact hmem _ h
  have g2 : (x.kids.filter fun k => stayB A B (mvB A B) k.id).map T.id = z2d A y := by
   rw [<- s2, List.filter_map]
   refine congrArg _ (List.filter_congr fun k O => ?_)
   rw [Bool.eq_iff_iff]
   constructor
   ·intro h
    simp only [Function.comp_apply, decide_eq_true_eq]
    have h' := h
    simp only [stayB, z1k, Bool.and_eq_true, decide_eq_true_eq, Bool.not_eq_true'] at h'
    obtain ⟨h1, h2, h3⟩ := h'
    have h0 : ¬ B.id = k.id := by rw [<- hr]; exact z6e na hxn O
    obtain ⟨q, hq, z, hz, hzk, _⟩ := zdw nb h2 h0
    have hs := hstay _ h q hq ⟨z, hz, hzk⟩
    obtain ⟨z', hz', hzk', hu⟩ := z74 hs
    simp only [z31, Bool.and_eq_true, decide_eq_true_eq] at hu
    have e1 := z4p A na x hxn k O
    rw [<- hzk', hu.2.2] at e1
    have : q = y := by
     have f1 := z12 nb hq rfl
     rw [e1, hxi, hy] at f1
     simp only [Prod.mk.injEq, and_true] at f1
     exact f1.symm
    subst this
    exact hs
   ·intro h; simp only [Function.comp_apply, decide_eq_true_eq] at h; exact hmem _ h
  rw [g1, g2]
 offA := fun x hx hxB k O hkB => by
  have h0 : ¬ B.id = k.id := by rw [<- hr]; exact z6e na hx O
  obtain ⟨q, hq, z, hz, hzk, _⟩ := zdw nb hkB h0
  have hkA : k.id ∈ idsT A := List.mem_map.2 ⟨k, z0z A x hx k (z0i O (z09 k)), rfl⟩
  refine zgn.2 ⟨q, hq, z, hz, hzk, hkA, fun hs => ?_⟩
  obtain ⟨z', hz', hzk', hu⟩ := z74 hs
  simp only [z31, Bool.and_eq_true, decide_eq_true_eq] at hu
  have e1 := z4p A na x hx k O
  rw [<- hzk', hu.2.2] at e1
  exact hxB (e1 ▸ List.mem_map.2 ⟨q, hq, rfl⟩)
 offB := fun y hy hyA k O hkA => by
  refine zgn.2 ⟨y, hy, k, O, rfl, hkA, fun hs => ?_⟩
  obtain ⟨z', hz', hzk', hu⟩ := z74 hs
  simp only [z31, Bool.and_eq_true, z1k, decide_eq_true_eq] at hu
  exact hyA hu.1
end
end Tr
end
section
open Abs
namespace Tr
section
variable {A B : T} {mv : Idv -> Bool}
theorem zrw (na : (idsT A).Nodup) (nb : (idsT B).Nodup) : ((idsT B).filter fun i => z26 i A).Perm ((idsT A).filter fun i => z26 i B) := by
 rw [List.perm_ext_iff_of_nodup (nb.filter _) (na.filter _)]
 intro i
 simp only [List.mem_filter, z1k, decide_eq_true_eq]
 exact And.comm
theorem zw5 {i : Idv} {t : T} (h : z26 i t = false) : findR i t = (T.zero, false) := by
 unfold z26 at h
 exact zak (zed.1 h)
theorem zrx (na : (idsT A).Nodup) (nb : (idsT B).Nodup) (g : Idv -> Nat) : ((nodesT B).map fun y => if z26 y.id A = true then g y.id else 0).sum = ((nodesT A).map fun x => if z26 x.id B = true then g x.id else 0).sum := by
 have h1 : ((nodesT B).map fun y => if z26 y.id A = true then g y.id else 0) = (idsT B).map fun i => if z26 i A = true then g i else 0 := by unfold idsT; rw [List.map_map]; rfl
 have h2 : ((nodesT A).map fun x => if z26 x.id B = true then g x.id else 0) = (idsT A).map fun i => if z26 i B = true then g i else 0 := by unfold idsT; rw [List.map_map]; rfl
 rw [h1, h2, <- z7c, <- z7c]
 exact zou ((zrw na nb).map g)
theorem zp5 (na : (idsT A).Nodup) (nb : (idsT B).Nodup) (g : T -> Nat) (h0 : g T.zero = 0) : ((nodesT B).map fun y => g (findR y.id A).1).sum = ((nodesT A).map fun x => if z26 x.id B = true then g x else 0).sum := by
 have h1 : ((nodesT B).map fun y => g (findR y.id A).1).sum = ((nodesT B).map fun y => if z26 y.id A = true then g (findR y.id A).1 else 0).sum := z3c fun y _ => by
  by_cases h : z26 y.id A = true
  ·rw [if_pos h]
  ·rw [if_neg h, zw5 (by simpa using h), h0]
 rw [h1, zrx na nb (fun i => g (findR i A).1)]
 exact z3c fun x hx => by rw [z12 na hx rfl]
theorem zp6 (hb : Books A B mv) {w : TT -> Nat} (hw : zkr w) : wtT w (z2l A B mv B) = ((nodesT B).map fun y => w (z6c A mv y [])).sum + ((nodesT A).map (goD w B mv)).sum := by
 rw [zus hw, z8n]
 congr 1
 rw [zp5 hb.na hb.nb (goK w B (stayB A B mv)) rfl]
 have h := zz6 hw (A := A) (B := B) (mv := mv) A (fun x hx k O => by
  rw [z1k, decide_eq_true (id_in (z0z A x hx k (z0i O (z09 k))))]) (fun x hx hxB k O hkB => by
  rw [z1k, decide_eq_false_iff_not] at hxB
  rw [z1k, decide_eq_true_eq] at hkB
  exact hb.offA x hx hxB k O hkB)
 rw [if_pos (by rw [z1k, decide_eq_true_eq, hb.root, z2h]; simp)] at h
 rw [<- h, Nat.add_zero]
def wS (s : Int) (t : TT) : Nat := zly s t.head + zly s t.words
theorem wS_no (s : Int) : zkr (wS s) := fun _ _ _ _ _ _ _ _ _ => rfl
def zw6 (x : T) : Nat := x.head.length + x.words.length
def prN (v u : T) : Nat := (Lcs.pairs (txt v.head) (txt u.head)).length + (Lcs.pairs (txt v.words) (txt u.words)).length
def zlf (t : T) : Nat := ((nodesT t).map zw6).sum
theorem zp7 (y : T) : wS 1 (z6c A mv y []) + prN (findR y.id A).1 y = zw6 y /\ wS 2 (z6c A mv y []) + prN (findR y.id A).1 y = zw6 (findR y.id A).1 := by
 have h1 := zkb (txt (findR y.id A).1.head) (txt y.head)
 have h2 := zkb (txt (findR y.id A).1.words) (txt y.words)
 unfold wS prN zw6 z6c
 simp only [TT.head, TT.words]
 simp only [txt, List.length_map] at h1 h2 ⊢
 omega
theorem zw7 (x : T) : wS 1 (zea x []) = 0 /\ wS 2 (zea x []) = zw6 x := by
 unfold wS zea zw6
 simp only [TT.head, TT.words]
 rw [z5q (by decide), z5q (by decide), z78, z78]
 simp [txt]
theorem wS_ph (s : Int) (i : Idv) : wS s (phT i) = 0 := rfl
theorem ze8 {α : Type} : ∀ l : List α, (l.map fun _ => 0).sum = 0
 | [] => rfl
 | _ :: l => by simp [ze8 l]
def zry (A B : T) : Nat := ((nodesT B).map fun y => prN (findR y.id A).1 y).sum
theorem counts (hb : Books A B mv) : wtT (wS 1) (z2l A B mv B) + zry A B = zlf B /\ wtT (wS 2) (z2l A B mv B) + zry A B = zlf A := by
 rw [zp6 hb (wS_no 1), zp6 hb (wS_no 2)]
 have g1 : ((nodesT A).map (goD (wS 1) B mv)).sum = 0 := by
  refine (z3c (g := fun _ => 0) fun x _ => ?_).trans (ze8 _)
  unfold goD
  rw [(zw7 x).1]
  have : (x.kids.map fun k => if z26 k.id B = true /\ mv k.id = true then wS 1 (phT k.id) else 0).sum = 0 := by
   refine (z3c (g := fun _ => 0) fun k _ => ?_).trans (ze8 _)
   simp [wS_ph]
  rw [this]; simp
 have g2 : ((nodesT A).map (goD (wS 2) B mv)).sum = ((nodesT A).map fun x => if z26 x.id B = true then 0 else zw6 x).sum := by
  refine z3c fun x _ => ?_
  unfold goD
  rw [(zw7 x).2]
  have : (x.kids.map fun k => if z26 k.id B = true /\ mv k.id = true then wS 2 (phT k.id) else 0).sum = 0 := by
   refine (z3c (g := fun _ => 0) fun k _ => ?_).trans (ze8 _)
   simp [wS_ph]
  rw [this]; simp
 have f1 : ((nodesT B).map fun y => wS 1 (z6c A mv y [])).sum + zry A B = zlf B := by
  unfold zry zlf
  rw [<- z8n]
  exact z3c fun y _ => (zp7 y).1
 have f2 : ((nodesT B).map fun y => wS 2 (z6c A mv y [])).sum + zry A B = ((nodesT A).map fun x => if z26 x.id B = true then zw6 x else 0).sum := by
  rw [<- zp5 hb.na hb.nb zw6 rfl]
  unfold zry
  rw [<- z8n]
  exact z3c fun y _ => (zp7 y).2
 have f3 : ((nodesT A).map fun x => if z26 x.id B = true then zw6 x else 0).sum + ((nodesT A).map fun x => if z26 x.id B = true then 0 else zw6 x).sum = zlf A := by
  rw [<- z8n]
  refine z3c fun x _ => ?_
  split <;> simp
 omega
end
end Tr
end
section
def Lis.Good (l o : List Int) (k : Nat) : Prop := ∀ j, j < k -> 0 <= o.getD j 0 /\ o.getD j 0 < l.length /\ (0 < j -> o.getD (j - 1) 0 < o.getD j 0 /\ l.getD (o.getD (j - 1) 0).toNat 0 < l.getD (o.getD j 0).toNat 0)
theorem z97 (l : List Int) (i : Nat) (h : i < l.length) : l.getD i 0 = l[i] := by
 rw [List.getD_eq_getElem?_getD, List.getElem?_eq_getElem h]; rfl
theorem Lis.row_ge (l : List Int) (i : Nat) (h : i < l.length) : 1 <= (Lis.rows l).getD i 0 /\ (Lis.rows l).getD i 0 <= Lis.most l := by
 have hl := Lis.rows_length l
 rw [z97 _ i (by omega)]
 exact ⟨Lis.rows_pos l _ (List.getElem_mem _), Lis.foldr_ge _ _ (List.getElem_mem _)⟩
theorem Lis.good_row (l o : List Int) (h : Lis.Good l o o.length) : ∀ d j, j + d + 1 = o.length -> ((d + 1 : Nat) : Int) <= (Lis.rows l).getD (o.getD j 0).toNat 0
 | 0, j, hj => by
  have h1 := h j (by omega)
  have := (Lis.row_ge l (o.getD j 0).toNat (by omega)).1
  omega
 | d + 1, j, hj => by
  have ih := Lis.good_row l o h d (j + 1) (by omega)
  have h1 := h j (by omega)
  have h2 := h (j + 1) (by omega)
  have h3 := h2.2.2 (by omega)
  simp only [Nat.add_sub_cancel] at h3
  have h4 := Lis.rows_step l (o.getD j 0).toNat (o.getD (j + 1) 0).toNat (by omega) (by omega) (by
   have q := h3.2
   rw [z97 l _ (by omega), z97 l _ (by omega)] at q
   exact q)
  omega
theorem Lis.good_most (l o : List Int) (h : Lis.Good l o o.length) : (o.length : Int) <= Lis.most l := by
 cases ho : o.length with
 | zero => have := (Lis.most_bd l).1; simpa using this
 | succ n =>
  have h1 := Lis.good_row l o h n 0 (by omega)
  have h2 := h 0 (by omega)
  have h3 := (Lis.row_ge l (o.getD 0 0).toNat (by omega)).2
  omega
theorem Lis.sel_inv (l : List Int) : ∀ n, n <= l.length -> ((Lis.sel l n).length : Int) = Lis.most l \/
  (((Lis.sel l n).length : Int) < Lis.most l /\ ∃ j, n <= j /\ j < l.length /\ (Lis.rows l).getD j 0 = Lis.most l - (Lis.sel l n).length /\ (Lis.sel l n = [] \/ l.getD ((Lis.sel l n).getLastD 0) 0 < l.getD j 0))
 | 0, _ => by
  have hb := Lis.most_bd l
  rcases Lis.foldr_reach (Lis.rows l) with h | h
  ·left; show (0 : Int) = _; unfold Lis.most; exact h.symm
  ·have hp := Lis.rows_pos l _ h
   right
   refine ⟨by show (0 : Int) < _; unfold Lis.most; omega, ?_⟩
   obtain ⟨j, hj, he⟩ := List.getElem_of_mem h
   have hl := Lis.rows_length l
   refine ⟨j, Nat.zero_le _, by omega, ?_, .inl rfl⟩
   rw [z97 _ j hj, he]
   show _ = Lis.most l - (0 : Int)
   unfold Lis.most; omega
 | n + 1, hn => by
  have ih := Lis.sel_inv l n (by omega)
  have hs := Lis.sel_succ l n
  rcases ih with ih | ⟨hlt, j, hj1, hj2, hj3, hj4⟩
  ·left
   rw [hs]; unfold Lis.sel1; rw [if_neg (by omega)]; exact ih
  ·by_cases hc : ((Lis.sel l n).length : Int) < Lis.most l /\ (Lis.rows l).getD n 0 = Lis.most l - (Lis.sel l n).length /\ (Lis.sel l n = [] \/ l.getD ((Lis.sel l n).getLastD 0) 0 < l.getD n 0)
   ·have hs' : Lis.sel l (n + 1) = Lis.sel l n ++ [n] := by rw [hs]; unfold Lis.sel1; rw [if_pos hc]
    rw [hs']
    have hlen : ((Lis.sel l n ++ [n]).length : Int) = (Lis.sel l n).length + 1 := by simp
    have hlast : (Lis.sel l n ++ [n]).getLastD 0 = n := by simp
    rw [hlen, hlast]
    by_cases he : ((Lis.sel l n).length : Int) + 1 = Lis.most l
    ·exact .inl he
    ·right
     refine ⟨by omega, ?_⟩
     obtain ⟨j', q1, q2, q3, q4⟩ := Lis.rows_next l n (by omega) (by omega)
     refine ⟨j', by omega, q2, by omega, .inr ?_⟩
     rw [z97 l n (by omega), z97 l j' q2]; exact q3
   ·have hs' : Lis.sel l (n + 1) = Lis.sel l n := by rw [hs]; unfold Lis.sel1; rw [if_neg hc]
    rw [hs']
    right
    refine ⟨hlt, j, ?_, hj2, hj3, hj4⟩
    rcases Nat.lt_or_ge n j with h | h
    ·omega
    ·have : j = n := by omega
     subst this
     exact (hc ⟨hlt, hj3, hj4⟩).elim
theorem Lis.sel_all (l : List Int) : ((Lis.sel l l.length).length : Int) = Lis.most l := by
 rcases Lis.sel_inv l l.length (Nat.le_refl _) with h | ⟨_, j, h1, h2, _⟩
 ·exact h
 ·omega
theorem Lis.longest (l o : List Int) (hl : l.length <= 256) (h : Lis.Good l o o.length) : o.length <= (Lis.lis l).length := by
 have h1 := Lis.good_most l o h
 have h2 := Lis.sel_all l
 unfold Lis.lis
 rw [if_neg (by omega)]
 omega
end
section
open Abs
namespace Tr
end Tr
namespace Tr
def z39 (u : T) : Bool := decide (u.kind = 0) && (z6r u && (decide (u.kids.length = 0) || !decide ((u.kids.headD u).id = u.id)))
def z4j (A B : T) : Bool := (nodesT A).all fun x => !z26 x.id B || decide ((findR x.id B).1.kind = x.kind)
def zag (A B : T) : Bool := z39 A && (z39 B && z4j A B)
theorem z1p (u : T) : z39 u = true ↔ u.kind = 0 /\ z6r u = true /\ (idsT u).Nodup := by
 unfold z39
 simp only [Bool.and_eq_true, decide_eq_true_eq, Bool.or_eq_true, Bool.not_eq_true', decide_eq_false_iff_not]
 constructor
 ·rintro ⟨h1, h2, h3⟩
  refine ⟨h1, h2, ?_⟩
  have h4 : zsa u = true := by unfold z6r at h2; simp only [Bool.and_eq_true] at h2; exact h2.2.2.2
  unfold zsa at h4
  simp only [Bool.or_eq_true, Bool.and_eq_true, decide_eq_true_eq, List.all_eq_true] at h4
  rcases h4 with h4 | h4
  ·cases O : u.kids with
   | nil => rw [z2h, O]; simp
   | cons k l =>
    rcases h3 with h3 | h3
    ·rw [O] at h3; simp at h3
    ·rw [O] at h3
     refine absurd ?_ h3
     simp only [List.headD_cons]
     rw [h4 u.id (z42 u), h4 k.id (by rw [z2h, O]; simp [z42])]
  ·exact h4.2
 ·rintro ⟨h1, h2, h3⟩
  refine ⟨h1, h2, ?_⟩
  cases O : u.kids with
  | nil => exact .inl rfl
  | cons k l =>
   refine .inr fun e => ?_
   simp only [List.headD_cons] at e
   rw [z2h, O, List.nodup_cons] at h3
   exact h3.1 (by rw [<- e]; simp [z42])
theorem z5t {u : T} (h : z39 u = true) : u.id = Idv.zero := by
 obtain ⟨h1, h2, h3⟩ := (z1p u).1 h
 have h4 : zsa u = true := by unfold z6r at h2; simp only [Bool.and_eq_true] at h2; exact h2.2.2.2
 unfold zsa at h4
 simp only [Bool.or_eq_true, Bool.and_eq_true, decide_eq_true_eq, List.all_eq_true] at h4
 rcases h4 with h4 | h4
 ·exact h4 u.id (z42 u)
 ·exact h4.1.2 h1
theorem zs1 : ∀ t : T, z8c t = true -> ∀ x ∈ nodesT t, z8c x = true := by
 refine z50 fun t ih h x hx => ?_
 rw [z1c, List.mem_cons, List.mem_flatMap] at hx
 rcases hx with rfl | ⟨k, O, hx⟩
 ·exact h
 ·rw [zbw] at h
  simp only [Bool.and_eq_true, List.all_eq_true] at h
  exact ih k O (h.2.2.1 k O) x hx
theorem z8u {u : T} (h : z39 u = true) {x : T} (hx : x ∈ nodesT u) : x.kids.length <= 64 /\ (x.head.length <= 256 /\ x.words.length <= 256) /\ (x.kind = 0 -> x.label = ByteArray.empty) /\ (¬ x.kind = 0 -> z4i x.label = true) /\ ∀ k ∈ x.kids, ¬ k.kind = 0 := by
 obtain ⟨h1, h2, h3⟩ := (z1p u).1 h
 have hr : z8c u = true := by unfold z6r at h2; simp only [Bool.and_eq_true] at h2; exact h2.1
 have h4 := zs1 u hr x hx
 rw [zbw] at h4
 simp only [Bool.and_eq_true, List.all_eq_true] at h4
 obtain ⟨ha, hn, _⟩ := h4
 unfold zdg zng at ha
 simp only [Bool.and_eq_true, decide_eq_true_eq] at ha
 obtain ⟨_, a2, a3, a4, a5⟩ := ha
 refine ⟨a2, ⟨a3.1, a4.1⟩, fun e => ?_, fun e => ?_, fun k O e => ?_⟩
 ·rw [if_pos e] at a5
  simp only [Bool.and_eq_true, decide_eq_true_eq] at a5
  exact a5.1
 ·rw [if_neg e] at a5; exact a5
 ·have := hn k O
  rw [e] at this
  unfold z3s at this
  simp at this
  have h8 : ∀ n : Nat, n < 8 -> (0 : Int) ∉ belowL[n]?.getD [] := by decide
  exact h8 x.kind.toNat (by omega) this.2
theorem z002 {s : ByteArray} (h : z4i s = true) : ¬ s = ByteArray.empty := by
 intro e
 subst e
 revert h
 decide
theorem z003 {A B : T} (na : (idsT A).Nodup) : z4j A B = true ↔ ∀ i x y, findR i A = (x, true) -> findR i B = (y, true) -> x.kind = y.kind := by
 unfold z4j
 rw [List.all_eq_true]
 constructor
 ·intro h i x y hx hy
  have hxn : x ∈ nodesT A := by have := z3o (id := i) (u := A) (by rw [hx]); rwa [hx] at this
  have hxi : x.id = i := by have := zah (id := i) (t := A) (by rw [hx]); rwa [hx] at this
  have := h x hxn
  unfold z26 at this
  rw [hxi, hy] at this
  have h2 : y.kind = x.kind := by simpa using this
  exact h2.symm
 ·intro h x hx
  by_cases hB : z26 x.id B = true
  ·have := h x.id x (findR x.id B).1 (z12 na hx rfl) (Prod.ext rfl hB)
   simp [this]
  ·simp [hB]
theorem zfo (A B : T) : zag A B = true ↔ z39 A = true /\ z39 B = true /\ z4j A B = true := by
 unfold zag; simp only [Bool.and_eq_true]
theorem zlh {A B : T} (h : zag A B = true) : Books A B (mvB A B) := by
 obtain ⟨h1, h2, h3⟩ := (zfo A B).1 h
 obtain ⟨a1, a2, a3⟩ := (z1p A).1 h1
 obtain ⟨b1, b2, b3⟩ := (z1p B).1 h2
 have O := (z003 a3).1 h3
 refine zxo a3 b3 ((z5t h1).trans (z5t h2).symm) O fun i x y hx hy hl he => ?_
 have hxn : x ∈ nodesT A := by have := z3o (id := i) (u := A) (by rw [hx]); rwa [hx] at this
 have hyn : y ∈ nodesT B := by have := z3o (id := i) (u := B) (by rw [hy]); rwa [hy] at this
 obtain ⟨_, _, _, x4, _⟩ := z8u h1 hxn
 obtain ⟨_, _, y3, _, _⟩ := z8u h2 hyn
 by_cases hx0 : x.kind = 0
 ·refine hl ?_
  rw [he, y3 (by rw [<- O i x y hx hy]; exact hx0)]
 ·exact z002 (x4 hx0) he
def znh (A B : T) : TT := z2l A B (mvB A B) B
end Tr
end
section
open Abs Facts Tr
attribute [local irreducible] awp
set_option maxRecDepth 100000
namespace Tr
def szTT (t : TT) : Bool := zjx (fun t l => decide (t.label.size <= 1000000) && (decide (t.was.size <= 1000000) && (decide (t.head.length <= 2000000) && (decide (t.words.length <= 2000000) && (decide (t.kids.length <= 2000000) && l.all id))))) t
theorem zhz (t : TT) : szTT t = true ↔ t.label.size <= 1000000 /\ t.was.size <= 1000000 /\ t.head.length <= 2000000 /\ t.words.length <= 2000000 /\ t.kids.length <= 2000000 /\ ∀ k ∈ t.kids, szTT k = true := by
 unfold szTT
 rw [zi7]
 simp only [Bool.and_eq_true, decide_eq_true_eq, List.all_map, List.all_eq_true, Function.comp_apply, id_eq]
end Tr
end
end Go.Proofs.YtfechgagcgbldaaGreatDoor
namespace Go.Proofs.YtfechgagcgbldaaGreatDoor.Abs
open Go.RowKit
variable {P : Program}
theorem TC_drop {f : FuncId} {ds : List D} {k : Nat} {r : D} {o o' : HObj} (hr : lowD (k + 1) r = true) (ho : lowO (k + 1) o' = true)
  (h : ∀ H nx, k < nx -> H k = some o -> AC P f ds H nx fun r' H' _ => r' = r /\ H' k = some o' /\ ∀ id, id < nx -> id ≠ k -> H' id = H id) : TC P f ds k o o' r := by
 intro H nx O hH
 have h1 := zaa (h H nx O hH) (fun r' H' nx' ⟨hr', h2, h3⟩ => by
  subst hr'
  refine ⟨zfk (by omega) _ hr, fun id q hid hq => ?_⟩
  by_cases e : id = k
  ·subst e; rw [h2] at hq; cases hq; exact .inr (zld (by omega) ho)
  ·exact .inl (by rw [<- h3 id hid e]; exact hq))
 refine ⟨h1.1, fun s w vs e1 e2 e3 e4 => (h1.2 s w vs e1 e2 e3 e4).mono fun e w' ⟨v, r1, s1, he, ⟨hnx, H', nx', ⟨hr', h2, h3⟩, hcut⟩, hstep, hRH, hrel⟩ => ⟨v, r1, s1, he, ⟨hr', ?_, hnx⟩, hstep, hRH, hrel⟩⟩
 rw [hcut]
 funext id
 unfold zse z17
 by_cases e : id = k
 ·subst e; rw [if_pos O, if_pos rfl]; exact h2
 ·rw [if_neg e]
  split
  ·rename_i hlt; exact h3 id hlt e
  ·rename_i hlt
   cases hHi : H id with
   | none => rfl
   | some q =>
    have := (e3.obj id q (by rw [e1]; exact hHi)).1
    omega
end Go.Proofs.YtfechgagcgbldaaGreatDoor.Abs
namespace Go.Proofs.YtfechgagcgbldaaGreatDoor
open _root_.Go.Proofs.Tryz
section
open Abs Facts Tr
attribute [local irreducible] awp
set_option maxRecDepth 100000
theorem zc0 {β : Type} {enc : β -> D} (he : ∀ x, pureD (enc x) = true) : ∀ (l : List (Idv × β)) (i : Idv), pureD (z7y enc l i) = true
 | [], _ => rfl
 | p :: l, i => by
  unfold z7y
  split
  ·exact zc0 he l i
  ·split
   ·exact he _
   ·rfl
theorem znw {β : Type} {enc : β -> D} (he : ∀ x, pureD (enc x) = true) (n : Nat) (l : List (Idv × β)) : lowO n (.map (mapI enc l)) = true := by
 show (lowD.lowL n ((mapI enc l).map (·.1)) && lowD.lowL n ((mapI enc l).map (·.2))) = true
 unfold mapI
 rw [List.map_map, List.map_map, Bool.and_eq_true]
 exact ⟨z2e _ _ (z0d (fun _ => rfl) _), z2e _ _ (z0d (fun i => zc0 he l i) _)⟩
def unP (x : T) : Idv × T := (x.id, x)
theorem znx (k : Nat) : ∀ u : T, szB u = true -> ∀ l : List (Idv × T), TC prog 44 [z1f u, .mp k] k (.map (mapI z1f l)) (.map (mapI z1f (l ++ (nodesT u).map unP))) (.mp k) := by
 refine z50 fun u ih hs l => ?_
 obtain ⟨h0, h1, g1, h2, g2, h3, h4⟩ := (z2o u).1 hs
 refine TC_drop (by simp [lowD]) (znw z0a _ _) fun H nx O hH => ?_
 have hq := z05 O
 refine (z23 [] func44 rfl (by decide +kernel) rfl ?_)
 show awp _ _ (Code.seq _ _) _ _
 rcases zh9 z1f l u.id u with ⟨hm, n, hf, hp⟩ | ⟨hm, hf, hp⟩
 all_goals
  rw [zxz] at hp
  repeat' (first | refine nxt ?_ | ((refine zqh fun K hK => ?_); (simp (disch := omega) only [go_sem, Nat.reduceBEq, ↓reduceIte, reduceCtorEq, Nat.reduceAdd, Nat.reduceLeDiff, hq, hH, hf, hp])) | (refine hK _ ?_; clear hK K))
  (refine z3i (fun U st => ∃ (i : _), U = u.kids.length - i /\ st.t 1 = .mp k /\ st.t 2 = .ptr nx 0 /\ st.t 12 = z0b u.kids /\ st.t 13 = .int .i64 u.kids.length /\ st.t 14 = .int .i64 i /\ st.H (k) = some (.map (mapI z1f (l ++ (u.id, u) :: ((u.kids.take i).flatMap nodesT).map unP))) /\ st.H (nx) = some (.box 27 (z06 u)) /\ (i <= u.kids.length) /\ (nx < st.nx) /\ (∀ id, id < nx -> id ≠ k -> st.H id = H id)) ?_ ?_); rotate_left; (rintro U st ⟨i, rfl, q1, q2, q12, q13, q14, qHk, qHnx, qp0, qp1, qp2⟩); rotate_left
  ·(refine ⟨_, 0, rfl, ?_⟩); (simp (disch := omega) only [go_sem, Nat.reduceBEq, true_and, Int.natCast_zero, List.flatMap_nil, List.map_nil, z0b, hq])
   exact ⟨by omega, fun id hid hne => by simp (disch := omega) only [z0h]⟩
  have hqs := z05 (show k < st.nx by omega)
  have hqn := z05 qp1
  by_cases hi : i < u.kids.length
  ·have hin := ih u.kids[i] (List.getElem_mem hi) (h4 _ (List.getElem_mem hi)) (l ++ (u.id, u) :: ((u.kids.take i).flatMap nodesT).map unP)
   have htk : l ++ (u.id, u) :: ((u.kids.take i).flatMap nodesT).map unP ++ (nodesT u.kids[i]).map unP = l ++ (u.id, u) :: ((u.kids.take (i + 1)).flatMap nodesT).map unP := by
    rw [List.take_succ_eq_append_getElem hi, List.flatMap_append, List.map_append]; simp
   rw [htk] at hin
   repeat' (first | ((first | refine zqh fun K hK => ?_ | refine zqr fun K hK => ?_ | ((refine ziw (hin) ?_ ?_ ?_); (focus ((simp (disch := omega) only [go_sem, qHk, hqs]); done)); (focus (((simp (disch := omega) only [go_sem]); done))))); (simp (disch := omega) only [go_sem, Nat.reduceBEq, ↓reduceIte, reduceCtorEq, Nat.reduceAdd, Nat.reduceLeDiff, q1, q12, q13, q14, z0b])) | (refine zqd _ rfl ?_ ?_ <;> intro hc <;> (((try simp only [z03] at hc); (try omega)))) | refine nxt ?_ | (refine hK _ ?_; clear hK K))
   (refine Exists.intro _ (And.intro ?_ ⟨i + 1, rfl, ?_⟩)); rotate_left; (simp (disch := omega) only [go_sem, Nat.reduceBEq, q1, q2, q12, q13, q14, qHk, qHnx, true_and, Int.natCast_add, Int.natCast_one, hq, hqs, hqn]); rotate_left
   ·omega
   ·exact ⟨by omega, fun id hid hne => by simp (disch := omega) only [z0h]; exact qp2 id hid hne⟩
  ·repeat' (first | ((refine zqh fun K hK => ?_); (simp (disch := omega) only [go_sem, Nat.reduceBEq, ↓reduceIte, q1, q13, q14])) | (refine zqd _ rfl ?_ ?_ <;> intro hc <;> (((try simp only [z03] at hc); (try omega)))) | refine nxt ?_ | refine zqz ?_ | refine zqu (by simp only [go_sem]; rfl) rfl ?_ | (refine hK _ ?_; clear hK K))
   have hta : u.kids.take i = u.kids := List.take_of_length_le (by omega)
   rw [hta] at qHk
   have e : l ++ (nodesT u).map unP = l ++ (u.id, u) :: (u.kids.flatMap nodesT).map unP := by rw [z1c]; rfl
   rw [e]
   (simp (disch := omega) only [go_sem, Nat.reduceBEq, qHk])
   exact qp2
namespace Tr
end Tr
theorem zjh {β : Type} {enc : β -> D} {k : Idv} : ∀ {l : List (Idv × β)}, k ∈ l.map (·.1) -> ∃ v, (k, v) ∈ l /\ z7y enc l k = enc v
 | [], h => by cases h
 | p :: l, h => by
  unfold z7y
  by_cases h2 : k ∈ l.map (·.1)
  ·obtain ⟨v, h3, h4⟩ := zjh (enc := enc) h2
   exact ⟨v, List.mem_cons_of_mem _ h3, by rw [if_pos h2, h4]⟩
  ·rw [List.map_cons, List.mem_cons] at h
   rcases h with h | h
   ·exact ⟨p.2, by rw [h]; simp, by rw [if_neg h2, if_pos h.symm]⟩
   ·exact absurd h h2
end
section
open Abs Facts Tr
attribute [local irreducible] awp
namespace Tr
def zwn (u : T) : Bool := z6r u && !((if u.kind = 0 then (idsT u).drop 1 else idsT u).any fun x => decide (x = Idv.zero))
end Tr
end
section
open Abs Facts Go.Lib
variable {P : Program}
end
section
open Abs Facts Go.Lib Go.Shelf Go.RowKit
end
section
open Abs Facts Go.Lib Go.RowKit
end
section
open Abs Facts Tr
attribute [local irreducible] awp
namespace Abs
def zan (t : T) : List D := [.int .i64 t.id.act, .int .i64 t.id.item, .int .i64 t.id.n, .int .i64 t.kind, .str t.label, z1y t.head, z1y t.words, z0b t.kids]
end Abs
end
end Go.Proofs.YtfechgagcgbldaaGreatDoor
namespace Go.Proofs.YtfechgagcgbldaaGreatDoor.Abs
theorem z55 {P : Program} {own : List Nat} {a b : Code} {Q : Exit -> St -> Prop} {st : St} (I : St -> Prop) (h2 : awp P own a (zl3 I Q) st) (h1 : ∀ st, I st -> awp P own b Q st) : awp P own (.seq a b) Q st :=
 z5j a _ _ st (zl5 (fun st h => ⟨st, SealTo.refl st, h1 st h⟩) (fun _ _ h => h)) h2
theorem z7w {P : Program} {own : List Nat} {a b c : Code} {Q : Exit -> St -> Prop} {st : St} (I : St -> Prop) (h2 : awp P own (.seq a b) (zl3 I Q) st) (h1 : ∀ st, I st -> awp P own c Q st) : awp P own (.seq a (.seq b c)) Q st :=
 z5j a _ _ st (fun e st h => by
  cases e with
  | normal => obtain ⟨st', hs, h⟩ := h; exact ⟨st', hs, z55 I h h1⟩
  | _ => exact h) h2
theorem zb6 {I : St -> Prop} {Q : Exit -> St -> Prop} {st : St} (h : I st) : zl3 I Q .normal st := h
end Go.Proofs.YtfechgagcgbldaaGreatDoor.Abs
namespace Go.Proofs.YtfechgagcgbldaaGreatDoor
section
open Abs Facts Tr
attribute [local irreducible] awp
set_option maxRecDepth 100000
namespace Tr
end Tr
theorem zbh {k nx : Nat} (h : k < nx) : (nx + 4 == nx) = false /\ (nx + 4 == nx + 1) = false /\ (nx + 4 == nx + 2) = false /\ (nx + 4 == nx + 3) = false /\ (nx == nx + 4) = false /\ (nx + 1 == nx + 4) = false /\ (nx + 2 == nx + 4) = false /\ (nx + 3 == nx + 4) = false /\ (k == nx + 4) = false /\ (nx + 4 == k) = false :=
 ⟨z28 (by omega), z28 (by omega), z28 (by omega), z28 (by omega), z28 (by omega), z28 (by omega), z28 (by omega), z28 (by omega), z28 (by omega), z28 (by omega)⟩
namespace Tr
theorem znd {m : List Idv} {i : Idv} (hn : m.Nodup) (hi : i ∉ m) : (m ++ [i]).Nodup := by
 rw [List.nodup_append]
 exact ⟨hn, by simp, fun a ha b hb => by rw [List.mem_singleton] at hb; subst hb; exact fun e => hi (e ▸ ha)⟩
end Tr
namespace Tr
end Tr
namespace Abs
def zsd : List Oper -> Nat -> Option Oper
 | [], _ => none
 | o :: _, 0 => some o
 | _ :: l, k + 1 => zsd l k
def z9l (opl : List Oper) : List Nat -> List Oper
 | [] => []
 | k :: l => match zsd opl k with
  | some o => o :: z9l opl l
  | none => z9l opl l
theorem z67 {P : Program} {own : List Nat} {K : St -> Prop} {opl : List Oper} {l : List Nat} {st : St} (h : z2y P own (opl.map (·.dst)) (z9l opl l) K st) (hl : l.map (fun k => opl.toArray[k]?) = (z9l opl l).map some) : zd8 P own opl.toArray K (.run l) st := zzs hl h
theorem zcf {P : Program} {own : List Nat} {K : St -> Prop} {opl : List Oper} {l : List Nat} {a b : OT} {st : St} (h : z2y P own (opl.map (·.dst)) (z9l opl l) (fun st => zd8 P own opl.toArray K a st /\ zd8 P own opl.toArray K b st) st) (hl : l.map (fun k => opl.toArray[k]?) = (z9l opl l).map some) : zd8 P own opl.toArray K (.fork l a b) st := zvp hl h
end Abs
theorem zqv {K : St -> Prop} {Q : Exit -> St -> Prop} {st : St} (h : K st) : zl3 K Q .normal st := h
end
open _root_.Go.Proofs.Tryz
section
open Abs Facts Tr
attribute [local irreducible] awp
set_option maxRecDepth 100000
theorem ze2 {k nx : Nat} (h : k < nx) : (nx + 5 == nx) = false /\ (nx + 5 == nx + 1) = false /\ (nx + 5 == nx + 2) = false /\ (nx + 5 == nx + 3) = false /\ (nx + 5 == nx + 4) = false /\ (nx == nx + 5) = false /\ (nx + 1 == nx + 5) = false /\ (nx + 2 == nx + 5) = false /\ (nx + 3 == nx + 5) = false /\ (nx + 4 == nx + 5) = false /\ (k == nx + 5) = false /\ (nx + 5 == k) = false :=
 ⟨z28 (by omega), z28 (by omega), z28 (by omega), z28 (by omega), z28 (by omega), z28 (by omega), z28 (by omega), z28 (by omega), z28 (by omega), z28 (by omega), z28 (by omega), z28 (by omega)⟩
namespace Tr
theorem zuo {a : List ByteArray} : ∀ (l : List (Nat × Nat)) (i k : Nat), zem a [] l i k -> l = []
 | [], _, _, _ => rfl
 | (x, y) :: l, i, k, h => by
  obtain ⟨q1, q2, q3, q4, _⟩ := h
  exact absurd q4 (Nat.not_lt_zero _)
theorem zha (a : List ByteArray) : z3h a [] = a.map (stW 2) := by
 unfold z3h
 rw [zuo _ _ _ (z35 a [])]
 simp [wov]
def zca (t : T) : HObj := .map (mapI z1f ((nodesT t).map unP))
end Tr
theorem zot (B : T) (i : Idv) : (i ∈ idsT B /\ z26 i B = true /\ ∃ n v, z3x prog 23 (.agg [.int .i64 i.act, .int .i64 i.item, .int .i64 i.n]) (mapI z1f ((nodesT B).map unP)) = some (some (n, .agg (z06 v)))) \/
  (i ∉ idsT B /\ z26 i B = false /\ z3x prog 23 (.agg [.int .i64 i.act, .int .i64 i.item, .int .i64 i.n]) (mapI z1f ((nodesT B).map unP)) = some none) := by
 have O : ((nodesT B).map unP).map (·.1) = idsT B := by rw [List.map_map]; rfl
 have hg := ze0 z1f ((nodesT B).map unP) i
 rw [O] at hg
 by_cases h : i ∈ idsT B
 ·obtain ⟨v, _, hv⟩ := zjh (enc := z1f) (l := (nodesT B).map unP) (k := i) (by rw [O]; exact h)
  rw [if_pos h, hv] at hg
  exact .inl ⟨h, by rw [z1k, decide_eq_true h], _, v, hg⟩
 ·rw [if_neg h] at hg
  exact .inr ⟨h, by rw [z1k, decide_eq_false h], hg⟩
set_option maxHeartbeats 16000000 in
theorem rc_gone (B : T) (j0 j j2 : Nat) : ∀ u : T, szB u = true -> ∀ H nx, j < nx -> H j = some (zca B) -> RC prog 51 [.agg [.mp j0, .mp j, .mp j2], z1f u] H nx (z58 (z3e B u)) := by
 refine z50 fun u ih hs H nx hj hHj => ?_
 obtain ⟨h0, h1, g1, h2, g2, h3, h4⟩ := (z2o u).1 hs
 have c1 : PC prog 47 [z1y u.head, .nil] (z0k ((txt u.head).map (stW 2))) := by
  have h := z91 u.head [] h1 (by simp)
  rw [show txt [] = [] from rfl, zha] at h
  exact PC.le h (by simp only [pureD.pureL, pureD, z1v, Bool.and_self]) ⟨Le.refl _, Le.nil 4, trivial⟩
 have c2 : PC prog 47 [z1y u.words, .nil] (z0k ((txt u.words).map (stW 2))) := by
  have h := z91 u.words [] h2 (by simp)
  rw [show txt [] = [] from rfl, zha] at h
  exact PC.le h (by simp only [pureD.pureL, pureD, z1v, Bool.and_self]) ⟨Le.refl _, Le.nil 4, trivial⟩
 unfold z0k at c1 c2
 refine znv (k := 4) (z2j _) ?_
 have hr := z05 hj
 have hr5 := zbh hj
 have hr6 := ze2 hj
 unfold zca at hHj
 refine (z23 [8000000, 3000023, 3000025, 3000027, 3000029, 5000030, 3000032, 5000033, 3000043, 3000044, 3000045] func51 rfl (by decide +kernel) rfl ?_)
 show awp _ _ (Code.seq _ _) _ _
 rw [show Tryz.f51.results.toList = [.cell 4 33] from rfl]
 rw [zdq]
 rcases zot B u.id with ⟨hm, hh, n, v, hf⟩ | ⟨hm, hh, hf⟩
 ·rw [if_pos hh]
  repeat' (first | refine zqj ?_ | ((refine zqh fun K hK => ?_); (simp (disch := omega) only [go_sem, Nat.reduceBEq, ↓reduceIte, reduceCtorEq, Nat.reduceAdd, Nat.reduceLeDiff, hr, hHj, hf])) | (refine zqd _ rfl ?_ ?_ <;> intro hc <;> (first | (cases hc; done) | ((try simp only [] at hc); (try omega)))) | refine zqg ?_ | refine zqu (by (simp (disch := omega) only [go_sem, Nat.reduceBEq, ↓reduceIte, Nat.reduceAdd, Nat.reduceLeDiff, hr]); rfl) rfl ?_ | (refine hK _ ?_; clear hK K))
  (simp (disch := omega) only [go_sem])
  refine ⟨z18 (nx := 0) rfl ?_, fun id hid => by simp (disch := omega) only [z0h]⟩
  rw [z10]
  exact Le.agg ⟨Le.refl _, Le.refl _, Le.refl _, Le.refl _, Le.refl _, Le.refl _, Le.refl _, Le.refl _, Le.nil 2, Le.nil 2, Le.nil 11, trivial⟩
 ·rw [hh, if_neg (by decide)]
  repeat' (first | refine zqj ?_ | ((first | refine z1n (N := 5) rfl fun K hK => ?_ | refine z5l (N := 5) rfl (by decide +kernel) fun K hK => ?_ | refine zqt (c1) ?_ | refine zqt (c2) ?_); (simp (disch := omega) only [go_sem, Nat.reduceBEq, Nat.reduceEqDiff, ↓reduceIte, reduceCtorEq, Nat.reduceAdd, Nat.reduceLeDiff, hr, hr5, hHj, hf, z1y])) | (refine zqd _ rfl ?_ ?_ <;> intro hc <;> (first | (cases hc; done) | ((try simp only [] at hc); (try omega)))) | refine zqb ?_ | (refine hK _ ?_; clear hK K))
  refine z3k fun K hK => ?_
  (simp (disch := omega) only [go_sem, Nat.reduceBEq, ↓reduceIte, reduceCtorEq, Nat.reduceAdd, hr, hr5, z0b])
  refine hK _ _ (z7k (b := nx + 4) (off := 10) (e := 33) 33 (by (simp (disch := omega) only [go_sem, hr5]); rfl) rfl) ?_
  clear hK K
  repeat' (refine zqa ?_)
  (refine z3i (fun U st => ∃ (i : _), U = u.kids.length - i /\ st.t 2 = .ptr nx 0 /\ st.t 4 = .ptr (nx + 2) 0 /\ st.t 7 = .ptr (nx + 4) 0 /\ st.t 36 = z0b u.kids /\ st.t 37 = .int .i64 u.kids.length /\ st.t 38 = .int .i64 i /\ st.H (nx) = some (.box 52 [.mp j0, .mp j, .mp j2]) /\ st.H (nx + 2) = some (.box 33 [.int .i64 0, .int .i64 0, .int .i64 0, .int .i64 0, .int .i64 0, .str ByteArray.empty, .str ByteArray.empty, .bool false, .nil, .nil, .nil]) /\ st.H (nx + 4) = some (.box 33 [.int .i64 2, .int .i64 u.kind, .int .i64 u.id.act, .int .i64 u.id.item, .int .i64 u.id.n, .str u.label, .str ByteArray.empty, .bool false, z0k ((txt u.head).map (stW 2)), z0k ((txt u.words).map (stW 2)), .osl (nx + 5) i]) /\ st.H (nx + 5) = some (.row 33 i (((u.kids.take i).map (z3e B)).flatMap z0p)) /\ st.H (j) = some (.map (mapI z1f ((nodesT B).map unP))) /\ (i <= u.kids.length) /\ (nx + 6 <= st.nx) /\ (∀ id, id < nx -> st.H id = H id)) ?_ ?_); rotate_left; (rintro U st ⟨i, rfl, q2, q4, q7, q36, q37, q38, qHnx, qHnx2, qHnx4, qHnx5, qHj, qp0, qp1, qp2⟩); rotate_left
  ·(refine ⟨_, 0, rfl, ?_⟩); (simp (disch := omega) only [go_sem, Nat.reduceBEq, Nat.reduceLeDiff, true_and, Int.natCast_zero, List.flatMap_nil, List.map_nil, z0b, z0k, hr, hr5, hr6])
   exact ⟨hHj, Nat.le_refl _, fun id hid => by simp (disch := omega) only [z0h]⟩
  have hrs := z05 (show j < st.nx by omega)
  have hq0 := z05 (show nx < st.nx by omega)
  have hq2 := z05 (show nx + 2 < st.nx by omega)
  have hq4 := z05 (show nx + 4 < st.nx by omega)
  have hq5 := z05 (show nx + 5 < st.nx by omega)
  by_cases hi : i < u.kids.length
  ·have hin := fun H nx => ih u.kids[i] (List.getElem_mem hi) (h4 _ (List.getElem_mem hi)) H nx
   unfold zca at hin
   repeat' (first | ((first | refine zqh fun K hK => ?_ | refine zqq (by decide +kernel) fun K hK => ?_ | ((refine ziv (hin _ _ ?_ ?_) rfl ?_); (focus (((simp (disch := omega) only [go_sem]); done))); (focus ((simp (disch := omega) only [go_sem, qHj, hrs]); done)))); (simp (disch := omega) only [go_sem, Nat.reduceBEq, Nat.reduceEqDiff, ↓reduceIte, reduceCtorEq, Nat.reduceAdd, Nat.reduceMul, Nat.reduceLeDiff, Nat.reduceLT, q2, q7, q36, q37, q38, qHnx, qHnx4, qHnx5, hr6, hq0, hq4, hq5, z0b])) | (refine zqd _ rfl ?_ ?_ <;> intro hc <;> (((try simp only [z03] at hc); (try omega)))) | refine zqa ?_ | refine zqb ?_ | refine zqv ?_ | refine zqy ?_ | (refine hK _ ?_; clear hK K))
   refine ⟨_, SealTo.refl _, ?_⟩
   repeat' (first | ((refine zqr fun K hK => ?_); (simp (disch := omega) only [go_sem, Nat.reduceBEq, ↓reduceIte, q38])) | (refine hK _ ?_; clear hK K))
   (refine Exists.intro _ (And.intro ?_ ⟨i + 1, rfl, ?_⟩)); rotate_left; (simp (disch := omega) only [go_sem, Nat.reduceBEq, Nat.reduceLeDiff, q2, q4, q7, q36, q37, q38, qHnx, qHnx2, qHnx4, qHnx5, qHj, true_and, Int.natCast_add, Int.natCast_one, List.flatMap_append, List.flatMap_cons, List.flatMap_nil, List.map_append, List.map_cons, List.map_nil, List.append_nil, hr5, hr6, hrs, hq0, hq2, hq4, hq5, List.take_succ_eq_append_getElem hi]); rotate_left
   ·omega
   ·exact ⟨by omega, by omega, fun id hid => by simp (disch := omega) only [z0h]; exact qp2 id hid⟩
  ·repeat' (first | ((refine zqh fun K hK => ?_); (simp (disch := omega) only [go_sem, ↓reduceIte, q37, q38])) | (refine zqd _ rfl ?_ ?_ <;> intro hc <;> (((try simp only [z03] at hc); (try omega)))) | refine zqc ?_ | refine zqv ?_ | refine zqz ?_ | refine zqp ?_ | (refine hK _ ?_; clear hK K))
   refine ⟨_, SealTo.refl _, ?_⟩
   repeat' (first | ((refine zqh fun K hK => ?_); (simp (disch := omega) only [go_sem, Nat.reduceBEq, ↓reduceIte, Nat.reduceAdd, Nat.reduceLeDiff, q4, q7, qHnx2, qHnx4])) | refine zqn ?_ | refine zqu (by (simp (disch := omega) only [go_sem, Nat.reduceBEq, ↓reduceIte, Nat.reduceAdd, Nat.reduceLeDiff, q4, qHnx2]); rfl) rfl ?_ | (refine hK _ ?_; clear hK K))
   have hie : i = (u.kids.map (z3e B)).length := by rw [List.length_map]; omega
   have hta : u.kids.take i = u.kids := List.take_of_length_le (by omega)
   rw [hta] at qHnx5
   (simp (disch := omega) only [go_sem])
   refine ⟨?_, fun id hid => by simp (disch := omega) only [z0h]; exact qp2 id hid⟩
   rw [zea, z10]
   refine z47 (nx := 0) (z8s (k := 3) (by simp [pureD.pureL, pureD]) ?_)
   refine z04 (z02 2 rfl) (z04 (z02 2 rfl) (z04 (z02 2 rfl) (z04 (z02 2 rfl) (z04 (z02 2 rfl) (z04 (z02 2 rfl) (z04 (z02 2 rfl) (z04 (z02 2 rfl) (z04 (z02 2 (z1m _)) (z04 (z02 2 (z1m _)) (z04 ?_ z3r))))))))))
   rw [hie]
   refine z0t (f := z0p) (l := u.kids.map (z3e B)) 1 ?_ zb5 zey z2p z32
   unfold hiH
   rw [if_pos (by omega), z2v _ (by omega), <- hie]
   exact qHnx5
namespace Tr
structure Plc where
 par : Idv
 pos : Int
 unit : T
def plcF (t : T) (l : List (List (Idv × Plc))) : List (Idv × Plc) := (t.kids.zip l).zipIdx.flatMap fun q => (q.1.1.id, ⟨t.id, (q.2 : Int), q.1.1⟩) :: q.1.2
def zwv (t : T) : List (Idv × Plc) := zei plcF t
def zoj (t : T) (i : Nat) : List (Idv × Plc) := ((t.kids.take i).zipIdx).flatMap fun q => (q.1.id, (⟨t.id, (q.2 : Int), q.1⟩ : Plc)) :: zwv q.1
theorem zii (t : T) : zwv t = zoj t t.kids.length := by
 unfold zoj
 rw [List.take_length]
 unfold zwv
 rw [z3t, plcF]
 generalize zei plcF = f
 generalize 0 = n
 induction t.kids generalizing n with
 | nil => rfl
 | cons k l ih => simp only [List.map_cons, List.zip_cons_cons, List.zipIdx_cons, List.flatMap_cons, ih]
theorem zu2 {t : T} {i : Nat} (h : i < t.kids.length) : zoj t (i + 1) = zoj t i ++ [(t.kids[i].id, ⟨t.id, (i : Int), t.kids[i]⟩)] ++ zwv t.kids[i] := by
 unfold zoj
 rw [List.take_succ_eq_append_getElem h, List.zipIdx_append, List.flatMap_append]
 simp [List.length_take, Nat.min_eq_left (Nat.le_of_lt h)]
def plcs (t : T) : List (Idv × Plc) := (t.id, ⟨Idv.zero, 0, t⟩) :: zwv t
end Tr
namespace Abs
def z3v (p : Plc) : List D := .int .i64 p.par.act :: .int .i64 p.par.item :: .int .i64 p.par.n :: .int .i64 p.pos :: z06 p.unit
def encPl (p : Plc) : D := .agg (z3v p)
theorem z4r (p : Plc) : z3v p = [.int .i64 p.par.act, .int .i64 p.par.item, .int .i64 p.par.n, .int .i64 p.pos, .int .i64 p.unit.id.act, .int .i64 p.unit.id.item, .int .i64 p.unit.id.n, .int .i64 p.unit.kind, .str p.unit.label, z1y p.unit.head, z1y p.unit.words, z0b p.unit.kids] := by
 rw [z3v, z0n]
@[go_sem] theorem zu3 (p : Plc) : encPl p = .agg (z3v p) := rfl
@[go_sem] theorem zga (p : Plc) : (z3v p).length = 12 := by rw [z4r]; rfl
@[go_sem] theorem cellsPl_par (p : Plc) : List.take 3 (z3v p) = [.int .i64 p.par.act, .int .i64 p.par.item, .int .i64 p.par.n] := by rw [z4r]; rfl
@[go_sem] theorem cellsPl_pos (p : Plc) : (z3v p)[3]? = some (.int .i64 p.pos) := by rw [z4r]; rfl
@[go_sem] theorem cellsPl_kind (p : Plc) : (z3v p)[7]? = some (.int .i64 p.unit.kind) := by rw [z4r]; rfl
@[go_sem] theorem cellsPl_unit (p : Plc) : List.take 8 (List.drop 4 (z3v p)) = z06 p.unit := by rw [z4r, z0n]; rfl
@[go_sem] theorem cellsPl_take (p : Plc) : List.take 12 (z3v p) = z3v p := List.take_of_length_le (by rw [zga]; exact Nat.le_refl _)
@[go_sem] theorem zww (a b c d e f g h i j k l : D) (p : Plc) : z14 [a, b, c, d, e, f, g, h, i, j, k, l] 0 (z3v p) = z3v p := by
 rw [z4r]; rfl
@[go_sem] theorem splice_plcU (a b c d e f g h i j k l : D) (t : T) : z14 [a, b, c, d, e, f, g, h, i, j, k, l] 4 (z06 t) = a :: b :: c :: d :: z06 t := by
 rw [z0n]; rfl
theorem zcv (p : Plc) : pureD.pureL (z3v p) = true := by
 rw [z4r]; simp only [pureD.pureL, pureD, z1v, z4q, Bool.and_true]
theorem zc6 (p : Plc) : pureD (encPl p) = true := by unfold encPl; rw [pureD]; exact zcv p
attribute [go_sem] zcv
end Abs
namespace Abs
theorem zka {P : Program} {n : FuncId} {args cap : List D} {g : List Oper -> (St -> Prop) -> St -> Prop} {rest : List Oper} {K : St -> Prop} {st : St} {dst : Option Nat} {k : Nat} {o' : HObj} {r : D} (h : AC P n (args ++ cap) st.H st.nx fun r' H2 n2 => r' = r /\ H2 = z17 st.H k (some o') /\ n2 = st.nx)
  (O : g rest K ((st.withH (z17 st.H k (some o')) st.nx).put dst r)) : zff P (.fn n cap) args g rest K st dst :=
 z3q (h.mono fun r' H2 n2 ⟨h1, h2, h3⟩ => by subst h1; subst h2; subst h3; exact O)
end Abs
theorem zq8 (o w m : Nat) : ∀ u : T, szB u = true -> ∀ (l : List (Idv × Plc)) H nx, o < nx -> w < nx -> m < nx -> H o = some (.box 109 [.mp m]) -> H w = some (.box 154 [.fn 115 [.ptr o 0, .ptr w 0]]) -> H m = some (.map (mapI encPl l)) ->
  AC prog 115 [z1f u, .ptr o 0, .ptr w 0] H nx fun r' H' nx' => r' = .tup [] /\ H' = z17 H m (some (.map (mapI encPl (l ++ zwv u)))) /\ nx' = nx := by
 refine z50 fun u ih hs l H nx ho hw hm hHo hHw hHm => ?_
 obtain ⟨h0, h1, g1, h2, g2, h3, h4⟩ := (z2o u).1 hs
 refine AC_upd rfl (znw zc6 _ _) hm ?_
 have eom : o ≠ m := fun e => by subst e; rw [hHo] at hHm; cases hHm
 have ewm : w ≠ m := fun e => by subst e; rw [hHw] at hHm; cases hHm
 have e1 := z28 eom
 have e2 := z28 ewm
 have e3 := z05 ho
 have e4 := z05 hw
 have e5 := z05 hm
 have hz : zoj u 0 = [] := rfl
 refine (z23 [] func115 rfl (by decide +kernel) rfl ?_)
 show awp _ _ (Code.seq _ _) _ _
 repeat' (first | ((refine zqh fun K hK => ?_); (simp (disch := omega) only [go_sem, Nat.reduceBEq, ↓reduceIte, reduceCtorEq, Nat.reduceAdd])) | refine zqi ?_ | (refine hK _ ?_; clear hK K))
 (refine z3i (fun U st => ∃ (i : _), U = u.kids.length - i /\ st.t 1 = .ptr o 0 /\ st.t 2 = .ptr w 0 /\ st.t 3 = .ptr nx 0 /\ st.t 7 = z0b u.kids /\ st.t 8 = .int .i64 u.kids.length /\ st.t 9 = .int .i64 i /\ st.H (o) = some (.box 109 [.mp m]) /\ st.H (w) = some (.box 154 [.fn 115 [.ptr o 0, .ptr w 0]]) /\ st.H (m) = some (.map (mapI encPl (l ++ zoj u i))) /\ st.H (nx) = some (.box 27 (z06 u)) /\ (i <= u.kids.length) /\ (nx < st.nx) /\ (∀ id, id < nx -> id ≠ m -> st.H id = H id)) ?_ ?_); rotate_left; (rintro U st ⟨i, rfl, q1, q2, q3, q7, q8, q9, qHo, qHw, qHm, qHnx, qp0, qp1, qp2⟩); rotate_left
 ·(refine ⟨_, 0, rfl, ?_⟩); (simp (disch := omega) only [go_sem, Nat.reduceBEq, true_and, Int.natCast_zero, List.append_nil, z0b, e3, e4, e5, hz])
  exact ⟨hHo, hHw, hHm, by omega, fun id hid hne => by simp (disch := omega) only [z0h]⟩
 have f3 := z05 (show o < st.nx by omega)
 have f4 := z05 (show w < st.nx by omega)
 have f5 := z05 (show m < st.nx by omega)
 have f6 := z05 qp1
 by_cases hi : i < u.kids.length
 ·have hn := zu2 hi
  have hn' : l ++ zoj u (i + 1) = l ++ zoj u i ++ [(u.kids[i].id, ⟨u.id, (i : Int), u.kids[i]⟩)] ++ zwv u.kids[i] := by rw [hn]; simp only [List.append_assoc]
  rcases zh9 encPl (l ++ zoj u i) u.kids[i].id ⟨u.id, (i : Int), u.kids[i]⟩ with ⟨hmm, n, hf, hp⟩ | ⟨hmm, hf, hp⟩
  all_goals
   rw [zu3, z3v] at hp
   simp only [] at hp
  all_goals
   repeat' (first | ((first | refine zqh fun K hK => ?_ | refine zqr fun K hK => ?_); (simp (disch := omega) only [go_sem, Nat.reduceBEq, ↓reduceIte, reduceCtorEq, Nat.reduceAdd, Nat.reduceLeDiff, q1, q2, q3, q7, q8, q9, qHo, qHw, qHm, qHnx, e2, f3, f4, f5, f6, z0b, hf, hp])) | (refine zqd _ rfl ?_ ?_ <;> intro hc <;> (((try simp only [z03] at hc); (try omega)))) | refine zqa ?_ | refine zqb ?_ | (refine hK _ ?_; clear hK K))
   refine zka (ih _ (List.getElem_mem hi) (h4 _ (List.getElem_mem hi)) (l ++ zoj u i ++ [(u.kids[i].id, ⟨u.id, (i : Int), u.kids[i]⟩)]) _ _ ?_ ?_ ?_ ?_ ?_ ?_) ?_
   any_goals
    (simp (disch := omega) only [go_sem, qHo, qHw, qHm, e1, e2, f3, f4, f5])
    all_goals omega
   rw [<- hn']
   (try (simp (disch := omega) only [go_sem])); repeat' (first | refine zqv ?_ | refine zqy ?_ | (refine hK _ ?_; clear hK K))
   refine ⟨_, SealTo.refl _, ?_⟩
   repeat' (first | ((refine zqr fun K hK => ?_); (simp (disch := omega) only [go_sem, Nat.reduceBEq, ↓reduceIte, q9])) | (refine hK _ ?_; clear hK K))
   (refine Exists.intro _ (And.intro ?_ ⟨i + 1, rfl, ?_⟩)); rotate_left; (simp (disch := omega) only [go_sem, Nat.reduceBEq, q1, q2, q3, q7, q8, q9, qHo, qHw, qHm, qHnx, true_and, Int.natCast_add, Int.natCast_one, e1, e2, e5, f3, f4, f5, f6]); rotate_left
   ·omega
   ·exact ⟨by omega, fun id hid hne => by simp (disch := omega) only [z0h]; exact qp2 id hid hne⟩
 ·repeat' (first | ((refine zqh fun K hK => ?_); (simp (disch := omega) only [go_sem, ↓reduceIte, q8, q9])) | (refine zqd _ rfl ?_ ?_ <;> intro hc <;> (((try simp only [z03] at hc); (try omega)))) | refine zqc ?_ | refine zqz ?_ | refine zqp ?_ | refine zqu (by simp only [go_sem]; rfl) rfl ?_ | (refine hK _ ?_; clear hK K))
  have hil : i = u.kids.length := by omega
  rw [hil, <- zii] at qHm
  (simp (disch := omega) only [go_sem, qHm])
  exact qp2
theorem zh0 {β : Type} {enc : β -> D} (he : ∀ x, pureD (enc x) = true) (l : List (Idv × β)) : z70 (.map (mapI enc l)) = true := by
 show (pureD.pureL ((mapI enc l).map (·.1)) && pureD.pureL ((mapI enc l).map (·.2))) = true
 unfold mapI
 rw [List.map_map, List.map_map, Bool.and_eq_true]
 exact ⟨z0d (fun _ => rfl) _, z0d (fun i => zc0 he l i) _⟩
theorem zyi {β : Type} (enc : β -> D) (k : Idv) (v : β) : mapI enc [(k, v)] = [(z48 k, enc v)] := by simp [mapI, z1l, z7y]
theorem zel (u : T) (hs : szB u = true) : OC prog 96 [z1f u] [.map (mapI encPl (plcs u))] (.mp 0) := by
 refine ze7 (by simp only [pureD.pureL, z0a, Bool.and_self]) rfl (fun o ho => by rw [List.mem_singleton] at ho; subst ho; exact zh0 zc6 _) (z23 [] func96 rfl (by decide +kernel) rfl ?_)
 show awp _ _ (Code.seq _ _) _ _
 repeat' (first | ((refine zqh fun K hK => ?_); (simp (disch := omega) only [go_sem, Nat.reduceBEq, ↓reduceIte, reduceCtorEq, Nat.reduceAdd, Nat.reduceLeDiff, Nat.reduceLT])) | (refine hK _ ?_; clear hK K))
 refine zka (o' := .map (mapI encPl (plcs u))) (k := 1) (zq8 2 3 1 u hs [(u.id, ⟨Idv.zero, 0, u⟩)] _ _ ?_ ?_ ?_ ?_ ?_ ?_) ?_
 any_goals
  (simp (disch := omega) only [go_sem, Nat.reduceBEq, Nat.reduceLT])
  all_goals first | omega | rfl | (rw [zyi]; rfl)
 (try (simp (disch := omega) only [go_sem])); repeat' (first | ((refine zqh fun K hK => ?_); (simp (disch := omega) only [go_sem, Nat.reduceBEq, ↓reduceIte, Nat.reduceAdd])) | refine zqn ?_ | refine zqu (by simp only [go_sem]; rfl) rfl ?_ | (refine hK _ ?_; clear hK K))
 exact ⟨fun _ => 1, by (intro i j hi hj _; simp only [List.length_cons, List.length_nil] at hi hj; omega), rfl, fun j hj => by
  simp only [List.length_cons, List.length_nil] at hj
  obtain rfl : j = 0 := by omega
  (simp (disch := omega) only [go_sem, Nat.reduceBEq])⟩
end
end Go.Proofs.YtfechgagcgbldaaGreatDoor
namespace Go.Proofs.YtfechgagcgbldaaGreatDoor.Abs
open Go.RowKit
variable {P : Program}
def zas (ops : Array Oper) (j i : Nat) : Bool := match ops[i]? with
 | some o => o.after.toList.any fun e => Region.binds .any e && e.on == j
 | none => false
def okP (own : List Nat) (ops : Array Oper) (j i : Nat) : Bool := zas ops j i || match ops[j]?, ops[i]? with
 | some x, some y => z9t own ops x y || zzp own ops x y
 | _, _ => false
def pwB (p : Nat -> Nat -> Bool) : List Nat -> Bool
 | [] => true
 | i :: l => l.all (fun k => p i k) && pwB p l
theorem z96 {p : Nat -> Nat -> Bool} : ∀ {l : List Nat}, pwB p l = true -> l.Pairwise fun j i => p j i = true
 | [], _ => List.Pairwise.nil
 | i :: l, h => by
  simp only [pwB, Bool.and_eq_true, List.all_eq_true] at h
  exact List.pairwise_cons.2 ⟨h.1, z96 h.2⟩
def zhy (ops : Array Oper) : Bool := (List.range ops.size).all fun i => match ops[i]? with
 | some o => o.after.toList.all fun e => !Region.binds .any e || decide (e.on < i)
 | none => true
section
variable {own : List Nat} {ops : Array Oper} {K : St -> Prop}
theorem zdy {j i : Nat} {oj oi : Oper} (h : okP own ops j i = true) (V : zas ops j i = false) (hj : ops[j]? = some oj) (hi : ops[i]? = some oi) : zd9 P own ops oj oi := by
 unfold okP at h
 rw [V, hj, hi] at h
 simp only [Bool.false_or, Bool.or_eq_true] at h
 rcases h with h | h
 ·exact fun st dx dy H1 H2 n1 n2 hx hy => swap h hx hy
 ·exact zvo h
theorem z76 {listed : Array Bool} {i : Nat} : i ∈ Region.ready .any ops listed ↔ i < ops.size /\ listed.getD i true = false /\ ∀ o, ops[i]? = some o -> ∀ e ∈ o.after.toList, Region.binds .any e = true -> listed.getD e.on false = true := by
 simp only [Region.ready, List.mem_filter, List.mem_range, Bool.and_eq_true, Bool.not_eq_true']
 constructor
 ·rintro ⟨h1, h2, h3⟩
  refine ⟨h1, h2, fun o ho e he hb => ?_⟩
  rw [ho] at h3
  simp only [Option.map_some, Option.getD_some, Array.all_eq_true'] at h3
  have := h3 e (by simpa using he)
  simpa [hb] using this
 ·rintro ⟨h1, h2, h3⟩
  refine ⟨h1, h2, ?_⟩
  rw [Array.getElem?_eq_getElem h1]
  simp only [Option.map_some, Option.getD_some, Array.all_eq_true']
  intro e he
  cases hb : Region.binds .any e with
  | false => rfl
  | true => simp only [Bool.not_true, Bool.false_or]; exact h3 _ (Array.getElem?_eq_getElem h1) e (by simpa using he) hb
theorem zpr {listed : Array Bool} {j : Nat} (h1 : listed.getD j true = false) (h2 : listed.getD j false = true) : False := by
 simp only [Array.getD_eq_getD_getElem?] at h1 h2
 cases h : listed[j]? with
 | none => rw [h] at h2; cases h2
 | some b => rw [h] at h1 h2; simp only [Option.getD_some] at h1 h2; rw [h1] at h2; cases h2
theorem z77 {listed : Array Bool} {j i : Nat} (hi : i ∈ Region.ready .any ops listed) (hj : listed.getD j true = false) : zas ops j i = false := by
 obtain ⟨h1, h2, h3⟩ := z76.1 hi
 cases V : zas ops j i with
 | false => rfl
 | true =>
  unfold zas at V
  split at V
  ·rename_i o ho
   obtain ⟨e, he, hb⟩ := List.any_eq_true.1 V
   simp only [z03] at hb
   have := h3 o ho e he hb.1
   rw [hb.2] at this
   exact (zpr hj this).elim
  ·cases V
theorem zgv {listed : Array Bool} (hsz : listed.size = ops.size) (hlow : zhy ops = true) (hr : Region.ready .any ops listed = []) : ∀ n, n < ops.size -> listed.getD n true = false -> False := by
 intro n
 induction n using Nat.strongRecOn with
 | _ n ih =>
  intro hn hl
  have hm : n ∉ Region.ready .any ops listed := by rw [hr]; exact List.not_mem_nil
  refine hm (z76.2 ⟨hn, hl, fun o ho e he hb => ?_⟩)
  have h1 := List.all_eq_true.1 hlow n (by simpa using hn)
  rw [ho] at h1
  have h2 := List.all_eq_true.1 h1 e he
  rw [hb] at h2
  simp only [Bool.not_true, Bool.false_or, decide_eq_true_eq] at h2
  cases h3 : listed.getD e.on false with
  | true => rfl
  | false =>
   refine (ih e.on h2 (by omega) ?_).elim
   simp only [Array.getD_eq_getD_getElem?] at h3 ⊢
   rw [Array.getElem?_eq_getElem (by omega)] at h3 ⊢
   simpa using h3
def Rest (ops : Array Oper) (listed : Array Bool) (L : List Nat) : Prop := L.Nodup /\ ∀ i, i ∈ L ↔ i < ops.size /\ listed.getD i true = false
theorem Rest.step {listed : Array Bool} {r1 r2 : List Nat} {i : Nat} (h : Rest ops listed (r1 ++ i :: r2)) : Rest ops (listed.setIfInBounds i true) (r1 ++ r2) := by
 obtain ⟨hn, hm⟩ := h
 have hp : (r1 ++ i :: r2).Perm (i :: (r1 ++ r2)) := List.perm_middle
 have hn2 := hp.nodup_iff.1 hn
 rw [List.nodup_cons] at hn2
 refine ⟨hn2.2, fun k => ?_⟩
 rw [z2s, Bool.or_eq_false_iff]
 have h1 := hm k
 rw [hp.mem_iff, List.mem_cons] at h1
 constructor
 ·intro O
  obtain ⟨g1, g2⟩ := h1.1 (.inr O)
  exact ⟨g1, g2, by simp only [beq_eq_false_iff_ne]; rintro rfl; exact hn2.1 O⟩
 ·rintro ⟨g1, g2, g3⟩
  rcases h1.2 ⟨g1, g2⟩ with rfl | O
  ·simp at g3
  ·exact O
theorem zo5 {N : Nat} {Q : Exit -> Act -> World -> Prop} (hlow : zhy ops = true) (hdst : ∀ (i : Nat) o, ops[i]? = some o -> z3y N o = true) :
  ∀ (fuel : Nat) (L : List Nat) (listed : Array Bool) (st : St) (s : RS) (a : Act) (w : World), L.length <= fuel -> listed.size = ops.size -> Rest ops listed L -> (L.Pairwise fun j i => okP own ops j i = true) -> z6b P own ops K L st -> Fr P N st s a w ->
  (∀ st' s' a' w', K st' -> Fr P N st' s' a' w' -> Step s w s' w' -> Q .normal a' w') -> wpAny P .any ops Q fuel listed a w := by
 have hend : ∀ {L : List Nat} {listed : Array Bool}, listed.size = ops.size -> Rest ops listed L -> Region.ready .any ops listed = [] -> L = [] := fun {L listed} hsz hR hr => by
  cases L with
  | nil => rfl
  | cons n L =>
   obtain ⟨h1, h2⟩ := (hR.2 n).1 (by simp)
   exact (zgv hsz hlow hr n h1 h2).elim
 intro fuel
 induction fuel with
 | zero =>
  intro L listed st s a w hl hsz hR hp hrun hf O
  have h0 : L = [] := List.eq_nil_of_length_eq_zero (by omega)
  subst h0
  refine ⟨?_, O st s a w hrun hf (Step.refl s w)⟩
  cases hr : Region.ready .any ops listed with
  | nil => rfl
  | cons i r =>
   obtain ⟨h1, h2, _⟩ := z76.1 (show i ∈ Region.ready .any ops listed by rw [hr]; simp)
   have := (hR.2 i).2 ⟨h1, h2⟩
   cases this
 | succ fuel ih =>
  intro L listed st s a w hl hsz hR hp hrun hf O
  refine ⟨fun hr => ?_, fun i hi => ?_⟩
  ·have h0 := hend hsz hR hr
   subst h0
   exact O st s a w hrun hf (Step.refl s w)
  ·obtain ⟨h1, h2, _⟩ := z76.1 hi
   have hoi := Array.getElem?_eq_getElem h1
   obtain ⟨r1, r2, rfl⟩ := List.append_of_mem ((hR.2 i).2 ⟨h1, h2⟩)
   have hpp := List.pairwise_append.1 hp
   have hun : ∀ j ∈ r1, listed.getD j true = false := fun j hj => ((hR.2 j).1 (by simp [hj])).2
   obtain ⟨o, d, H, nx, ho, hstep, hrest⟩ := zla hoi r1 r2 st (fun j hj oj hoj => zdy (hpp.2.2 j hj i (by simp)) (z77 hi (hun j hj)) hoj hoi) hrun
   refine z4c ho (hdst i o ho) hf hstep fun s' a' w' hf' hs' => ih (r1 ++ r2) _ _ s' a' w' ?_ (by simpa using hsz) hR.step ?_ hrest hf' fun st2 s2 a2 w2 hK2 hf2 hs2 => O st2 s2 a2 w2 hK2 hf2 (hs'.trans hs2)
   ·simp only [List.length_append, List.length_cons] at hl ⊢; omega
   ·exact hp.sublist (List.Sublist.append (List.Sublist.refl _) (List.sublist_cons_self _ _))
theorem any_two {N : Nat} {Q : Exit -> Act -> World -> Prop} {a b : Nat} {s1 s2 : List Nat} (hlow : zhy ops = true) (hdst : ∀ (i : Nat) o, ops[i]? = some o -> z3y N o = true)
  (hs1 : ∀ i ∈ s1, i = b \/ zas ops a i = true \/ zas ops b i = true) (hb : b ∈ s1) (ha : a ∈ s2) :
  ∀ (fuel : Nat) (pre : List Nat) (listed : Array Bool) (st : St) (s : RS) (c : Act) (w : World), pre.length + s1.length + s2.length + 1 <= fuel + s2.length -> pre.length + s2.length + 1 <= fuel -> listed.size = ops.size -> Rest ops listed (pre ++ a :: s1) -> Rest ops listed (pre ++ b :: s2) ->
  ((pre ++ [a]).Pairwise fun j i => okP own ops j i = true) -> ((pre ++ [b]).Pairwise fun j i => okP own ops j i = true) -> ((pre ++ s1).Pairwise fun j i => okP own ops j i = true) -> ((pre ++ s2).Pairwise fun j i => okP own ops j i = true) ->
  z6b P own ops (fun st => z6b P own ops K (a :: s1) st /\ z6b P own ops K (b :: s2) st) pre st -> Fr P N st s c w ->
  (∀ st' s' a' w', K st' -> Fr P N st' s' a' w' -> Step s w s' w' -> Q .normal a' w') -> wpAny P .any ops Q fuel listed c w := by
 intro fuel
 induction fuel with
 | zero => intro pre listed st s c w h1 h2; omega
 | succ fuel ih =>
  intro pre listed st s c w hl1 hl2 hsz hR1 hR2 pa pb p1 p2 hrun hf O
  have hua : listed.getD a true = false := ((hR1.2 a).1 (by simp)).2
  have hub : listed.getD b true = false := ((hR2.2 b).1 (by simp)).2
  refine ⟨fun hr => ?_, fun i hi => ?_⟩
  ·exact (zgv hsz hlow hr a ((hR1.2 a).1 (by simp)).1 hua).elim
  ·obtain ⟨h1, h2, _⟩ := z76.1 hi
   have hoi := Array.getElem?_eq_getElem h1
   have hun : ∀ j ∈ pre, listed.getD j true = false := fun j hj => ((hR1.2 j).1 (by simp [hj])).2
   have toB : i = b -> wpOp P ops Q i (wpAny P .any ops Q fuel (listed.setIfInBounds i true)) c w := fun hib => by
    subst hib
    have hpp := List.pairwise_append.1 pb
    have hrun2 : z6b P own ops K (pre ++ i :: s2) st := by
     rw [z36]; exact z56 (fun _ h => h.2) _ _ hrun
    obtain ⟨o, d, H, nx, ho, hstep, hrest⟩ := zla hoi pre s2 st (fun j hj oj hoj => zdy (hpp.2.2 j hj i (by simp)) (z77 hi (hun j hj)) hoj hoi) hrun2
    refine z4c ho (hdst i o ho) hf hstep fun s' a' w' hf' hs' => zo5 hlow hdst fuel (pre ++ s2) _ _ s' a' w' ?_ (by simpa using hsz) hR2.step p2 hrest hf' fun st2 s2 a2 w2 hK2 hf2 hs2 => O st2 s2 a2 w2 hK2 hf2 (hs'.trans hs2)
    simp only [List.length_append]; omega
   have hm := (hR1.2 i).2 ⟨h1, h2⟩
   rw [List.mem_append, List.mem_cons] at hm
   rcases hm with hm | rfl | hm
   ·obtain ⟨r1, r2, rfl⟩ := List.append_of_mem hm
    have hpp := List.pairwise_append.1 (List.pairwise_append.1 pa).1
    obtain ⟨o, d, H, nx, ho, hstep, hrest⟩ := zla hoi r1 r2 st (fun j hj oj hoj => zdy (hpp.2.2 j hj i (by simp)) (z77 hi (hun j (by simp [hj]))) hoj hoi) hrun
    have sub : (r1 ++ r2).Sublist (r1 ++ i :: r2) := List.Sublist.append (List.Sublist.refl _) (List.sublist_cons_self _ _)
    have hR1' : Rest ops (listed.setIfInBounds i true) ((r1 ++ r2) ++ a :: s1) := by
     have h := hR1
     rw [List.append_assoc, List.cons_append] at h
     rw [List.append_assoc]; exact h.step
    have hR2' : Rest ops (listed.setIfInBounds i true) ((r1 ++ r2) ++ b :: s2) := by
     have h := hR2
     rw [List.append_assoc, List.cons_append] at h
     rw [List.append_assoc]; exact h.step
    refine z4c ho (hdst i o ho) hf hstep fun s' a' w' hf' hs' => ih (r1 ++ r2) _ _ s' a' w' ?_ ?_ (by simpa using hsz) hR1' hR2' (pa.sublist (List.Sublist.append sub (List.Sublist.refl _))) (pb.sublist (List.Sublist.append sub (List.Sublist.refl _))) (p1.sublist (List.Sublist.append sub (List.Sublist.refl _))) (p2.sublist (List.Sublist.append sub (List.Sublist.refl _))) hrest hf' fun st2 s2 a2 w2 hK2 hf2 hs2 => O st2 s2 a2 w2 hK2 hf2 (hs'.trans hs2)
    ·simp only [List.length_append, List.length_cons] at hl1 ⊢; omega
    ·simp only [List.length_append, List.length_cons] at hl2 ⊢; omega
   ·have hpp := List.pairwise_append.1 pa
    have hrun2 : z6b P own ops K (pre ++ i :: s1) st := by
     rw [z36]; exact z56 (fun _ h => h.1) _ _ hrun
    obtain ⟨o, d, H, nx, ho, hstep, hrest⟩ := zla hoi pre s1 st (fun j hj oj hoj => zdy (hpp.2.2 j hj i (by simp)) (z77 hi (hun j hj)) hoj hoi) hrun2
    refine z4c ho (hdst i o ho) hf hstep fun s' a' w' hf' hs' => zo5 hlow hdst fuel (pre ++ s1) _ _ s' a' w' ?_ (by simpa using hsz) hR1.step p1 hrest hf' fun st2 s2 a2 w2 hK2 hf2 hs2 => O st2 s2 a2 w2 hK2 hf2 (hs'.trans hs2)
    simp only [List.length_append]; omega
   ·rcases hs1 i hm with h | h | h
    ·exact toB h
    ·rw [z77 hi hua] at h; cases h
    ·rw [z77 hi hub] at h; cases h
def twoOK (own : List Nat) (ops : Array Oper) (pre : List Nat) (a b : Nat) (s1 s2 : List Nat) : Bool :=
 zhy ops && (s1.all fun i => i == b || zas ops a i || zas ops b i) && s1.contains b && s2.contains a &&
 pwB (okP own ops) (pre ++ [a]) && pwB (okP own ops) (pre ++ [b]) && pwB (okP own ops) (pre ++ s1) && pwB (okP own ops) (pre ++ s2) &&
 pwB (fun j i => j != i) (pre ++ a :: s1) && pwB (fun j i => j != i) (pre ++ b :: s2) &&
 ((pre ++ a :: s1).all fun i => decide (i < ops.size)) && ((pre ++ b :: s2).all fun i => decide (i < ops.size)) &&
 decide ((pre ++ a :: s1).length = ops.size) && decide ((pre ++ b :: s2).length = ops.size) && ((List.range ops.size).all fun i => (pre ++ a :: s1).contains i && (pre ++ b :: s2).contains i)
theorem sem_two {N id : Nat} {Q : Exit -> St -> Prop} {st : St} (hm : P.follows .mixedOrders = true) (hdst : ∀ o ∈ ops.toList, z3y N o = true) (pre : List Nat) (a b : Nat) (s1 s2 : List Nat) (hok : twoOK own ops pre a b s1 s2 = true)
  (h : zd8 P own ops (Q .normal) (.fork pre (.run (a :: s1)) (.run (b :: s2))) st) : Sem P N (.region id ops true) Q st := by
 intro s0 w0 s c w hf hs
 obtain ⟨hds, hdr⟩ := z7s (w' := { w with drawn := w.drawn + 1 }) hf.heap rfl rfl rfl rfl
 have hf' : Fr P N st s c { w with drawn := w.drawn + 1 } := ⟨hf.H, hf.nx, hf.size, hf.defers, hf.tmps, hdr⟩
 have hdst2 : ∀ (i : Nat) o, ops[i]? = some o -> z3y N o = true := fun i o ho => hdst o (by
  obtain ⟨h1, h2⟩ := (Array.getElem?_eq_some_iff.1 ho)
  rw [<- h2]; exact (Array.mem_toList_iff.2 (Array.getElem_mem h1)))
 simp only [twoOK, Bool.and_eq_true, List.all_eq_true, Bool.or_eq_true, beq_iff_eq, decide_eq_true_eq, List.contains_iff_mem, List.mem_range] at hok
 obtain ⟨⟨⟨⟨⟨⟨⟨⟨⟨⟨⟨⟨⟨⟨k1, k2⟩, k3⟩, k4⟩, k5⟩, k6⟩, k7⟩, k8⟩, k9⟩, k10⟩, k11⟩, k12⟩, k13⟩, k14⟩, k15⟩ := hok
 have nd : ∀ {L : List Nat}, pwB (fun j i => j != i) L = true -> L.Nodup := fun h => (z96 h).imp fun h => by simpa using h
 have gl : ∀ i, i < ops.size -> (Array.replicate ops.size false).getD i true = false := fun i hi => by
  simp [Array.getD_eq_getD_getElem?, hi]
 have hR1 : Rest ops (Array.replicate ops.size false) (pre ++ a :: s1) := ⟨nd k9, fun i => ⟨fun hi => ⟨k11 i hi, gl i (k11 i hi)⟩, fun hi => (k15 i hi.1).1⟩⟩
 have hR2 : Rest ops (Array.replicate ops.size false) (pre ++ b :: s2) := ⟨nd k10, fun i => ⟨fun hi => ⟨k12 i hi, gl i (k12 i hi)⟩, fun hi => (k15 i hi.1).2⟩⟩
 simp only [List.length_append, List.length_cons] at k13 k14
 exact wp_region_any hm (any_two (Q := lift P N s0 w0 Q) k1 hdst2 (fun i hi => by rcases k2 i hi with (h | h) | h; (· exact .inl h); (· exact .inr (.inl h)); (· exact .inr (.inr h))) k3 k4 ops.size pre _ st s c _ (by omega) (by omega) (by simp) hR1 hR2 (z96 k5) (z96 k6) (z96 k7) (z96 k8) h hf' fun st' s' a' w' hK hf2 hs2 => ⟨st', s', hK, hf2, hs.trans (hds.trans hs2)⟩)
end
end Go.Proofs.YtfechgagcgbldaaGreatDoor.Abs
namespace Go.Proofs.YtfechgagcgbldaaGreatDoor.Abs
theorem zl6 {P : Program} {st : St} {id j n : Nat} {e : TypeId} {cs : List D} (hH : st.H id = some (.row e n cs)) (ho : zmm P e = true) (hp : pureD.pureL cs = true) (hj : st.t j = .osl id n) :
  SealTo P st ((st.withH (z17 st.H id none) st.nx).put (some j) (.rsl false (z01 P e) (z1j (z08 P e) (z01 P e) n cs))) := by
 intro N s a w hf
 have hid : s.H id = some (.row e n cs) := by rw [hf.H]; exact hH
 obtain ⟨g1, g2⟩ := zfu hf.heap (id := id) (by rw [hid]; simp)
 refine ⟨s.shut1 w id, ⟨?_, hf.nx, hf.size, hf.defers, fun i => ?_, g2⟩, g1⟩
 ·show z17 s.H id none = _
  rw [hf.H]; rfl
 ·by_cases hij : i = j
  ·subst hij
   have ht := hf.tmps i
   rw [hj] at ht
   have hs : zeq P (.osl id n, s.H, s.nx) = some (.rsl false (z01 P e) (z1j (z08 P e) (z01 P e) n cs), z17 s.H id none, s.nx) := by
    unfold zeq
    simp only [hid]
    rw [if_pos ⟨trivial, ho, hp⟩]
   obtain ⟨s2, _, _, _, _, hr2, he2⟩ := zfv hf.heap rfl rfl ht hs
   have he3 := he2 id n rfl
   subst he3
   show rel _ (zwx st.t i _ i) _
   rw [show zwx st.t i (.rsl false (z01 P e) (z1j (z08 P e) (z01 P e) n cs)) i = _ from if_pos rfl]
   exact hr2
  ·show rel _ (zwx st.t j _ i) _
   rw [show zwx st.t j (.rsl false (z01 P e) (z1j (z08 P e) (z01 P e) n cs)) i = st.t i from if_neg hij]
   exact rel.later g1.later _ _ (hf.tmps i)
end Go.Proofs.YtfechgagcgbldaaGreatDoor.Abs
namespace Go.Proofs.YtfechgagcgbldaaGreatDoor
open _root_.Go.Proofs.Tryz
section
open Abs Facts Tr
attribute [local irreducible] awp
set_option maxRecDepth 100000
namespace Abs
theorem Sem.cutS {P : Program} {N : Nat} {x y : Code} {Q : Exit -> St -> Prop} {st : St} (I : St -> Prop) (h1 : Sem P N x (zl3 (fun st => ∃ st', SealTo P st st' /\ I st') Q) st) (h2 : ∀ st, I st -> Sem P N y Q st) : Sem P N (.seq x y) Q st :=
 Sem.seq (Sem.mono h1 fun e st h => by
  cases e with
  | normal => obtain ⟨st', hs, hI⟩ := h; exact Sem.seal st' hs (h2 st' hI)
  | _ => exact h)
end Abs
namespace Tr
theorem zoc (s : Idv -> Bool) (bs : List Idv) (x : T) : ∀ (l : List T) (i : Nat), prK s bs (l ++ [x]) i = prK s bs l i ++ if s x.id = true then [(i + l.length, bs.idxOf x.id)] else []
 | [], i => by
  simp only [List.nil_append, prK, List.length_nil, Nat.add_zero]
 | y :: l, i => by
  rw [List.cons_append, prK, prK, zoc s bs x l (i + 1)]
  have e : i + 1 + l.length = i + (y :: l).length := by simp; omega
  rw [e]
  split <;> rfl
end Tr
theorem zod (i : Idv) : ∀ l : List T, z3u (fun y => decide (y.id = i)) l = (l.map T.id).idxOf i
 | [] => rfl
 | y :: l => by
  have ih := zod i l
  unfold z3u at ih ⊢
  rw [List.map_cons, List.idxOf_cons, List.takeWhile_cons]
  by_cases h : y.id = i
  ·simp [h]
  ·have hb : (y.id == i) = false := by simpa using h
   simp [h, hb, ih]
theorem zts (x k : T) : PC prog 49 [z1f k, .rptr (z1f x)] (.bool (decide (k.id = x.id))) := by
 refine z2f 1 (by simp only [pureD.pureL, z0a, pureD, Bool.and_self]) rfl (z23 [] func49 rfl (by decide +kernel) rfl ?_)
 show awp _ _ (Code.seq _ _) _ _
 repeat' (first | ((refine zqh fun K hK => ?_); (simp (disch := omega) only [go_sem, Nat.reduceBEq, ↓reduceIte, reduceCtorEq, Nat.reduceAdd, Nat.reduceLeDiff])) | refine zqn ?_ | refine zqu (by simp only [go_sem]; rfl) rfl ?_ | (refine hK _ ?_; clear hK K))
 exact z00 rfl
theorem zav {A : T} (hn : (idsT A).Nodup) (i : Idv) : (z26 i A = true /\ (findR i A).1 ∈ nodesT A /\ ∃ n, z3x prog 23 (.agg [.int .i64 i.act, .int .i64 i.item, .int .i64 i.n]) (mapI z1f ((nodesT A).map unP)) = some (some (n, .agg (z06 (findR i A).1)))) \/
  (z26 i A = false /\ (findR i A).1 = T.zero /\ z3x prog 23 (.agg [.int .i64 i.act, .int .i64 i.item, .int .i64 i.n]) (mapI z1f ((nodesT A).map unP)) = some none) := by
 have O : ((nodesT A).map unP).map (·.1) = idsT A := by rw [List.map_map]; rfl
 have hg := ze0 z1f ((nodesT A).map unP) i
 rw [O] at hg
 cases h : z26 i A with
 | true =>
  have h1 := z3o (id := i) (u := A) h
  have h2 := zah (id := i) (t := A) h
  have h3 : (i, (findR i A).1) ∈ (nodesT A).map unP := List.mem_map.2 ⟨_, h1, by unfold unP; rw [h2]⟩
  rw [if_pos (by rw [z1k, decide_eq_true_eq] at h; exact h), zb7 (by rw [O]; exact hn) h3] at hg
  exact .inl ⟨rfl, h1, _, hg⟩
 | false =>
  rw [if_neg (by rw [z1k, decide_eq_false_iff_not] at h; exact h)] at hg
  refine .inr ⟨rfl, ?_, hg⟩
  unfold z26 findR at h
  unfold findR
  split at h
  ·cases h
  ·rfl
theorem ztt (x y : T) (r : TT) (j0 j j2 b : Nat) {H : HM} {nx : Nat} (hb : b < nx) (hHb : H b = some (.box 52 [.mp j0, .mp j, .mp j2]))
  (h : ∀ H2 n2, nx <= n2 -> z3z nx H H2 -> RC prog 23 [.agg [.mp j0, .mp j, .mp j2], z1f y] H2 n2 (z58 r)) :
  RC prog 52 [z1f x, z1f y, .ptr b 0] H nx (z58 r) := by
 have hq := z05 hb
 refine RC_keep (z2j _) (z23 [] func52 rfl (by decide +kernel) rfl ?_)
 show awp _ _ (Code.seq _ _) _ _
 rw [show Tryz.f52.results.toList = [.cell 5 33] from rfl]
 repeat' (first | ((refine zqh fun K hK => ?_); (simp (disch := omega) only [go_sem, Nat.reduceBEq, ↓reduceIte, Nat.reduceAdd, Nat.reduceLeDiff, hq, hHb])) | (refine hK _ ?_; clear hK K))
 refine z41 (h _ _ ?_ ?_) ?_
 ·(simp (disch := omega) only [go_sem])
  all_goals omega
 ·intro id hid
  (simp (disch := omega) only [go_sem])
  simp (disch := omega) only [z0h]
 (try (simp (disch := omega) only [go_sem, Nat.reduceBEq, ↓reduceIte, Nat.reduceAdd, Nat.reduceLeDiff, hq])); repeat' (first | refine zqn ?_ | refine zqu (by (simp (disch := omega) only [go_sem, Nat.reduceBEq, ↓reduceIte, Nat.reduceLeDiff, hq]); rfl) rfl ?_ | (refine hK _ ?_; clear hK K))
 refine ⟨rfl, fun id hid => ?_⟩
 (simp (disch := omega) only [go_sem])
 simp (disch := omega) only [z0h]
set_option maxHeartbeats 16000000 in
theorem zyb (A B : T) (ms : List Idv) (hbk : Books A B (fun i => decide (i ∈ ms))) (hA : szB A = true) (hB : szB B = true) (j0 j j2 : Nat) : ∀ u : T, u ∈ nodesT B -> szB u = true -> ∀ H nx, j0 < nx -> j < nx -> j2 < nx -> H j0 = some (zca A) -> H j = some (zca B) -> H j2 = some (.map (setI ms)) ->
  RC prog 23 [.agg [.mp j0, .mp j, .mp j2], z1f u] H nx (z58 (z2l A B (fun i => decide (i ∈ ms)) u)) := by
 refine z50 fun u ih hu hs H nx hj0 hj hj2 hHj0 hHj hHj2 => ?_
 obtain ⟨h0, h1, g1, h2, g2, h3, h4⟩ := (z2o u).1 hs
 obtain ⟨x, hx⟩ : ∃ x, x = (findR u.id A).1 := ⟨_, rfl⟩
 have xs : szB x = true := by
  rcases zav hbk.na u.id with ⟨_, h, _⟩ | ⟨_, h, _⟩
  ·rw [hx]; exact z95 A hA _ h
  ·rw [hx, h]; decide +kernel
 obtain ⟨x0, x1, y1, x2, y2, x3, x4⟩ := (z2o x).1 xs
 have c1 := z91 x.head u.head x1 h1
 have c2 := z91 x.words u.words x2 h2
 unfold z0k at c1 c2
 have hr0 := z05 hj0
 have hr05 := zbh hj0
 have hr06 := ze2 hj0
 have hr := z05 hj
 have hr5 := zbh hj
 have hr6 := ze2 hj
 have hr2 := z05 hj2
 have hr25 := zbh hj2
 have hr26 := ze2 hj2
 have hfm := zcr u.id ms
 refine znv (k := 4) (z2j _) ?_
 unfold zca at hHj0 hHj
 refine zaq func23 rfl (by decide +kernel) (by simp [ntmps23]) ?_
 rw [show Tryz.f23.results.toList = [.cell 4 33] from rfl]
 rw [z8d, <- hx]
 have hbox : ∀ st : St, st.H (nx + 3) = some (.box 27 [.int .i64 0, .int .i64 0, .int .i64 0, .int .i64 0, .str ByteArray.empty, .nil, .nil, .nil]) -> SealTo prog st { st with H := z17 st.H (nx + 3) (some (.box 27 (z06 T.zero))) } := fun st h => zz0 h (by rw [z0n]; exact ⟨Le.refl _, Le.refl _, Le.refl _, Le.refl _, Le.refl _, Le.nil 4, Le.nil 4, Le.nil 8, trivial⟩)
 obtain ⟨mv, hmv⟩ : ∃ mv, mv = decide (u.id ∈ ms) := ⟨_, rfl⟩
 refine Sem.seq (Sem.walk (own := []) z6z (by decide +kernel) ?_)
 repeat' (first | ((refine zqr fun K hK => ?_); (simp (disch := omega) only [go_sem, Nat.reduceBEq])) | refine zqv ?_ | (refine hK _ ?_; clear hK K))
 (refine Sem.cutS (fun st => st.t 2 = .ptr nx 0 /\ st.t 3 = .ptr (nx + 1) 0 /\ st.t 4 = .ptr (nx + 2) 0 /\ st.t 5 = .ptr (nx + 3) 0 /\ st.t 6 = .bool (z26 u.id A) /\ st.H (nx) = some (.box 52 [.mp j0, .mp j, .mp j2]) /\ st.H (nx + 1) = some (.box 27 (z06 u)) /\ st.H (nx + 2) = some (.box 33 [.int .i64 0, .int .i64 0, .int .i64 0, .int .i64 0, .int .i64 0, .str ByteArray.empty, .str ByteArray.empty, .bool false, .nil, .nil, .nil]) /\ st.H (nx + 3) = some (.box 27 (z06 x)) /\ st.nx = nx + 4 /\ (∀ id, id < nx -> st.H id = H id)) ?_ ?_); rotate_left; (rintro st ⟨p2, p3, p4, p5, p6, pHnx, pHnx1, pHnx2, pHnx3, pnx, pp0⟩); rotate_left
 ·refine Sem.walk (own := []) z6z (by decide +kernel) ?_
  rcases zav hbk.na u.id with ⟨ha, hxn, n, hf⟩ | ⟨ha, hx0, hf⟩
  ·rw [<- hx] at hf hxn
   repeat' (first | ((refine zqr fun K hK => ?_); (simp (disch := omega) only [go_sem, Nat.reduceBEq, ↓reduceIte, reduceCtorEq, Nat.reduceAdd, Nat.reduceLeDiff, hr0, hHj0, hf])) | refine zqv ?_ | (refine hK _ ?_; clear hK K))
   refine ⟨_, SealTo.refl _, ?_⟩
   (simp (disch := omega) only [go_sem, Nat.reduceBEq, hr0, ha])
   exact fun id hid => by simp (disch := omega) only [z0h]
  ·rw [<- hx] at hx0
   subst hx0
   repeat' (first | ((refine zqr fun K hK => ?_); (simp (disch := omega) only [go_sem, Nat.reduceBEq, ↓reduceIte, reduceCtorEq, Nat.reduceAdd, Nat.reduceLeDiff, hr0, hHj0, hf])) | refine zqv ?_ | (refine hK _ ?_; clear hK K))
   refine ⟨_, hbox _ (by (simp (disch := omega) only [go_sem, hr0])), ?_⟩
   (simp (disch := omega) only [go_sem, Nat.reduceBEq, hr0, ha])
   exact fun id hid => by simp (disch := omega) only [z0h]
 have hj0x : st.H j0 = some (.map (mapI z1f ((nodesT A).map unP))) := by rw [pp0 _ hj0]; exact hHj0
 have hjx : st.H j = some (.map (mapI z1f ((nodesT B).map unP))) := by rw [pp0 _ hj]; exact hHj
 have hj2x : st.H j2 = some (.map (setI ms)) := by rw [pp0 _ hj2]; exact hHj2
 (refine Sem.cutS (fun st => st.t 2 = .ptr nx 0 /\ st.t 3 = .ptr (nx + 1) 0 /\ st.t 4 = .ptr (nx + 2) 0 /\ st.t 5 = .ptr (nx + 3) 0 /\ st.t 6 = .bool (z26 u.id A) /\ st.H (nx) = some (.box 52 [.mp j0, .mp j, .mp j2]) /\ st.H (nx + 1) = some (.box 27 (z06 u)) /\ st.H (nx + 2) = some (.box 33 [.int .i64 0, .int .i64 0, .int .i64 0, .int .i64 0, .int .i64 0, .str ByteArray.empty, .str ByteArray.empty, .bool false, .nil, .nil, .nil]) /\ st.H (nx + 3) = some (.box 27 (z06 x)) /\ st.t 7 = .ptr (nx + 4) 0 /\ st.H (nx + 4) = some (.box 33 [.int .i64 0, .int .i64 u.kind, .int .i64 u.id.act, .int .i64 u.id.item, .int .i64 u.id.n, .str u.label, .str ByteArray.empty, .bool mv, z0k (z3h (txt x.head) (txt u.head)), z0k (z3h (txt x.words) (txt u.words)), .nil]) /\ st.nx = nx + 5 /\ (∀ id, id < nx -> st.H id = H id)) ?_ ?_); rotate_left; (rintro st ⟨q2, q3, q4, q5, q6, qHnx, qHnx1, qHnx2, qHnx3, q7, qHnx4, qnx, qp0⟩); rotate_left
 ·have hbr : ∃ o, z3x prog 23 (.agg [.int .i64 u.id.act, .int .i64 u.id.item, .int .i64 u.id.n]) (setI ms) = some o /\ ((∃ n, o = some (n, .bool true) /\ mv = true) \/ (o = none /\ mv = false)) := by
   by_cases hm : u.id ∈ ms
   ·rw [if_pos hm] at hfm; exact ⟨_, hfm, .inl ⟨_, rfl, by rw [hmv, decide_eq_true hm]⟩⟩
   ·rw [if_neg hm] at hfm; exact ⟨_, hfm, .inr ⟨rfl, by rw [hmv, decide_eq_false hm]⟩⟩
  obtain ⟨o, hfo, ho⟩ := hbr
  refine sem_two (own := [8000000, 3000023, 3000025, 3000027, 3000029, 3000031, 5000032, 3000034, 3000036, 5000037, 3000039, 3000041]) z6z (by decide +kernel) [0, 1, 2, 3, 4, 5, 6, 7, 8, 9, 10, 11, 12, 13, 14, 15, 16, 17, 18, 19] 20 22 [21, 22, 23] [20, 21, 23] (by decide +kernel) ?_
  refine zcf ?_ rfl
  (simp (disch := omega) only [go_sem, Nat.reduceBEq, Nat.reduceEqDiff, ↓reduceIte, reduceCtorEq, Nat.reduceAdd, Nat.reduceLeDiff, p3, p5, pHnx1, pHnx3, pnx, z9l, zsd, List.map_cons, List.map_nil, z1y])
  refine zqt c1 ?_
  (simp (disch := omega) only [go_sem, Nat.reduceBEq, Nat.reduceEqDiff, ↓reduceIte, reduceCtorEq, Nat.reduceAdd, p3, p5, pHnx1, pHnx3, pnx, List.map_cons, List.map_nil, z1y])
  refine zqt c2 ?_
  (simp (disch := omega) only [go_sem, Nat.reduceBEq, Nat.reduceEqDiff, ↓reduceIte, reduceCtorEq, Nat.reduceAdd, Nat.reduceLeDiff, p2, p3, pHnx, pHnx1, pnx])
  rcases ho with ⟨n, rfl, rfl⟩ | ⟨rfl, rfl⟩
  ·refine ⟨?_, ?_⟩
   ·refine z67 ?_ rfl
    (simp (disch := omega) only [go_sem, Nat.reduceBEq, Nat.reduceEqDiff, ↓reduceIte, Nat.reduceAdd, Nat.reduceLeDiff, pnx, z9l, zsd, List.map_cons, List.map_nil, hfo, hj2x])
    refine ⟨_, SealTo.refl _, ?_⟩
    (simp (disch := omega) only [go_sem, Nat.reduceBEq, p2, p3, p4, p5, p6, pHnx, pHnx1, pHnx2, pHnx3, hr05, z0k])
    exact fun id hid => by simp (disch := omega) only [z0h]; exact pp0 id hid
   ·refine z67 ?_ rfl
    (simp (disch := omega) only [go_sem, Nat.reduceBEq, Nat.reduceEqDiff, ↓reduceIte, Nat.reduceAdd, Nat.reduceLeDiff, pnx, hr25, z9l, zsd, List.map_cons, List.map_nil, hfo, hj2x])
    refine ⟨_, SealTo.refl _, ?_⟩
    (simp (disch := omega) only [go_sem, Nat.reduceBEq, p2, p3, p4, p5, p6, pHnx, pHnx1, pHnx2, pHnx3, hr05, z0k])
    exact fun id hid => by simp (disch := omega) only [z0h]; exact pp0 id hid
  ·refine ⟨?_, ?_⟩
   ·refine z67 ?_ rfl
    (simp (disch := omega) only [go_sem, Nat.reduceBEq, Nat.reduceEqDiff, ↓reduceIte, Nat.reduceAdd, Nat.reduceLeDiff, pnx, z9l, zsd, List.map_cons, List.map_nil, hfo, hj2x])
    refine ⟨_, SealTo.refl _, ?_⟩
    (simp (disch := omega) only [go_sem, Nat.reduceBEq, p2, p3, p4, p5, p6, pHnx, pHnx1, pHnx2, pHnx3, hr05, z0k])
    exact fun id hid => by simp (disch := omega) only [z0h]; exact pp0 id hid
   ·refine z67 ?_ rfl
    (simp (disch := omega) only [go_sem, Nat.reduceBEq, Nat.reduceEqDiff, ↓reduceIte, Nat.reduceAdd, Nat.reduceLeDiff, pnx, hr25, z9l, zsd, List.map_cons, List.map_nil, hfo, hj2x])
    refine ⟨_, SealTo.refl _, ?_⟩
    (simp (disch := omega) only [go_sem, Nat.reduceBEq, p2, p3, p4, p5, p6, pHnx, pHnx1, pHnx2, pHnx3, hr05, z0k])
    exact fun id hid => by simp (disch := omega) only [z0h]; exact pp0 id hid
 obtain ⟨S, hS⟩ : ∃ S : Int, S = if z26 u.id A = true /\ mv = false then 0 else 1 := ⟨_, rfl⟩
 obtain ⟨W, hW⟩ : ∃ W, W = if z26 u.id A = true /\ x.label ≠ u.label then x.label else ByteArray.empty := ⟨_, rfl⟩
 refine Sem.walk (own := [8]) z6z (by decide +kernel) ?_
 refine zqj ?_
 (refine z7w (fun st => st.t 2 = .ptr nx 0 /\ st.t 3 = .ptr (nx + 1) 0 /\ st.t 4 = .ptr (nx + 2) 0 /\ st.t 5 = .ptr (nx + 3) 0 /\ st.t 6 = .bool (z26 u.id A) /\ st.H (nx) = some (.box 52 [.mp j0, .mp j, .mp j2]) /\ st.H (nx + 1) = some (.box 27 (z06 u)) /\ st.H (nx + 2) = some (.box 33 [.int .i64 0, .int .i64 0, .int .i64 0, .int .i64 0, .int .i64 0, .str ByteArray.empty, .str ByteArray.empty, .bool false, .nil, .nil, .nil]) /\ st.H (nx + 3) = some (.box 27 (z06 x)) /\ st.t 7 = .ptr (nx + 4) 0 /\ st.H (nx + 4) = some (.box 33 [.int .i64 S, .int .i64 u.kind, .int .i64 u.id.act, .int .i64 u.id.item, .int .i64 u.id.n, .str u.label, .str ByteArray.empty, .bool mv, z0k (z3h (txt x.head) (txt u.head)), z0k (z3h (txt x.words) (txt u.words)), .nil]) /\ st.nx = nx + 5 /\ (∀ id, id < nx -> st.H id = H id)) ?_ ?_); rotate_left; (rintro st ⟨r2, r3, r4, r5, r6, rHnx, rHnx1, rHnx2, rHnx3, r7, rHnx4, rnx, rp0⟩); rotate_left
 ·rcases Bool.eq_false_or_eq_true (z26 u.id A) with ha | ha <;> rcases Bool.eq_false_or_eq_true mv with hm2 | hm2
  ·rw [ha, hm2] at hS
   repeat' (first | ((first | refine zqh fun K hK => ?_ | refine zqr fun K hK => ?_); (simp (disch := omega) only [go_sem, Nat.reduceBEq, ↓reduceIte, reduceCtorEq, Nat.reduceAdd, Nat.reduceLeDiff, Nat.reduceLT, q6, q7, qHnx4, qnx, ha, hm2])) | ((refine zqm _ rfl (fun hc => ?_) (fun hc => ?_)) <;> (first | (cases hc; done) | ((try simp only [] at hc); (try omega)))) | refine zqv ?_ | (refine hK _ ?_; clear hK K))
   (simp (disch := omega) only [go_sem, Nat.reduceBEq, ↓reduceIte, reduceCtorEq, q2, q3, q4, q5, q6, qHnx, qHnx1, qHnx2, qHnx3, q7, qHnx4, true_and, hr05, ha, hm2, hS])
   first | exact qp0 | exact fun id hid => by simp (disch := omega) only [z0h]; exact qp0 id hid
  ·rw [ha, hm2] at hS
   repeat' (first | ((refine zqh fun K hK => ?_); (simp (disch := omega) only [go_sem, Nat.reduceBEq, ↓reduceIte, reduceCtorEq, Nat.reduceAdd, q6, q7, qHnx4, ha, hm2])) | ((refine zqm _ rfl (fun hc => ?_) (fun hc => ?_)) <;> (first | (cases hc; done) | ((try simp only [] at hc); (try omega)))) | refine zqk ?_ | refine zqv ?_ | (refine hK _ ?_; clear hK K))
   (simp (disch := omega) only [go_sem, Nat.reduceBEq, ↓reduceIte, q2, q3, q4, q5, q6, qHnx, qHnx1, qHnx2, qHnx3, q7, qHnx4, qnx, true_and, and_self, ha, hm2, hS])
   first | exact qp0 | exact fun id hid => by simp (disch := omega) only [z0h]; exact qp0 id hid
  ·rw [ha, hm2] at hS
   repeat' (first | ((first | refine zqh fun K hK => ?_ | refine zqr fun K hK => ?_); (simp (disch := omega) only [go_sem, Nat.reduceBEq, ↓reduceIte, reduceCtorEq, Nat.reduceAdd, Nat.reduceLeDiff, Nat.reduceLT, q6, q7, qHnx4, qnx, ha, hm2])) | ((refine zqm _ rfl (fun hc => ?_) (fun hc => ?_)) <;> (first | (cases hc; done) | ((try simp only [] at hc); (try omega)))) | refine zqv ?_ | (refine hK _ ?_; clear hK K))
   (simp (disch := omega) only [go_sem, Nat.reduceBEq, ↓reduceIte, reduceCtorEq, q2, q3, q4, q5, q6, qHnx, qHnx1, qHnx2, qHnx3, q7, qHnx4, true_and, and_self, hr05, ha, hm2, hS])
   first | exact qp0 | exact fun id hid => by simp (disch := omega) only [z0h]; exact qp0 id hid
  ·rw [ha, hm2] at hS
   repeat' (first | ((first | refine zqh fun K hK => ?_ | refine zqr fun K hK => ?_); (simp (disch := omega) only [go_sem, Nat.reduceBEq, ↓reduceIte, reduceCtorEq, Nat.reduceAdd, Nat.reduceLeDiff, Nat.reduceLT, q6, q7, qHnx4, qnx, ha, hm2])) | ((refine zqm _ rfl (fun hc => ?_) (fun hc => ?_)) <;> (first | (cases hc; done) | ((try simp only [] at hc); (try omega)))) | refine zqv ?_ | (refine hK _ ?_; clear hK K))
   (simp (disch := omega) only [go_sem, Nat.reduceBEq, ↓reduceIte, q2, q3, q4, q5, q6, qHnx, qHnx1, qHnx2, qHnx3, q7, qHnx4, true_and, and_true, hr05, ha, hm2, hS])
   first | exact qp0 | exact fun id hid => by simp (disch := omega) only [z0h]; exact qp0 id hid
 (refine z7w (fun st => st.t 2 = .ptr nx 0 /\ st.t 3 = .ptr (nx + 1) 0 /\ st.t 4 = .ptr (nx + 2) 0 /\ st.t 5 = .ptr (nx + 3) 0 /\ st.t 6 = .bool (z26 u.id A) /\ st.H (nx) = some (.box 52 [.mp j0, .mp j, .mp j2]) /\ st.H (nx + 1) = some (.box 27 (z06 u)) /\ st.H (nx + 2) = some (.box 33 [.int .i64 0, .int .i64 0, .int .i64 0, .int .i64 0, .int .i64 0, .str ByteArray.empty, .str ByteArray.empty, .bool false, .nil, .nil, .nil]) /\ st.H (nx + 3) = some (.box 27 (z06 x)) /\ st.t 7 = .ptr (nx + 4) 0 /\ st.H (nx + 4) = some (.box 33 [.int .i64 S, .int .i64 u.kind, .int .i64 u.id.act, .int .i64 u.id.item, .int .i64 u.id.n, .str u.label, .str W, .bool mv, z0k (z3h (txt x.head) (txt u.head)), z0k (z3h (txt x.words) (txt u.words)), .nil]) /\ st.t 8 = .osl (nx + 5) 0 /\ st.H (nx + 5) = some (.row 90 0 []) /\ st.nx = nx + 6 /\ (∀ id, id < nx -> st.H id = H id)) ?_ ?_); rotate_left; (rintro st ⟨v2, v3, v4, v5, v6, vHnx, vHnx1, vHnx2, vHnx3, v7, vHnx4, v8, vHnx5, vnx, vp0⟩); rotate_left
 ·rcases Bool.eq_false_or_eq_true (z26 u.id A) with ha | ha
  ·by_cases hl : x.label = u.label
   ·rw [if_neg (by rw [hl]; simp)] at hW
    repeat' (first | refine zqj ?_ | ((first | refine zqh fun K hK => ?_ | refine zqr fun K hK => ?_); (simp (disch := omega) only [go_sem, Nat.reduceBEq, ↓reduceIte, reduceCtorEq, Nat.reduceAdd, r3, r5, r6, rHnx1, rHnx3, rnx, ha, hl])) | (refine zqd _ rfl ?_ ?_ <;> intro hc <;> (first | (cases hc; done) | ((try simp only [] at hc); (try omega)))) | refine zqb ?_ | refine zqv ?_ | (refine hK _ ?_; clear hK K))
    (simp (disch := omega) only [go_sem, Nat.reduceBEq, r2, r3, r4, r5, r6, rHnx, rHnx1, rHnx2, rHnx3, r7, rHnx4, true_and, hr06, ha, hW])
    first | exact rp0 | exact fun id hid => by simp (disch := omega) only [z0h]; exact rp0 id hid
   ·rw [if_pos ⟨ha, hl⟩] at hW
    repeat' (first | refine zqj ?_ | ((first | refine zqh fun K hK => ?_ | refine zqr fun K hK => ?_); (simp (disch := omega) only [go_sem, Nat.reduceBEq, ↓reduceIte, reduceCtorEq, Nat.reduceAdd, Nat.reduceLeDiff, Nat.reduceLT, r3, r5, r6, rHnx1, rHnx3, r7, rHnx4, rnx, ha, hl])) | (refine zqd _ rfl ?_ ?_ <;> intro hc <;> (first | (cases hc; done) | ((try simp only [] at hc); (try omega)))) | refine zqv ?_ | (refine hK _ ?_; clear hK K))
    (simp (disch := omega) only [go_sem, Nat.reduceBEq, r2, r3, r4, r5, r6, rHnx, rHnx1, rHnx2, rHnx3, r7, rHnx4, true_and, hr05, hr06, ha, hW])
    first | exact rp0 | exact fun id hid => by simp (disch := omega) only [z0h]; exact rp0 id hid
  ·rw [if_neg (by rw [ha]; simp)] at hW
   repeat' (first | refine zqj ?_ | ((first | refine zqh fun K hK => ?_ | refine zqr fun K hK => ?_); (simp (disch := omega) only [go_sem, Nat.reduceBEq, ↓reduceIte, r6, rnx, ha])) | (refine zqd _ rfl ?_ ?_ <;> intro hc <;> (first | (cases hc; done) | ((try simp only [] at hc); (try omega)))) | refine zqb ?_ | refine zqv ?_ | (refine hK _ ?_; clear hK K))
   (simp (disch := omega) only [go_sem, Nat.reduceBEq, r2, r3, r4, r5, r6, rHnx, rHnx1, rHnx2, rHnx3, r7, rHnx4, true_and, hr06, ha, hW])
   first | exact rp0 | exact fun id hid => by simp (disch := omega) only [z0h]; exact rp0 id hid
 have hj0v : st.H j0 = some (.map (mapI z1f ((nodesT A).map unP))) := by rw [vp0 _ hj0]; exact hHj0
 have hjv : st.H j = some (.map (mapI z1f ((nodesT B).map unP))) := by rw [vp0 _ hj]; exact hHj
 have hj2v : st.H j2 = some (.map (setI ms)) := by rw [vp0 _ hj2]; exact hHj2
 obtain ⟨sB, hsB⟩ : ∃ sB, sB = stayB A B (fun i => decide (i ∈ ms)) := ⟨_, rfl⟩
 rw [<- hsB]
 obtain ⟨bs, hbs⟩ : ∃ bs, bs = u.kids.map T.id := ⟨_, rfl⟩
 have hxk : ∀ k ∈ x.kids, k ∈ nodesT A := by
  rcases zav hbk.na u.id with ⟨_, hxn, _⟩ | ⟨_, hx0, _⟩
  ·rw [<- hx] at hxn
   exact fun k O => z0z A x hxn k (z0i O (z09 k))
  ·rw [hx, hx0]; exact fun k O => by cases O
 have hline : (x.kids.filter fun k => sB k.id).map T.id = (u.kids.filter fun k => sB k.id).map T.id := by
  rw [hsB]
  rcases zav hbk.na u.id with ⟨ha, hxn, _⟩ | ⟨ha, hx0, _⟩
  ·have e1 : findR u.id A = (x, true) := by rw [hx]; exact Prod.ext rfl ha
   exact hbk.line u.id x u e1 (z12 hbk.nb hu rfl)
  ·have hk0 : x.kids = [] := by rw [hx, hx0]; rfl
   have h0 : u.kids.filter (fun k => stayB A B (fun i => decide (i ∈ ms)) k.id) = [] := List.filter_eq_nil_iff.2 fun k O h => by
    simp only [stayB, Bool.and_eq_true, Bool.not_eq_true'] at h
    have hA2 : k.id ∈ idsT A := by have := h.1; rw [z1k, decide_eq_true_eq] at this; exact this
    have hn : u.id ∉ idsT A := by rw [z1k, decide_eq_false_iff_not] at ha; exact ha
    have := hbk.offB u hu hn k O hA2
    rw [h.2.2] at this; cases this
   rw [hk0, h0]; rfl
 repeat' (first | refine zqj ?_ | ((refine zqh fun K hK => ?_); (simp (disch := omega) only [go_sem, Nat.reduceBEq, ↓reduceIte, reduceCtorEq, Nat.reduceAdd, v5, vHnx3])) | refine zqa ?_ | (refine hK _ ?_; clear hK K))
 (refine z3i (fun U st => ∃ (i : Nat) (ps : List (Nat × Nat)), U = x.kids.length - i /\ st.t 2 = .ptr nx 0 /\ st.t 3 = .ptr (nx + 1) 0 /\ st.t 4 = .ptr (nx + 2) 0 /\ st.t 5 = .ptr (nx + 3) 0 /\ st.H (nx) = some (.box 52 [.mp j0, .mp j, .mp j2]) /\ st.H (nx + 1) = some (.box 27 (z06 u)) /\ st.H (nx + 2) = some (.box 33 [.int .i64 0, .int .i64 0, .int .i64 0, .int .i64 0, .int .i64 0, .str ByteArray.empty, .str ByteArray.empty, .bool false, .nil, .nil, .nil]) /\ st.H (nx + 3) = some (.box 27 (z06 x)) /\ st.t 7 = .ptr (nx + 4) 0 /\ st.H (nx + 4) = some (.box 33 [.int .i64 S, .int .i64 u.kind, .int .i64 u.id.act, .int .i64 u.id.item, .int .i64 u.id.n, .str u.label, .str W, .bool mv, z0k (z3h (txt x.head) (txt u.head)), z0k (z3h (txt x.words) (txt u.words)), .nil]) /\ st.t 8 = .osl (nx + 5) ps.length /\ st.t 63 = z0b x.kids /\ st.t 64 = .int .i64 x.kids.length /\ st.t 65 = .int .i64 i /\ st.H (nx + 5) = some (.row 90 ps.length (ps.flatMap z16)) /\ st.H (j) = some (.map (mapI z1f ((nodesT B).map unP))) /\ st.H (j2) = some (.map (setI ms)) /\ (i <= x.kids.length) /\ (nx + 6 <= st.nx) /\ (ps = prK sB bs (x.kids.take i) 0) /\ (∀ id, id < nx -> st.H id = H id)) ?_ ?_); rotate_left; (rintro U st ⟨i, ps, rfl, w2, w3, w4, w5, wHnx, wHnx1, wHnx2, wHnx3, w7, wHnx4, w8, w63, w64, w65, wHnx5, wHj, wHj2, wp0, wp1, wp2, wp3⟩); rotate_left
 ·(refine ⟨_, 0, [], rfl, ?_⟩); (simp (disch := omega) only [go_sem, Nat.reduceBEq, Nat.reduceLeDiff, v2, v3, v4, v5, vHnx, vHnx1, vHnx2, vHnx3, v7, vHnx4, v8, vHnx5, vnx, true_and, Int.natCast_zero, List.flatMap_nil, z0b])
  exact ⟨hjv, hj2v, Nat.le_refl _, rfl, vp0⟩
 have hpl : ps.length <= i := by rw [wp2]; refine Nat.le_trans (zh4 _ _ _ _) ?_; rw [List.length_take]; omega
 have f0 := z05 (show nx < st.nx by omega)
 have f1 := z05 (show nx + 1 < st.nx by omega)
 have f2 := z05 (show nx + 2 < st.nx by omega)
 have f3 := z05 (show nx + 3 < st.nx by omega)
 have f4 := z05 (show nx + 4 < st.nx by omega)
 have f5 := z05 (show nx + 5 < st.nx by omega)
 have fj := z05 (show j < st.nx by omega)
 have fj2 := z05 (show j2 < st.nx by omega)
 by_cases hi : i < x.kids.length
 ·have hkA := hxk _ (List.getElem_mem hi)
  have hkA2 : z26 x.kids[i].id A = true := by rw [z1k, decide_eq_true (id_in hkA)]
  have hsnoc := zoc sB bs x.kids[i] (x.kids.take i) 0
  rw [<- List.take_succ_eq_append_getElem hi, <- wp2, Nat.zero_add, List.length_take, Nat.min_eq_left (by omega)] at hsnoc
  have hfk := zcr x.kids[i].id ms
  rcases zot B x.kids[i].id with ⟨_, hkB, n, z, hf⟩ | ⟨_, hkB, hf⟩
  ·by_cases hm : x.kids[i].id ∈ ms
   ·rw [if_pos hm] at hfk
    have hst : sB x.kids[i].id = false := by rw [hsB]; simp [stayB, hm]
    rw [hst, if_neg (by decide), List.append_nil] at hsnoc
    repeat' (first | ((refine zqh fun K hK => ?_); (simp (disch := omega) only [go_sem, Nat.reduceBEq, ↓reduceIte, reduceCtorEq, Nat.reduceAdd, Nat.reduceLeDiff, w2, wHnx, w63, w64, w65, wHj, wHj2, f0, fj, fj2, z0b, hf, hfk])) | ((first | refine zqd _ rfl (fun hc => ?_) (fun hc => ?_) | refine zqm _ rfl (fun hc => ?_) (fun hc => ?_)) <;> (first | (cases hc; done) | ((try simp only [z03] at hc); (try omega)))) | refine zqa ?_ | refine zqb ?_ | refine zqk ?_ | refine zqv ?_ | refine zqy ?_ | (refine hK _ ?_; clear hK K))
    refine ⟨_, SealTo.refl _, ?_⟩
    repeat' (first | ((refine zqr fun K hK => ?_); (simp (disch := omega) only [go_sem, Nat.reduceBEq, ↓reduceIte, w65])) | (refine hK _ ?_; clear hK K))
    (refine Exists.intro _ (And.intro ?_ ⟨i + 1, ps, rfl, ?_⟩)); rotate_left; (simp (disch := omega) only [go_sem, Nat.reduceBEq, Nat.reduceLeDiff, w2, w3, w4, w5, wHnx, wHnx1, wHnx2, wHnx3, w7, wHnx4, w8, w63, w64, w65, wHnx5, wHj, wHj2, true_and, Int.natCast_add, Int.natCast_one, f0, f1, f2, f3, f4, f5, fj, fj2]); rotate_left
    ·omega
    ·exact ⟨by omega, by omega, hsnoc.symm, fun id hid => by simp (disch := omega) only [z0h]; exact wp3 id hid⟩
   ·rw [if_neg hm] at hfk
    have hst : sB x.kids[i].id = true := by rw [hsB]; simp [stayB, hm, hkA2, hkB]
    rw [hst, if_pos rfl] at hsnoc
    have hbsi : x.kids[i].id ∈ u.kids.map T.id := by
     have h : x.kids[i].id ∈ (x.kids.filter fun k => sB k.id).map T.id := List.mem_map.2 ⟨x.kids[i], List.mem_filter.2 ⟨List.getElem_mem hi, hst⟩, rfl⟩
     rw [hline] at h
     obtain ⟨y, hy, e⟩ := List.mem_map.1 h
     exact List.mem_map.2 ⟨y, (List.mem_filter.1 hy).1, e⟩
    have hlt : (u.kids.map T.id).idxOf x.kids[i].id < u.kids.length := by have := List.idxOf_lt_length_iff.2 hbsi; rwa [List.length_map] at this
    have hin : ∀ H2 n2, st.nx < n2 -> H2 st.nx = some (.box 27 (z06 x.kids[i])) -> RC prog 48 [z0b u.kids, .fn 49 [.ptr st.nx 0]] H2 n2 (.int .i64 (bs.idxOf x.kids[i].id)) := fun H2 n2 h1 h2 => by
     have h := zi6 false u.kids (by unfold maxLen; omega) (g := 49) (cap := [.rptr (z1f x.kids[i])]) (fun y => decide (y.id = x.kids[i].id)) (by simp only [pureD.pureL, z0a, pureD, Bool.and_self]) (fun y _ => zts x.kids[i] y)
     rw [zod, if_pos hlt, <- hbs] at h
     exact PC.borrow h rfl 3 (z04 (z02 _ (z4q _)) (z04 (zj1 2 rfl (z04 (zk2 0 h2 zio (z27 _)) z3r)) z3r))
    have hps2 : ps.length + 1 <= 1000001 := by omega
    repeat' (first | ((first | refine zqh fun K hK => ?_ | refine zqr fun K hK => ?_ | ((refine z41 (hin _ _ ?_ ?_) ?_); (focus (((simp (disch := omega) only [go_sem]); done))); (focus ((simp (disch := omega) only [go_sem, f0]); done)))); (simp (disch := omega) only [go_sem, Nat.reduceBEq, ↓reduceIte, reduceCtorEq, Nat.reduceAdd, Nat.reduceMul, Nat.reduceLeDiff, w2, w3, wHnx, wHnx1, w8, w63, w64, w65, wHnx5, wHj, wHj2, f0, f1, f5, fj, fj2, z0b, hf, hfk])) | ((first | refine zqd _ rfl (fun hc => ?_) (fun hc => ?_) | refine zqm _ rfl (fun hc => ?_) (fun hc => ?_)) <;> (first | (cases hc; done) | ((try simp only [z03] at hc); (try omega)))) | refine zqa ?_ | refine zqb ?_ | refine zqv ?_ | refine zqy ?_ | (refine hK _ ?_; clear hK K))
    refine ⟨_, SealTo.refl _, ?_⟩
    repeat' (first | ((refine zqr fun K hK => ?_); (simp (disch := omega) only [go_sem, Nat.reduceBEq, ↓reduceIte, w65])) | (refine hK _ ?_; clear hK K))
    (refine Exists.intro _ (And.intro ?_ ⟨i + 1, ps ++ [(i, bs.idxOf x.kids[i].id)], rfl, ?_⟩)); rotate_left; (simp (disch := omega) only [go_sem, Nat.reduceBEq, Nat.reduceLeDiff, w2, w3, w4, w5, wHnx, wHnx1, wHnx2, wHnx3, w7, wHnx4, w8, w63, w64, w65, wHnx5, wHj, wHj2, true_and, Int.natCast_add, Int.natCast_one, List.flatMap_append, List.flatMap_cons, List.flatMap_nil, List.append_nil, f0, f1, f2, f3, f4, f5, fj, fj2, hr06, hr6, hr26]); rotate_left
    ·omega
    ·exact ⟨rfl, by omega, by omega, hsnoc.symm, fun id hid => by simp (disch := omega) only [z0h]; exact wp3 id hid⟩
  ·have hst : sB x.kids[i].id = false := by rw [hsB]; simp [stayB, hkB]
   rw [hst, if_neg (by decide), List.append_nil] at hsnoc
   repeat' (first | ((refine zqh fun K hK => ?_); (simp (disch := omega) only [go_sem, Nat.reduceBEq, ↓reduceIte, reduceCtorEq, Nat.reduceAdd, Nat.reduceLeDiff, w2, wHnx, w63, w64, w65, wHj, f0, fj, z0b, hf])) | ((first | refine zqd _ rfl (fun hc => ?_) (fun hc => ?_) | refine zqm _ rfl (fun hc => ?_) (fun hc => ?_)) <;> (first | (cases hc; done) | ((try simp only [z03] at hc); (try omega)))) | refine zqa ?_ | refine zqb ?_ | refine zqk ?_ | refine zqv ?_ | refine zqy ?_ | (refine hK _ ?_; clear hK K))
   refine ⟨_, SealTo.refl _, ?_⟩
   repeat' (first | ((refine zqr fun K hK => ?_); (simp (disch := omega) only [go_sem, Nat.reduceBEq, ↓reduceIte, w65])) | (refine hK _ ?_; clear hK K))
   (refine Exists.intro _ (And.intro ?_ ⟨i + 1, ps, rfl, ?_⟩)); rotate_left; (simp (disch := omega) only [go_sem, Nat.reduceBEq, Nat.reduceLeDiff, w2, w3, w4, w5, wHnx, wHnx1, wHnx2, wHnx3, w7, wHnx4, w8, w63, w64, w65, wHnx5, wHj, wHj2, true_and, Int.natCast_add, Int.natCast_one, f0, f1, f2, f3, f4, f5, fj, fj2]); rotate_left
   ·omega
   ·exact ⟨by omega, by omega, hsnoc.symm, fun id hid => by simp (disch := omega) only [z0h]; exact wp3 id hid⟩
 ·have hta : x.kids.take i = x.kids := List.take_of_length_le (by omega)
  rw [hta] at wp2
  have hwm := zub (γ := TT) (s := sB) (ga := z3e B) (gb := z2l A B (fun i => decide (i ∈ ms))) (a := x.kids) (b := u.kids) (z30 hbk.nb hu) x.kids 0 0 0 rfl (Nat.le_refl _) (Nat.zero_le _) (Nat.zero_le _) hline
  rw [<- hbs, <- wp2] at hwm
  obtain ⟨hw1, hw2⟩ := hwm
  simp only [Nat.sub_self, List.take_zero, List.map_nil, List.nil_append, List.drop_zero] at hw1
  have hgp : D.rsl false (z01 prog 90) (z1j (z08 prog 90) (z01 prog 90) ps.length (ps.flatMap z16)) = zx6 ps := by
   rw [zos, zug, z4y (f := z16) (fun _ => rfl)]; rfl
  repeat' (first | ((refine zqh fun K hK => ?_); (simp (disch := omega) only [go_sem, ↓reduceIte, w64, w65])) | (refine zqd _ rfl ?_ ?_ <;> intro hc <;> (((try simp only [z03] at hc); (try omega)))) | refine zqc ?_ | refine zqv ?_ | refine zqz ?_ | refine zqp ?_ | (refine hK _ ?_; clear hK K))
  refine ⟨_, zl6 (id := nx + 5) (j := 8) (e := 90) (n := ps.length) (cs := ps.flatMap z16) (by (simp (disch := omega) only [go_sem, wHnx5])) (by decide +kernel) (z15 (fun _ => rfl) _) (by (simp (disch := omega) only [go_sem, Nat.reduceBEq, w8])), ?_⟩
  rw [hgp]
  repeat' (((refine zqh fun K hK => ?_); (simp (disch := omega) only [go_sem, Nat.reduceBEq, ↓reduceIte, reduceCtorEq, Nat.reduceAdd, Nat.reduceLeDiff, w2, w3, w5, wHnx, wHnx1, wHnx3, w8, z0b, hr06])))
  refine z41 (zsg (z3e B) (z2l A B (fun i => decide (i ∈ ms))) (fun _ y => z2l A B (fun i => decide (i ∈ ms)) y) x.kids u.kids x3 h3 ps (by omega) hw2 (g1 := 51) (g2 := 23) (g3 := 52) (c1 := [.agg [.mp j0, .mp j, .mp j2]]) (c2 := [.agg [.mp j0, .mp j, .mp j2]]) (c3 := [.ptr nx 0]) (fun y hy H' n' hle hs => ?_) (fun y hy H' n' hle hs => ?_) (fun z hz y hy H' n' hle hs => ?_)) ?_
  ·have lj : ∀ {k : Nat}, k < nx -> k < n' := fun O => Nat.lt_of_lt_of_le (by (simp (disch := omega) only [go_sem]); all_goals omega) hle
   have e1 : H' j = some (zca B) := (hs j (by (simp (disch := omega) only [go_sem]); all_goals omega)).trans (by (simp (disch := omega) only [go_sem, wHj, hr6]); all_goals rfl)
   exact rc_gone B j0 j j2 y (x4 y hy) H' n' (lj hj) e1
  ·have lj : ∀ {k : Nat}, k < nx -> k < n' := fun O => Nat.lt_of_lt_of_le (by (simp (disch := omega) only [go_sem]); all_goals omega) hle
   have e1 : H' j = some (zca B) := (hs j (by (simp (disch := omega) only [go_sem]); all_goals omega)).trans (by (simp (disch := omega) only [go_sem, wHj, hr6]); all_goals rfl)
   have e2 : H' j2 = some (.map (setI ms)) := (hs j2 (by (simp (disch := omega) only [go_sem]); all_goals omega)).trans (by (simp (disch := omega) only [go_sem, wHj2, hr26]))
   have e0 : H' j0 = some (zca A) := (hs j0 (by (simp (disch := omega) only [go_sem]); all_goals omega)).trans (by (simp (disch := omega) only [go_sem, hr06]); exact (wp3 j0 hj0).trans hHj0)
   exact ih y hy (z0z B u hu y (z0i hy (z09 y))) (h4 y hy) H' n' (lj hj0) (lj hj) (lj hj2) e0 e1 e2
  ·have lj : ∀ {k : Nat}, k < nx + 1 -> k < n' := fun O => Nat.lt_of_lt_of_le (by (simp (disch := omega) only [go_sem]); all_goals omega) hle
   have e1 : H' j = some (zca B) := (hs j (by (simp (disch := omega) only [go_sem]); all_goals omega)).trans (by (simp (disch := omega) only [go_sem, wHj, hr6]); all_goals rfl)
   have e2 : H' j2 = some (.map (setI ms)) := (hs j2 (by (simp (disch := omega) only [go_sem]); all_goals omega)).trans (by (simp (disch := omega) only [go_sem, wHj2, hr26]))
   have e0 : H' j0 = some (zca A) := (hs j0 (by (simp (disch := omega) only [go_sem]); all_goals omega)).trans (by (simp (disch := omega) only [go_sem, hr06]); exact (wp3 j0 hj0).trans hHj0)
   have eb : H' nx = some (.box 52 [.mp j0, .mp j, .mp j2]) := (hs nx (by (simp (disch := omega) only [go_sem]); all_goals omega)).trans (by (simp (disch := omega) only [go_sem, wHnx, hr06]))
   exact ztt z y (z2l A B (fun i => decide (i ∈ ms)) y) j0 j j2 nx (lj (by omega)) eb fun H2 n2 hle2 hs2 => ih y hy (z0z B u hu y (z0i hy (z09 y))) (h4 y hy) H2 n2 (by have := lj (show j0 < nx + 1 by omega); omega) (by have := lj (show j < nx + 1 by omega); omega) (by have := lj (show j2 < nx + 1 by omega); omega) ((hs2 j0 (lj (by omega))).trans e0) ((hs2 j (lj (by omega))).trans e1) ((hs2 j2 (lj (by omega))).trans e2)
  rw [hw1]
  unfold z88
  (try (simp (disch := omega) only [go_sem, Nat.reduceBEq, ↓reduceIte, reduceCtorEq, Nat.reduceAdd, Nat.reduceLeDiff, Nat.reduceLT, w7, wHnx4, hr06])); repeat' (first | ((refine zqh fun K hK => ?_); (simp (disch := omega) only [go_sem, Nat.reduceBEq, ↓reduceIte, Nat.reduceAdd, Nat.reduceLeDiff, w4, wHnx2, w7, wHnx4, hr05, hr06])) | refine zqn ?_ | refine zqu (by (simp (disch := omega) only [go_sem, Nat.reduceBEq, ↓reduceIte, Nat.reduceAdd, Nat.reduceLeDiff, w4, wHnx2, hr05, hr06]); rfl) rfl ?_ | (refine hK _ ?_; clear hK K))
  (simp (disch := omega) only [go_sem])
  refine ⟨?_, fun id hid => by simp (disch := omega) only [z0h]; exact wp3 id hid⟩
  have key : ∀ (H2 : HM) (v : D) (t : TT), v = z58 t -> ∃ d, z2z prog H2 4 v = some d /\ Le d (z58 t) := fun H2 v t hv => by subst hv; exact z18 (nx := 0) (z2j _) (Le.refl _)
  refine key _ _ _ ?_
  rw [ztm, z10, hS, hW, hmv, hx]
  rfl
end
section
open Abs
namespace Tr
theorem zob {α β : Type} (f : α -> List β) : ∀ (l : List α) (n : Nat), (l.zipIdx n).flatMap (fun q => f q.1) = l.flatMap f
 | [], _ => rfl
 | x :: l, n => by rw [List.zipIdx_cons, List.flatMap_cons, List.flatMap_cons, zob f l]
theorem zy8 : ∀ t : T, (zwv t).map (·.1) = t.kids.flatMap idsT := by
 refine z50 fun t ih => ?_
 rw [zii, zoj, List.take_length, List.map_flatMap, <- zob idsT t.kids 0]
 rw [List.flatMap_def, List.flatMap_def]
 refine congrArg _ (List.map_congr_left fun q hq => ?_)
 have O : q.1 ∈ t.kids := by
  obtain ⟨a, b⟩ := q
  exact (List.mem_zipIdx hq).2.2 ▸ List.getElem_mem _
 rw [List.map_cons, ih q.1 O, z2h]
theorem zdz (t : T) : (plcs t).map (·.1) = idsT t := by
 rw [plcs, List.map_cons, zy8, z2h]
theorem plc_mem : ∀ (t q : T), q ∈ nodesT t -> ∀ (i : Nat) (h : i < q.kids.length), (q.kids[i].id, (⟨q.id, (i : Int), q.kids[i]⟩ : Plc)) ∈ zwv t := by
 refine z50 fun t ih q hq i h => ?_
 rw [zii, zoj, List.take_length, List.mem_flatMap]
 rw [z1c, List.mem_cons, List.mem_flatMap] at hq
 rcases hq with rfl | ⟨k, O, hq⟩
 ·refine ⟨(q.kids[i], i), ?_, by simp⟩
  rw [List.mem_zipIdx_iff_getElem?]; simp [h]
 ·obtain ⟨j, hj, rfl⟩ := List.getElem_of_mem O
  refine ⟨(t.kids[j], j), ?_, List.mem_cons_of_mem _ (ih _ O q hq i h)⟩
  rw [List.mem_zipIdx_iff_getElem?]; simp [hj]
theorem plc_in {A : T} (hn : (idsT A).Nodup) {i : Idv} (hm : i ∈ idsT A) : ∃ p : Plc, (i, p) ∈ plcs A /\ p.unit = (findR i A).1 /\ (¬ A.id = i -> z71 i A = (p.par, p.pos, true)) := by
 by_cases h0 : A.id = i
 ·refine ⟨⟨Idv.zero, 0, A⟩, by rw [plcs, h0]; simp, ?_, fun h => absurd h0 h⟩
  rw [z12 hn (z09 A) h0]
 ·obtain ⟨q, hq, k, O, hki, hp⟩ := zdw hn hm h0
  obtain ⟨j, hj, rfl⟩ := List.getElem_of_mem O
  refine ⟨⟨q.id, (j : Int), q.kids[j]⟩, ?_, ?_, fun _ => ?_⟩
  ·rw [plcs, <- hki]; exact List.mem_cons_of_mem _ (plc_mem A q hq j hj)
  ·rw [z12 hn (z0z A q hq _ (z0i O (z09 _))) hki]
  ·rw [<- hki]; exact zt2 hn hq j hj
theorem zy9 : ∀ (t : T), ∀ e ∈ zwv t, e.2.unit ∈ nodesT t /\ e.2.unit.id = e.1 := by
 refine z50 fun t ih e he => ?_
 rw [zii, zoj, List.take_length, List.mem_flatMap] at he
 obtain ⟨q, hq, he⟩ := he
 have O : q.1 ∈ t.kids := by
  obtain ⟨a, b⟩ := q
  exact (List.mem_zipIdx hq).2.2 ▸ List.getElem_mem _
 rcases List.mem_cons.1 he with rfl | he
 ·exact ⟨z0i O (z09 _), rfl⟩
 ·obtain ⟨h1, h2⟩ := ih q.1 O e he
  exact ⟨z0i O h1, h2⟩
theorem ztq (t : T) : ∀ e ∈ plcs t, e.2.unit ∈ nodesT t /\ e.2.unit.id = e.1 := by
 intro e he
 rw [plcs] at he
 rcases List.mem_cons.1 he with rfl | he
 ·exact ⟨z09 t, rfl⟩
 ·exact zy9 t e he
end Tr
open Tr
theorem zgy {α : Type} [DecidableEq α] {l : List α} (h : l.Nodup) : z1l l = l := by
 have key : ∀ l : List α, l.Nodup -> z1l l = l := by
  refine znn (p := fun l => l.Nodup -> z1l l = l) (fun _ => rfl) fun l x ih h => ?_
  rw [List.nodup_append] at h
  rw [z92, ih h.1, if_neg fun hx => h.2.2 x hx x (by simp) rfl]
 exact key l h
theorem ztr {β : Type} {enc : β -> D} {l : List (Idv × β)} (hn : (l.map (·.1)).Nodup) {i : Nat} {k v : D} (h : (mapI enc l)[i]? = some (k, v)) : ∃ e, l[i]? = some e /\ k = z48 e.1 /\ v = enc e.2 := by
 unfold mapI at h
 rw [zgy hn, List.map_map, List.getElem?_map, Option.map_eq_some_iff] at h
 obtain ⟨e, h1, h2⟩ := h
 simp only [Function.comp_apply, Prod.mk.injEq] at h2
 refine ⟨e, h1, h2.1.symm, ?_⟩
 rw [<- h2.2]
 exact zb7 hn (List.mem_of_getElem? h1)
theorem zk0 {β : Type} {enc : β -> D} {l : List (Idv × β)} (hn : (l.map (·.1)).Nodup) : (mapI enc l).length = l.length := by
 rw [ze1, zgy hn, List.length_map]
theorem zi9 {A : T} (hn : (idsT A).Nodup) (i : Idv) :
  (z26 i A = true /\ ∃ p : Plc, p.unit = (findR i A).1 /\ (¬ A.id = i -> z71 i A = (p.par, p.pos, true)) /\ ∃ n, z3x prog 23 (.agg [.int .i64 i.act, .int .i64 i.item, .int .i64 i.n]) (mapI encPl (plcs A)) = some (some (n, .agg (z3v p)))) \/
  (z26 i A = false /\ z3x prog 23 (.agg [.int .i64 i.act, .int .i64 i.item, .int .i64 i.n]) (mapI encPl (plcs A)) = some none) := by
 have hg := ze0 encPl (plcs A) i
 rw [zdz] at hg
 cases h : z26 i A with
 | true =>
  have hm : i ∈ idsT A := by rw [z1k, decide_eq_true_eq] at h; exact h
  obtain ⟨p, h1, h2, h3⟩ := plc_in hn hm
  rw [if_pos hm, zb7 (by rw [zdz]; exact hn) h1] at hg
  exact .inl ⟨rfl, p, h2, h3, _, hg⟩
 | false =>
  rw [if_neg (by rw [z1k, decide_eq_false_iff_not] at h; exact h)] at hg
  exact .inr ⟨rfl, hg⟩
end
end Go.Proofs.YtfechgagcgbldaaGreatDoor
namespace Go.Proofs.YtfechgagcgbldaaGreatDoor.Tr
structure Fit50 (u : T) : Prop where
 sz : szB u = true
 cnt : cntT u <= 1000000
 dep : depT u <= 1000000
end Go.Proofs.YtfechgagcgbldaaGreatDoor.Tr
namespace Go.Proofs.YtfechgagcgbldaaGreatDoor
open _root_.Go.Proofs.Tryz
section
open Abs Facts Tr
attribute [local irreducible] awp
set_option maxRecDepth 100000
namespace Tr
theorem zal (u : T) : ((((z1l (idsT u)).length : Nat) : Int) = ((cntT u : Nat) : Int)) ↔ (idsT u).Nodup := by
 rw [<- (z3l (idsT u)).2.2.2]
 have : (idsT u).length = cntT u := by unfold idsT cntT; rw [List.length_map]
 rw [this]
 exact ⟨fun h => by omega, fun h => by rw [h]⟩
theorem zam (u : T) : z39 u = (z6r u && (decide (u.kind = 0) && decide (((z1l (idsT u)).length : Int) = (cntT u : Int)))) := by
 rw [Bool.eq_iff_iff, z1p]
 simp only [Bool.and_eq_true, decide_eq_true_eq, zal]
 constructor <;> rintro ⟨h1, h2, h3⟩ <;> exact ⟨h2, h1, h3⟩
end Tr
theorem zo0 (u : T) (h : Fit50 u) : PC prog 95 [z1f u] (.bool (z39 u)) := by
 have hc := h.cnt
 have V := h.dep
 have c1 := zhr u h.sz (by omega) (by omega)
 have c2 := zds u (zg3 u h.sz) (by omega)
 have c3 := zel u h.sz
 have hl : (mapI encPl (plcs u)).length = (z1l (idsT u)).length := by rw [ze1, zdz]
 refine z2f 1 (by simp only [pureD.pureL, z0a, Bool.and_self]) rfl (z23 [4000012, 3000003, 3000007, 3000011, 3000014, 5000004, 5000015] func95 rfl (by decide +kernel) rfl ?_)
 show awp _ _ (Code.seq _ _) _ _
 rw [zam]
 have hle : (z1l (idsT u)).length <= cntT u := by have := (z3l (idsT u)).2.2.1; unfold idsT at this ⊢; unfold cntT; rwa [List.length_map] at this
 cases hv : z6r u <;> by_cases O : u.kind = 0
 all_goals
  rw [hv] at c1
  repeat' (first | ((first | refine zqh fun K hK => ?_ | refine zqe (by decide +kernel) fun K hK => ?_ | refine zqt (c1) ?_ | refine zqt (c2) ?_ | refine z99 (c3) rfl rfl rfl ?_); (simp (disch := omega) only [go_sem, Nat.reduceBEq, Nat.reduceEqDiff, ↓reduceIte, reduceCtorEq, Nat.reduceAdd, Nat.reduceLeDiff, Nat.reduceLT, O, hl])) | refine nxt ?_ | refine zqu (by simp only [go_sem]; rfl) rfl ?_ | (refine hK _ ?_; clear hK K))
  exact z00 (by simp [O])
end
section
open Abs Facts Tr
set_option maxRecDepth 100000
namespace Abs
def zeroPr : List D := [D.int .i64 0, D.int .i64 0, D.int .i64 0, D.int .i64 0, D.str ByteArray.empty, D.nil, D.nil, D.nil, D.int .i64 0, D.int .i64 0, D.int .i64 0, D.int .i64 0, D.str ByteArray.empty, D.nil, D.nil, D.nil, D.nmp, D.nmp]
@[go_sem] theorem zeroPr_T : z19 prog 111 = some zeroPr := zyn
def cellsPr (A B : T) (p q : Nat) : List D := z06 A ++ (z06 B ++ [.mp p, .mp q])
theorem z2i (A B : T) (p q : Nat) : cellsPr A B p q = [.int .i64 A.id.act, .int .i64 A.id.item, .int .i64 A.id.n, .int .i64 A.kind, .str A.label, z1y A.head, z1y A.words, z0b A.kids, .int .i64 B.id.act, .int .i64 B.id.item, .int .i64 B.id.n, .int .i64 B.kind, .str B.label, z1y B.head, z1y B.words, z0b B.kids, .mp p, .mp q] := by
 rw [cellsPr, z0n, z0n]; rfl
def pr1 (A : T) : List D := z14 zeroPr 0 (z06 A)
def pr2 (A B : T) : List D := z14 (pr1 A) 8 (z06 B)
def pr3 (A B : T) (p : Nat) : List D := z14 (pr2 A B) 16 [.mp p]
@[go_sem] theorem pr1_eq (A : T) : z14 zeroPr 0 (z06 A) = pr1 A := rfl
@[go_sem] theorem pr2_eq (A B : T) : z14 (pr1 A) 8 (z06 B) = pr2 A B := rfl
@[go_sem] theorem pr3_eq (A B : T) (p : Nat) : z14 (pr2 A B) 16 [.mp p] = pr3 A B p := rfl
@[go_sem] theorem pr4_eq (A B : T) (p q : Nat) : z14 (pr3 A B p) 17 [.mp q] = cellsPr A B p q := by
 rw [pr3, pr2, pr1, z2i, z0n, z0n, zeroPr]; simp only [z14, List.set_cons_zero, List.set_cons_succ]
@[go_sem] theorem pr4_set (A B : T) (p q : Nat) : ((pr2 A B).set 16 (.mp p)).set 17 (.mp q) = cellsPr A B p q := pr4_eq A B p q
@[go_sem] theorem pr0_len : zeroPr.length = 18 := rfl
@[go_sem] theorem pr1_len (A : T) : (pr1 A).length = 18 := by simp only [pr1, z2n, pr0_len]
@[go_sem] theorem pr2_len (A B : T) : (pr2 A B).length = 18 := by simp only [pr2, z2n, pr1_len]
@[go_sem] theorem pr3_len (A B : T) (p : Nat) : (pr3 A B p).length = 18 := by simp only [pr3, z2n, pr2_len]
@[go_sem] theorem zm5 (A B : T) (p q : Nat) : (cellsPr A B p q).length = 18 := by rw [z2i]; rfl
@[go_sem] theorem splice_Pr (A B : T) (p q : Nat) : z14 zeroPr 0 (cellsPr A B p q) = cellsPr A B p q := by rw [z2i, zeroPr]; simp only [z14, List.set_cons_zero, List.set_cons_succ]
@[go_sem] theorem splice_Pr0 : z14 zeroPr 0 zeroPr = zeroPr := rfl
@[go_sem] theorem take_Pr (A B : T) (p q : Nat) : List.take 18 (cellsPr A B p q) = cellsPr A B p q := List.take_of_length_le (by rw [zm5]; exact Nat.le_refl _)
@[go_sem] theorem take_Pr0 : List.take 18 zeroPr = zeroPr := rfl
@[go_sem] theorem cellsPr_A (A B : T) (p q : Nat) : List.take 8 (cellsPr A B p q) = z06 A := by rw [z2i, z0n]; rfl
@[go_sem] theorem cellsPr_B (A B : T) (p q : Nat) : List.take 8 (List.drop 8 (cellsPr A B p q)) = z06 B := by rw [z2i, z0n]; rfl
@[go_sem] theorem cellsPr_p (A B : T) (p q : Nat) : (cellsPr A B p q)[16]? = some (.mp p) := by rw [z2i]; rfl
@[go_sem] theorem cellsPr_q (A B : T) (p q : Nat) : (cellsPr A B p q)[17]? = some (.mp q) := by rw [z2i]; rfl
end Abs
namespace Abs
theorem Sem.rangeL {P : Program} {N : Nat} {own : List Nat} {i0 b i1 b1 i4 : Nat} {l0 l1 l4 : List Oper} {t7 t8 t9 t10 : Nat} {T : TypeId} {x : Operand} {rest4 : List Oper} {body : Code} {Q : Exit -> St -> Prop} {st : St} (k : Nat) (hm0 : P.follows .mixedOrders = true) {o0 o1 o2 o4 : Oper} (h0 : l0.drop k = [o0]) (h1 : l1 = [o1, o2]) (h4 : l4 = o4 :: rest4)
  (e0 : o0.op = .range T x /\ o0.dst = some t7 /\ o0.guard = none) (e1 : o1.op = .next (.tmp t7) false /\ o1.dst = some t8 /\ o1.guard = none)
  (e2 : o2.op = .extract (.tmp t8) 0 /\ o2.dst = some t9 /\ o2.guard = none) (e4 : o4.op = .entry (.tmp t7) /\ o4.dst = some t10 /\ o4.guard = none) {kt et : TypeId} (hT : z45 P T = some (kt, et))
  (hN : decide (t7 < N /\ t8 < N /\ t9 < N /\ t10 < N /\ t7 ≠ t8 /\ t7 ≠ t9) = true) (V : (l0.all (z3y N) && rest4.all (z3y N)) = true) (hb : z66 N body = true)
  (hpre : z1z P own (l0.map (·.dst)) (l0.take k) (fun st1 => ∃ m es, st1.ev x = .mp m /\ st1.H m = some (.map es) /\ RngOK P own m es t7 t8 t9 t10 b1 (l4.map (·.dst)) rest4 body Q st1) st) :
  Sem P N (.seq (.region i0 l0.toArray false) (.block b (.loop (.seq (.region i1 l1.toArray false) (.seq (.cond (.tmp t9) .skip (.exit b)) (.block b1 (.seq (.region i4 l4.toArray false) body))))))) Q st := by
 simp only [Bool.and_eq_true, List.all_eq_true] at V
 refine Sem.rangeMap hm0 e0 e1 e2 e4 (pre := l0.take k) ?_ ?_ ?_ hT (of_decide_eq_true hN) (fun o ho => V.1 o (List.mem_of_mem_take ho)) V.2 hb hpre
 ·show l0 = _
  rw [<- h0, List.take_append_drop]
 ·exact h1
 ·exact h4
theorem zgp {b1 : Nat} {I : St -> Prop} {Q : Exit -> St -> Prop} {st : St} (h : I st) : rndK b1 I Q .normal st := h
theorem rndK_r {b1 : Nat} {I : St -> Prop} {Q : Exit -> St -> Prop} {st : St} (h : Q .ret st) : rndK b1 I Q .ret st := h
end Abs
end
section
open Abs Facts
attribute [local irreducible] awp
set_option maxHeartbeats 2000000 in
theorem pc11 (l : List Int) (hl : l.length <= maxLen) : PC prog 117 [z44 l] (z44 ((Lis.lis l).map fun (n : Nat) => (n : Int))) := by
 unfold maxLen at hl
 refine z2f 2 (by simp only [pureD.pureL, z40, Bool.and_self]) (z40 _) (z23 [7] func117 rfl (by decide +kernel) rfl ?_)
 show awp _ _ (Code.seq _ _) _ _
 (refine zqh fun K hK => ?_); (simp only [go_sem, Nat.reduceBEq, Nat.reduceBeqDiff, Nat.reduceEqDiff, ↓reduceIte, reduceCtorEq, Nat.reduceAdd, Nat.reduceMul, Nat.reduceLeDiff, Nat.reduceLT, Int.reduceLT, Int.reduceLE, Int.reduceEq]); (refine hK _ ?_); (clear hK K)
 repeat refine zqj ?_
 (refine zqh fun K hK => ?_); (simp only [go_sem, Nat.reduceBEq, Nat.reduceBeqDiff, Nat.reduceEqDiff, ↓reduceIte, reduceCtorEq, Nat.reduceAdd, Nat.reduceMul, Nat.reduceLeDiff, Nat.reduceLT, Int.reduceLT, Int.reduceLE, Int.reduceEq, z44]); (refine hK _ ?_); (clear hK K)
 refine z0u fun K hK => ?_
 (refine zqm _ rfl (fun hc => ?_) (fun hc => ?_)) <;> (simp only [z03] at hc)
 ·(refine zqh fun K hK => ?_); (simp only [go_sem, Nat.reduceBEq, Nat.reduceBeqDiff, Nat.reduceEqDiff, ↓reduceIte, reduceCtorEq, Nat.reduceAdd, Nat.reduceMul, Nat.reduceLeDiff, Nat.reduceLT, Int.reduceLT, Int.reduceLE, Int.reduceEq]); (refine hK _ ?_); (clear hK K)
  (refine zqn ?_); (refine Exists.intro _ (And.intro rfl ?_))
  exact zvq (by simp only [Lis.lis]; rw [if_pos (by omega)]; rfl)
 refine zqk (hK _ ?_); clear hK K
 repeat refine zqj ?_
 have g1 : (0 : Int) <= (l.length : Int) := by omega
 have g2 : l.length * 8 <= 140737488355328 := by omega
 have g3 : (l.length : Int) <= 9223372036854775807 := by omega
 (refine zqh fun K hK => ?_); (simp only [go_sem, Nat.reduceBEq, Nat.reduceBeqDiff, Nat.reduceEqDiff, ↓reduceIte, reduceCtorEq, Nat.reduceAdd, Nat.reduceMul, Nat.reduceLeDiff, Nat.reduceLT, Int.reduceLT, Int.reduceLE, Int.reduceEq, z44, g2, g3]); (refine hK _ ?_); (clear hK K)
 (refine zqh fun K hK => ?_); (simp only [go_sem, Nat.reduceBEq, Nat.reduceBeqDiff, Nat.reduceEqDiff, ↓reduceIte, reduceCtorEq, Nat.reduceAdd, Nat.reduceMul, Nat.reduceLeDiff, Nat.reduceLT, Int.reduceLT, Int.reduceLE, Int.reduceEq]); (refine hK _ ?_); (clear hK K)
 refine z0u fun K hK => ?_
 repeat refine zqj ?_
 have w1 : IntKind.i64.wrap ((l.length : Int) - 1) = (l.length : Int) - 1 := z2r (by omega)
 (refine zqh fun K hK => ?_); (simp only [go_sem, Nat.reduceBEq, Nat.reduceBeqDiff, Nat.reduceEqDiff, ↓reduceIte, reduceCtorEq, Nat.reduceAdd, Nat.reduceMul, Nat.reduceLeDiff, Nat.reduceLT, Int.reduceLT, Int.reduceLE, Int.reduceEq, z44, w1, zbj (D.int .i64) 0 l.length]); (refine hK _ ?_); (clear hK K)
 refine zqi (z3p (fun n st => ∃ cs : List Int, n <= l.length /\ st.t 0 = z44 l /\ st.t 3 = .osl 0 l.length /\ st.H 0 = some (.row 3 l.length (cs.map (D.int .i64))) /\ cs.length = l.length /\
   cs.drop n = Lis.rows (l.drop n) /\ st.t 5 = .int .i64 ((n : Int) - 1) /\ st.t 4 = .int .i64 ((Lis.rows (l.drop n)).foldr max 0) /\ st.nx = 1) l.length ?_ ?_)
 ·exact ⟨List.replicate l.length 0, Nat.le_refl _, rfl, rfl, rfl, by simp, by simp [Lis.rows], rfl, by simp [Lis.rows]; rfl, rfl⟩
 rintro n st ⟨cs, hn, h0, h3, hH, hcl, hcd, h5, h4, hnx⟩
 repeat refine zqj ?_
 (refine zqh fun K hK => ?_); (simp only [go_sem, Nat.reduceBEq, Nat.reduceBeqDiff, Nat.reduceEqDiff, ↓reduceIte, reduceCtorEq, Nat.reduceAdd, Nat.reduceMul, Nat.reduceLeDiff, Nat.reduceLT, Int.reduceLT, Int.reduceLE, Int.reduceEq, h5]); (refine hK _ ?_); (clear hK K)
 refine z0u fun K2 hK2 => ?_
 (refine zqm _ rfl (fun hc => ?_) (fun hc => ?_)) <;> (simp only [z03] at hc)
 ·obtain ⟨j, rfl⟩ : ∃ j, n = j + 1 := ⟨n - 1, by omega⟩
  have h5' : st.t 5 = .int .i64 (j : Int) := by rw [h5]; congr 1; omega
  refine zqk (hK2 _ ?_); clear hK2 K2 h5
  repeat refine zqj ?_
  refine z0u fun K2 hK2 => ?_
  refine zqi ?_
  repeat refine zqj ?_
  have hj : (j : Int) < (l.length : Int) := by omega
  have hj2 : j + 1 <= l.length := by omega
  (refine zqh fun K hK => ?_); (simp only [go_sem, Nat.reduceBEq, Nat.reduceBeqDiff, Nat.reduceEqDiff, ↓reduceIte, reduceCtorEq, Nat.reduceAdd, Nat.reduceMul, Nat.reduceLeDiff, Nat.reduceLT, Int.reduceLT, Int.reduceLE, Int.reduceEq, h3, h5', hH, hj, hcl, hj2, z98]); (refine hK _ ?_); (clear hK K)
  refine z0u fun K3 hK3 => ?_
  repeat refine zqj ?_
  have wj : IntKind.i64.wrap ((j : Int) + 1) = ((j + 1 + 0 : Nat) : Int) := by rw [z2r (by omega)]; omega
  (refine zqh fun K hK => ?_); (simp only [go_sem, Nat.reduceBEq, Nat.reduceBeqDiff, Nat.reduceEqDiff, ↓reduceIte, reduceCtorEq, Nat.reduceAdd, Nat.reduceMul, Nat.reduceLeDiff, Nat.reduceLT, Int.reduceLT, Int.reduceLE, Int.reduceEq, h5', wj]); (refine hK _ ?_); (clear hK K)
  refine zqi (z3p (fun m st => ∃ (k : Nat) (cs : List Int), m = l.length - (j + 1 + k) /\ j + 1 + k <= l.length /\ st.t 0 = z44 l /\ st.t 3 = .osl 0 l.length /\ st.H 0 = some (.row 3 l.length (cs.map (D.int .i64))) /\ cs.length = l.length /\
   cs.drop (j + 1) = Lis.rows (l.drop (j + 1)) /\ st.t 5 = .int .i64 (j : Int) /\ st.t 6 = .int .i64 ((j + 1 + k : Nat) : Int) /\ cs[j]? = some (Lis.inner l j k) /\ 1 <= Lis.inner l j k /\ Lis.inner l j k <= l.length /\ st.t 4 = .int .i64 ((Lis.rows (l.drop (j + 1))).foldr max 0) /\ st.nx = 1) (l.length - (j + 1)) ?_ ?_)
  ·refine ⟨0, cs.set j 1, rfl, hj2, h0, h3, rfl, by simpa using hcl, ?_, h5', rfl, ?_, by simp [Lis.inner_zero], by simp [Lis.inner_zero]; omega, h4, hnx⟩
   ·rw [List.drop_set_of_lt (by omega)]; exact hcd
   ·have : j < cs.length := by omega
    simp [Lis.inner_zero, this]
  clear hH hcd hcl h0 h3 h4 hnx h5' hn
  rintro m st ⟨k, cs, rfl, O, h0, h3, hH, hcl, hcd, h5, h6, hcj, hi1, hi2, h4, hnx⟩
  repeat refine zqj ?_
  (refine zqh fun K hK => ?_); (simp only [go_sem, Nat.reduceBEq, Nat.reduceBeqDiff, Nat.reduceEqDiff, ↓reduceIte, reduceCtorEq, Nat.reduceAdd, Nat.reduceMul, Nat.reduceLeDiff, Nat.reduceLT, Int.reduceLT, Int.reduceLE, Int.reduceEq, h6, h0, z44]); (refine hK _ ?_); (clear hK K)
  refine z0u fun K4 hK4 => ?_
  (refine zqm _ rfl (fun hc => ?_) (fun hc => ?_)) <;> (simp only [z03] at hc)
  ·have hk' : j + 1 + k < l.length := by omega
   refine zqk (hK4 _ ?_); clear hK4 K4
   refine z0u fun K4 hK4 => ?_
   refine zqi ?_
   repeat refine zqj ?_
   have i1 := z2t (D.int .i64) l (j + 1 + k) hk'
   have i2 := z2t (D.int .i64) l j (by omega)
   (refine zqe (by decide +kernel) fun K hK => ?_); (simp only [go_sem, Nat.reduceBEq, Nat.reduceBeqDiff, Nat.reduceEqDiff, ↓reduceIte, reduceCtorEq, Nat.reduceAdd, Nat.reduceMul, Nat.reduceLeDiff, Nat.reduceLT, Int.reduceLT, Int.reduceLE, Int.reduceEq, h0, h5, h6, i1, i2, z44]); (refine hK _ ?_); (clear hK K)
   have hin := Lis.inner_succ l j k hk' cs hcl hcd
   have hle := Lis.rows_get_le l (j + 1 + k) cs hcl (j + 1) hcd (by omega) hk'
   (refine zqm _ rfl (fun hc => ?_) (fun hc => ?_)) <;> (simp only [z03] at hc)
   ·have wk : IntKind.i64.wrap (cs[j + 1 + k] + 1) = cs[j + 1 + k] + 1 := z2r (by omega)
    have e1 : cs[j + 1 + k]? = some cs[j + 1 + k] := List.getElem?_eq_getElem (by omega)
    have hkn : ((j + 1 + k : Nat) : Int) < (l.length : Int) := by omega
    (refine ze4 (by decide +kernel) ?_); (simp only [go_sem, Nat.reduceBEq, Nat.reduceBeqDiff, Nat.reduceEqDiff, ↓reduceIte, reduceCtorEq, Nat.reduceAdd, Nat.reduceMul, Nat.reduceLeDiff, Nat.reduceLT, Int.reduceLT, Int.reduceLE, Int.reduceEq, h3, h5, h6, hH, hj, hkn, hcl, hj2, e1, hcj, wk, z98])
    show K4 _
    have wk2 : IntKind.i64.wrap (((j + 1 + k : Nat) : Int) + 1) = ((j + 1 + (k + 1) : Nat) : Int) := by rw [z2r (by omega)]; omega
    have e2 : Lis.inner l j (k + 1) = max (Lis.inner l j k) (cs[j + 1 + k] + 1) := by rw [hin]; unfold Lis.upd1; rw [if_pos hc]
    refine hK4 _ ?_
    (refine z29 ?_); (simp only [go_sem, Nat.reduceBEq, Nat.reduceBeqDiff, Nat.reduceEqDiff, ↓reduceIte, reduceCtorEq, Nat.reduceAdd, Nat.reduceMul, Nat.reduceLeDiff, Nat.reduceLT, Int.reduceLT, Int.reduceLE, Int.reduceEq, h6, wk2])
    refine ⟨l.length - (j + 1 + (k + 1)), by omega, k + 1, cs.set j (max (Lis.inner l j k) (cs[j + 1 + k] + 1)), rfl, by omega, h0, h3, rfl, by simpa using hcl, ?_, h5, rfl, ?_, by rw [e2]; omega, by rw [e2]; have := Lis.inner_le l j (k + 1) (by omega); rw [e2] at this; exact this, h4, hnx⟩
    ·rw [List.drop_set_of_lt (by omega)]; exact hcd
    ·rw [e2, List.getElem?_set_self (by omega)]
   ·refine zqk (hK4 _ ?_); clear hK4 K4
    have wk : IntKind.i64.wrap (((j + 1 + k : Nat) : Int) + 1) = ((j + 1 + (k + 1) : Nat) : Int) := by rw [z2r (by omega)]; omega
    have e2 : Lis.inner l j (k + 1) = Lis.inner l j k := by rw [hin]; unfold Lis.upd1; rw [if_neg hc]
    (refine z29 ?_); (simp only [go_sem, Nat.reduceBEq, Nat.reduceBeqDiff, Nat.reduceEqDiff, ↓reduceIte, reduceCtorEq, Nat.reduceAdd, Nat.reduceMul, Nat.reduceLeDiff, Nat.reduceLT, Int.reduceLT, Int.reduceLE, Int.reduceEq, h6, wk])
    exact ⟨l.length - (j + 1 + (k + 1)), by omega, k + 1, cs, rfl, by omega, h0, h3, hH, hcl, hcd, h5, rfl, by rw [e2]; exact hcj, by rw [e2]; exact hi1, by rw [e2]; exact hi2, h4, hnx⟩
  ·refine zql ?_
   show K3 _
   refine hK3 _ ?_
   have hkk : j + 1 + k = l.length := by omega
   (refine z29 ?_); (simp only [go_sem, Nat.reduceBEq, Nat.reduceBeqDiff, Nat.reduceEqDiff, ↓reduceIte, reduceCtorEq, Nat.reduceAdd, Nat.reduceMul, Nat.reduceLeDiff, Nat.reduceLT, Int.reduceLT, Int.reduceLE, Int.reduceEq, h4, h3, h5, hH, hj, hj2, hcl, hcj])
   refine (show K2 _ from hK2 _ ?_)
   have wj2 : IntKind.i64.wrap ((j : Int) - 1) = (j : Int) - 1 := z2r (by omega)
   (refine z29 ?_); (simp only [go_sem, Nat.reduceBEq, Nat.reduceBeqDiff, Nat.reduceEqDiff, ↓reduceIte, reduceCtorEq, Nat.reduceAdd, Nat.reduceMul, Nat.reduceLeDiff, Nat.reduceLT, Int.reduceLT, Int.reduceLE, Int.reduceEq, h5, wj2])
   have hall := Lis.inner_all l j (by omega)
   have hk0 : l.length - (j + 1) = k := by omega
   rw [hk0] at hall
   refine ⟨j, by omega, cs, by omega, h0, h3, hH, hcl, ?_, rfl, ?_, hnx⟩
   ·rw [hall, List.drop_eq_getElem_cons (by omega), hcd]
    congr 1
    rw [List.getElem?_eq_getElem (by omega)] at hcj
    exact Option.some.inj hcj
   ·show D.int .i64 _ = D.int .i64 _
    rw [hall, List.foldr_cons, Int.max_comm]
 ·refine zql ?_
  refine (show K _ from hK _ ?_)
  obtain rfl : n = 0 := by omega
  simp only [List.drop_zero] at hcd h4
  subst hcd
  (refine zqh fun K hK => ?_); (simp only [go_sem, Nat.reduceBEq, Nat.reduceBeqDiff, Nat.reduceEqDiff, ↓reduceIte, reduceCtorEq, Nat.reduceAdd, Nat.reduceMul, Nat.reduceLeDiff, Nat.reduceLT, Int.reduceLT, Int.reduceLE, Int.reduceEq, hnx]); (refine hK _ ?_); (clear hK K)
  repeat refine zqj ?_
  (refine zqh fun K hK => ?_); (simp only [go_sem, Nat.reduceBEq, Nat.reduceBeqDiff, Nat.reduceEqDiff, ↓reduceIte, reduceCtorEq, Nat.reduceAdd, Nat.reduceMul, Nat.reduceLeDiff, Nat.reduceLT, Int.reduceLT, Int.reduceLE, Int.reduceEq, h0, z44]); (refine hK _ ?_); (clear hK K)
  refine z0u fun K3 hK3 => ?_
  refine zqi (z3p (fun n st => ∃ i : Nat, n = l.length - i /\ i <= l.length /\ st.t 0 = z44 l /\ st.t 3 = .osl 0 l.length /\ st.H 0 = some (.row 3 l.length ((Lis.rows l).map (D.int .i64))) /\
   st.t 4 = .int .i64 (Lis.most l) /\ st.t 62 = .int .i64 l.length /\ st.t 63 = .int .i64 i /\ st.t 7 = .osl 1 (Lis.sel l i).length /\ st.H 1 = some (.row 3 (Lis.sel l i).length ((Lis.sel l i).map fun (n : Nat) => D.int .i64 (n : Int)))) l.length ?_ ?_)
  ·exact ⟨0, by omega, by omega, h0, h3, hH, h4, rfl, rfl, rfl, rfl⟩
  clear h0 h3 hH h4 h5 hnx
  rintro n st ⟨i, rfl, hi, h0, h3, hH, h4, h62, h63, h7, hH1⟩
  repeat refine zqj ?_
  (refine zqh fun K hK => ?_); (simp only [go_sem, Nat.reduceBEq, Nat.reduceBeqDiff, Nat.reduceEqDiff, ↓reduceIte, reduceCtorEq, Nat.reduceAdd, Nat.reduceMul, Nat.reduceLeDiff, Nat.reduceLT, Int.reduceLT, Int.reduceLE, Int.reduceEq, h63, h62]); (refine hK _ ?_); (clear hK K)
  refine z0u fun K4 hK4 => ?_
  (refine zqm _ rfl (fun hc => ?_) (fun hc => ?_)) <;> (simp only [z03] at hc)
  ·have hi' : i < l.length := by omega
   refine zqk (hK4 _ ?_)
   refine z0u fun K5 hK5 => ?_
   refine zqi ?_
   repeat refine zqj ?_
   (refine zqh fun K hK => ?_); (simp only [go_sem, Nat.reduceBEq, Nat.reduceBeqDiff, Nat.reduceEqDiff, ↓reduceIte, reduceCtorEq, Nat.reduceAdd, Nat.reduceMul, Nat.reduceLeDiff, Nat.reduceLT, Int.reduceLT, Int.reduceLE, Int.reduceEq, h63]); (refine hK _ ?_); (clear hK K)
   have hs := Lis.sel_succ l i
   have hrl := Lis.rows_length l
   have hri : (Lis.rows l)[i]? = some ((Lis.rows l).getD i 0) := by rw [List.getD_eq_getElem?_getD, List.getElem?_eq_getElem (by omega)]; rfl
   have i1 := z2t (D.int .i64) l i hi'
   have hin : (i : Int) < (l.length : Int) := by omega
   have tail : ∀ st' : St, st'.t 0 = z44 l -> st'.t 3 = .osl 0 l.length -> st'.H 0 = some (.row 3 l.length ((Lis.rows l).map (D.int .i64))) -> st'.t 4 = .int .i64 (Lis.most l) -> st'.t 62 = .int .i64 l.length -> st'.t 63 = .int .i64 i ->
     st'.t 7 = .osl 1 (Lis.sel l (i + 1)).length -> st'.H 1 = some (.row 3 (Lis.sel l (i + 1)).length ((Lis.sel l (i + 1)).map fun (n : Nat) => D.int .i64 (n : Int))) -> K5 st' := by
    intro st' h0 h3 hH h4 h62 h63 h7 hH1
    refine hK5 _ ?_
    have wi : IntKind.i64.wrap ((i : Int) + 1) = ((i + 1 : Nat) : Int) := by rw [z2r (by omega)]; omega
    (refine z29 ?_); (simp only [go_sem, Nat.reduceBEq, Nat.reduceBeqDiff, Nat.reduceEqDiff, ↓reduceIte, reduceCtorEq, Nat.reduceAdd, Nat.reduceMul, Nat.reduceLeDiff, Nat.reduceLT, Int.reduceLT, Int.reduceLE, Int.reduceEq, h63, wi])
    exact ⟨l.length - (i + 1), by omega, i + 1, rfl, by omega, h0, h3, hH, h4, h62, rfl, h7, hH1⟩
   have hmb := Lis.most_bd l
   have hsl := Lis.sel_len l i
   by_cases c1 : ((Lis.sel l i).length : Int) < Lis.most l
   ·have wm : IntKind.i64.wrap (Lis.most l - ((Lis.sel l i).length : Int)) = Lis.most l - ((Lis.sel l i).length : Int) := z2r (by omega)
    by_cases c2 : (Lis.rows l).getD i 0 = Lis.most l - ((Lis.sel l i).length : Int)
    ·have hb1 : ((Lis.sel l i).length + 1) * 8 <= 140737488355328 := by omega
     have hb2 : (Lis.sel l i).length + 1 <= maxLen := by unfold maxLen; omega
     have F : (Lis.sel l i).length <= 9223372036854775806 := by omega
     have fin : (Lis.sel l i = [] \/ l.getD ((Lis.sel l i).getLastD 0) 0 < l.getD i 0) -> Lis.sel l (i + 1) = Lis.sel l i ++ [i] := by
      intro h; rw [hs]; unfold Lis.sel1; rw [if_pos ⟨c1, c2, h⟩]
     have fin2 : ¬ (Lis.sel l i = [] \/ l.getD ((Lis.sel l i).getLastD 0) 0 < l.getD i 0) -> Lis.sel l (i + 1) = Lis.sel l i := by
      intro h; rw [hs]; unfold Lis.sel1; rw [if_neg (fun h' => h h'.2.2)]
     by_cases c3 : Lis.sel l i = []
     ·have c3' : ((Lis.sel l i).length : Int) = 0 := by rw [c3]; rfl
      rw [c3'] at c1 c2 wm
      (refine zqe (by decide +kernel) fun K hK => ?_); (simp only [go_sem, Nat.reduceBEq, Nat.reduceBeqDiff, Nat.reduceEqDiff, ↓reduceIte, reduceCtorEq, Nat.reduceAdd, Nat.reduceMul, Nat.reduceLeDiff, Nat.reduceLT, Int.reduceLT, Int.reduceLE, Int.reduceEq, h7, h4, c1, h3, hH, hin, hrl, hri, wm, c2, c3']); (refine hK _ ?_); (clear hK K)
      refine zqm true rfl (fun _ => ?_) (fun hc => (by cases hc))
      (refine z29 ?_); (simp only [go_sem, Nat.reduceBEq, Nat.reduceBeqDiff, Nat.reduceEqDiff, ↓reduceIte, reduceCtorEq, Nat.reduceAdd, Nat.reduceMul, Nat.reduceLeDiff, Nat.reduceLT, Int.reduceLT, Int.reduceLE, Int.reduceEq, h7, hH1, hb1, hb2, F])
      refine (show K5 _ from tail _ h0 h3 hH h4 h62 h63 ?_ ?_)
      ·rw [fin (.inl c3), List.length_append]; rfl
      ·rw [fin (.inl c3), List.length_append, List.map_append]; rfl
     ·have hpos : 0 < (Lis.sel l i).length := List.length_pos_iff.2 c3
      have c3' : ¬ ((Lis.sel l i).length : Int) = 0 := by omega
      have wl : IntKind.i64.wrap (((Lis.sel l i).length : Int) - 1) = (((Lis.sel l i).length - 1 : Nat) : Int) := by rw [z2r (by omega)]; omega
      have hcc : (((Lis.sel l i).length - 1 : Nat) : Int) < ((Lis.sel l i).length : Int) := by omega
      have hlast : (Lis.sel l i)[(Lis.sel l i).length - 1]? = some ((Lis.sel l i).getLastD 0) := by
       rw [List.getLastD_eq_getLast?, List.getLast?_eq_getElem?, List.getElem?_eq_getElem (by omega)]; rfl
      have hlt : (Lis.sel l i).getLastD 0 < l.length := by
       have := Lis.sel_lt l i _ (List.mem_of_getElem? hlast); omega
      have i2 := z2t (D.int .i64) l _ hlt
      have hle1 : (Lis.sel l i).length - 1 < (Lis.sel l i).length := by omega
      by_cases c4 : l[(Lis.sel l i).getLastD 0] < l[i]
      ·(refine zqe (by decide +kernel) fun K hK => ?_); (simp only [go_sem, Nat.reduceBEq, Nat.reduceBeqDiff, Nat.reduceEqDiff, ↓reduceIte, reduceCtorEq, Nat.reduceAdd, Nat.reduceMul, Nat.reduceLeDiff, Nat.reduceLT, Int.reduceLT, Int.reduceLE, Int.reduceEq, h7, h4, c1, h3, hH, hin, hrl, hri, wm, c2, c3', h0, z44, i1, i2, wl, hcc, hH1, hlast, c4]); (refine hK _ ?_); (clear hK K)
       have c4' : l.getD ((Lis.sel l i).getLastD 0) 0 < l.getD i 0 := by
        rw [List.getD_eq_getElem?_getD, List.getD_eq_getElem?_getD, List.getElem?_eq_getElem hlt, List.getElem?_eq_getElem hi']
        exact c4
       refine zqm true rfl (fun _ => ?_) (fun hc => (by cases hc))
       (refine z29 ?_); (simp only [go_sem, Nat.reduceBEq, Nat.reduceBeqDiff, Nat.reduceEqDiff, ↓reduceIte, reduceCtorEq, Nat.reduceAdd, Nat.reduceMul, Nat.reduceLeDiff, Nat.reduceLT, Int.reduceLT, Int.reduceLE, Int.reduceEq, h7, hH1, hb1, hb2, F])
       refine (show K5 _ from tail _ h0 h3 hH h4 h62 h63 ?_ ?_)
       ·rw [fin (.inr c4'), List.length_append]; rfl
       ·rw [fin (.inr c4'), List.length_append, List.map_append]; rfl
      ·(refine zqe (by decide +kernel) fun K hK => ?_); (simp only [go_sem, Nat.reduceBEq, Nat.reduceBeqDiff, Nat.reduceEqDiff, ↓reduceIte, reduceCtorEq, Nat.reduceAdd, Nat.reduceMul, Nat.reduceLeDiff, Nat.reduceLT, Int.reduceLT, Int.reduceLE, Int.reduceEq, h7, h4, c1, h3, hH, hin, hrl, hri, wm, c2, c3', h0, z44, i1, i2, wl, hcc, hH1, hlast, c4]); (refine hK _ ?_); (clear hK K)
       refine zqm false rfl (fun hc => (by cases hc)) (fun _ => ?_)
       have c4' : ¬ (Lis.sel l i = [] \/ l.getD ((Lis.sel l i).getLastD 0) 0 < l.getD i 0) := by
        rintro (h | h)
        ·exact c3 h
        ·apply c4
         rw [List.getD_eq_getElem?_getD, List.getD_eq_getElem?_getD, List.getElem?_eq_getElem hlt, List.getElem?_eq_getElem hi'] at h
         exact h
       refine zqk ?_
       refine tail _ h0 h3 hH h4 h62 h63 ?_ ?_
       ·rw [fin2 c4']; exact h7
       ·rw [fin2 c4']; exact hH1
    ·(refine zqe (by decide +kernel) fun K hK => ?_); (simp only [go_sem, Nat.reduceBEq, Nat.reduceBeqDiff, Nat.reduceEqDiff, ↓reduceIte, reduceCtorEq, Nat.reduceAdd, Nat.reduceMul, Nat.reduceLeDiff, Nat.reduceLT, Int.reduceLT, Int.reduceLE, Int.reduceEq, h7, h4, c1, h3, hH, hin, hrl, hri, wm, c2]); (refine hK _ ?_); (clear hK K)
     refine zqm false rfl (fun hc => (by cases hc)) (fun _ => ?_)
     refine zqk ?_
     refine tail _ h0 h3 hH h4 h62 h63 ?_ ?_
     ·rw [hs]; unfold Lis.sel1; rw [if_neg (fun h => c2 h.2.1)]; exact h7
     ·rw [hs]; unfold Lis.sel1; rw [if_neg (fun h => c2 h.2.1)]; exact hH1
   ·(refine zqe (by decide +kernel) fun K hK => ?_); (simp only [go_sem, Nat.reduceBEq, Nat.reduceBeqDiff, Nat.reduceEqDiff, ↓reduceIte, reduceCtorEq, Nat.reduceAdd, Nat.reduceMul, Nat.reduceLeDiff, Nat.reduceLT, Int.reduceLT, Int.reduceLE, Int.reduceEq, h7, h4, c1]); (refine hK _ ?_); (clear hK K)
    refine zqm false rfl (fun hc => (by cases hc)) (fun _ => ?_)
    refine zqk ?_
    refine tail _ h0 h3 hH h4 h62 h63 ?_ ?_
    ·rw [hs]; unfold Lis.sel1; rw [if_neg (fun h => c1 h.1)]; exact h7
    ·rw [hs]; unfold Lis.sel1; rw [if_neg (fun h => c1 h.1)]; exact hH1
  ·refine zql ?_
   show K3 _
   refine hK3 _ ?_
   (refine zqh fun K hK => ?_); (simp only [go_sem, Nat.reduceBEq, Nat.reduceBeqDiff, Nat.reduceEqDiff, ↓reduceIte, reduceCtorEq, Nat.reduceAdd, Nat.reduceMul, Nat.reduceLeDiff, Nat.reduceLT, Int.reduceLT, Int.reduceLE, Int.reduceEq, h7]); (refine hK _ ?_); (clear hK K)
   (refine zqn ?_); (refine Exists.intro _ (And.intro rfl ?_))
   obtain rfl : i = l.length := by omega
   refine zj0 0 hH1 z2q z4m (by simp) (z0d (fun _ => rfl) _) ?_
   simp only [Lis.lis]
   rw [if_neg (by omega), List.map_map]
   rfl
end
section
open Abs Facts Tr
attribute [local irreducible] awp
set_option maxRecDepth 100000
namespace Tr
theorem par_no {A : T} {i : Idv} (h : z26 i A = false) : (z71 i A).2.2 = false := by
 rw [z1k, decide_eq_false_iff_not, <- z57] at h
 unfold z71
 simp [h]
def zai (A u : T) (i : Nat) : List T := (u.kids.take i).filter (z31 A u)
theorem zpk {A u : T} {i : Nat} (h : i < u.kids.length) : zai A u (i + 1) = zai A u i ++ if z31 A u u.kids[i] = true then [u.kids[i]] else [] := by
 unfold zai
 rw [List.take_succ_eq_append_getElem h, List.filter_append]
 congr 1
 split <;> simp_all
theorem zny (A u : T) (i : Nat) : (zai A u i).length <= i := by
 unfold zai
 refine Nat.le_trans (List.length_filter_le _ _) ?_
 rw [List.length_take]; omega
theorem zji (A u : T) : zai A u u.kids.length = z3b A u := by unfold zai z3b; rw [List.take_length]
end Tr
open Tr
theorem zc1 (l : List Idv) : z70 (.map (setI l)) = true := by
 show (pureD.pureL ((setI l).map (·.1)) && pureD.pureL ((setI l).map (·.2))) = true
 unfold setI
 rw [List.map_map, List.map_map, Bool.and_eq_true]
 exact ⟨z0d (fun _ => rfl) _, z0d (fun i => rfl) _⟩
set_option maxHeartbeats 16000000 in
theorem zxh (A B u : T) (p q : Nat) (na : (idsT A).Nodup) (hu : szB u = true) (hk0 : ∀ k ∈ u.kids, ¬ A.id = k.id) (hnk : (u.kids.map T.id).Nodup) (H : HM) (nx : Nat) (hp : p < nx) (hHp : H p = some (.map (mapI encPl (plcs A)))) :
  AC prog 99 [.agg (cellsPr A B p q), z1f u] H nx fun r' H' nx' => r' = renD (fun j => nx + j) (.mp 0) /\ H' = zjc H nx [.map (setI (z2d A u))] /\ nx' = nx + 1 := by
 obtain ⟨h0, h1, g1, h2, g2, h3, h4⟩ := (z2o u).1 hu
 have e0 := z05 hp
 have hb0 : zai A u 0 = [] := rfl
 refine zw1 rfl (fun o ho => by rw [List.mem_singleton] at ho; subst ho; exact zc1 _) (z23 [5, 6, 3000050, 3000055] func99 rfl (by decide +kernel) rfl ?_)
 show awp _ _ (Code.seq _ _) _ _
 repeat' (first | refine zqj ?_ | ((refine zqh fun K hK => ?_); (simp (disch := omega) only [go_sem, Nat.reduceBEq, ↓reduceIte, reduceCtorEq, Nat.reduceAdd, e0])) | refine zqa ?_ | (refine hK _ ?_; clear hK K))
 (refine z3i (fun U st => ∃ (i : Nat), U = u.kids.length - i /\ st.t 2 = .ptr nx 0 /\ st.t 3 = .ptr (nx + 1) 0 /\ st.t 5 = .osl (nx + 2) (zai A u i).length /\ st.t 6 = .osl (nx + 3) (zai A u i).length /\ st.t 17 = z0b u.kids /\ st.t 18 = .int .i64 u.kids.length /\ st.t 19 = .int .i64 i /\ st.H (nx) = some (.box 111 (cellsPr A B p q)) /\ st.H (nx + 1) = some (.box 27 (z06 u)) /\ st.H (nx + 2) = some (.row 23 (zai A u i).length (((zai A u i).map T.id).flatMap cellsId)) /\ st.H (nx + 3) = some (.row 3 (zai A u i).length ((zai A u i).map fun k => .int .i64 (z71 k.id A).2.1)) /\ st.H (p) = some (.map (mapI encPl (plcs A))) /\ (i <= u.kids.length) /\ (nx + 4 <= st.nx) /\ (∀ id, id < nx -> st.H id = H id)) ?_ ?_); rotate_left; (rintro U st ⟨i, rfl, v2, v3, v5, v6, v17, v18, v19, vHnx, vHnx1, vHnx2, vHnx3, vHp, vp0, vp1, vp2⟩); rotate_left
 ·(refine ⟨_, 0, rfl, ?_⟩); (simp (disch := omega) only [go_sem, Nat.reduceBEq, Nat.reduceLeDiff, true_and, Int.natCast_zero, List.flatMap_nil, List.map_nil, z0b, e0, hb0])
  exact ⟨hHp, Nat.le_refl _, fun id hid => by simp (disch := omega) only [z0h]⟩
 have s0 := z05 (show nx < st.nx by omega)
 have s1 := z05 (show nx + 1 < st.nx by omega)
 have s2 := z05 (show nx + 2 < st.nx by omega)
 have s3 := z05 (show nx + 3 < st.nx by omega)
 have sp := z05 (show p < st.nx by omega)
 by_cases hi : i < u.kids.length
 ·have hs := zpk (A := A) hi
  have hle := zny A u i
  have O := hk0 _ (List.getElem_mem hi)
  rcases zi9 na u.kids[i].id with ⟨hA, x, hxu, hxp, n, hf⟩ | ⟨hA, hf⟩
  ·have hxp := hxp O
   by_cases hpu : x.par = u.id
   ·rcases zi9 na u.id with ⟨hA2, y, _, _, n2, hf2⟩ | ⟨hA2, hf2⟩
    ·have hun : z31 A u u.kids[i] = true := by unfold z31; rw [hA2, hxp]; simp [hpu]
     rw [hun, if_pos rfl] at hs
     repeat' (first | ((first | refine zqh fun K hK => ?_ | refine zqq (by decide +kernel) fun K hK => ?_); (simp (disch := omega) only [go_sem, Nat.reduceBEq, Nat.reduceEqDiff, ↓reduceIte, reduceCtorEq, Nat.reduceAdd, Nat.reduceMul, Nat.reduceLeDiff, Nat.reduceLT, v2, v3, v5, v6, v17, v18, v19, vHnx, vHnx1, vHnx2, vHnx3, vHp, e0, s0, s1, s2, s3, sp, z0b, hf, hf2, hpu])) | ((first | refine zqd _ rfl (fun hc => ?_) (fun hc => ?_) | refine zqm _ rfl (fun hc => ?_) (fun hc => ?_)) <;> (first | (cases hc; done) | ((try simp only [z03] at hc); (try omega)))) | refine zqa ?_ | refine zqb ?_ | refine zqv ?_ | refine zqy ?_ | (refine hK _ ?_; clear hK K))
     refine ⟨_, SealTo.refl _, ?_⟩
     repeat' (first | ((refine zqr fun K hK => ?_); (simp (disch := omega) only [go_sem, Nat.reduceBEq, ↓reduceIte, v19])) | (refine hK _ ?_; clear hK K))
     (refine Exists.intro _ (And.intro ?_ ⟨i + 1, rfl, ?_⟩)); rotate_left; (simp (disch := omega) only [go_sem, Nat.reduceBEq, Nat.reduceLeDiff, v2, v3, v5, v6, v17, v18, v19, vHnx, vHnx1, vHnx2, vHnx3, vHp, true_and, Int.natCast_add, Int.natCast_one, List.flatMap_append, List.flatMap_cons, List.flatMap_nil, List.map_append, List.map_cons, List.map_nil, List.append_nil, e0, s0, s1, s2, s3, sp, hs, hxp, cellsId, List.length_append, List.length_cons, List.length_nil]); rotate_left
     ·omega
     ·exact ⟨by omega, by omega, fun id hid => by simp (disch := omega) only [z0h]; exact vp2 id hid⟩
    ·have hun : z31 A u u.kids[i] = false := by unfold z31; rw [hA2]; rfl
     rw [hun, if_neg (by decide), List.append_nil] at hs
     repeat' (first | ((refine zqh fun K hK => ?_); (simp (disch := omega) only [go_sem, Nat.reduceBEq, ↓reduceIte, reduceCtorEq, Nat.reduceAdd, Nat.reduceLeDiff, v2, v3, v17, v18, v19, vHnx, vHnx1, vHp, s0, s1, sp, z0b, hf, hf2, hpu])) | ((first | refine zqd _ rfl (fun hc => ?_) (fun hc => ?_) | refine zqm _ rfl (fun hc => ?_) (fun hc => ?_)) <;> (first | (cases hc; done) | ((try simp only [z03] at hc); (try omega)))) | refine zqa ?_ | refine zqb ?_ | refine zqk ?_ | refine zqv ?_ | refine zqy ?_ | (refine hK _ ?_; clear hK K))
     refine ⟨_, SealTo.refl _, ?_⟩
     repeat' (first | ((refine zqr fun K hK => ?_); (simp (disch := omega) only [go_sem, Nat.reduceBEq, ↓reduceIte, v19])) | (refine hK _ ?_; clear hK K))
     (refine Exists.intro _ (And.intro ?_ ⟨i + 1, rfl, ?_⟩)); rotate_left; (simp (disch := omega) only [go_sem, Nat.reduceBEq, Nat.reduceLeDiff, v2, v3, v5, v6, v17, v18, v19, vHnx, vHnx1, vHnx2, vHnx3, vHp, true_and, Int.natCast_add, Int.natCast_one, s0, s1, s2, s3, sp, hs]); rotate_left
     ·omega
     ·exact ⟨by omega, by omega, fun id hid => by simp (disch := omega) only [z0h]; exact vp2 id hid⟩
   ·have hun : z31 A u u.kids[i] = false := by unfold z31; rw [hxp]; simp [hpu]
    rw [hun, if_neg (by decide), List.append_nil] at hs
    repeat' (first | ((refine zqh fun K hK => ?_); (simp (disch := omega) only [go_sem, Nat.reduceBEq, ↓reduceIte, reduceCtorEq, Nat.reduceAdd, Nat.reduceLeDiff, v2, v3, v17, v18, v19, vHnx, vHnx1, vHp, s0, s1, sp, z0b, hf, hpu])) | ((first | refine zqd _ rfl (fun hc => ?_) (fun hc => ?_) | refine zqm _ rfl (fun hc => ?_) (fun hc => ?_)) <;> (first | (cases hc; done) | ((try simp only [z03] at hc); (try omega)))) | refine zqa ?_ | refine zqb ?_ | refine zqk ?_ | refine zqv ?_ | refine zqy ?_ | (refine hK _ ?_; clear hK K))
    refine ⟨_, SealTo.refl _, ?_⟩
    repeat' (first | ((refine zqr fun K hK => ?_); (simp (disch := omega) only [go_sem, Nat.reduceBEq, ↓reduceIte, v19])) | (refine hK _ ?_; clear hK K))
    (refine Exists.intro _ (And.intro ?_ ⟨i + 1, rfl, ?_⟩)); rotate_left; (simp (disch := omega) only [go_sem, Nat.reduceBEq, Nat.reduceLeDiff, v2, v3, v5, v6, v17, v18, v19, vHnx, vHnx1, vHnx2, vHnx3, vHp, true_and, Int.natCast_add, Int.natCast_one, s0, s1, s2, s3, sp, hs]); rotate_left
    ·omega
    ·exact ⟨by omega, by omega, fun id hid => by simp (disch := omega) only [z0h]; exact vp2 id hid⟩
  ·have hun : z31 A u u.kids[i] = false := by unfold z31; rw [par_no hA]; simp
   rw [hun, if_neg (by decide), List.append_nil] at hs
   repeat' (first | ((refine zqh fun K hK => ?_); (simp (disch := omega) only [go_sem, Nat.reduceBEq, ↓reduceIte, reduceCtorEq, Nat.reduceAdd, Nat.reduceLeDiff, v2, v17, v18, v19, vHnx, vHp, s0, sp, z0b, hf])) | ((first | refine zqd _ rfl (fun hc => ?_) (fun hc => ?_) | refine zqm _ rfl (fun hc => ?_) (fun hc => ?_)) <;> (first | (cases hc; done) | ((try simp only [z03] at hc); (try omega)))) | refine zqa ?_ | refine zqb ?_ | refine zqk ?_ | refine zqv ?_ | refine zqy ?_ | (refine hK _ ?_; clear hK K))
   refine ⟨_, SealTo.refl _, ?_⟩
   repeat' (first | ((refine zqr fun K hK => ?_); (simp (disch := omega) only [go_sem, Nat.reduceBEq, ↓reduceIte, v19])) | (refine hK _ ?_; clear hK K))
   (refine Exists.intro _ (And.intro ?_ ⟨i + 1, rfl, ?_⟩)); rotate_left; (simp (disch := omega) only [go_sem, Nat.reduceBEq, Nat.reduceLeDiff, v2, v3, v5, v6, v17, v18, v19, vHnx, vHnx1, vHnx2, vHnx3, vHp, true_and, Int.natCast_add, Int.natCast_one, s0, s1, s2, s3, sp, hs]); rotate_left
   ·omega
   ·exact ⟨by omega, by omega, fun id hid => by simp (disch := omega) only [z0h]; exact vp2 id hid⟩
 ·repeat' (first | ((refine zqh fun K hK => ?_); (simp (disch := omega) only [go_sem, ↓reduceIte, v18, v19])) | (refine zqd _ rfl ?_ ?_ <;> intro hc <;> (((try simp only [z03] at hc); (try omega)))) | refine zqc ?_ | refine zqv ?_ | refine zqz ?_ | refine zqp ?_ | (refine hK _ ?_; clear hK K))
  have hil : i = u.kids.length := by omega
  subst hil
  rw [zji] at v5 v6 vHnx2 vHnx3
  have hlen : (z3b A u).length <= 1000000 := by have := zny A u u.kids.length; rw [zji] at this; omega
  have hats : ((z3b A u).map fun k => D.int .i64 (z71 k.id A).2.1) = (zao A u).map (D.int .i64) := by unfold zao; rw [List.map_map]; rfl
  rw [hats] at vHnx3
  have cl := pc11 (zao A u) (by unfold maxLen zao; rw [List.length_map]; omega)
  have hl1 : D.rsl false (z01 prog 3) (z1j (z08 prog 3) (z01 prog 3) (z3b A u).length ((zao A u).map (D.int .i64))) = z44 (zao A u) := by
   have h5 : (z3b A u).length = ((zao A u).map (D.int .i64)).length := by unfold zao; simp
   rw [z2q, z4m, h5, z7l]; rfl
  have hl2 : D.rsl false (z01 prog 23) (z1j (z08 prog 23) (z01 prog 23) (z3b A u).length (((z3b A u).map T.id).flatMap cellsId)) = z0q ((z3b A u).map T.id) := by
   have := z4y (f := cellsId) (sz := 3) (fun _ => rfl) ((z3b A u).map T.id)
   rw [List.length_map] at this
   rw [z6l, z8l, this]; rfl
  refine ⟨_, SealTo.trans (zl6 (id := nx + 3) (j := 6) (e := 3) (n := (z3b A u).length) (cs := (zao A u).map (D.int .i64)) (by (simp (disch := omega) only [go_sem, vHnx3])) (by decide +kernel) (z0d (fun _ => rfl) _) (by (simp (disch := omega) only [go_sem, Nat.reduceBEq, v6]))) (zl6 (id := nx + 2) (j := 5) (e := 23) (n := (z3b A u).length) (cs := ((z3b A u).map T.id).flatMap cellsId) (by (simp (disch := omega) only [go_sem, vHnx2, e0])) (by decide +kernel) (z15 (fun _ => rfl) _) (by (simp (disch := omega) only [go_sem, Nat.reduceBEq, v5]))), ?_⟩
  rw [hl1, hl2]
  obtain ⟨ids, hids⟩ : ∃ ids, ids = (z3b A u).map T.id := ⟨_, rfl⟩
  obtain ⟨L, hL⟩ : ∃ L, L = Lis.lis (zao A u) := ⟨_, rfl⟩
  have hSe : z2d A u = L.map fun n => ids.getD n Idv.zero := by rw [hids, hL]; rfl
  have hLl : ∀ n ∈ L, n < ids.length := fun n hn => by rw [hL] at hn; have := (Lis.lis_rise (zao A u)).2 n hn; rw [hids]; simpa [zao] using this
  have hSn : (z2d A u).Nodup := (zdx u).nodup hnk
  have hSl : (z2d A u).length = L.length := by rw [hSe, List.length_map]
  have hLb : L.length <= 1000000 := by rw [<- hSl]; have h5 := (zdx (A := A) u).length_le; rw [List.length_map] at h5; omega
  rw [<- hL] at cl
  rw [<- hids]
  repeat' (first | refine zqj ?_ | ((first | refine zqh fun K hK => ?_ | refine zqs (cl) ?_); (simp (disch := omega) only [go_sem, Nat.reduceBEq, v6])) | refine zqa ?_ | (refine hK _ ?_; clear hK K))
  obtain ⟨m0, hm0⟩ : ∃ m0, m0 = st.nx := ⟨_, rfl⟩
  (refine z3i (fun U st => ∃ (i : Nat), U = L.length - i /\ st.t 5 = z0q ids /\ st.t 13 = .mp m0 /\ st.t 61 = z44 (L.map fun (n : Nat) => (n : Int)) /\ st.t 62 = .int .i64 L.length /\ st.t 63 = .int .i64 i /\ st.H (m0) = some (.map (setI ((z2d A u).take i))) /\ (i <= L.length) /\ (m0 < st.nx) /\ (∀ id, id < nx -> st.H id = H id)) ?_ ?_); rotate_left; (rintro U st ⟨i, rfl, w5, w13, w61, w62, w63, wHm0, wp0, wp1, wp2⟩); rotate_left
  ·(refine ⟨_, 0, rfl, ?_⟩); (simp (disch := omega) only [go_sem, Nat.reduceBEq, v5, true_and, Int.natCast_zero, z44, s2, s3, hm0])
   exact ⟨rfl, Nat.lt_succ_self _, fun id hid => by simp (disch := omega) only [z0h]; exact vp2 id hid⟩
  have f0 := z05 wp1
  by_cases hi : i < L.length
  ·have hlt := hLl _ (List.getElem_mem hi)
   have hSi : (z2d A u)[i]'(by omega) = ids[L[i]] := by simp only [hSe, List.getElem_map]; simp [List.getD, hlt]
   have hnew : ids[L[i]] ∉ (z2d A u).take i := by
    rw [<- hSi]
    intro hmem
    obtain ⟨j, hj, e⟩ := List.getElem_of_mem hmem
    rw [List.length_take] at hj
    rw [List.getElem_take] at e
    have := (List.getElem_inj hSn).1 e
    omega
   have hfk := zcr ids[L[i]] ((z2d A u).take i)
   rw [if_neg hnew] at hfk
   have hsn := zar ((z2d A u).take i) ids[L[i]]
   have htk : (z2d A u).take (i + 1) = (z2d A u).take i ++ [ids[L[i]]] := by rw [List.take_succ_eq_append_getElem (by omega), hSi]
   repeat' (first | ((first | refine zqh fun K hK => ?_ | refine zqr fun K hK => ?_); (simp (disch := omega) only [go_sem, Nat.reduceBEq, ↓reduceIte, reduceCtorEq, Nat.reduceAdd, w5, w13, w61, w62, w63, wHm0, z0q, z44, hfk, hsn, Function.comp_apply])) | (refine zqd _ rfl ?_ ?_ <;> intro hc <;> (((try simp only [z03] at hc); (try omega)))) | refine zqa ?_ | refine zqb ?_ | refine zqv ?_ | refine zqy ?_ | (refine hK _ ?_; clear hK K))
   refine ⟨_, SealTo.refl _, ?_⟩
   repeat' (first | ((refine zqr fun K hK => ?_); (simp (disch := omega) only [go_sem, Nat.reduceBEq, ↓reduceIte, w63])) | (refine hK _ ?_; clear hK K))
   (refine Exists.intro _ (And.intro ?_ ⟨i + 1, rfl, ?_⟩)); rotate_left; (simp (disch := omega) only [go_sem, Nat.reduceBEq, w5, w13, w61, w62, w63, wHm0, true_and, Int.natCast_add, Int.natCast_one, htk]); rotate_left
   ·omega
   ·exact ⟨by omega, by omega, fun id hid => by simp (disch := omega) only [z0h]; exact wp2 id hid⟩
  ·repeat' (first | ((refine zqh fun K hK => ?_); (simp (disch := omega) only [go_sem, ↓reduceIte, w62, w63])) | (refine zqd _ rfl ?_ ?_ <;> intro hc <;> (((try simp only [z03] at hc); (try omega)))) | refine zqc ?_ | refine zqv ?_ | refine zqz ?_ | refine zqp ?_ | (refine hK _ ?_; clear hK K))
   refine ⟨_, SealTo.refl _, ?_⟩
   repeat' (first | ((refine zqh fun K hK => ?_); (simp (disch := omega) only [go_sem, Nat.reduceBEq, w13])) | refine zqn ?_ | refine zqu (by simp only [go_sem]; rfl) rfl ?_ | (refine hK _ ?_; clear hK K))
   have hta : (z2d A u).take i = z2d A u := List.take_of_length_le (by omega)
   rw [hta] at wHm0
   refine ⟨fun id hid => ?_, fun _ => m0, fun i j hi hj _ => ?_, fun _ _ => ?_, ?_, fun j hj => ?_⟩
   ·(simp (disch := omega) only [go_sem])
    exact wp2 id hid
   ·simp only [List.length_cons, List.length_nil] at hi hj; omega
   ·show nx <= m0; omega
   ·rfl
   ·simp only [List.length_cons, List.length_nil] at hj
    obtain rfl : j = 0 := by omega
    (simp (disch := omega) only [go_sem, wHm0])
end
section
open Abs Facts Tr
attribute [local irreducible] awp
set_option maxRecDepth 100000
def z8m (A B : T) : List HObj := if zag A B = true then [.map (mapI encPl (plcs A)), .map (mapI encPl (plcs B))] else []
def za4 (A B : T) : D := .tup [.agg (if zag A B = true then cellsPr A B 0 1 else zeroPr), .bool (zag A B)]
def zf0 (A : T) (e : Idv × Plc) : Bool := !z26 e.1 A || decide ((findR e.1 A).1.kind = e.2.unit.kind)
theorem zz3 {A B : T} (na : (idsT A).Nodup) (nb : (idsT B).Nodup) (h : ∀ (i : Nat) (e : Idv × Plc), (plcs B)[i]? = some e -> zf0 A e = true) : z4j A B = true := by
 unfold z4j
 rw [List.all_eq_true]
 intro x hx
 by_cases hB : z26 x.id B = true
 ·have hm : x.id ∈ idsT B := by rw [z1k, decide_eq_true_eq] at hB; exact hB
  obtain ⟨p, h1, h2, _⟩ := plc_in nb hm
  obtain ⟨i, hi, e⟩ := List.getElem_of_mem h1
  have h3 := h i _ (by rw [List.getElem?_eq_getElem hi, e])
  unfold zf0 at h3
  have hA : z26 x.id A = true := by rw [z1k, decide_eq_true_eq]; exact List.mem_map.2 ⟨x, hx, rfl⟩
  simp only [hA, Bool.not_true, Bool.false_or, decide_eq_true_eq, h2] at h3
  rw [z12 na hx rfl] at h3
  simp only at h3
  simp [h3]
 ·simp [hB]
theorem zz4 {A B : T} (na : (idsT A).Nodup) (nb : (idsT B).Nodup) {i : Nat} {e : Idv × Plc} (he : (plcs B)[i]? = some e) (h : zf0 A e = false) : z4j A B = false := by
 obtain ⟨h1, h2⟩ := ztq B e (List.mem_of_getElem? he)
 cases O : z4j A B with
 | false => rfl
 | true =>
  unfold z4j at O
  rw [List.all_eq_true] at O
  unfold zf0 at h
  simp only [Bool.or_eq_false_iff, Bool.not_eq_false', decide_eq_false_iff_not] at h
  obtain ⟨hA, hne⟩ := h
  have hx := z3o (id := e.1) (u := A) hA
  have hi := zah (id := e.1) (t := A) hA
  have h3 := O _ hx
  rw [hi] at h3
  have hB : z26 e.1 B = true := by rw [z1k, decide_eq_true_eq, <- h2]; exact List.mem_map.2 ⟨_, h1, rfl⟩
  rw [hB, z12 nb h1 h2] at h3
  simp only [Bool.not_true, Bool.false_or, decide_eq_true_eq] at h3
  exact absurd h3.symm hne
theorem zuq {A B : T} {l : List Nat} {i : Nat} {e : Idv × Plc} (h : ∀ i ∈ l, ∀ e, (plcs B)[i]? = some e -> zf0 A e = true) (he : (plcs B)[i]? = some e) (O : zf0 A e = true) : ∀ i_1 ∈ l ++ [i], ∀ e, (plcs B)[i_1]? = some e -> zf0 A e = true := by
 intro j hj e' he'
 rcases List.mem_append.1 hj with hj | hj
 ·exact h j hj e' he'
 ·rw [List.mem_singleton] at hj
  subst hj
  rw [he, Option.some.injEq] at he'
  rw [<- he']; exact O
theorem ren_Pr (σ : Nat -> Nat) (A B : T) (p q : Nat) (b : Bool) : renD σ (.tup [.agg (cellsPr A B p q), .bool b]) = .tup [.agg (cellsPr A B (σ p) (σ q)), .bool b] := by
 rw [z2i, z2i]; rfl
theorem ok_held (A B : T) : okD (z8m A B).length (za4 A B) = true := by
 unfold z8m za4
 by_cases h : zag A B = true
 ·rw [if_pos h, if_pos h, z2i]
  simp [okD, okD.okL, pureD]
  exact ⟨z1v _, z1v _, z4q _, z1v _, z1v _, z4q _⟩
 ·rw [if_neg h, if_neg h]; rfl
theorem zr9 (A B : T) : ∀ o ∈ z8m A B, z70 o = true := by
 intro o ho
 unfold z8m at ho
 split at ho
 ·simp only [List.mem_cons, List.not_mem_nil, or_false] at ho
  rcases ho with rfl | rfl <;> exact zh0 zc6 _
 ·cases ho
set_option maxHeartbeats 16000000 in
theorem zz5 (A B : T) (fa : Fit50 A) (fb : Fit50 B) : OC prog 75 [z1f A, z1f B] (z8m A B) (za4 A B) := by
 have c1 := zo0 A fa
 have c2 := zo0 B fb
 have c3 := zel A fa.sz
 have c4 := zel B fb.sz
 refine ze7 (by simp only [pureD.pureL, z0a, Bool.and_self]) (ok_held A B) (zr9 A B) ?_
 refine zaq func75 rfl (by decide +kernel) (by simp [ntmps75]) ?_
 rw [show Tryz.f75.results.toList = [.cell 4 111, .tmp 5] from rfl]
 refine Sem.seq (Sem.walk (own := []) z6z (by decide +kernel) ?_)
 repeat' (first | ((refine zqr fun K hK => ?_); (simp (disch := omega) only [go_sem, Nat.reduceBEq, Nat.reduceAdd])) | refine zqv ?_ | (refine hK _ ?_; clear hK K))
 refine Sem.seq (Sem.walk (own := []) z6z (by decide +kernel) ?_)
 have hcm : zag A B = (z39 A && (z39 B && z4j A B)) := rfl
 cases ha : z39 A
 ·rw [ha] at c1 hcm
  rw [Bool.false_and] at hcm
  have e1 : z8m A B = [] := by unfold z8m; rw [hcm]; rfl
  have e2 : za4 A B = .tup [.agg zeroPr, .bool false] := by unfold za4; rw [hcm]; rfl
  rw [e1, e2]
  repeat' (first | ((first | refine zqh fun K hK => ?_ | refine zqs (c1) ?_); (simp (disch := omega) only [go_sem, Nat.reduceBEq, ↓reduceIte, Nat.reduceAdd, Nat.reduceLeDiff])) | ((refine zqm _ rfl (fun hc => ?_) (fun hc => ?_)) <;> (first | (cases hc; done) | ((try simp only [] at hc); (try omega)))) | refine zqn ?_ | refine zqx ?_ | refine zqu (by (simp (disch := omega) only [go_sem, Nat.reduceBEq, ↓reduceIte, Nat.reduceLeDiff]); rfl) rfl ?_ | (refine hK _ ?_; clear hK K))
  exact ⟨fun j => j, fun i j hi => (by cases hi), rfl, fun j hj => (by cases hj)⟩
 rw [ha] at c1 hcm
 cases hb2 : z39 B
 ·rw [hb2] at c2 hcm
  rw [Bool.false_and, Bool.and_false] at hcm
  have e1 : z8m A B = [] := by unfold z8m; rw [hcm]; rfl
  have e2 : za4 A B = .tup [.agg zeroPr, .bool false] := by unfold za4; rw [hcm]; rfl
  rw [e1, e2]
  repeat' (first | ((first | refine zqh fun K hK => ?_ | refine zqs (c1) ?_ | refine zqs (c2) ?_); (simp (disch := omega) only [go_sem, Nat.reduceBEq, ↓reduceIte, Nat.reduceAdd, Nat.reduceLeDiff])) | ((refine zqm _ rfl (fun hc => ?_) (fun hc => ?_)) <;> (first | (cases hc; done) | ((try simp only [] at hc); (try omega)))) | refine zqn ?_ | refine zqx ?_ | refine zqu (by (simp (disch := omega) only [go_sem, Nat.reduceBEq, ↓reduceIte, Nat.reduceLeDiff]); rfl) rfl ?_ | (refine hK _ ?_; clear hK K))
  exact ⟨fun j => j, fun i j hi => (by cases hi), rfl, fun j hj => (by cases hj)⟩
 rw [hb2] at c2 hcm
 rw [Bool.true_and, Bool.true_and] at hcm
 repeat' (first | ((first | refine zqh fun K hK => ?_ | refine zqs (c1) ?_ | refine zqs (c2) ?_); (simp (disch := omega) only [go_sem, Nat.reduceBEq, ↓reduceIte, Nat.reduceAdd, Nat.reduceLeDiff])) | ((refine zqm _ rfl (fun hc => ?_) (fun hc => ?_)) <;> (first | (cases hc; done) | ((try simp only [] at hc); (try omega)))) | refine zqk ?_ | refine zqv ?_ | (refine hK _ ?_; clear hK K))
 refine Sem.cutS (fun st => ∃ j1 j2 jb : Nat, (j1 = 4 /\ j2 = 5 /\ jb = 3 \/ j1 = 3 /\ j2 = 5 /\ jb = 4 \/ j1 = 3 /\ j2 = 4 /\ jb = 5) /\ st.nx = 6 /\ st.t 4 = .ptr 2 0 /\ st.t 6 = .ptr jb 0 /\ st.H 2 = some (.box 111 zeroPr) /\ st.H jb = some (.box 111 (cellsPr A B j1 j2)) /\ st.H j1 = some (.map (mapI encPl (plcs A))) /\ st.H j2 = some (.map (mapI encPl (plcs B)))) (zzr (own := [3000020, 3000021, 3000022, 3000024, 4000023, 4000025]) z6z (by decide +kernel) [(0, 1), (0, 2), (0, 3), (0, 4), (0, 5), (0, 7), (1, 0), (1, 2), (1, 3), (1, 4), (1, 5), (1, 7), (2, 0), (2, 1), (2, 4), (2, 5), (2, 7), (4, 0), (4, 1), (4, 2), (4, 3), (4, 7), (7, 6)] (.fork [0, 1, 2, 4] (.run [7, 3, 5, 6, 8]) (.fork [3] (.run [7, 5, 6, 8]) (.run [5, 7, 6, 8]))) (by decide +kernel) (by decide +kernel) ?_) ?_
 ·refine zcf ?_ rfl
  (simp (disch := omega) only [go_sem, Nat.reduceBEq, Nat.reduceEqDiff, ↓reduceIte, Nat.reduceAdd, Nat.reduceLeDiff, z9l, zsd, List.map_cons, List.map_nil])
  refine ⟨?_, ?_⟩
  ·refine z67 ?_ rfl
   (simp (disch := omega) only [go_sem, Nat.reduceBEq, ↓reduceIte, Nat.reduceAdd, z9l, zsd, List.map_cons, List.map_nil])
   refine z99 c3 rfl rfl rfl ?_
   (simp (disch := omega) only [go_sem, Nat.reduceBEq, Nat.reduceAdd])
   refine z99 c4 rfl rfl rfl ?_
   (simp (disch := omega) only [go_sem, Nat.reduceBEq, Nat.reduceEqDiff, ↓reduceIte, Nat.reduceAdd, Nat.reduceLeDiff])
   refine ⟨_, SealTo.refl _, 4, 5, 3, .inl ⟨rfl, rfl, rfl⟩, ?_⟩
   (simp (disch := omega) only [go_sem, Nat.reduceBEq, and_self])
  ·refine zcf ?_ rfl
   (simp (disch := omega) only [go_sem, Nat.reduceBEq, z9l, zsd, List.map_cons, List.map_nil])
   refine z99 c3 rfl rfl rfl ?_
   (simp (disch := omega) only [go_sem, Nat.reduceAdd])
   refine ⟨?_, ?_⟩
   ·refine z67 ?_ rfl
    (simp (disch := omega) only [go_sem, Nat.reduceBEq, ↓reduceIte, Nat.reduceAdd, z9l, zsd, List.map_cons, List.map_nil])
    refine z99 c4 rfl rfl rfl ?_
    (simp (disch := omega) only [go_sem, Nat.reduceBEq, Nat.reduceEqDiff, ↓reduceIte, Nat.reduceAdd, Nat.reduceLeDiff])
    refine ⟨_, SealTo.refl _, 3, 5, 4, .inr (.inl ⟨rfl, rfl, rfl⟩), ?_⟩
    (simp (disch := omega) only [go_sem, Nat.reduceBEq, and_self])
   ·refine z67 ?_ rfl
    (simp (disch := omega) only [go_sem, Nat.reduceBEq, z9l, zsd, List.map_cons, List.map_nil])
    refine z99 c4 rfl rfl rfl ?_
    (simp (disch := omega) only [go_sem, Nat.reduceBEq, Nat.reduceEqDiff, ↓reduceIte, Nat.reduceAdd, Nat.reduceLeDiff])
    refine ⟨_, SealTo.refl _, 3, 4, 5, .inr (.inr ⟨rfl, rfl, rfl⟩), ?_⟩
    (simp (disch := omega) only [go_sem, Nat.reduceBEq, and_self])
 rintro st ⟨j1, j2, jb, hj, hnx, h4, h6, H2, Hb, H1, HQ⟩
 have na := ((z1p A).1 ha).2.2
 have nb := ((z1p B).1 hb2).2.2
 have nk : ((plcs B).map (·.1)).Nodup := by rw [zdz]; exact nb
 have d1 : (j2 == 6) = false := z28 (by omega)
 have d2 : (2 == j2) = false := z28 (by omega)
 have d3 : (jb == 6) = false := z28 (by omega)
 have d4 : (jb == j2) = false := z28 (by omega)
 have d5 : (j1 == 6) = false := z28 (by omega)
 have d6 : (j1 == j2) = false := z28 (by omega)
 have d7 : (j2 == 2) = false := z28 (by omega)
 have d8 : (j1 == 2) = false := z28 (by omega)
 have d9 : (jb == 2) = false := z28 (by omega)
 have lt2 : j2 < 6 := by omega
 have lt1 : j1 < 6 := by omega
 have ltb : jb < 6 := by omega
 refine Sem.seq (Sem.rangeL (own := []) 2 z6z rfl rfl rfl ⟨rfl, rfl, rfl⟩ ⟨rfl, rfl, rfl⟩ ⟨rfl, rfl, rfl⟩ ⟨rfl, rfl, rfl⟩ mapT109 (by decide +kernel) (by decide +kernel) (by decide +kernel) ?_)
 (simp (disch := omega) only [go_sem, Nat.reduceBEq, ↓reduceIte, reduceCtorEq, Nat.reduceAdd, h6, Hb, List.take_succ_cons, List.take_zero, List.map_cons, List.map_nil])
 refine ⟨j2, _, rfl, HQ, fun M J => ⟨fun l s => s.H j2 = some M /\ s.H 6 = some (J l) /\ s.t 29 = .it 6 /\ s.t 4 = .ptr 2 0 /\ s.t 6 = .ptr jb 0 /\ s.H 2 = some (.box 111 zeroPr) /\ s.H jb = some (.box 111 (cellsPr A B j1 j2)) /\ s.H j1 = some (.map (mapI encPl (plcs A))) /\ 7 <= s.nx /\ ∀ i ∈ l, ∀ e, (plcs B)[i]? = some e -> zf0 A e = true, ?_, ?_, ?_, ?_⟩⟩
 ·rintro l s ⟨g1, g2, g3, _⟩
  refine ⟨g1, ?_, ?_⟩
  ·(simp (disch := omega) only [go_sem, hnx])
   exact g2
  ·(simp (disch := omega) only [go_sem, hnx])
   exact g3
 ·unfold zt6
  (simp (disch := omega) only [go_sem, Nat.reduceBEq, Nat.reduceAdd, Nat.reduceLeDiff, hnx, h4, h6, d1, d2, d3, d4, d5, d6, H2, Hb, H1, and_true, List.not_mem_nil, false_implies, implies_true])
 ·rintro l s i k v ⟨g1, g2, g3, g4, g5, g6, g7, g8, g9, g10⟩ hnd hlt hil hkv
  obtain ⟨e, he, rfl, rfl⟩ := ztr nk hkv
  obtain ⟨i1, p1⟩ := e
  have s2 := z05 (show 2 < s.nx by omega)
  have s6 := z05 (show 6 < s.nx by omega)
  have sj1 := z05 (show j1 < s.nx by omega)
  have sj2 := z05 (show j2 < s.nx by omega)
  have sjb := z05 (show jb < s.nx by omega)
  unfold zt7
  rcases zi9 na i1 with ⟨hA, p2, hpu, _, n, hf⟩ | ⟨hA, hf⟩
  ·by_cases O : p2.unit.kind = p1.unit.kind
   ·(simp (disch := omega) only [go_sem, Nat.reduceBEq, ↓reduceIte, Nat.reduceAdd, Nat.reduceLeDiff, hnx])
    repeat' (first | ((refine zqh fun K hK => ?_); (simp (disch := omega) only [go_sem, Nat.reduceBEq, ↓reduceIte, reduceCtorEq, Nat.reduceAdd, Nat.reduceLeDiff, g5, g7, g8, d3, d5, s2, s6, sj1, sjb, hf, O])) | ((refine zqm _ rfl (fun hc => ?_) (fun hc => ?_)) <;> (first | (cases hc; done) | ((try simp only [] at hc); (try omega)))) | refine zqk ?_ | (refine hK _ ?_; clear hK K))
    refine zgp ?_
    (simp (disch := omega) only [go_sem, Nat.reduceBEq, Nat.reduceLeDiff, g1, g2, g3, g4, g5, g6, g7, g8, d1, d3, d5, s2, s6, sj1, sj2, sjb, true_and])
    exact ⟨by omega, zuq g10 he (by unfold zf0; rw [hA, <- hpu, O]; simp)⟩
   ·(simp (disch := omega) only [go_sem, Nat.reduceBEq, ↓reduceIte, Nat.reduceAdd, Nat.reduceLeDiff, hnx])
    repeat' (first | ((refine zqh fun K hK => ?_); (simp (disch := omega) only [go_sem, Nat.reduceBEq, ↓reduceIte, reduceCtorEq, Nat.reduceAdd, Nat.reduceLeDiff, g4, g5, g6, g7, g8, d3, d5, s2, s6, sj1, sjb, hf, O])) | ((refine zqm _ rfl (fun hc => ?_) (fun hc => ?_)) <;> (first | (cases hc; done) | ((try simp only [] at hc); (try omega)))) | refine zqn ?_ | (refine hK _ ?_; clear hK K))
    refine rndK_r ?_
    have hkb : z4j A B = false := zz4 na nb he (by unfold zf0; rw [hA, <- hpu]; simp [O])
    rw [hkb] at hcm
    have e1 : z8m A B = [] := by unfold z8m; rw [hcm]; rfl
    have e2 : za4 A B = .tup [.agg zeroPr, .bool false] := by unfold za4; rw [hcm]; rfl
    rw [e1, e2]
    repeat' (first | refine zqx ?_ | refine zqu (by (simp (disch := omega) only [go_sem, Nat.reduceBEq, ↓reduceIte, Nat.reduceLeDiff, g4, g6, s2]); rfl) rfl ?_)
    exact ⟨fun j => j, fun i j hi => (by cases hi), rfl, fun j hj => (by cases hj)⟩
  ·(simp (disch := omega) only [go_sem, Nat.reduceBEq, ↓reduceIte, Nat.reduceAdd, Nat.reduceLeDiff, hnx])
   repeat' (first | ((refine zqh fun K hK => ?_); (simp (disch := omega) only [go_sem, Nat.reduceBEq, ↓reduceIte, reduceCtorEq, Nat.reduceAdd, Nat.reduceLeDiff, g5, g7, g8, d3, d5, s2, s6, sj1, sjb, hf])) | ((refine zqm _ rfl (fun hc => ?_) (fun hc => ?_)) <;> (first | (cases hc; done) | ((try simp only [] at hc); (try omega)))) | refine zqk ?_ | (refine hK _ ?_; clear hK K))
   refine zgp ?_
   (simp (disch := omega) only [go_sem, Nat.reduceBEq, Nat.reduceLeDiff, g1, g2, g3, g4, g5, g6, g7, g8, d1, d3, d5, s2, s6, sj1, sj2, sjb, true_and])
   exact ⟨by omega, zuq g10 he (by unfold zf0; rw [hA]; rfl)⟩
 ·rintro l s ⟨g1, g2, g3, g4, g5, g6, g7, g8, g9, g10⟩ hnd hlt hall
  unfold zm4
  refine zqv (Sem.walk (own := []) z6z (by decide +kernel) ?_)
  repeat' (first | ((refine zqh fun K hK => ?_); (simp (disch := omega) only [go_sem, Nat.reduceBEq, ↓reduceIte, Nat.reduceAdd, Nat.reduceLeDiff, g4, g5, g6, g7, d2, d4])) | refine zqn ?_ | refine zqu (by (simp (disch := omega) only [go_sem, Nat.reduceBEq, ↓reduceIte, Nat.reduceLeDiff, g4, g6, d2]); rfl) rfl ?_ | (refine hK _ ?_; clear hK K))
  have hkt : z4j A B = true := zz3 na nb fun i e he => by
   have hi := (List.getElem?_eq_some_iff.1 he).1
   exact g10 i (hall i (by rw [zk0 nk]; exact hi)) e he
  rw [hkt] at hcm
  have e1 : z8m A B = [.map (mapI encPl (plcs A)), .map (mapI encPl (plcs B))] := by unfold z8m; rw [hcm]; rfl
  have e2 : za4 A B = .tup [.agg (cellsPr A B 0 1), .bool true] := by unfold za4; rw [hcm]; rfl
  rw [e1, e2]
  refine ⟨fun j => if j = 0 then j1 else j2, fun i j hi hj h => ?_, ?_, fun j hj => ?_⟩
  ·simp only [List.length_cons, List.length_nil] at hi hj
   simp only at h
   split at h <;> split at h <;> omega
  ·rw [ren_Pr]; rfl
  ·simp only [List.length_cons, List.length_nil] at hj
   rcases (show j = 0 \/ j = 1 by omega) with rfl | rfl
   ·(simp (disch := omega) only [go_sem, ↓reduceIte, g8, d6, d8])
   ·(simp (disch := omega) only [go_sem, ↓reduceIte, reduceCtorEq, d7])
end
end Go.Proofs.YtfechgagcgbldaaGreatDoor
