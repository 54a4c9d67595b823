/-
  Small facts that the walks use: integers that do not wrap, elements of lists of values, values that are only read. No condition.
-/
import Derived.Test.YtjibdljdkgedcaaAbs15b
set_option linter.unusedSimpArgs false
set_option linter.unusedVariables false
namespace Go.Proofs.Ytjibdljdkgedcaa.Abs
open Go.RowKit

theorem wrapI {n : Int} (h : -9223372036854775808 ≤ n ∧ n ≤ 9223372036854775807) : IntKind.i64.wrap n = n := by rw [IntKind.wrap_i64]; omega
theorem idxD_map {α : Type} (f : α → D) (l : List α) (k : Nat) (h : k < l.length) : idxD (l.map f) (k : Int) = some (f l[k]) := by
  unfold idxD
  rw [if_pos ⟨by omega, by simpa using h⟩]
  simp [h]
theorem pureL_map {α : Type} {f : α → D} (h : ∀ x, pureD (f x) = true) : ∀ (l : List α), pureD.pureL (l.map f) = true
  | [] => rfl
  | x :: l => by simp only [List.map_cons, pureD.pureL, h x, pureL_map h l, Bool.and_self]
theorem sealD_pure {P : Program} {H : HM} {d : D} (k : Nat) (h : pureD d = true) : sealD P H (k + 1) d = some d := by unfold sealD; rw [if_pos h]
theorem optL_pure {P : Program} {H : HM} (k : Nat) : ∀ (ds : List D), pureD.pureL ds = true → optL (sealD P H (k + 1)) ds = some ds
  | [], _ => rfl
  | d :: ds, h => by
    simp only [pureD.pureL, Bool.and_eq_true] at h
    simp only [optL, sealD_pure k h.1, optL_pure k ds h.2]
theorem groupD_one : ∀ (cs : List D), groupD false 1 cs.length cs = cs
  | [] => rfl
  | c :: cs => by
    simp only [List.length_cons, groupD, Bool.false_eq_true, if_false, List.getElem?_cons_zero, Option.getD_some, List.drop_succ_cons, List.drop_zero]
    rw [groupD_one cs]
/-- A row of one-cell elements, shut. -/
theorem sealD_row {P : Program} {H : HM} {id n e : Nat} {cs : List D} (k : Nat) (hH : H id = some (.row e n cs)) (ha : isAggT P e = false) (hs : sizeT P e = 1) (hn : cs.length = n) (hp : pureD.pureL cs = true) :
    sealD P H (k + 2) (.osl id n) = some (.rsl false 1 cs) := by
  unfold sealD
  simp only [pureD, Bool.false_eq_true, if_false, hH, ha, hs, and_self, or_true, if_true]
  rw [optL_pure k cs hp]
  simp only [Option.map_some]
  rw [← hn, groupD_one]

def encI (l : List Int) : D := .rsl false 1 (l.map fun n => .int .i64 n)
def encS (l : List ByteArray) : D := .rsl false 1 (l.map .str)
theorem pure_encI (l : List Int) : pureD (encI l) = true := by simp only [encI, pureD]; exact pureL_map (fun _ => rfl) l
end Go.Proofs.Ytjibdljdkgedcaa.Abs
namespace Go.Proofs.Ytjibdljdkgedcaa.Abs
theorem fin_pure {P : Program} {H : HM} {nx k : Nat} {d r : D} (hp : pureD d = true) (h : Le d r) : Fin P (k + 1) r d H nx := ⟨d, sealD_pure k hp, h⟩
theorem fin_bool {P : Program} {H : HM} {nx : Nat} {b c : Bool} (h : b = c) : Fin P 1 (.bool c) (.bool b) H nx := fin_pure rfl (by rw [h]; exact Le.refl _)
theorem fin_int {P : Program} {H : HM} {nx : Nat} {b c : Int} (h : b = c) : Fin P 1 (.int .i64 c) (.int .i64 b) H nx := fin_pure rfl (by rw [h]; exact Le.refl _)
end Go.Proofs.Ytjibdljdkgedcaa.Abs
namespace Go.Proofs.Ytjibdljdkgedcaa.Abs
open Go.RowKit
/-- A box of one cell, shut. -/
theorem sealD_box {P : Program} {H : HM} {id e : Nat} {c d : D} (k : Nat) (hH : H id = some (.box e [c])) (ha : isAggT P e = false) (hc : sealD P H k c = some d) : sealD P H (k + 1) (.ptr id 0) = some (.rptr d) := by
  unfold sealD
  simp only [pureD, Bool.false_eq_true, if_false, hH, ha, false_or, List.length_cons, List.length_nil, and_self, if_true, optL, hc, Option.map_some, List.getElem?_cons_zero, Option.getD_some]
theorem optL_cons {P : Program} {H : HM} {k : Nat} {d d' : D} {ds ds' : List D} (h : sealD P H k d = some d') (hs : optL (sealD P H k) ds = some ds') : optL (sealD P H k) (d :: ds) = some (d' :: ds') := by
  simp only [optL, h, hs]
theorem optL_nil {P : Program} {H : HM} {k : Nat} : optL (sealD P H k) [] = some [] := rfl
end Go.Proofs.Ytjibdljdkgedcaa.Abs
namespace Go.Proofs.Ytjibdljdkgedcaa.Abs
open Go.RowKit
theorem fin_of {P : Program} {H : HM} {nx k : Nat} {d r : D} (h : sealD P H k d = some r) : Fin P k r d H nx := ⟨r, h, Le.refl _⟩
end Go.Proofs.Ytjibdljdkgedcaa.Abs
namespace Go.Proofs.Ytjibdljdkgedcaa.Abs
open Go.RowKit
theorem pureL_flatMap {α : Type} {f : α → List D} (h : ∀ x, pureD.pureL (f x) = true) : ∀ (l : List α), pureD.pureL (l.flatMap f) = true
  | [] => rfl
  | x :: l => by
    have app : ∀ (a b : List D), pureD.pureL a = true → pureD.pureL b = true → pureD.pureL (a ++ b) = true := by
      intro a b
      induction a with
      | nil => intro _ h; exact h
      | cons d ds ih =>
        intro h1 h2
        simp only [pureD.pureL, Bool.and_eq_true, List.cons_append] at h1 ⊢
        exact ⟨h1.1, ih h1.2 h2⟩
    exact app _ _ (h x) (pureL_flatMap h l)
end Go.Proofs.Ytjibdljdkgedcaa.Abs
namespace Go.Proofs.Ytjibdljdkgedcaa.Abs
end Go.Proofs.Ytjibdljdkgedcaa.Abs
namespace Go.Proofs.Ytjibdljdkgedcaa.Abs
open Go.RowKit
/-- The contract where the arguments read as those that it names. -/
theorem PC.le {P : Program} {f : FuncId} {ds es : List D} {r : D} (h : PC P f es r) (hp : pureD.pureL ds = true) (hl : LeL ds es) : PC P f ds r :=
  ⟨hp, h.2.1, h.2.2.1, fun s w vs h1 h2 h3 h4 => h.2.2.2 s w vs h1 h2 h3 (relAll_le hl h4)⟩
end Go.Proofs.Ytjibdljdkgedcaa.Abs
