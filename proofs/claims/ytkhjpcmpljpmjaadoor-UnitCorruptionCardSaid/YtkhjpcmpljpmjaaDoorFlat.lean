/-
  Rows of structs as lists: taking out and putting in an element. Owned rows that stand for nil. No condition.
-/
import Derived.Test.YtkhjpcmpljpmjaaDoorFind
import Derived.Test.YtkhjpcmpljpmjaaDoorRefT
set_option linter.unusedSimpArgs false
set_option linter.unusedVariables false
namespace Go.Proofs.YtkhjpcmpljpmjaaDoor
open Abs Facts Tr Go.RowKit
namespace Abs
theorem splice_app1 : ∀ (vs a b : List D) (off : Nat), off + vs.length ≤ a.length → splice (a ++ b) off vs = splice a off vs ++ b
  | [], a, b, off, _ => rfl
  | v :: vs, a, b, off, h => by
    simp only [List.length_cons] at h
    unfold splice
    rw [List.set_append_left _ _ (by omega), splice_app1 vs (a.set off v) b (off + 1) (by rw [List.length_set]; omega)]
theorem splice_app2 : ∀ (vs a b : List D) (off : Nat), splice (a ++ b) (a.length + off) vs = a ++ splice b off vs
  | [], a, b, off => rfl
  | v :: vs, a, b, off => by
    unfold splice
    rw [List.set_append_right _ _ (by omega), show a.length + off - a.length = off from by omega, Nat.add_assoc, splice_app2 vs a (b.set off v) (off + 1)]
section
variable {α : Type} {f : α → List D} {sz : Nat}
theorem flat_len (h : ∀ x, (f x).length = sz) : ∀ l : List α, (l.flatMap f).length = l.length * sz
  | [] => by simp
  | x :: l => by rw [List.flatMap_cons, List.length_append, h, flat_len h l, List.length_cons, Nat.add_mul]; omega
theorem drop_flat (h : ∀ x, (f x).length = sz) : ∀ (l : List α) (i : Nat), (l.flatMap f).drop (i * sz) = (l.drop i).flatMap f
  | l, 0 => by simp
  | [], i + 1 => by simp
  | x :: l, i + 1 => by
    rw [List.flatMap_cons, List.drop_succ_cons, ← drop_flat h l i, Nat.add_mul, Nat.one_mul, Nat.add_comm, ← List.drop_drop]
    congr 1
    rw [List.drop_append_of_le_length (by rw [h]; omega), List.drop_of_length_le (by rw [h]; omega), List.nil_append]
theorem take_flat (h : ∀ x, (f x).length = sz) {l : List α} {i : Nat} (hi : i < l.length) : ((l.flatMap f).drop (i * sz)).take sz = f l[i] := by
  rw [drop_flat h, List.drop_eq_getElem_cons hi, List.flatMap_cons, List.take_append_of_le_length (by rw [h]; omega), List.take_of_length_le (by rw [h]; omega)]
theorem splice_flat (h : ∀ x, (f x).length = sz) {y : α} {vs : List D} {o : Nat} : ∀ {l : List α} {i : Nat} (hi : i < l.length), o + vs.length ≤ sz → splice (f l[i]) o vs = f y → splice (l.flatMap f) (i * sz + o) vs = (l.set i y).flatMap f
  | x :: l, 0, _, ho, hs => by
    rw [Nat.zero_mul, Nat.zero_add, List.flatMap_cons, splice_app1 _ _ _ _ (by rw [h]; exact ho), List.set_cons_zero, List.flatMap_cons]
    simp only [List.getElem_cons_zero] at hs
    rw [hs]
  | x :: l, i + 1, hi, ho, hs => by
    rw [List.flatMap_cons, show (i + 1) * sz + o = (f x).length + (i * sz + o) from by rw [h, Nat.add_mul]; omega, splice_app2, List.set_cons_succ, List.flatMap_cons]
    rw [splice_flat h (l := l) (i := i) (by simpa using hi) ho (by simpa using hs)]
theorem splice_all : ∀ (vs cs : List D), vs.length = cs.length → splice cs 0 vs = vs := by
  intro vs cs h
  rw [splice_eq vs cs 0 (by omega)]
  simp [← h]
theorem splice_flat0 (h : ∀ x, (f x).length = sz) {y : α} {l : List α} {i : Nat} (hi : i < l.length) : splice (l.flatMap f) (i * sz) (f y) = (l.set i y).flatMap f := by
  have := splice_flat h (y := y) (vs := f y) (o := 0) hi (by rw [h]; omega) (splice_all _ _ (by rw [h, h]))
  simpa using this
end
variable {P : Program}
theorem sealD_rowAggN {α : Type} {P : Program} {H : HM} {id e sz n : Nat} {f : α → List D} {l : List α} (k : Nat) (hn : l.length = n) (hH : H id = some (.row e n (l.flatMap f))) (ha : isAggT P e = true) (hs : sizeT P e = sz) (h : ∀ x, (f x).length = sz) (hp : ∀ x, pureD.pureL (f x) = true) :
    sealD P H (k + 2) (.osl id n) = some (.rsl false sz (l.map fun x => .agg (f x))) := by
  subst hn
  exact sealD_rowAgg k hH ha hs h hp
end Abs
end Go.Proofs.YtkhjpcmpljpmjaaDoor
