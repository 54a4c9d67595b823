/-
 Rows of structs as lists: taking out and putting in an element. Owned rows that stand for nil. No condition.
-/
import Derived.Test.YtkhjpcmpljpmjaaGreatDoorFind
import Derived.Test.YtkhjpcmpljpmjaaGreatDoorRefT
set_option linter.unusedSimpArgs false
set_option linter.unusedVariables false
namespace Go.Proofs.YtkhjpcmpljpmjaaGreatDoor
open Abs Facts Tr Go.RowKit
namespace Abs
theorem splice_app1 : ∀ (vs a b : List D) (off : Nat), off + vs.length ≤ a.length → splice (a ++ b) off vs = splice a off vs ++ b
 | [], a, b, off, _ => rfl
 | v :: vs, a, b, off, h => by
  simp only [List.length_cons] at h
  unfold splice
  rw [List.set_append_left _ _ (by omega), splice_app1 vs (a.set off v) b (off + 1) (by rw [List.length_set]; omega)]
theorem splice_app2 : ∀ (vs a b : List D) (off : Nat), splice (a ++ b) (a.length + off) vs = a ++ splice b off vs
 | [], a, b, off => rfl
 | v :: vs, a, b, off => by
  unfold splice
  rw [List.set_append_right _ _ (by omega), show a.length + off - a.length = off from by omega, Nat.add_assoc, splice_app2 vs a (b.set off v) (off + 1)]
section
variable {α : Type} {f : α → List D} {sz : Nat}
theorem flat_len (h : ∀ x, (f x).length = sz) : ∀ l : List α, (l.flatMap f).length = l.length * sz
 | [] => by simp
 | x :: l => by rw [List.flatMap_cons, List.length_append, h, flat_len h l, List.length_cons, Nat.add_mul]; omega
theorem drop_flat (h : ∀ x, (f x).length = sz) : ∀ (l : List α) (i : Nat), (l.flatMap f).drop (i * sz) = (l.drop i).flatMap f
 | l, 0 => by simp
 | [], i + 1 => by simp
 | x :: l, i + 1 => by
  rw [List.flatMap_cons, List.drop_succ_cons, ← drop_flat h l i, Nat.add_mul, Nat.one_mul, Nat.add_comm, ← List.drop_drop]
  congr 1
  rw [List.drop_append_of_le_length (by rw [h]; omega), List.drop_of_length_le (by rw [h]; omega), List.nil_append]
theorem take_flat (h : ∀ x, (f x).length = sz) {l : List α} {i : Nat} (hi : i < l.length) : ((l.flatMap f).drop (i * sz)).take sz = f l[i] := by
 rw [drop_flat h, List.drop_eq_getElem_cons hi, List.flatMap_cons, List.take_append_of_le_length (by rw [h]; omega), List.take_of_length_le (by rw [h]; omega)]
theorem splice_flat (h : ∀ x, (f x).length = sz) {y : α} {vs : List D} {o : Nat} : ∀ {l : List α} {i : Nat} (hi : i < l.length), o + vs.length ≤ sz → splice (f l[i]) o vs = f y → splice (l.flatMap f) (i * sz + o) vs = (l.set i y).flatMap f
 | x :: l, 0, _, ho, hs => by
  rw [Nat.zero_mul, Nat.zero_add, List.flatMap_cons, splice_app1 _ _ _ _ (by rw [h]; exact ho), List.set_cons_zero, List.flatMap_cons]
  simp only [List.getElem_cons_zero] at hs
  rw [hs]
 | x :: l, i + 1, hi, ho, hs => by
  rw [List.flatMap_cons, show (i + 1) * sz + o = (f x).length + (i * sz + o) from by rw [h, Nat.add_mul]; omega, splice_app2, List.set_cons_succ, List.flatMap_cons]
  rw [splice_flat h (l := l) (i := i) (by simpa using hi) ho (by simpa using hs)]
theorem splice_all : ∀ (vs cs : List D), vs.length = cs.length → splice cs 0 vs = vs := by
 intro vs cs h
 rw [splice_eq vs cs 0 (by omega)]
 simp [← h]
theorem splice_flat0 (h : ∀ x, (f x).length = sz) {y : α} {l : List α} {i : Nat} (hi : i < l.length) : splice (l.flatMap f) (i * sz) (f y) = (l.set i y).flatMap f := by
 have := splice_flat h (y := y) (vs := f y) (o := 0) hi (by rw [h]; omega) (splice_all _ _ (by rw [h, h]))
 simpa using this
end
variable {P : Program}
theorem sealD_rowAggN {α : Type} {P : Program} {H : HM} {id e sz n : Nat} {f : α → List D} {l : List α} (k : Nat) (hn : l.length = n) (hH : H id = some (.row e n (l.flatMap f))) (ha : isAggT P e = true) (hs : sizeT P e = sz) (h : ∀ x, (f x).length = sz) (hp : ∀ x, pureD.pureL (f x) = true) :
  sealD P H (k + 2) (.osl id n) = some (.rsl false sz (l.map fun x => .agg (f x))) := by
 subst hn
 exact sealD_rowAgg k hH ha hs h hp
theorem AC_nilrow {f : FuncId} {ds : List D} {H : HM} {nx : Nat} {K : D → HM → Nat → Prop} (e : TypeId) (h : AC P f ds H nx fun r H' nx' => r = .nil ∧ K (.osl nx' 0) (updH H' nx' (some (.row e 0 []))) (nx' + 1)) : AC P f ds H nx K := by
 refine ⟨h.1, fun s w vs h1 h2 h3 h4 => (h.2 s w vs h1 h2 h3 h4).mono fun x w' ⟨v, r, s', he, ⟨hr, hK⟩, hstep, hRH, hrel⟩ => ?_⟩
 subst hr
 simp only [rel] at hrel
 subst hrel
 obtain ⟨g1, g2⟩ := new_obj hRH (Grew.refl w') (.row e 0 []) (.slice none 0 0) (fun b hb => by cases hb) ⟨[], ⟨by simp, .inl ⟨rfl, rfl⟩⟩, relAll_nil, by intro v hv; cases hv⟩
 refine ⟨.slice none 0 0, .osl s'.nx 0, s'.add (.slice none 0 0) (.row e 0 []), he, hK, hstep.trans g1, g2, ?_⟩
 simp only [rel]
 refine ⟨Nat.lt_succ_self _, ⟨none, 0, rfl⟩, fun e' k cs hH => ?_⟩
 simp only [RS.add, updH, if_true, Option.some.injEq, HObj.row.injEq] at hH
 obtain ⟨_, rfl, _⟩ := hH
 exact ⟨Nat.le_refl _, fun _ => by simp [RS.add]⟩
theorem awp_seq_regX {N id : Nat} {l : List Oper} {b : Code} {own : List Nat} {Q : Exit → St → Prop} {st : St} (_hid : (id == N) = false) (h : ∀ K : St → Prop, (∀ st, awp P own b Q st → K st) → awpL P own (l.map (·.dst)) l K st) : awp P own (.seq (.region id l.toArray false) b) Q st := zqh h
theorem awp_seq_drawX {N id : Nat} {l : List Oper} {b : Code} {own : List Nat} {Q : Exit → St → Prop} {st : St} (_hid : (id == N) = false) (h0 : drawOK own l.toArray = true) (h : ∀ K : St → Prop, (∀ st, awp P own b Q st → K st) → awpD P own (l.map (·.dst)) l K st) : awp P own (.seq (.region id l.toArray true) b) Q st := zqe h0 h
end Abs
end Go.Proofs.YtkhjpcmpljpmjaaGreatDoor
