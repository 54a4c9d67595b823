import Derived.Test.YtkhjpcmpljpmjaaGreatDoorLaid
import Derived.Test.YtkhjpcmpljpmjaaGreatDoorTree
import Derived.Test.YtkhjpcmpljpmjaaGreatDoorFew
import Derived.Carry
import Derived.WideShapes
set_option linter.unusedSimpArgs false
set_option linter.unusedVariables false
/-
 The reading of the arguments of this chapter's laws. No condition.
-/
namespace Go.Proofs.YtkhjpcmpljpmjaaGreatDoor.Glue
open Go.ChangeShapes Go.WideShapes Go.ChangeAt Go.RowKit Abs Facts Tr
section
open Go.ChangeShapes
variable {H : Type} {enc : TypeId × Value → H} {P : Program} {w : World} {base : Nat} {spare : Nat → Bool} {held : Bool}
theorem trodAll_mk5 {t0 t1 t2 t3 t4 : TypeId} {v0 v1 v2 v3 v4 : Value} {d0 d1 d2 d3 d4 : DataW H} {p0 p1 p2 p3 p4 : List MemPlace} (h0 : DataW.Trod enc P w base spare held t0 v0 d0 p0) (h1 : DataW.Trod enc P w base spare held t1 v1 d1 p1) (h2 : DataW.Trod enc P w base spare held t2 v2 d2 p2) (h3 : DataW.Trod enc P w base spare held t3 v3 d3 p3) (h4 : DataW.Trod enc P w base spare held t4 v4 d4 p4) : DataW.TrodAll enc P w base spare held [t0, t1, t2, t3, t4] [v0, v1, v2, v3, v4] [d0, d1, d2, d3, d4] (p0 ++ (p1 ++ (p2 ++ (p3 ++ p4)))) :=
 ⟨p0, (p1 ++ (p2 ++ (p3 ++ p4))), h0, trodAll_mk4 h1 h2 h3 h4, rfl⟩
theorem trodAll_mk6 {t0 t1 t2 t3 t4 t5 : TypeId} {v0 v1 v2 v3 v4 v5 : Value} {d0 d1 d2 d3 d4 d5 : DataW H} {p0 p1 p2 p3 p4 p5 : List MemPlace} (h0 : DataW.Trod enc P w base spare held t0 v0 d0 p0) (h1 : DataW.Trod enc P w base spare held t1 v1 d1 p1) (h2 : DataW.Trod enc P w base spare held t2 v2 d2 p2) (h3 : DataW.Trod enc P w base spare held t3 v3 d3 p3) (h4 : DataW.Trod enc P w base spare held t4 v4 d4 p4) (h5 : DataW.Trod enc P w base spare held t5 v5 d5 p5) : DataW.TrodAll enc P w base spare held [t0, t1, t2, t3, t4, t5] [v0, v1, v2, v3, v4, v5] [d0, d1, d2, d3, d4, d5] (p0 ++ (p1 ++ (p2 ++ (p3 ++ (p4 ++ p5))))) :=
 ⟨p0, (p1 ++ (p2 ++ (p3 ++ (p4 ++ p5)))), h0, trodAll_mk5 h1 h2 h3 h4 h5, rfl⟩
theorem trodAll_seven {t0 t1 t2 t3 t4 t5 t6 : TypeId} {args : Array Value} {ds : List (DataW H)} {ps : List MemPlace} (h : DataW.TrodAll enc P w base spare held [t0, t1, t2, t3, t4, t5, t6] args.toList ds ps) :
  ∃ v0 v1 v2 v3 v4 v5 v6 d0 d1 d2 d3 d4 d5 d6 p0 p1 p2 p3 p4 p5 p6, args = #[v0, v1, v2, v3, v4, v5, v6] ∧ ds = [d0, d1, d2, d3, d4, d5, d6] ∧ ps = p0 ++ p1 ++ p2 ++ p3 ++ p4 ++ p5 ++ p6 ∧ DataW.Trod enc P w base spare held t0 v0 d0 p0 ∧ DataW.Trod enc P w base spare held t1 v1 d1 p1 ∧ DataW.Trod enc P w base spare held t2 v2 d2 p2 ∧ DataW.Trod enc P w base spare held t3 v3 d3 p3 ∧ DataW.Trod enc P w base spare held t4 v4 d4 p4 ∧ DataW.Trod enc P w base spare held t5 v5 d5 p5 ∧ DataW.Trod enc P w base spare held t6 v6 d6 p6 := by
 obtain ⟨v0, vs0, d0, e0, p0, q0, hargs, rfl, rfl, h0, r0⟩ := trodAll_cons h
 obtain ⟨v1, vs1, d1, e1, p1, q1, rfl, rfl, rfl, h1, r1⟩ := trodAll_cons r0
 obtain ⟨v2, vs2, d2, e2, p2, q2, rfl, rfl, rfl, h2, r2⟩ := trodAll_cons r1
 obtain ⟨v3, vs3, d3, e3, p3, q3, rfl, rfl, rfl, h3, r3⟩ := trodAll_cons r2
 obtain ⟨v4, vs4, d4, e4, p4, q4, rfl, rfl, rfl, h4, r4⟩ := trodAll_cons r3
 obtain ⟨v5, vs5, d5, e5, p5, q5, rfl, rfl, rfl, h5, r5⟩ := trodAll_cons r4
 obtain ⟨v6, vs6, d6, e6, p6, q6, rfl, rfl, rfl, h6, r6⟩ := trodAll_cons r5
 obtain ⟨rfl, rfl, rfl⟩ := trodAll_nil r6
 exact ⟨v0, v1, v2, v3, v4, v5, v6, d0, d1, d2, d3, d4, d5, d6, p0, p1, p2, p3, p4, p5, p6, by cases args; simp_all, rfl, by simp, h0, h1, h2, h3, h4, h5, h6⟩
theorem trodAll_mk7 {t0 t1 t2 t3 t4 t5 t6 : TypeId} {v0 v1 v2 v3 v4 v5 v6 : Value} {d0 d1 d2 d3 d4 d5 d6 : DataW H} {p0 p1 p2 p3 p4 p5 p6 : List MemPlace} (h0 : DataW.Trod enc P w base spare held t0 v0 d0 p0) (h1 : DataW.Trod enc P w base spare held t1 v1 d1 p1) (h2 : DataW.Trod enc P w base spare held t2 v2 d2 p2) (h3 : DataW.Trod enc P w base spare held t3 v3 d3 p3) (h4 : DataW.Trod enc P w base spare held t4 v4 d4 p4) (h5 : DataW.Trod enc P w base spare held t5 v5 d5 p5) (h6 : DataW.Trod enc P w base spare held t6 v6 d6 p6) : DataW.TrodAll enc P w base spare held [t0, t1, t2, t3, t4, t5, t6] [v0, v1, v2, v3, v4, v5, v6] [d0, d1, d2, d3, d4, d5, d6] (p0 ++ (p1 ++ (p2 ++ (p3 ++ (p4 ++ (p5 ++ p6)))))) :=
 ⟨p0, (p1 ++ (p2 ++ (p3 ++ (p4 ++ (p5 ++ p6))))), h0, trodAll_mk6 h1 h2 h3 h4 h5 h6, rfl⟩
end
theorem ownK : ownKnob Tryz.prog.godebug = none := by kernel_rfl
theorem laidOutK : laidOutB Tryz.prog = true := by kernel_rfl
def S : List TypeId := [4, 3, 9, 23, 49, 51, 24, 27, 25]
set_option maxRecDepth 100000
theorem closedS : closedB Tryz.prog S = true := by decide +kernel
theorem typed_id {n : Nat} {ds : List D} (h : Typed Tryz.prog n 23 ds) : ∃ i : Idv, ds = cellsId i := by
 obtain ⟨m, rfl, h⟩ := typed_struct Tryz.underlying23 h
 obtain ⟨d1, r1, rfl, h1, d2, r2, rfl, h2, d3, r3, rfl, h3, rfl⟩ := h
 obtain ⟨i, rfl, _⟩ := typed_int Tryz.underlying3 h1
 obtain ⟨j, rfl, _⟩ := typed_int Tryz.underlying3 h2
 obtain ⟨k, rfl, _⟩ := typed_int Tryz.underlying3 h3
 exact ⟨⟨i, j, k⟩, rfl⟩
theorem typed_word {n : Nat} {ds : List D} (h : Typed Tryz.prog n 51 ds) : ∃ w : Wd, ds = cellsWd w := by
 obtain ⟨m, rfl, h⟩ := typed_struct Tryz.underlying51 h
 obtain ⟨d1, r1, rfl, h1, d2, r2, rfl, h2, rfl⟩ := h
 obtain ⟨s, rfl, _⟩ := typed_str Tryz.underlying9 h1
 obtain ⟨m', rfl, h3⟩ := typed_struct Tryz.underlying49 h2
 obtain ⟨e1, q1, rfl, g1, e2, q2, rfl, g2, e3, q3, rfl, g3, rfl⟩ := h3
 obtain ⟨i, rfl, _⟩ := typed_int Tryz.underlying3 g1
 obtain ⟨j, rfl, _⟩ := typed_int Tryz.underlying3 g2
 obtain ⟨k, rfl, _⟩ := typed_int Tryz.underlying3 g3
 exact ⟨⟨s, ⟨i, j, k⟩⟩, rfl⟩
theorem typed_words {n : Nat} {ds : List D} (h : Typed Tryz.prog n 24 ds) : ∃ l : List Wd, ds = [encWs l] ∧ l.length ≤ maxLen := by
 obtain ⟨m, parts, rfl, hl, hp, rfl⟩ := typed_slice Tryz.underlying24 h
 obtain ⟨l, rfl, _⟩ := list_of_parts (f := cellsWd) (q := fun _ => True) (fun p hp => by obtain ⟨w, e⟩ := typed_word hp; exact ⟨w, e, trivial⟩) parts hp
 refine ⟨l, ?_, by simpa using hl⟩
 rw [isAggT51, sizeT51, List.map_map]; rfl
theorem typed_unit : ∀ (n : Nat) {ds : List D}, Typed Tryz.prog n 27 ds → ∃ t : T, ds = cellsU t ∧ fitB t = true := by
 intro n
 induction n using Nat.strongRecOn with
 | ind n ih =>
  intro ds h
  obtain ⟨m, rfl, h⟩ := typed_struct Tryz.underlying27 h
  obtain ⟨d1, r1, rfl, h1, d2, r2, rfl, h2, d3, r3, rfl, h3, d4, r4, rfl, h4, d5, r5, rfl, h5, d6, r6, rfl, h6, rfl⟩ := h
  obtain ⟨i, rfl⟩ := typed_id h1
  obtain ⟨k, rfl, _⟩ := typed_int Tryz.underlying3 h2
  obtain ⟨s, rfl, _⟩ := typed_str Tryz.underlying9 h3
  obtain ⟨a, rfl, ha⟩ := typed_words h4
  obtain ⟨b, rfl, hb⟩ := typed_words h5
  obtain ⟨q, parts, rfl, hl, hp, rfl⟩ := typed_slice Tryz.underlying25 h6
  obtain ⟨l, rfl, hq⟩ := list_of_parts (f := cellsU) (q := fun t => fitB t = true) (fun p hp => ih q (by omega) hp) parts hp
  refine ⟨.mk i k s a b l, ?_, ?_⟩
  ·rw [cellsU_eq, isAggT27, sizeT27, List.map_map]; rfl
  ·rw [fit_iff]
   exact ⟨ha, hb, (show l.length ≤ _ by simpa using hl), hq⟩
section
variable {H : Type} {enc : TypeId × Value → H} {W : World} {base : Nat} {r : Reach} {b0 : Nat} {spare : Nat → Bool} {held : Bool} {v : Value} {d : DataW H} {p : List MemPlace}
theorem rd_int (hv : Value.okWide Tryz.prog W r b0 3 v) (h : DataW.Trod enc Tryz.prog W base spare held 3 v d p) : ∃ i : Int, (-9223372036854775808 ≤ i ∧ i ≤ 9223372036854775807) ∧ rel (readS W) (.int .i64 i) v := by
 obtain ⟨n, rfl⟩ := okWide_int Tryz.underlying3 hv
 obtain ⟨m, d', ht, hr⟩ := one_arg closedS (by decide) isAggT3 rfl h
 obtain ⟨i, he, h1⟩ := typed_int Tryz.underlying3 ht
 cases he
 exact ⟨i, h1, hr⟩
theorem rd_id (hv : Value.okWide Tryz.prog W r b0 23 v) (h : DataW.Trod enc Tryz.prog W base spare held 23 v d p) : ∃ i : Idv, True ∧ rel (readS W) (encId i) v := by
 obtain ⟨cs, rfl, _⟩ := okWide_struct Tryz.underlying23 hv
 obtain ⟨m, ds, ht, hr⟩ := agg_arg closedS (by decide) h
 obtain ⟨q, rfl⟩ := typed_id ht
 exact ⟨q, trivial, hr⟩
theorem rd_unit (hv : Value.okWide Tryz.prog W r b0 27 v) (h : DataW.Trod enc Tryz.prog W base spare held 27 v d p) : ∃ t : T, fitB t = true ∧ rel (readS W) (encU t) v := by
 obtain ⟨cs, rfl, _⟩ := okWide_struct Tryz.underlying27 hv
 obtain ⟨m, ds, ht, hr⟩ := agg_arg closedS (by decide) h
 obtain ⟨q, rfl, hq⟩ := typed_unit _ ht
 exact ⟨q, hq, hr⟩
end
end Go.Proofs.YtkhjpcmpljpmjaaGreatDoor.Glue
/-
 The reading of strings, lists of words and small numbers. No condition.
-/
namespace Go.Proofs.YtkhjpcmpljpmjaaGreatDoor.Glue
open Go.ChangeShapes Go.WideShapes Go.ChangeAt Go.RowKit Abs Facts Tr
set_option maxRecDepth 100000
theorem typed_wordQ {n : Nat} {ds : List D} (h : Typed Tryz.prog n 51 ds) : ∃ w : Wd, ds = cellsWd w ∧ w.text.size ≤ maxLen := by
 obtain ⟨m, rfl, h⟩ := typed_struct Tryz.underlying51 h
 obtain ⟨d1, r1, rfl, h1, d2, r2, rfl, h2, rfl⟩ := h
 obtain ⟨s, rfl, hs⟩ := typed_str Tryz.underlying9 h1
 obtain ⟨m', rfl, h3⟩ := typed_struct Tryz.underlying49 h2
 obtain ⟨e1, q1, rfl, g1, e2, q2, rfl, g2, e3, q3, rfl, g3, rfl⟩ := h3
 obtain ⟨i, rfl, _⟩ := typed_int Tryz.underlying3 g1
 obtain ⟨j, rfl, _⟩ := typed_int Tryz.underlying3 g2
 obtain ⟨k, rfl, _⟩ := typed_int Tryz.underlying3 g3
 exact ⟨⟨s, ⟨i, j, k⟩⟩, rfl, hs⟩
section
variable {H : Type} {enc : TypeId × Value → H} {W : World} {base : Nat} {r : Reach} {b0 : Nat} {spare : Nat → Bool} {held : Bool} {v : Value} {d : DataW H} {p : List MemPlace}
theorem rd_str (hv : Value.okWide Tryz.prog W r b0 9 v) (h : DataW.Trod enc Tryz.prog W base spare held 9 v d p) : ∃ s : ByteArray, s.size ≤ maxLen ∧ rel (readS W) (.str s) v := by
 obtain ⟨n, rfl⟩ := okWide_string Tryz.underlying9 hv
 obtain ⟨m, d', ht, hr⟩ := one_arg closedS (by decide) isAggT9 rfl h
 obtain ⟨s, he, h1⟩ := typed_str Tryz.underlying9 ht
 cases he
 exact ⟨s, h1, hr⟩
theorem rd_words (hv : Value.okWide Tryz.prog W r b0 24 v) (h : DataW.Trod enc Tryz.prog W base spare held 24 v d p) : ∃ l : List Wd, (l.length ≤ maxLen ∧ ∀ w ∈ l, w.text.size ≤ maxLen) ∧ rel (readS W) (encWs l) v := by
 obtain ⟨a, n, c, rfl⟩ := okWide_slice Tryz.underlying24 hv
 obtain ⟨m, d', ht, hr⟩ := one_arg closedS (by decide) isAggT24 rfl h
 obtain ⟨m, parts, rfl, hl, hp, he⟩ := typed_slice Tryz.underlying24 ht
 obtain ⟨l, rfl, hq⟩ := list_of_parts (f := cellsWd) (q := fun w : Wd => w.text.size ≤ maxLen) (fun p hp => typed_wordQ hp) parts hp
 refine ⟨l, ⟨by simpa using hl, hq⟩, ?_⟩
 have : d' = encWs l := by
  simp only [List.cons.injEq, and_true] at he
  rw [he, isAggT51, sizeT51, List.map_map]; rfl
 rw [← this]; exact hr
end
end Go.Proofs.YtkhjpcmpljpmjaaGreatDoor.Glue
