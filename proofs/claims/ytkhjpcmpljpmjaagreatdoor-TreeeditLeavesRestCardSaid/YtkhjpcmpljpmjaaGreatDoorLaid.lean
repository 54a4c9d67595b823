/-
 What the package variables hold, out of the row's premise. No condition.
-/
import Derived.Test.YtkhjpcmpljpmjaaGreatDoorRead
import Derived.Test.YtkhjpcmpljpmjaaGreatDoorRows
import Derived.Test.YtkhjpcmpljpmjaaGreatDoorFacts
import Derived.OpenShut
import Derived.LaidMore
import Derived.MakeChecks
import Derived.FnData
set_option linter.unusedSimpArgs false
set_option linter.unusedVariables false
namespace Go.Proofs.YtkhjpcmpljpmjaaGreatDoor.Abs
open Go.RowKit Go.ChangeShapes Facts
def readD (P : Program) : Nat → TypeId → DataW Unit → Option (List D)
 | 0, _, _ => none
 | n + 1, t, d => match P.underlying t, d with
  | some .string, .lit (.string l) => some [.str ⟨l.toArray⟩]
  | some (.int k), .lit (.int _ i) => some [.int k i]
  | some (.slice _), .nil => some [.nil]
  | some (.slice e), .slice ds _ => (ds.mapM (readD P n e)).map fun parts => [.rsl true (sizeT P e) (parts.map (elD (isAggT P e)))]
  | some (.array m e), .agg ds => if P.cellsOf t = m * P.cellsOf e then (ds.mapM (readD P n e)).map List.flatten else none
  | _, _ => none
section
variable {P : Program} {W : World} {base : Nat} {spare : Nat → Bool} {held : Bool}
theorem datum_read : ∀ (n : Nat) (m : Nat) (t : TypeId) (cs : List Value) (d : DataW Unit) (p : List MemPlace) (ds : List D), DataW.trod (fun _ => ()) P W base spare held m t cs = some (d, p) → readD P n t d = some ds →
  relAll (readS W) ds cs ∧ ones cs ∧ (isAggT P t = false → ∃ c d', cs = [c] ∧ ds = [d']) := by
 intro n
 induction n with
 | zero => intro m t cs d p ds _ h; simp [readD] at h
 | succ n ih =>
  intro m t cs d p ds ht h
  unfold readD at h
  split at h
  ·rename_i l hu
   simp only [Option.some.injEq] at h
   subst h
   obtain ⟨s, rfl, hx, _⟩ := DataW.trod_string hu ht
   simp only [Prod.mk.injEq, DataW.lit.injEq, Lit.string.injEq] at hx
   obtain ⟨rfl, _⟩ := hx
   obtain ⟨h1, h2⟩ := one_read (W := W) (d := .str ⟨s.data.toList.toArray⟩) (v := .string s) (by simp only [rel]) rfl
   exact ⟨h1, h2, fun _ => ⟨_, _, rfl, rfl⟩⟩
  ·rename_i k k' i hu
   simp only [Option.some.injEq] at h
   subst h
   obtain ⟨i', rfl, hx, _⟩ := DataW.trod_int hu ht
   simp only [Prod.mk.injEq, DataW.lit.injEq, Lit.int.injEq] at hx
   obtain ⟨⟨_, rfl⟩, _⟩ := hx
   obtain ⟨h1, h2⟩ := one_read (W := W) (d := .int k i) (v := .int k i) (by simp [rel]) rfl
   exact ⟨h1, h2, fun _ => ⟨_, _, rfl, rfl⟩⟩
  ·rename_i e hu
   simp only [Option.some.injEq] at h
   subst h
   rcases DataW.trod_slice hu ht with ⟨rfl, _⟩ | ⟨_, _, _, _, _, _, _, _, hx, _⟩
   ·obtain ⟨h1, h2⟩ := one_read (W := W) (d := .nil) (v := .slice none 0 0) (by simp [rel]) rfl
    exact ⟨h1, h2, fun _ => ⟨_, _, rfl, rfl⟩⟩
   ·simp at hx
  ·rename_i e dl sp hu
   rcases DataW.trod_slice hu ht with ⟨_, hx⟩ | ⟨a, len, cap, elems, rest, m, hm, rfl, hx, _, hl, hcm, hlen, hel, _⟩
   ·simp at hx
   simp only [Prod.mk.injEq, DataW.slice.injEq] at hx
   obtain ⟨⟨rfl, _⟩, _⟩ := hx
   simp only [Option.map_eq_some_iff] at h
   obtain ⟨parts, hparts, rfl⟩ := h
   have hpl : parts.length = len := by
    have := mapM_some_length hparts
    simpa [hlen] using this
   have each : ∀ i : _root_.Fin len, ∃ p : List Value × List D, parts[i.1]? = some p.2 ∧ W.cells? base (a.add (i * P.cellsOf e)) (P.cellsOf e) = some p.1 ∧ relAll (readS W) p.2 p.1 ∧ ones p.1 ∧ (isAggT P e = false → ∃ c d, p.1 = [c] ∧ p.2 = [d]) := by
    intro i
    have hi := hel i i.2
    rw [List.getElem?_eq_getElem (by omega), Option.bind_eq_some_iff] at hi
    obtain ⟨cs', h1, h2⟩ := hi
    have hg := mapM_some_get hparts i.1 (elems[i.1]'(by omega)).1 (by rw [List.getElem?_map, List.getElem?_eq_getElem (by omega)]; rfl)
    rw [List.getElem?_eq_getElem (by omega)] at hg
    obtain ⟨k1, k2, k4⟩ := ih _ e cs' _ _ _ h2 hg
    exact ⟨(cs', parts[i.1]'(by omega)), List.getElem?_eq_getElem (by omega), h1, k1, k2, k4⟩
   obtain ⟨f, hf⟩ := Classical.axiomOfChoice each
   have hag : ∀ i, rel (readS W) (elD (isAggT P e) (f i).2) (elV (isAggT P e) (f i).1) ∧ (elV (isAggT P e) (f i).1).cells.toList = (f i).1 := by
    intro i
    obtain ⟨_, h1, h2, h3, h5⟩ := hf i
    cases hag : isAggT P e with
    | true =>
     simp only [elD, elV, if_true, Value.cells]
     exact ⟨by simp only [rel]; exact ⟨_, rfl, h2, h3⟩, trivial⟩
    | false =>
     obtain ⟨c, d, hc1, hd1⟩ := h5 hag
     rw [hc1, hd1] at h2
     rw [hc1] at h3
     simp only [elD, elV, hc1, hd1, Bool.false_eq_true, if_false, List.getElem?_cons_zero, Option.getD_some]
     simp only [relAll] at h2
     obtain ⟨v, r, hv, hrel, hr⟩ := h2
     simp only [List.cons.injEq] at hv
     obtain ⟨rfl, rfl⟩ := hv
     refine ⟨hrel, ?_⟩
     rw [cells_of_one (h3 c (by simp))]
   have hsz : sizeT P e = P.cellsOf e := rfl
   obtain ⟨h1, h2⟩ := one_read (W := W) (d := .rsl true (sizeT P e) (parts.map (elD (isAggT P e)))) (v := .slice (some a) len cap) (by
    simp only [rel]
    refine .inr ⟨a, cap, List.ofFn fun i => elV (isAggT P e) (f i).1, by simp [hpl], by simpa [hpl] using hl, hcm, relAll_of (by simp [hpl]) (fun i d v hd hv => ?_), fun i v hv => ?_⟩
    ·simp only [List.getElem?_map, List.getElem?_ofFn] at hd hv
     split at hv
     ·rename_i hi
      rw [(hf ⟨i, hi⟩).1] at hd
      simp only [Option.map_some, Option.some.injEq] at hd hv
      subst hd; subst hv
      exact (hag ⟨i, hi⟩).1
     ·cases hv
    ·simp only [List.getElem?_ofFn] at hv
     split at hv
     ·rename_i hi
      simp only [Option.some.injEq] at hv
      subst hv
      obtain ⟨_, g1, _⟩ := hf ⟨i, hi⟩
      obtain ⟨_, g2, g3⟩ := World.cells?_some g1
      have g4 := (hag ⟨i, hi⟩).2
      refine ⟨by rw [← Array.length_toList, g4, g2, hsz], fun j c hj => ?_⟩
      rw [g4] at hj
      have hjl : j < P.cellsOf e := by rw [← g2]; exact (List.getElem?_eq_some_iff.1 hj).1
      have := g3 j hjl
      rw [hj] at this
      exact this
     ·cases hv) rfl
   exact ⟨h1, h2, fun _ => ⟨_, _, rfl, rfl⟩⟩
  ·rename_i m' e dl hu
   split at h
   ·rename_i hc
    obtain ⟨xs, m1, hm, hx, hcl, hxl, hxe⟩ := DataW.trod_array hu ht
    simp only [Prod.mk.injEq, DataW.agg.injEq] at hx
    obtain ⟨rfl, _⟩ := hx
    simp only [Option.map_eq_some_iff] at h
    obtain ⟨parts, hparts, rfl⟩ := h
    have hpl : parts.length = m' := by
     have := mapM_some_length hparts
     simpa [hxl] using this
    have key : ∀ k, k ≤ m' → relAll (readS W) (parts.take k).flatten (cs.take (k * P.cellsOf e)) ∧ ones (cs.take (k * P.cellsOf e)) := by
     intro k
     induction k with
     | zero => intro _; simp only [List.take_zero, List.flatten_nil, Nat.zero_mul]; exact ⟨relAll_nil, ones_nil⟩
     | succ k ihk =>
      intro hk
      obtain ⟨q1, q2⟩ := ihk (by omega)
      have hi := hxe k (by omega)
      rw [List.getElem?_eq_getElem (by omega)] at hi
      have hg := mapM_some_get hparts k (xs[k]'(by omega)).1 (by rw [List.getElem?_map, List.getElem?_eq_getElem (by omega)]; rfl)
      rw [List.getElem?_eq_getElem (by omega)] at hg
      obtain ⟨k1, k2, _⟩ := ih _ e _ _ _ _ hi hg
      rw [List.take_succ_eq_append_getElem (by omega), List.flatten_append, Nat.add_mul, Nat.one_mul, List.take_add]
      simp only [List.flatten_cons, List.flatten_nil, List.append_nil]
      exact ⟨relAll_append q1 k1, ones_append q2 k2⟩
    obtain ⟨q1, q2⟩ := key m' (Nat.le_refl _)
    rw [List.take_of_length_le (by omega), List.take_of_length_le (by omega)] at q1
    rw [List.take_of_length_le (by omega)] at q2
    refine ⟨q1, q2, fun hag => ?_⟩
    simp only [isAggT, hu] at hag
    cases hag
   ·cases h
  ·cases h
theorem glob_read {g : Nat} {nm : String} {t : TypeId} {cs : Array Value} {fuel : Nat} {d : DataW Unit} {p : List MemPlace} {ds : List D} (hg : P.globalNamed nm = some g) (hv : W.var? P nm = some cs)
  (hd : DataW.trod (fun _ => ()) P W 0 (fun _ => true) false fuel t cs.toList = some (d, p)) (hr : readD P 4 t d = some ds) : rel (readS W) (.rptr (.agg ds)) (.pointer (some ⟨g, 0, none⟩)) := by
 obtain ⟨h1, h2, _⟩ := datum_read 4 fuel t cs.toList d p ds hd hr
 simp only [rel]
 refine ⟨_, .agg cs, rfl, ⟨cs.toList, by simp, h1, h2⟩, fun j c hj => ?_⟩
 have := World.var?_cell hg hv j
 rw [addr_add0, Nat.zero_add]
 show W.cell? _ = _
 rw [this]
 simpa [Value.cells] using hj
end
end Go.Proofs.YtkhjpcmpljpmjaaGreatDoor.Abs
namespace Go.Proofs.YtkhjpcmpljpmjaaGreatDoor
open Abs Facts Go.RowKit Go.ChangeShapes Go.WideShapes Go.ChangeAt Go.WideMaps Go.WideElems
namespace Glue
def laidList : List (String × DataW Unit) := [("pandect/unit.names", Rows.laid_pandect_unit_names), ("pandect/unit.below", Rows.laid_pandect_unit_below)]
theorem gNames : Tryz.prog.globalNamed "pandect/unit.names" = some 1 := by kernel_rfl
theorem gBelow : Tryz.prog.globalNamed "pandect/unit.below" = some 0 := by kernel_rfl
theorem tNames : (Tryz.prog.globals[1]?).map (·.type) = some 130 := by kernel_rfl
theorem tBelow : (Tryz.prog.globals[0]?).map (·.type) = some 110 := by kernel_rfl
theorem door_met (os : Os) (args : Array Value) : laidMetH Tryz.prog laidList ((World.doorLaid Tryz.prog 400 os).forCall (fun _ _ => 0) ⟨#[], args, []⟩).memory :=
 laidMetH_of_parts3 (fuel := 8) (laidMet_of_run' 8 (by kernel_rfl) (by kernel_rfl)) (by kernel_rfl) (by kernel_rfl)
theorem globOK_laid {W : World} (h : laidMetH Tryz.prog laidList W) : GlobOK W := by
 rw [MakeChecks.laidMetH_plain _ _ _ (by kernel_rfl)] at h
 obtain ⟨ps, ⟨g0, t0, cs0, f0, p0, q0, hg0, ht0, hv0, hd0, ⟨g1, t1, cs1, f1, p1, q1, hg1, ht1, hv1, hd1, _, _⟩, _⟩, _, _⟩ := h
 obtain rfl := Option.some.inj (gNames.symm.trans hg0)
 obtain rfl := Option.some.inj (gBelow.symm.trans hg1)
 obtain rfl := Option.some.inj (tNames.symm.trans ht0)
 obtain rfl := Option.some.inj (tBelow.symm.trans ht1)
 have r0 : rel (readS W) (globD 1) (.pointer (some ⟨1, 0, none⟩)) := glob_read hg0 hv0 hd0 (by kernel_rfl)
 have r1 : rel (readS W) (globD 0) (.pointer (some ⟨0, 0, none⟩)) := glob_read hg1 hv1 hd1 (by kernel_rfl)
 intro g
 match g with
 | 0 => first | exact r0 | exact r1
 | 1 => first | exact r0 | exact r1
 | n + 2 => simp only [globD, rel]
end Glue
end Go.Proofs.YtkhjpcmpljpmjaaGreatDoor
