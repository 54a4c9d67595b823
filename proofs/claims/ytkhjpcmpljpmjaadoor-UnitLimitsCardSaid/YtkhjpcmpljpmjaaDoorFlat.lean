/-
  Rows of structs as lists: taking out and putting in an element. Owned rows that stand for nil. No condition.
-/
import Derived.Test.YtkhjpcmpljpmjaaDoorFind
import Derived.Test.YtkhjpcmpljpmjaaDoorRefT
set_option linter.unusedSimpArgs false
set_option linter.unusedVariables false
namespace Go.Proofs.YtkhjpcmpljpmjaaDoor
open Abs Facts Tr Go.RowKit
namespace Abs
section
variable {α : Type} {f : α → List D} {sz : Nat}
end
variable {P : Program}
theorem sealD_rowAggN {α : Type} {P : Program} {H : HM} {id e sz n : Nat} {f : α → List D} {l : List α} (k : Nat) (hn : l.length = n) (hH : H id = some (.row e n (l.flatMap f))) (ha : isAggT P e = true) (hs : sizeT P e = sz) (h : ∀ x, (f x).length = sz) (hp : ∀ x, pureD.pureL (f x) = true) :
    sealD P H (k + 2) (.osl id n) = some (.rsl false sz (l.map fun x => .agg (f x))) := by
  subst hn
  exact sealD_rowAgg k hH ha hs h hp
/-- A nil slice in a box becomes an empty row of the call's own. -/
theorem nilcell_to {st : St} {b off : Nat} {e : TypeId} {cs : List D} (e' : TypeId) (hb : st.H b = some (.box e cs)) (hoff : cs[off]? = some .nil) :
    SealTo P st { st with H := updH (updH st.H st.nx (some (.row e' 0 []))) b (some (.box e (cs.set off (.osl st.nx 0)))), nx := st.nx + 1 } := by
  intro N s a w hf
  have hHb : s.H b = some (.box e cs) := by rw [hf.H]; exact hb
  have hne : b ≠ s.nx := by have := (hf.heap.obj b _ hHb).1; omega
  obtain ⟨g1, g2⟩ := new_obj hf.heap (Grew.refl w) (.row e' 0 []) (.slice none 0 0) (fun b hb => by cases hb) ⟨[], ⟨by simp, .inl ⟨rfl, rfl⟩⟩, relAll_nil, by intro v hv; cases hv⟩
  have hb2 : (s.add (.slice none 0 0) (.row e' 0 [])).H b = some (.box e cs) := by simp [RS.add, updH, hne, hHb]
  obtain ⟨_, q2⟩ := g2.obj b _ hb2
  obtain ⟨g3, g4⟩ := set_obj (w' := w) g2 b _ (.box e (cs.set off (.osl s.nx 0))) ((s.add (.slice none 0 0) (.row e' 0 [])).κ b) hb2 rfl rfl rfl (Nat.le_refl _) (fun _ _ _ => rfl) (.inr ⟨_, rfl, rfl⟩) (fun b hb => .inl hb) (fun hl => by
    obtain ⟨b', vs, u1, u2, u3, u4⟩ := q2
    refine ⟨b', vs, u1, u2, ?_, u4⟩
    have hlen := relAll_length u3
    refine relAll_of (by rw [List.length_set]; exact hlen) fun i d v hd hv => ?_
    rw [List.getElem?_set] at hd
    split at hd
    · rename_i hio
      subst hio
      split at hd
      · cases hd
        obtain ⟨v', hv', hr⟩ := relAll_get u3 _ _ hoff
        rw [hv'] at hv
        cases hv
        simp only [rel] at hr ⊢
        subst hr
        refine ⟨by simp [RS.set, RS.add], ⟨_, _, rfl⟩, fun e2 k cs hH => ⟨Nat.zero_le _, fun _ => ?_⟩⟩
        simp only [RS.set, RS.add]
        rw [if_neg (fun h => hne h.symm)]
        simp
      · cases hd
    · obtain ⟨v', hv', hr⟩ := relAll_get u3 _ _ hd
      rw [hv'] at hv
      cases hv
      exact rel.later hl _ _ hr)
  refine ⟨_, ⟨?_, ?_, hf.size, hf.defers, fun i => rel.later (g1.trans g3).later _ _ (hf.tmps i), g4⟩, g1.trans g3⟩
  · simp only [RS.set, RS.add, hf.H, hf.nx]
  · simp only [RS.set, RS.add, hf.nx]
theorem awp_seq_regX {N id : Nat} {l : List Oper} {b : Code} {own : List Nat} {Q : Exit → St → Prop} {st : St} (_hid : (id == N) = false) (h : ∀ K : St → Prop, (∀ st, awp P own b Q st → K st) → awpL P own (l.map (·.dst)) l K st) : awp P own (.seq (.region id l.toArray false) b) Q st := awp_seq_reg h
theorem awp_seq_drawX {N id : Nat} {l : List Oper} {b : Code} {own : List Nat} {Q : Exit → St → Prop} {st : St} (_hid : (id == N) = false) (h0 : drawOK own l.toArray = true) (h : ∀ K : St → Prop, (∀ st, awp P own b Q st → K st) → awpD P own (l.map (·.dst)) l K st) : awp P own (.seq (.region id l.toArray true) b) Q st := awp_seq_draw h0 h
end Abs
end Go.Proofs.YtkhjpcmpljpmjaaDoor
