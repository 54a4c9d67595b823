/-
  From the reading of a law's arguments to abstract values: a law's contract gives its call. No condition.
-/
import Derived.Test.YtjibdljdkgedcaaAbs16
import Derived.ProofKit
import Derived.ChangeSlices
import Derived.Below
namespace Go.Proofs.Ytjibdljdkgedcaa.Abs
open Go.RowKit Go.ChangeShapes

/-- The state in which nothing is owned and all memory is read. -/
def readS (W : World) : RS := { m := W.cell?, H := noH, nx := 0, κ := fun _ => .pointer none }
/-- The package variables hold what is listed. -/
def GlobOK (W : World) : Prop := ∀ g, rel (readS W) (globD g) (.pointer (some ⟨g, 0, none⟩))
theorem globOK_any (W : World) : GlobOK W := fun g => by simp only [globD, rel]
theorem readS_RH (P : Program) (W : World) (hg : GlobOK W) : RH P (readS W) W :=
  ⟨fun a v h => ⟨h, by rintro ⟨id, hid, _⟩; exact absurd hid (Nat.not_lt_zero _)⟩, fun id o ho => (by cases ho), fun i j hi => (hi rfl).elim, hg⟩
theorem law_calls {P : Program} {f : FuncId} {ds : List D} {v : Value} {d : D} (h : PC P f ds d) (hd : ∀ s u, rel s d u → u = v) {W : World} (hg : GlobOK W) {vs : List Value} (hr : relAll (readS W) ds vs) :
    Calls P f vs.toArray W fun e W' => e = .returned v ∧ Below W.heap.size W W' := by
  refine (h.2.2.2 (readS W) W vs rfl rfl (readS_RH P W hg) hr).mono fun e W' ⟨u, r', s', he, hrr, hstep, _, hrel⟩ => ?_
  subst hrr
  rw [hd _ _ hrel] at he
  exact ⟨he, hstep.os, hstep.tape, hstep.output, hstep.size, fun k hk => hstep.keep k hk (by rintro ⟨id, hid, _⟩; exact absurd hid (Nat.not_lt_zero _))⟩
end Go.Proofs.Ytjibdljdkgedcaa.Abs
namespace Go.Proofs.Ytjibdljdkgedcaa.Abs
open Go.RowKit Go.ChangeShapes
theorem relAll_of_get {s : RS} {α : Type} {f : α → D} {g : α → Value} (h : ∀ x, rel s (f x) (g x)) : ∀ (l : List α), relAll s (l.map f) (l.map g)
  | [] => relAll_nil
  | x :: l => relAll_cons (h x) (relAll_of_get h l)
/-- A slice of integers, read. -/
theorem rel_ints {H : Type} {enc : TypeId × Value → H} {P : Program} {W : World} {base : Nat} {spare : Nat → Bool} {held : Bool} {t e : TypeId} {v : Value} {a0 : Option Addr} {n c : Nat} {d : DataW H} {p : List MemPlace}
    (ht : P.underlying t = some (.slice e)) (he : P.underlying e = some (.int .i64)) (hc : P.cellsOf e = 1) (hv : v = .slice a0 n c) (h : DataW.Trod enc P W base spare held t v d p) :
    ∃ l : List Int, l.length ≤ maxLen ∧ rel (readS W) (encI l) v := by
  obtain ⟨fuel, hf⟩ := h
  subst hv
  rcases open_ints ht he hc hf with ⟨hcs, _⟩ | ⟨a, len, cap, zs, hcs, _, hl, hm, hz, _, hcell, _⟩
  · simp [Value.cells] at hcs
    obtain ⟨rfl, rfl, rfl⟩ := hcs
    exact ⟨[], by simp, by simp only [encI, rel]; exact .inl ⟨trivial, rfl, trivial⟩⟩
  · simp [Value.cells] at hcs
    obtain ⟨rfl, rfl, rfl⟩ := hcs
    have hlz : n ≤ zs.length := by rw [hz]; split <;> omega
    have hlen : (zs.take n).length = n := by simp; omega
    refine ⟨zs.take n, by omega, ?_⟩
    simp only [encI, rel]
    refine .inr ⟨a, c, (zs.take n).map (.int .i64), by rw [List.length_map, hlen], by rw [List.length_map, hlen]; exact hl, hm, relAll_of_get (fun x => by simp only [rel]) _, fun i u hu => ?_⟩
    rw [List.getElem?_map, Option.map_eq_some_iff] at hu
    obtain ⟨z, hz1, rfl⟩ := hu
    rw [List.getElem?_take] at hz1
    split at hz1
    · rename_i hi
      refine ⟨rfl, fun j c' hj => ?_⟩
      cases j with
      | zero =>
        simp [Value.cells] at hj; subst hj
        have := hcell i (by omega)
        rw [List.getD_eq_getElem?_getD, hz1] at this
        simpa [readS, Addr.add] using this
      | succ j => simp [Value.cells] at hj
    · cases hz1
end Go.Proofs.Ytjibdljdkgedcaa.Abs
