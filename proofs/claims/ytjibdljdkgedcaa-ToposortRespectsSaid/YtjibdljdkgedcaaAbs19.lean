/-
  Contracts of functions that give back objects of their own: new rows, boxes and maps, that the caller then owns. No condition.
-/
import Derived.Test.YtjibdljdkgedcaaAbs18
set_option linter.unusedSimpArgs false
set_option linter.unusedVariables false
namespace Go.Proofs.Ytjibdljdkgedcaa.Abs
open Go.RowKit
variable {P : Program}

def objPure : HObj → Bool
  | .box _ cs => pureD.pureL cs
  | .row _ _ cs => pureD.pureL cs
  | .map es => pureD.pureL (es.map (·.1)) && pureD.pureL (es.map (·.2))
  | .raw _ => true
/-- The objects' numbers in a value, turned. -/
def renD (g : Nat → Nat) : D → D
  | .osl j n => .osl (g j) n
  | .ptr j off => .ptr (g j) off
  | .mp j => .mp (g j)
  | .agg ds => .agg (renL ds)
  | .tup ds => .tup (renL ds)
  | d => d
where renL : List D → List D
  | [] => []
  | d :: ds => renD g d :: renL ds
/-- A value whose parts are only read, or lie in the first k objects. -/
def okD (k : Nat) : D → Bool
  | .osl j _ => decide (j < k)
  | .ptr j _ => decide (j < k)
  | .mp j => decide (j < k)
  | .agg ds => okL ds
  | .tup ds => okL ds
  | d => pureD d
where okL : List D → Bool
  | [] => true
  | d :: ds => okD k d && okL ds
def addL (H : HM) (nx : Nat) : List HObj → HM
  | [] => H
  | o :: os => addL (updH H nx (some o)) (nx + 1) os
/-- A contract: new objects 'objs', the caller's from now on, and a result that may lie in them (they are numbered from 0 in 'r'). -/
def OC (P : Program) (f : FuncId) (ds : List D) (objs : List HObj) (r : D) : Prop :=
  pureD.pureL ds = true ∧ okD objs.length r = true ∧ (∀ o ∈ objs, objPure o = true) ∧
    ∀ H nx, AC P f ds H nx fun r' H' nx' => r' = renD (fun j => nx + j) r ∧ H' = addL H nx objs ∧ nx' = nx + objs.length

theorem objOK.pure {s s' : RS} {w : World} {v : Value} {o : HObj} (hm : ∀ a v, s.m a = some v → s'.m a = some v) (hp : objPure o = true) (h : objOK P s w v o) : objOK P s' w v o := by
  cases o with
  | box e cs =>
    obtain ⟨b, vs, h1, h2, h3, h4⟩ := h
    exact ⟨b, vs, h1, h2, relAll_pure hm _ _ hp h3, h4⟩
  | row e n cs =>
    obtain ⟨vs, h1, h2, h3⟩ := h
    exact ⟨vs, h1, relAll_pure hm _ _ hp h2, h3⟩
  | map es =>
    simp only [objPure, Bool.and_eq_true] at hp
    obtain ⟨r, ens, clock, h1, h2, h3, h4⟩ := h
    exact ⟨r, ens, clock, h1, h2, relAll_pure hm _ _ hp.1 h3, relAll_pure hm _ _ hp.2 h4⟩
  | raw q => exact h

section
variable {st : St} {dst : Option Nat} {n : FuncId} {cap args : List D} {g : List Oper → (St → Prop) → St → Prop} {rest : List Oper} {K : St → Prop}
theorem OC.ac {f : FuncId} {ds : List D} {objs : List HObj} {r : D} (h : OC P f ds objs r) {H : HM} {nx : Nat} {K : D → HM → Nat → Prop} (hk : K (renD (fun j => nx + j) r) (addL H nx objs) (nx + objs.length)) : AC P f ds H nx K :=
  (h.2.2.2 H nx).mono fun _ _ _ ⟨h1, h2, h3⟩ => by subst h1; subst h2; subst h3; exact hk
end
attribute [go_sem] addL renD renD.renL
end Go.Proofs.Ytjibdljdkgedcaa.Abs
