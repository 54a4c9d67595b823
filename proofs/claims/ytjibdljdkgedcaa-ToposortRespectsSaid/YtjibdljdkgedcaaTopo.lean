/-
  Graphs of pairs: the plain functions that the code computes. No condition.
-/
import Derived.Test.YtjibdljdkgedcaaBits
import Derived.Test.YtjibdljdkgedcaaFacts
import Derived.Test.YtjibdljdkgedcaaAbs18
set_option linter.unusedSimpArgs false
set_option linter.unusedVariables false
namespace Go.Proofs.Ytjibdljdkgedcaa
open Abs
namespace Topo
abbrev Pr := Int × Int
def okP (n : Int) (p : Pr) : Bool := decide (0 ≤ p.1 ∧ p.1 < n ∧ 0 ≤ p.2 ∧ p.2 < n)
/-- The error of an input: 0, ErrArg, ErrFull. -/
def wrong (n : Int) (l : List Pr) : Int := if n < 0 ∨ 16 < n then 1 else if l.all (okP n) = true then (if 64 < l.length then 6 else 0) else 1
def addE (g : List Nat) (p : Pr) : List Nat := g.set p.1.toNat (orU (g.getD p.1.toNat 0) (2 ^ p.2.toNat))
def edges (l : List Pr) : List Nat := l.foldl addE (List.replicate 16 0)
def graphL (n : Int) (l : List Pr) : List Nat := edges (if n < 0 ∨ 16 < n then [] else l.takeWhile (okP n))
theorem addE_length (g : List Nat) (p : Pr) : (addE g p).length = g.length := by simp [addE]
theorem foldl_length (l : List Pr) : ∀ g : List Nat, (l.foldl addE g).length = g.length := by
  induction l with
  | nil => intro g; rfl
  | cons p l ih => intro g; rw [List.foldl_cons, ih, addE_length]
theorem edges_length (l : List Pr) : (edges l).length = 16 := by unfold edges; rw [foldl_length]; simp
theorem graphL_length (n : Int) (l : List Pr) : (graphL n l).length = 16 := edges_length _
end Topo
namespace Abs
open Topo
def encP (p : Pr) : D := .agg [.int .i64 p.1, .int .i64 p.2]
def encPs (l : List Pr) : D := .rsl false 2 (l.map encP)
def cellsG (n : Int) (g : List Nat) : List D := .int .i64 n :: g.map fun m => .int .u64 (m : Nat)
theorem pure_encPs (l : List Pr) : pureD (encPs l) = true := by simp only [encPs, pureD]; exact pureL_map (fun _ => rfl) l
@[go_sem] theorem pureL_encP (l : List Pr) : pureD.pureL (l.map encP) = true := pureL_map (fun _ => rfl) l
def cellsP2 (p : Pr) : List D := [.int .i64 p.1, .int .i64 p.2]
@[go_sem] theorem cells_encP (l : List Pr) : cellsAll 2 (l.map encP) = some (l.flatMap cellsP2) := cellsAll_agg (f := cellsP2) (fun _ => rfl) l
@[go_sem] theorem pureL_cellsP2 (l : List Pr) : pureD.pureL (l.flatMap cellsP2) = true := pureL_flatMap (fun _ => rfl) l
theorem groupD_P2 : ∀ (l : List Pr) (c : List D) (n : Nat), groupD true 2 (l.length + n) (l.flatMap cellsP2 ++ c) = l.map encP ++ groupD true 2 n c
  | [], c, n => by simp
  | p :: l, c, n => by
    have e : (p :: l).length + n = (l.length + n) + 1 := by simp only [List.length_cons]; omega
    rw [e]
    show _ :: groupD true 2 (l.length + n) _ = _
    have := groupD_P2 l c n
    simpa [cellsP2] using ⟨rfl, this⟩
@[go_sem] theorem groupD_P2snoc (l : List Pr) (a b : Int) : groupD true 2 (l.length + 1) (l.flatMap cellsP2 ++ [.int .i64 a, .int .i64 b]) = l.map encP ++ [.agg [.int .i64 a, .int .i64 b]] := groupD_P2 l _ 1
theorem pure_cellsG (n : Int) (g : List Nat) : pureD.pureL (cellsG n g) = true := by
  simp only [cellsG, pureD.pureL, pureD, Bool.true_and]; exact pureL_map (fun _ => rfl) g
theorem cellsG_length (n : Int) (g : List Nat) : (cellsG n g).length = g.length + 1 := by simp [cellsG]
theorem splice_full : ∀ (vs cs : List D), vs.length = cs.length → splice cs 0 vs = vs := by
  have key : ∀ (vs cs : List D) (off : Nat), off + vs.length = cs.length → splice cs off vs = cs.take off ++ vs := by
    intro vs
    induction vs with
    | nil => intro cs off h; simp only [splice, List.append_nil]; rw [List.take_of_length_le (by simp at h; omega)]
    | cons v vs ih =>
      intro cs off h
      simp only [List.length_cons] at h
      simp only [splice]
      rw [ih _ _ (by simp; omega)]
      rw [List.take_add_one, List.take_set_of_le (Nat.le_refl _), List.getElem?_set_self (by omega)]
      simp
  intro vs cs h
  rw [key vs cs 0 (by omega)]; rfl
@[go_sem] theorem cellsG_set0 (a n : Int) (g : List Nat) : (cellsG a g).set 0 (.int .i64 n) = cellsG n g := rfl
@[go_sem] theorem cellsG_setS (a : Int) (g : List Nat) (i m : Nat) : (cellsG a g).set (1 + i) (.int .u64 (m : Nat)) = cellsG a (g.set i m) := by
  rw [Nat.add_comm]; simp [cellsG, List.map_set]
@[go_sem] theorem cellsG_get0 (n : Int) (g : List Nat) : (cellsG n g)[0]? = some (.int .i64 n) := rfl
theorem cellsG_getS {n : Int} {g : List Nat} {i : Nat} (h : i < g.length) : (cellsG n g)[1 + i]? = some (.int .u64 ((g.getD i 0 : Nat) : Int)) := by
  rw [Nat.add_comm]; simp [cellsG, h]
theorem cellsG_take {n : Int} {g : List Nat} (h : g.length = 16) : List.take 17 (cellsG n g) = cellsG n g := List.take_of_length_le (by rw [cellsG_length, h]; decide)
theorem cellsG_splice {n m : Int} {g k : List Nat} (h : g.length = k.length) : splice (cellsG n g) 0 (cellsG m k) = cellsG m k := splice_full _ _ (by rw [cellsG_length, cellsG_length, h])
def zeros : List Nat := List.replicate 16 0
theorem zeros_length : zeros.length = 16 := by simp [zeros]
end Abs
namespace Facts
open Abs
@[go_sem] theorem zeroGr : zeroT Try.prog 51 = some (cellsG 0 zeros) := zeroT51
attribute [go_sem] cellsG_length zeros_length
end Facts
end Go.Proofs.Ytjibdljdkgedcaa
