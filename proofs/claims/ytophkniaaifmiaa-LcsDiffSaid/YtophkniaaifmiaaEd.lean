/-
  Edits of lists, plain: what it is to apply them, and to invert them. No condition.
-/
import Derived.Test.YtophkniaaifmiaaLcs
import Derived.Test.YtophkniaaifmiaaAbs18
namespace Go.Proofs.Ytophkniaaifmiaa
open Abs
structure Ed where
  at_ : Int
  old : List ByteArray
  new : List ByteArray
  deriving DecidableEq
def cellsE (e : Ed) : List D := [.int .i64 e.at_, encS e.old, encS e.new]
def encE (l : List Ed) : D := .rsl false 3 (l.map fun e => .agg (cellsE e))
attribute [go_sem] encE
theorem pure_cellsE (e : Ed) : pureD.pureL (cellsE e) = true := by simp only [cellsE, pureD.pureL, pure_encS, pureD, Bool.and_self]
theorem pure_encE (l : List Ed) : pureD (encE l) = true := by simp only [encE, pureD]; exact pureL_map (fun e => by simp only [pureD, pure_cellsE]) l
/-- Does an edit apply from an index on? -/
def fitsB (a : List ByteArray) (f : Int) (e : Ed) : Bool :=
  decide (f ≤ e.at_ ∧ e.at_ ≤ a.length ∧ (e.old.length : Int) ≤ a.length - e.at_ ∧ e.old.length + e.new.length ≠ 0 ∧ (a.take (e.at_ + e.old.length).toNat).drop e.at_.toNat = e.old)
def app (a : List ByteArray) : List Ed → Bool → Int → Option (List ByteArray)
  | [], _, f => some (a.drop f.toNat)
  | e :: l, fst, f => if fitsB a f e = true ∧ (fst = true ∨ e.at_ ≠ f) then (app a l false (e.at_ + e.old.length)).map fun r => (a.take e.at_.toNat).drop f.toNat ++ e.new ++ r else none
def invF : List Ed → Int → List Ed
  | [], _ => []
  | e :: l, m => ⟨IntKind.i64.wrap (e.at_ + m), e.new, e.old⟩ :: invF l (m + (e.new.length - e.old.length))
/-- The edits between two lists, off the pairs of kept words. -/
def cuts (a b : List ByteArray) : List (Nat × Nat) → Nat → Nat → List Ed
  | [], _, _ => []
  | p :: l, i, k => (if i < p.1 ∨ k < p.2 then [⟨i, (a.take p.1).drop i, (b.take p.2).drop k⟩] else []) ++ cuts a b l (p.1 + 1) (p.2 + 1)
def diffS (a b : List ByteArray) : List Ed :=
  if (256 < a.length ∨ 256 < b.length) ∧ a = b then [] else cuts a b (Lcs.pairs a b ++ [(a.length, b.length)]) 0 0
end Go.Proofs.Ytophkniaaifmiaa
