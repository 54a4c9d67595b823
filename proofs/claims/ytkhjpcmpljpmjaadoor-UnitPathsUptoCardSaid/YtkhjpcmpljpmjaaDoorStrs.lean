/-
  Labels and words: what the reference tests. The walks of its digits, May, Word. No condition but lengths.
-/
import Derived.Test.YtkhjpcmpljpmjaaDoorFew
set_option linter.unusedSimpArgs false
set_option linter.unusedVariables false
namespace Go.Proofs.YtkhjpcmpljpmjaaDoor
open Abs Facts Tr
attribute [local irreducible] awp
namespace Tr
def bl (s : ByteArray) : List UInt8 := s.data.toList
theorem bl_length (s : ByteArray) : (bl s).length = s.size := rfl
def dig (b : UInt8) : Bool := decide (48 ≤ b.toNat ∧ b.toNat ≤ 57)
def cap (b : UInt8) : Bool := decide (65 ≤ b.toNat ∧ b.toNat ≤ 90)
def ink (b : UInt8) : Bool := decide (33 ≤ b.toNat ∧ b.toNat ≤ 126)
def digN (s : ByteArray) : Nat := ((bl s).takeWhile dig).length
def labelB (s : ByteArray) : Bool := decide (1 ≤ digN s ∧ digN s ≤ 4 ∧ ((bl s).headD 0).toNat ≠ 48 ∧ s.size - digN s ≤ 3) && ((bl s).drop (digN s)).all cap
def wordB (s : ByteArray) : Bool := decide (1 ≤ s.size ∧ s.size ≤ 24) && (bl s).all ink
def seqB (l : List ByteArray) : Bool := decide (l.length ≤ 256) && l.all wordB
def rowB (l : List Wd) : Bool := decide (l.length ≤ 256) && l.all fun w => wordB w.text
theorem rowB_seq (l : List Wd) : rowB l = (decide (l.length ≤ 256) && seqB (l.map (·.text))) := by
  unfold rowB seqB
  rw [List.length_map, List.all_map]
  cases decide (l.length ≤ 256) <;> simp [Function.comp_def]
theorem takeWhile_len {α : Type} {p : α → Bool} : ∀ {l : List α} {k : Nat} (_ : k ≤ l.length), (∀ j, (hj : j < k) → p (l[j]'(by omega)) = true) → (∀ h : k < l.length, p l[k] = false) → (l.takeWhile p).length = k
  | [], k, hk, _, _ => by simp at hk; simp [hk]
  | x :: l, 0, _, _, h2 => by
    have := h2 (by simp)
    simp only [List.getElem_cons_zero] at this
    simp [List.takeWhile_cons, this]
  | x :: l, k + 1, hk, h1, h2 => by
    have h0 := h1 0 (by omega)
    simp only [List.getElem_cons_zero] at h0
    rw [List.takeWhile_cons, if_pos h0, List.length_cons]
    have := takeWhile_len (p := p) (l := l) (k := k) (by simpa using hk) (fun j hj => by simpa using h1 (j + 1) (by omega)) (fun h => h2 (by simpa using h))
    rw [this]
theorem digN_le (s : ByteArray) : digN s ≤ s.size := by
  unfold digN
  rw [← bl_length]
  exact (List.takeWhile_prefix _).length_le
end Tr
theorem bget {s : ByteArray} {i : Nat} (h : i < s.size) : s[i]? = some ((bl s)[i]'h) := getElem?_pos s i h
theorem bhead {s : ByteArray} (h : 0 < s.size) : (bl s)[0]'h = (bl s).headD 0 := by
  have : ∀ (l : List UInt8) (h : 0 < l.length), l[0]'h = l.headD 0 := fun l h => by cases l with
    | nil => exact absurd h (by simp)
    | cons a l => rfl
  exact this _ _
end Go.Proofs.YtkhjpcmpljpmjaaDoor
