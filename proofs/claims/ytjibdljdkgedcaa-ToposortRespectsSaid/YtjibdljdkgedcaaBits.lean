/-
  Sets of small numbers as bits of an unsigned integer. No condition.
-/
import Derived.Test.YtjibdljdkgedcaaAbs18
import Derived.Laws.Bits64
set_option linter.unusedSimpArgs false
set_option linter.unusedVariables false
namespace Go.Proofs.Ytjibdljdkgedcaa.Abs
open Go.RowKit

def orU (m n : Nat) : Nat := (m ||| n) % 18446744073709551616
def andNotU (m n : Nat) : Nat := (BitVec.ofNat 64 m &&& ~~~BitVec.ofNat 64 n).toNat
/-- Every bit of the one is one of the other. -/
def subU (m n : Nat) : Bool := decide (andNotU m n = 0)

theorem testBit_orU (m n i : Nat) (h : i < 64) : (orU m n).testBit i = (m.testBit i || n.testBit i) := by
  unfold orU
  rw [show (18446744073709551616 : Nat) = 2 ^ 64 from rfl, Nat.testBit_mod_two_pow]
  simp [h]
theorem testBit_andNotU (m n i : Nat) (h : i < 64) : (andNotU m n).testBit i = (m.testBit i && !n.testBit i) := by
  unfold andNotU
  rw [BitVec.testBit_toNat, BitVec.getLsbD_and, BitVec.getLsbD_not, BitVec.getLsbD_ofNat, BitVec.getLsbD_ofNat]
  simp [h]
theorem andNotU_lt (m n : Nat) : andNotU m n < 18446744073709551616 := (BitVec.ofNat 64 m &&& ~~~BitVec.ofNat 64 n).isLt
theorem subU_iff (m n : Nat) : subU m n = true ↔ ∀ i, i < 64 → m.testBit i = true → n.testBit i = true := by
  unfold subU
  rw [decide_eq_true_eq]
  constructor
  · intro h i hi hm
    have := testBit_andNotU m n i hi
    rw [h, Nat.zero_testBit, hm] at this
    simpa using this
  · intro h
    refine Nat.eq_of_testBit_eq fun i => ?_
    rw [Nat.zero_testBit]
    by_cases hi : i < 64
    · rw [testBit_andNotU m n i hi]
      cases hm : m.testBit i with
      | false => rfl
      | true => rw [h i hi hm]; rfl
    · refine Nat.testBit_lt_two_pow (Nat.lt_of_lt_of_le (andNotU_lt m n) ?_)
      exact Nat.pow_le_pow_right (n := 2) (by decide) (show 64 ≤ i by omega)

theorem shlU {x : Nat} (h : x < 64) : IntKind.u64.wrap (1 * 2 ^ min x 64) = ((2 ^ x : Nat) : Int) := by
  rw [IntKind.wrap_u64]
  have h1 : min x 64 = x := Nat.min_eq_left (by show x ≤ 64; omega)
  rw [h1]
  have h2 : 2 ^ x < 2 ^ 64 := Nat.pow_lt_pow_right (by decide) h
  rw [show (2 : Int) ^ x = ((2 ^ x : Nat) : Int) by simp]
  have h3 : (2 : Nat) ^ 64 = 18446744073709551616 := rfl
  rw [h3] at h2
  generalize 2 ^ x = y at *
  omega
theorem shlI {x : Nat} (h : x < 63) : IntKind.i64.wrap (1 * 2 ^ min x 64) = ((2 ^ x : Nat) : Int) := by
  have h1 : min x 64 = x := Nat.min_eq_left (by show x ≤ 64; omega)
  rw [h1]
  have h2 : 2 ^ x < 2 ^ 63 := Nat.pow_lt_pow_right (by decide) h
  rw [show (2 : Int) ^ x = ((2 ^ x : Nat) : Int) by simp]
  have h3 : (2 : Nat) ^ 63 = 9223372036854775808 := rfl
  rw [h3] at h2
  generalize 2 ^ x = y at *
  rw [wrapI] <;> omega
theorem shrU {m x : Nat} (h : x < 64) : Int.fdiv (m : Int) (2 ^ min x 64) = ((m >>> x : Nat) : Int) := by
  have h1 : min x 64 = x := Nat.min_eq_left (by show x ≤ 64; omega)
  rw [h1, show (2 : Int) ^ x = ((2 ^ x : Nat) : Int) by simp, Nat.shiftRight_eq_div_pow]
  rw [Int.fdiv_eq_ediv_of_nonneg _ (Int.natCast_nonneg _)]
  exact (Int.natCast_ediv m (2 ^ x)).symm
theorem bits_or (m n : Nat) : bitsD .or .u64 m n = some ((orU m n : Nat) : Int) := by
  unfold bitsD orU
  simp only [Option.some.injEq]
  rw [IntKind.wrap_u64]
  have : (BitVec.ofInt IntKind.u64.bits (m : Int) ||| BitVec.ofInt IntKind.u64.bits (n : Int)).toNat = (m ||| n) % 18446744073709551616 := by
    show (BitVec.ofInt 64 (m : Int) ||| BitVec.ofInt 64 (n : Int)).toNat = _
    rw [BitVec.ofInt_natCast, BitVec.ofInt_natCast, BitVec.toNat_or, BitVec.toNat_ofNat, BitVec.toNat_ofNat]
    rw [show (18446744073709551616 : Nat) = 2 ^ 64 from rfl, Nat.or_mod_two_pow]
  rw [this]; omega
theorem bits_andNot (m n : Nat) : bitsD .andNot .u64 m n = some ((andNotU m n : Nat) : Int) := by
  unfold bitsD
  simp only [Option.some.injEq]
  rw [IntKind.wrap_u64]
  have : (BitVec.ofInt IntKind.u64.bits (m : Int) &&& ~~~BitVec.ofInt IntKind.u64.bits (n : Int)).toNat = andNotU m n := by
    show (BitVec.ofInt 64 (m : Int) &&& ~~~BitVec.ofInt 64 (n : Int)).toNat = _
    rw [BitVec.ofInt_natCast, BitVec.ofInt_natCast]; rfl
  rw [this]
  have := andNotU_lt m n
  omega
theorem bits_and1 (m : Nat) : bitsD .and .u64 m 1 = some ((m % 2 : Nat) : Int) := by
  unfold bitsD
  simp only [Option.some.injEq]
  rw [IntKind.wrap_u64]
  have : (BitVec.ofInt IntKind.u64.bits (m : Int) &&& BitVec.ofInt IntKind.u64.bits 1).toNat = m % 2 := by
    show (BitVec.ofInt 64 (m : Int) &&& BitVec.ofInt 64 ((1 : Nat) : Int)).toNat = _
    rw [BitVec.ofInt_natCast, BitVec.ofInt_natCast, BitVec.toNat_and, BitVec.toNat_ofNat, BitVec.toNat_ofNat]
    rw [show (1 % 2 ^ 64 : Nat) = 1 from rfl, Nat.and_one_is_mod]
    omega
  rw [this]; omega
theorem bit_one (m x : Nat) : decide ((((m >>> x) % 2 : Nat) : Int) = 1) = m.testBit x := by
  have h : m.testBit x = decide ((m >>> x) % 2 = 1) := by
    rw [Nat.testBit_eq_decide_div_mod_eq, Nat.shiftRight_eq_div_pow]
  rw [h]
  by_cases hc : (m >>> x) % 2 = 1
  · simp only [hc]; rfl
  · rw [decide_eq_false hc]; simp only [decide_eq_false_iff_not]; omega
theorem bit_zero (m x : Nat) : decide ((((m >>> x) % 2 : Nat) : Int) = 0) = !m.testBit x := by
  rw [← bit_one]
  have := Nat.mod_two_eq_zero_or_one (m >>> x)
  rcases this with h | h <;> rw [h] <;> rfl
theorem sub_zero' (m n : Nat) : decide (((andNotU m n : Nat) : Int) = 0) = subU m n := by
  unfold subU
  by_cases h : andNotU m n = 0
  · rw [h]; rfl
  · rw [decide_eq_false h]; simp only [decide_eq_false_iff_not]; omega
end Go.Proofs.Ytjibdljdkgedcaa.Abs
