import Derived.Test.YtchaijafpmofdaaSlG
/-! Small numbers and their bits. -/
namespace Go.Sl
set_option linter.unusedSimpArgs false
set_option linter.unusedVariables false
theorem ofInt_nat (i : Nat) : BitVec.ofInt 64 (i : Int) = BitVec.ofNat 64 i := by
  apply BitVec.eq_of_toNat_eq
  simp [BitVec.toNat_ofNat]
theorem wrap_nat {i : Nat} (h : i < 9223372036854775808) : IntKind.i64.wrap (i : Int) = (i : Int) := IntWalk.i64_in _ (by omega)
theorem bits_andNot1 {i : Nat} (h : i < 4611686018427387904) : IntKind.i64.wrap ((BitVec.ofInt IntKind.i64.bits (i : Int) &&& ~~~BitVec.ofInt IntKind.i64.bits 1).toNat) = ((i / 2 * 2 : Nat) : Int) := by
  have e : (BitVec.ofInt IntKind.i64.bits (i : Int) &&& ~~~BitVec.ofInt IntKind.i64.bits 1).toNat = i / 2 * 2 := by
    show (BitVec.ofInt 64 (i : Int) &&& ~~~BitVec.ofInt 64 ((1 : Nat) : Int)).toNat = _
    rw [ofInt_nat, ofInt_nat]
    simp only [BitVec.toNat_and, BitVec.toNat_not, BitVec.toNat_ofNat]
    have h1 : i % 2 ^ 64 = i := by omega
    rw [h1]
    apply Nat.eq_of_testBit_eq
    intro k
    rw [Nat.testBit_and]
    cases k with
    | zero => simp [Nat.testBit_zero]
    | succ k =>
      have h2 : (i / 2 * 2).testBit (k + 1) = i.testBit (k + 1) := by
        rw [Nat.testBit_succ, Nat.testBit_succ, Nat.mul_div_cancel _ (by omega)]
      rw [h2]
      cases hb : i.testBit (k + 1) with
      | false => rfl
      | true =>
        have hk : k + 1 < 64 := by
          rcases Nat.lt_or_ge (k + 1) 64 with h' | h'
          · exact h'
          · rw [Nat.testBit_lt_two_pow (by have := Nat.pow_le_pow_right (n := 2) (by omega) h'; omega)] at hb; cases hb
        have : (2 ^ 64 - 1 - 1 % 2 ^ 64).testBit (k + 1) = true := by
          have e3 : 2 ^ 64 - 1 - 1 % 2 ^ 64 = (2 ^ 63 - 1) * 2 := by decide
          rw [e3, Nat.testBit_succ, Nat.mul_div_cancel _ (by omega), Nat.testBit_two_pow_sub_one]
          simp; omega
        rw [this]; rfl
  rw [e]
  exact wrap_nat (by omega)
theorem bits_and1 {i : Nat} (h : i < 4611686018427387904) : IntKind.i64.wrap ((BitVec.ofInt IntKind.i64.bits (i : Int) &&& BitVec.ofInt IntKind.i64.bits 1).toNat) = ((i % 2 : Nat) : Int) := by
  have e : (BitVec.ofInt IntKind.i64.bits (i : Int) &&& BitVec.ofInt IntKind.i64.bits 1).toNat = i % 2 := by
    show (BitVec.ofInt 64 (i : Int) &&& BitVec.ofInt 64 ((1 : Nat) : Int)).toNat = _
    rw [ofInt_nat, ofInt_nat]
    simp only [BitVec.toNat_and, BitVec.toNat_ofNat]
    have h1 : i % 2 ^ 64 = i := by omega
    rw [h1]
    show i &&& 1 = i % 2
    rw [Nat.and_one_is_mod]
  rw [e]
  exact wrap_nat (by omega)
theorem or_one (i : Nat) : i ||| 1 = i / 2 * 2 + 1 := by
  apply Nat.eq_of_testBit_eq
  intro k
  rw [Nat.testBit_or]
  cases k with
  | zero => simp [Nat.testBit_zero]
  | succ k =>
    rw [Nat.testBit_succ, Nat.testBit_succ, Nat.testBit_succ]
    have e1 : (i / 2 * 2 + 1) / 2 = i / 2 := by omega
    simp [e1]
theorem xor_one (i : Nat) : i ^^^ 1 = i / 2 * 2 + (1 - i % 2) := by
  apply Nat.eq_of_testBit_eq
  intro k
  rw [Nat.testBit_xor]
  cases k with
  | zero =>
    simp only [Nat.testBit_zero]
    rcases (by omega : i % 2 = 0 ∨ i % 2 = 1) with h | h
    · have : (i / 2 * 2 + (1 - i % 2)) % 2 = 1 := by omega
      simp [h, this]
    · have : (i / 2 * 2 + (1 - i % 2)) % 2 = 0 := by omega
      simp [h, this]
  | succ k =>
    rw [Nat.testBit_succ, Nat.testBit_succ, Nat.testBit_succ]
    have e1 : (i / 2 * 2 + (1 - i % 2)) / 2 = i / 2 := by omega
    simp [e1]
theorem bits_or1 {i : Nat} (h : i < 4611686018427387904) : IntKind.i64.wrap ((BitVec.ofInt IntKind.i64.bits (i : Int) ||| BitVec.ofInt IntKind.i64.bits 1).toNat) = ((i / 2 * 2 + 1 : Nat) : Int) := by
  have e : (BitVec.ofInt IntKind.i64.bits (i : Int) ||| BitVec.ofInt IntKind.i64.bits 1).toNat = i / 2 * 2 + 1 := by
    show (BitVec.ofInt 64 (i : Int) ||| BitVec.ofInt 64 ((1 : Nat) : Int)).toNat = _
    rw [ofInt_nat, ofInt_nat]
    simp only [BitVec.toNat_or, BitVec.toNat_ofNat]
    have h1 : i % 2 ^ 64 = i := by omega
    rw [h1]
    exact or_one i
  rw [e]
  exact wrap_nat (by omega)
theorem bits_xor1 {i : Nat} (h : i < 4611686018427387904) : IntKind.i64.wrap ((BitVec.ofInt IntKind.i64.bits (i : Int) ^^^ BitVec.ofInt IntKind.i64.bits 1).toNat) = ((i / 2 * 2 + (1 - i % 2) : Nat) : Int) := by
  have e : (BitVec.ofInt IntKind.i64.bits (i : Int) ^^^ BitVec.ofInt IntKind.i64.bits 1).toNat = i / 2 * 2 + (1 - i % 2) := by
    show (BitVec.ofInt 64 (i : Int) ^^^ BitVec.ofInt 64 ((1 : Nat) : Int)).toNat = _
    rw [ofInt_nat, ofInt_nat]
    simp only [BitVec.toNat_xor, BitVec.toNat_ofNat]
    have h1 : i % 2 ^ 64 = i := by omega
    rw [h1]
    exact xor_one i
  rw [e]
  exact wrap_nat (by omega)
/-- Go's x / 2 of a number that is none below 0. -/
theorem tdiv_nat (a b : Nat) : (a : Int).tdiv (b : Int) = ((a / b : Nat) : Int) := by
  rw [Int.tdiv_eq_ediv_of_nonneg (by omega)]; rfl
theorem tmod_nat (a b : Nat) : (a : Int).tmod (b : Int) = ((a % b : Nat) : Int) := by
  rw [Int.tmod_eq_emod_of_nonneg (by omega)]; rfl
end Go.Sl
