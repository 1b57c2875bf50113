import Derived.Test.YtjmfnakplmmpnaaDoorXAR
namespace Go.Sl
set_option linter.unusedVariables false
set_option linter.unusedSimpArgs false
theorem bvn (w a : Nat) : BitVec.ofInt w (a : Int) = BitVec.ofNat w a := by
  apply BitVec.eq_of_toNat_eq; simp
theorem or_nat {w a b : Nat} (ha : a < 2 ^ w) (hb : b < 2 ^ w) : (BitVec.ofInt w (a : Int) ||| BitVec.ofInt w (b : Int)).toNat = a ||| b := by
  rw [bvn, bvn, BitVec.toNat_or, BitVec.toNat_ofNat, BitVec.toNat_ofNat, Nat.mod_eq_of_lt ha, Nat.mod_eq_of_lt hb]
theorem and_nat {w a b : Nat} (ha : a < 2 ^ w) (hb : b < 2 ^ w) : (BitVec.ofInt w (a : Int) &&& BitVec.ofInt w (b : Int)).toNat = a &&& b := by
  rw [bvn, bvn, BitVec.toNat_and, BitVec.toNat_ofNat, BitVec.toNat_ofNat, Nat.mod_eq_of_lt ha, Nat.mod_eq_of_lt hb]
theorem wr8 {n : Nat} (h : n < 2 ^ 8) : IntKind.u8.wrap (n : Int) = n := by rw [IntKind.wrap_u8]; omega
theorem wr64 {n : Nat} (h : n < 2 ^ 64) : IntKind.u64.wrap (n : Int) = n := by rw [IntKind.wrap_u64]; omega
section
variable {a b : Nat} {k : Int → Prop}
theorem lor8 (ha : a < 2 ^ 8) (hb : b < 2 ^ 8) (hk : k ((a ||| b : Nat) : Int)) : LEq (IntKind.u8.wrap ((BitVec.ofInt IntKind.u8.bits (a : Int) ||| BitVec.ofInt IntKind.u8.bits (b : Int)).toNat)) k :=
  leq_ (by show IntKind.u8.wrap (((BitVec.ofInt 8 (a : Int) ||| BitVec.ofInt 8 (b : Int)).toNat : Nat) : Int) = _
           rw [or_nat ha hb, wr8 (Nat.or_lt_two_pow ha hb)]) hk
theorem land8 (ha : a < 2 ^ 8) (hb : b < 2 ^ 8) (hk : k ((a &&& b : Nat) : Int)) : LEq (IntKind.u8.wrap ((BitVec.ofInt IntKind.u8.bits (a : Int) &&& BitVec.ofInt IntKind.u8.bits (b : Int)).toNat)) k :=
  leq_ (by show IntKind.u8.wrap (((BitVec.ofInt 8 (a : Int) &&& BitVec.ofInt 8 (b : Int)).toNat : Nat) : Int) = _
           rw [and_nat ha hb, wr8 (Nat.and_lt_two_pow _ hb)]) hk
theorem lor64 (ha : a < 2 ^ 64) (hb : b < 2 ^ 64) (hk : k ((a ||| b : Nat) : Int)) : LEq (IntKind.u64.wrap ((BitVec.ofInt IntKind.u64.bits (a : Int) ||| BitVec.ofInt IntKind.u64.bits (b : Int)).toNat)) k :=
  leq_ (by show IntKind.u64.wrap (((BitVec.ofInt 64 (a : Int) ||| BitVec.ofInt 64 (b : Int)).toNat : Nat) : Int) = _
           rw [or_nat ha hb, wr64 (Nat.or_lt_two_pow ha hb)]) hk
theorem lshr {kd : IntKind} (s : Nat) (hs : s ≤ kd.bits) (hk : k ((a / 2 ^ s : Nat) : Int)) : LAnd (0 ≤ (s : Int)) (LEq ((a : Int).fdiv (2 ^ (min (s : Int).toNat kd.bits))) k) :=
  ⟨by omega, leq_ (by
    rw [Int.toNat_natCast, Nat.min_eq_left hs, Int.fdiv_eq_ediv_of_nonneg _ (by exact Int.le_of_lt (Int.pow_pos (by decide)))]
    rw [show (2 : Int) ^ s = ((2 ^ s : Nat) : Int) by simp]
    rfl) hk⟩
theorem zby8 {x : UInt8} (hk : k ((x.toNat : Nat) : Int)) : LInt .u8 ((x.toNat : Nat) : Int) k := lint_u8_id (by have := x.toNat_lt; omega) hk
theorem zby32 {x : UInt8} (hk : k ((x.toNat : Nat) : Int)) : LInt .u32 ((x.toNat : Nat) : Int) k := lint_u32_id (by have := x.toNat_lt; omega) hk
theorem zby64 {x : UInt8} (hk : k ((x.toNat : Nat) : Int)) : LInt .u64 ((x.toNat : Nat) : Int) k := lint_u64_id (by have := x.toNat_lt; omega) hk
theorem zbyi {x : UInt8} (hk : k ((x.toNat : Nat) : Int)) : LInt .i64 ((x.toNat : Nat) : Int) k := lint_id (by have := x.toNat_lt; omega) hk
theorem lshl64 (s : Nat) (hs : s ≤ 64) (h : a * 2 ^ s < 18446744073709551616) (hk : k ((a * 2 ^ s : Nat) : Int)) : LAnd (0 ≤ (s : Int)) (LInt .u64 ((a : Int) * 2 ^ (min (s : Int).toNat IntKind.u64.bits)) k) :=
  ⟨by omega, by
    have e : (a : Int) * 2 ^ (min (s : Int).toNat IntKind.u64.bits) = ((a * 2 ^ s : Nat) : Int) := by
      show (a : Int) * 2 ^ (min s 64) = _
      rw [Nat.min_eq_left hs]; simp
    rw [e]
    exact lint_u64_id (by omega) hk⟩
theorem or_add (i : Nat) (h : a < 2 ^ i) : a ||| b * 2 ^ i = a + b * 2 ^ i := by
  have := Nat.two_pow_add_eq_or_of_lt h b
  rw [Nat.or_comm, Nat.mul_comm b, ← this, Nat.add_comm]
end
end Go.Sl
