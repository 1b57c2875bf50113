import Derived.Test.YtjmfnakplmmpnaaDoorZAR
namespace Go.Sl
set_option linter.unusedVariables false
set_option linter.unusedSimpArgs false
theorem bvn (w a : Nat) : BitVec.ofInt w (a : Int) = BitVec.ofNat w a := by
  apply BitVec.eq_of_toNat_eq; simp
theorem or_nat {w a b : Nat} (ha : a < 2 ^ w) (hb : b < 2 ^ w) : (BitVec.ofInt w (a : Int) ||| BitVec.ofInt w (b : Int)).toNat = a ||| b := by
  rw [bvn, bvn, BitVec.toNat_or, BitVec.toNat_ofNat, BitVec.toNat_ofNat, Nat.mod_eq_of_lt ha, Nat.mod_eq_of_lt hb]
theorem wr8 {n : Nat} (h : n < 2 ^ 8) : IntKind.u8.wrap (n : Int) = n := by rw [IntKind.wrap_u8]; omega
section
variable {a b : Nat} {k : Int → Prop}
theorem lor8 (ha : a < 2 ^ 8) (hb : b < 2 ^ 8) (hk : k ((a ||| b : Nat) : Int)) : LEq (IntKind.u8.wrap ((BitVec.ofInt IntKind.u8.bits (a : Int) ||| BitVec.ofInt IntKind.u8.bits (b : Int)).toNat)) k :=
  leq_ (by show IntKind.u8.wrap (((BitVec.ofInt 8 (a : Int) ||| BitVec.ofInt 8 (b : Int)).toNat : Nat) : Int) = _
           rw [or_nat ha hb, wr8 (Nat.or_lt_two_pow ha hb)]) hk
theorem lshr {kd : IntKind} (s : Nat) (hs : s ≤ kd.bits) (hk : k ((a / 2 ^ s : Nat) : Int)) : LAnd (0 ≤ (s : Int)) (LEq ((a : Int).fdiv (2 ^ (min (s : Int).toNat kd.bits))) k) :=
  ⟨by omega, leq_ (by
    rw [Int.toNat_natCast, Nat.min_eq_left hs, Int.fdiv_eq_ediv_of_nonneg _ (by exact Int.le_of_lt (Int.pow_pos (by decide)))]
    rw [show (2 : Int) ^ s = ((2 ^ s : Nat) : Int) by simp]
    rfl) hk⟩
end
end Go.Sl
