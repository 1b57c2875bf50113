import Derived.Test.YtjmfnakplmmpnaaDoorXAG
namespace Go.Sl
set_option linter.unusedSimpArgs false
set_option linter.unusedVariables false
theorem tdiv_nat (a b : Nat) : (a : Int).tdiv (b : Int) = ((a / b : Nat) : Int) := by
  rw [Int.tdiv_eq_ediv_of_nonneg (by omega)]; rfl
theorem tmod_nat (a b : Nat) : (a : Int).tmod (b : Int) = ((a % b : Nat) : Int) := by
  rw [Int.tmod_eq_emod_of_nonneg (by omega)]; rfl
end Go.Sl
