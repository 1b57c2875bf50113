import Derived.Test.YtjmfnakplmmpnaaDoorB0
/-! Numbers by sevens of bits, four bytes, the check, frames: plain. -/
namespace Go.Proofs.YtjmfnakplmmpnaaDoor
open Go.Sl
set_option linter.unusedVariables false
set_option linter.unusedSimpArgs false

/-! Sevens. -/
def seven (n : Nat) : List UInt8 := if h : n < 128 then [UInt8.ofNat n] else UInt8.ofNat (n % 128 + 128) :: seven (n / 128)
termination_by n
decreasing_by omega
theorem seven_lt {n : Nat} (h : n < 128) : seven n = [UInt8.ofNat n] := by rw [seven, dif_pos h]
theorem seven_ge {n : Nat} (h : ¬ n < 128) : seven n = UInt8.ofNat (n % 128 + 128) :: seven (n / 128) := by rw [seven, dif_neg h]
theorem u8_ofNat {n : Nat} (h : n < 256) : (UInt8.ofNat n).toNat = n := by simp [UInt8.toNat_ofNat']; omega
def rdGo : Nat → Nat → List UInt8 → Nat × Nat
  | _, _, [] => (0, 0)
  | i, n, x :: l => if (i = 9 ∧ 1 < x.toNat) ∨ 9 < i then (0, 0) else if x.toNat < 128 then (n + x.toNat * 128 ^ i, i + 1) else rdGo (i + 1) (n + x.toNat % 128 * 128 ^ i) l
def rdS (b : List UInt8) : Nat × Nat := rdGo 0 0 b
theorem rdGo_seven (r : List UInt8) : ∀ (n i acc : Nat), n * 128 ^ i < 9223372036854775808 → i ≤ 8 → rdGo i acc (seven n ++ r) = (acc + n * 128 ^ i, i + (seven n).length) := by
  intro n
  induction n using Nat.strongRecOn with
  | _ n ih =>
    intro i acc h hi
    by_cases h1 : n < 128
    · rw [seven_lt h1]
      simp only [List.cons_append, List.nil_append, rdGo, List.length_singleton]
      rw [u8_ofNat (by omega), if_neg (by omega), if_pos h1]
    · rw [seven_ge h1]
      simp only [List.cons_append, rdGo, List.length_cons]
      rw [u8_ofNat (by omega), if_neg (by omega), if_neg (by omega)]
      have e1 : 128 ^ (i + 1) = 128 ^ i * 128 := Nat.pow_succ ..
      have e2 : n / 128 * 128 ^ (i + 1) ≤ n * 128 ^ i := by
        rw [e1, ← Nat.mul_assoc, Nat.mul_right_comm]
        exact Nat.mul_le_mul_right _ (Nat.div_mul_le_self n 128)
      have e3 : 1 ≤ n / 128 := by omega
      have e4 : 128 ^ (i + 1) ≤ n / 128 * 128 ^ (i + 1) := Nat.le_mul_of_pos_left _ e3
      have hi' : i + 1 ≤ 8 := by
        rcases Nat.lt_or_ge 8 (i + 1) with q | q
        · have : i = 8 := by omega
          subst this
          have e5 : (128 : Nat) ^ (8 + 1) = 9223372036854775808 := by decide
          omega
        · exact q
      rw [ih (n / 128) (by omega) (i + 1) _ (by omega) hi']
      have e6 : (n % 128 + 128) % 128 = n % 128 := by omega
      rw [e6]
      have e7 : n % 128 * 128 ^ i + n / 128 * 128 ^ (i + 1) = n * 128 ^ i := by
        rw [e1, ← Nat.mul_assoc, Nat.mul_right_comm, ← Nat.add_mul]
        congr 1
        omega
      refine Prod.ext ?_ ?_
      · show acc + n % 128 * 128 ^ i + n / 128 * 128 ^ (i + 1) = acc + n * 128 ^ i
        omega
      · show i + 1 + (seven (n / 128)).length = i + ((seven (n / 128)).length + 1)
        omega
theorem rdS_seven (n : Nat) (r : List UInt8) (h : n < 9223372036854775808) : rdS (seven n ++ r) = (n, (seven n).length) := by
  unfold rdS
  rw [rdGo_seven r n 0 0 (by simpa using h) (by omega)]
  simp
theorem seven_len {n : Nat} (h : n < 9223372036854775808) : 1 ≤ (seven n).length ∧ (seven n).length ≤ 9 := by
  have key : ∀ (k n : Nat), n < 128 ^ k → 1 ≤ k → 1 ≤ (seven n).length ∧ (seven n).length ≤ k := by
    intro k
    induction k with
    | zero => intro n _ h; omega
    | succ k ih =>
      intro n hn _
      by_cases h1 : n < 128
      · rw [seven_lt h1]; simp
      · rw [seven_ge h1]
        by_cases hk : k = 0
        · subst hk; simp at hn; omega
        · have := ih (n / 128) (by
            have e : 128 ^ (k + 1) = 128 ^ k * 128 := Nat.pow_succ ..
            rw [e] at hn
            exact Nat.div_lt_of_lt_mul (by rw [Nat.mul_comm]; exact hn)) (by omega)
          simp only [List.length_cons]
          omega
  exact key 9 n (by have : (128 : Nat) ^ 9 = 9223372036854775808 := by decide
                    omega) (by omega)
/-! Four bytes. -/
def four (n : Nat) : List UInt8 := [UInt8.ofNat (n % 256), UInt8.ofNat (n / 256 % 256), UInt8.ofNat (n / 65536 % 256), UInt8.ofNat (n / 16777216 % 256)]
def of4 (b : List UInt8) : Nat := (gd b 0).toNat + 256 * (gd b 1).toNat + 65536 * (gd b 2).toNat + 16777216 * (gd b 3).toNat
theorem of4_four {n : Nat} (r : List UInt8) (h : n < 4294967296) : of4 (four n ++ r) = n := by
  have e0 : gd (four n ++ r) 0 = UInt8.ofNat (n % 256) := rfl
  have e1 : gd (four n ++ r) 1 = UInt8.ofNat (n / 256 % 256) := rfl
  have e2 : gd (four n ++ r) 2 = UInt8.ofNat (n / 65536 % 256) := rfl
  have e3 : gd (four n ++ r) 3 = UInt8.ofNat (n / 16777216 % 256) := rfl
  unfold of4
  rw [e0, e1, e2, e3, u8_ofNat (by omega), u8_ofNat (by omega), u8_ofNat (by omega), u8_ofNat (by omega)]
  omega
theorem of4_lt (b : List UInt8) : of4 b < 4294967296 := by
  unfold of4
  have := (gd b 0).toNat_lt; have := (gd b 1).toNat_lt; have := (gd b 2).toNat_lt; have := (gd b 3).toNat_lt
  omega
/-! The check. -/
def cst (c : Nat) : Nat := if c % 2 = 1 then (c / 2) ^^^ 3988292384 else c / 2
def cst8 (c : Nat) : Nat := cst (cst (cst (cst (cst (cst (cst (cst c)))))))
def crcG (c : Nat) (b : List UInt8) : Nat := b.foldl (fun c x => cst8 (c ^^^ x.toNat)) c
def crc (b : List UInt8) : Nat := crcG 4294967295 b ^^^ 4294967295
theorem cst_lt {c : Nat} (h : c < 4294967296) : cst c < 4294967296 := by
  unfold cst
  split
  · exact Nat.xor_lt_two_pow (n := 32) (by omega) (by decide)
  · omega
theorem cst_inj {c d : Nat} (hc : c < 4294967296) (hd : d < 4294967296) (h : cst c = cst d) : c = d := by
  have top : ∀ x, x < 4294967296 → ((x / 2) ^^^ 3988292384).testBit 31 = true := fun x hx => by
    rw [Nat.testBit_xor]
    have : (x / 2).testBit 31 = false := Nat.testBit_lt_two_pow (by omega)
    rw [this]; decide
  have low : ∀ x, x < 4294967296 → (x / 2).testBit 31 = false := fun x hx => Nat.testBit_lt_two_pow (by omega)
  unfold cst at h
  by_cases h1 : c % 2 = 1 <;> by_cases h2 : d % 2 = 1
  · rw [if_pos h1, if_pos h2] at h
    have e : c / 2 = d / 2 := by
      have := congrArg (· ^^^ 3988292384) h
      simp only [Nat.xor_assoc, Nat.xor_self, Nat.xor_zero] at this
      exact this
    omega
  · rw [if_pos h1, if_neg h2] at h
    have := top c hc
    rw [h, low d hd] at this; cases this
  · rw [if_neg h1, if_pos h2] at h
    have := top d hd
    rw [← h, low c hc] at this; cases this
  · rw [if_neg h1, if_neg h2] at h
    omega
theorem cst8_lt {c : Nat} (h : c < 4294967296) : cst8 c < 4294967296 := cst_lt (cst_lt (cst_lt (cst_lt (cst_lt (cst_lt (cst_lt (cst_lt h)))))))
theorem cst8_inj {c d : Nat} (hc : c < 4294967296) (hd : d < 4294967296) (h : cst8 c = cst8 d) : c = d := by
  unfold cst8 at h
  have c1 := cst_lt hc; have c2 := cst_lt c1; have c3 := cst_lt c2; have c4 := cst_lt c3; have c5 := cst_lt c4; have c6 := cst_lt c5; have c7 := cst_lt c6
  have d1 := cst_lt hd; have d2 := cst_lt d1; have d3 := cst_lt d2; have d4 := cst_lt d3; have d5 := cst_lt d4; have d6 := cst_lt d5; have d7 := cst_lt d6
  exact cst_inj hc hd (cst_inj c1 d1 (cst_inj c2 d2 (cst_inj c3 d3 (cst_inj c4 d4 (cst_inj c5 d5 (cst_inj c6 d6 (cst_inj c7 d7 h)))))))
theorem xor_b_lt {c : Nat} (x : UInt8) (h : c < 4294967296) : c ^^^ x.toNat < 4294967296 := Nat.xor_lt_two_pow (n := 32) h (by have := x.toNat_lt; omega)
theorem crcG_lt : ∀ (b : List UInt8) {c : Nat}, c < 4294967296 → crcG c b < 4294967296
  | [], _, h => h
  | x :: b, _, h => crcG_lt b (cst8_lt (xor_b_lt x h))
theorem crc_lt (b : List UInt8) : crc b < 4294967296 := Nat.xor_lt_two_pow (n := 32) (crcG_lt b (by decide)) (by decide)
theorem xor_inj_r {a b c : Nat} (h : a ^^^ c = b ^^^ c) : a = b := by
  have := congrArg (· ^^^ c) h
  simpa [Nat.xor_assoc] using this
theorem xor_inj_l {a b c : Nat} (h : c ^^^ a = c ^^^ b) : a = b := by
  rw [Nat.xor_comm c a, Nat.xor_comm c b] at h; exact xor_inj_r h
theorem crcG_inj : ∀ (b : List UInt8) {c d : Nat}, c < 4294967296 → d < 4294967296 → crcG c b = crcG d b → c = d
  | [], _, _, _, _, h => h
  | x :: b, _, _, hc, hd, h => xor_inj_r (cst8_inj (xor_b_lt x hc) (xor_b_lt x hd) (crcG_inj b (cst8_lt (xor_b_lt x hc)) (cst8_lt (xor_b_lt x hd)) h))
theorem crcG_app (a b : List UInt8) (c : Nat) : crcG c (a ++ b) = crcG (crcG c a) b := by unfold crcG; rw [List.foldl_append]
/-- One byte turned turns the check. -/
theorem crc_turn {p s : List UInt8} {x y : UInt8} (h : crc (p ++ x :: s) = crc (p ++ y :: s)) : x = y := by
  unfold crc at h
  have h1 := xor_inj_r h
  rw [crcG_app, crcG_app] at h1
  have hp : crcG 4294967295 p < 4294967296 := crcG_lt p (by decide)
  have h2 : crcG (cst8 (crcG 4294967295 p ^^^ x.toNat)) s = crcG (cst8 (crcG 4294967295 p ^^^ y.toNat)) s := h1
  have h3 := crcG_inj s (cst8_lt (xor_b_lt x hp)) (cst8_lt (xor_b_lt y hp)) h2
  have h4 := cst8_inj (xor_b_lt x hp) (xor_b_lt y hp) h3
  exact UInt8.toNat_inj.1 (xor_inj_l h4)
/-! Frames. -/
def frameB (b : List UInt8) : List UInt8 := four b.length ++ (four (crc (four b.length ++ b)) ++ b)
def openB (b : List UInt8) : Option (List UInt8 × List UInt8) :=
  if b.length < 8 then none else if 4096 < of4 b ∨ b.length - 8 < of4 b then none
  else if of4 (b.drop 4) ≠ crc (b.take 4 ++ (b.drop 8).take (of4 b)) then none else some ((b.drop 8).take (of4 b), b.drop (8 + of4 b))
theorem frameB_len (b : List UInt8) : (frameB b).length = b.length + 8 := by
  unfold frameB four; simp
theorem four_len (n : Nat) : (four n).length = 4 := rfl
theorem open_frame {b : List UInt8} (r : List UInt8) (h : b.length ≤ 4096) : openB (frameB b ++ r) = some (b, r) := by
  have e0 : frameB b ++ r = four b.length ++ (four (crc (four b.length ++ b)) ++ (b ++ r)) := by unfold frameB; simp
  have hl : (frameB b ++ r).length = b.length + 8 + r.length := by rw [List.length_append, frameB_len]
  have h1 : of4 (frameB b ++ r) = b.length := by rw [e0]; exact of4_four _ (by omega)
  have h2 : of4 ((frameB b ++ r).drop 4) = crc (four b.length ++ b) := by
    have : (frameB b ++ r).drop 4 = four (crc (four b.length ++ b)) ++ (b ++ r) := by rw [e0]; rfl
    rw [this]; exact of4_four _ (crc_lt _)
  have h3 : (frameB b ++ r).take 4 = four b.length := by rw [e0]; rfl
  have h4 : (frameB b ++ r).drop 8 = b ++ r := by rw [e0]; rfl
  unfold openB
  rw [h1, h2, h3, h4, hl, List.take_left, if_neg (by omega), if_neg (by omega), if_neg (by simp)]
  have h5 : (frameB b ++ r).drop (8 + b.length) = r := by rw [← List.drop_drop, h4, List.drop_left]
  rw [h5]
end Go.Proofs.YtjmfnakplmmpnaaDoor
