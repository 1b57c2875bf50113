import Derived.Test.YtlhcdfennipikaaDkP
/-! What a restart leaves of a disk's files: plain. -/
namespace Go.Proofs.Ytlhcdfennipikaa
open Go.Sl
set_option linter.unusedVariables false
set_option linter.unusedSimpArgs false

/-- What a crash leaves of a file. -/
def rs1 (c : UInt8) (b : Bs) (s : Nat) : Bs :=
  if 128 ≤ c.toNat ∧ 0 < c.toNat % (b.length - s + 1) then (b.take (s + c.toNat % (b.length - s + 1))).set (s + c.toNat % (b.length - s + 1) - 1) (255 - gd b (s + c.toNat % (b.length - s + 1) - 1)) else b.take (s + c.toNat % (b.length - s + 1))
theorem kept_le (c : UInt8) (b : Bs) (s : Nat) (h : s ≤ b.length) : s + c.toNat % (b.length - s + 1) ≤ b.length := by
  have := Nat.mod_lt c.toNat (y := b.length - s + 1) (by omega)
  omega
theorem rs1_len {c : UInt8} {b : Bs} {s : Nat} (h : s ≤ b.length) : (rs1 c b s).length = s + c.toNat % (b.length - s + 1) := by
  have := kept_le c b s h
  unfold rs1
  split <;> simp <;> omega
theorem rs1_le {c : UInt8} {b : Bs} {s : Nat} (h : s ≤ b.length) : (rs1 c b s).length ≤ b.length := by
  rw [rs1_len h]; exact kept_le c b s h
def rsL : Fs → Bs → Fs
  | [], _ => []
  | (n, b, s) :: F, ch => if b.length = s then (n, b, s) :: rsL F ch else (n, rs1 (ch.headD 0) b s, (rs1 (ch.headD 0) b s).length) :: rsL F ch.tail
def rsS (S : DS) (ch : Bs) : DS := ⟨rsL S.F ch, 0, false⟩
theorem xor255 (x : UInt8) : x.toNat ^^^ 255 = 255 - x.toNat := by
  have h : ∀ n, n < 256 → n ^^^ 255 = 255 - n := by decide +kernel
  exact h _ x.toNat_lt
theorem sub255 (x : UInt8) : (255 - x).toNat = 255 - x.toNat := by
  have := x.toNat_lt
  rw [UInt8.toNat_sub_of_le _ _ (by show x.toNat ≤ 255; omega)]; rfl
theorem rsL_names : ∀ (F : Fs) (ch : Bs), (rsL F ch).map (·.1) = F.map (·.1)
  | [], _ => rfl
  | (n, b, s) :: F, ch => by
    unfold rsL
    split
    · rw [List.map_cons, List.map_cons, rsL_names F ch]
    · rw [List.map_cons, List.map_cons, rsL_names F _]
/-- One file put anew, in its place. -/
theorem putF_mid {A B : Fs} {n : ByteArray} {y x : Bs × Nat} (h : srt (A ++ (n, y) :: B)) : putF (A ++ (n, y) :: B) n x = A ++ (n, x) :: B := by
  induction A with
  | nil => simp [putF]
  | cons p A ih =>
    rw [List.cons_append] at h
    obtain ⟨h1, h2⟩ := List.pairwise_cons.1 h
    have hlt : ltS p.1 n = true := h1 (n, y) (by simp)
    rw [List.cons_append, putF, if_neg (ltS_ne hlt), if_neg (by rw [ltS_asymm hlt]; simp), ih h2]
    rfl
theorem getL_mids {A B : Fs} {n : ByteArray} {y : Bs × Nat} (h : srt (A ++ (n, y) :: B)) : getL (A ++ (n, y) :: B) n = some y := (getL_some h.keys).2 (by simp)
theorem rsL_len (F : Fs) (ch : Bs) : (rsL F ch).length = F.length := by
  have := congrArg List.length (rsL_names F ch)
  simpa using this
end Go.Proofs.Ytlhcdfennipikaa
