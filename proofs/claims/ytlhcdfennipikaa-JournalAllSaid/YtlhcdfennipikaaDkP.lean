import Derived.Test.YtlhcdfennipikaaB0
/-! A disk's files as a list that rises by their names: plain. -/
namespace Go.Proofs.Ytlhcdfennipikaa
open Go.Sl
set_option linter.unusedVariables false
set_option linter.unusedSimpArgs false

abbrev FT := ByteArray × Bs × Nat
abbrev Fs := List FT
def srt (F : Fs) : Prop := F.Pairwise (fun a b => ltS a.1 b.1 = true)
section
variable {β : Type}
/-- No two of one name. -/
def keys (F : List (ByteArray × β)) : Prop := F.Pairwise (fun a b => a.1 ≠ b.1)
theorem keys.perm {F G : List (ByteArray × β)} (h : keys F) (p : F.Perm G) : keys G := List.Pairwise.perm h p (fun q e => q e.symm)
theorem getL_some {F : List (ByteArray × β)} (h : keys F) {n : ByteArray} {x : β} : getL F n = some x ↔ (n, x) ∈ F := by
  induction F with
  | nil => simp [getL]
  | cons p F ih =>
    obtain ⟨h1, h2⟩ := List.pairwise_cons.1 h
    unfold getL
    by_cases e : p.1 = n
    · rw [if_pos e]
      constructor
      · intro q; injection q with q; exact List.mem_cons.2 (.inl (by rw [← e, ← q]))
      · intro q
        rcases List.mem_cons.1 q with q | q
        · rw [← q]
        · exact absurd e (h1 _ q)
    · rw [if_neg e, ih h2]
      constructor
      · exact List.mem_cons_of_mem _
      · intro q
        rcases List.mem_cons.1 q with q | q
        · exact absurd (by rw [← q]) e
        · exact q
theorem getL_none {F : List (ByteArray × β)} {n : ByteArray} : getL F n = none ↔ ∀ p ∈ F, p.1 ≠ n := by
  induction F with
  | nil => simp [getL]
  | cons p F ih =>
    unfold getL
    by_cases e : p.1 = n
    · rw [if_pos e]
      constructor
      · intro q; cases q
      · intro q; exact absurd e (q p (List.mem_cons_self ..))
    · rw [if_neg e, ih]
      constructor
      · intro q r hr
        rcases List.mem_cons.1 hr with hr | hr
        · rw [hr]; exact e
        · exact q r hr
      · exact fun q r hr => q r (List.mem_cons_of_mem _ hr)
theorem getL_perm {F G : List (ByteArray × β)} (h : keys F) (p : F.Perm G) (n : ByteArray) : getL F n = getL G n := by
  cases e : getL G n with
  | none => rw [getL_none] at e ⊢; exact fun q hq => e q (p.mem_iff.1 hq)
  | some x => rw [getL_some (h.perm p)] at e; rw [getL_some h]; exact p.mem_iff.2 e
/-- The one of a name, between the others. -/
theorem getL_split {F : List (ByteArray × β)} {n : ByteArray} {x : β} (e : getL F n = some x) : ∃ A B, F = A ++ (n, x) :: B ∧ ∀ p ∈ A, p.1 ≠ n := by
  induction F with
  | nil => cases e
  | cons p F ih =>
    unfold getL at e
    by_cases c : p.1 = n
    · rw [if_pos c] at e
      injection e with e
      exact ⟨[], F, by rw [← c, ← e]; rfl, by simp⟩
    · rw [if_neg c] at e
      obtain ⟨A, B, h1, h2⟩ := ih e
      exact ⟨p :: A, B, by rw [h1]; rfl, fun q hq => by
        rcases List.mem_cons.1 hq with hq | hq
        · rw [hq]; exact c
        · exact h2 q hq⟩
theorem setLk_mid : ∀ {A B : List (ByteArray × β)} {n : ByteArray} {x y : β}, (∀ p ∈ A, p.1 ≠ n) → setLk n y (A ++ (n, x) :: B) = A ++ (n, y) :: B
  | [], B, n, x, y, _ => by simp [setLk]
  | p :: A, B, n, x, y, h => by
    simp only [List.cons_append, setLk]
    rw [if_neg (h p (List.mem_cons_self ..)), setLk_mid (fun q hq => h q (List.mem_cons_of_mem _ hq))]
theorem delL_mid : ∀ {A B : List (ByteArray × β)} {n : ByteArray} {x : β}, (∀ p ∈ A, p.1 ≠ n) → delL n (A ++ (n, x) :: B) = A ++ B
  | [], B, n, x, _ => by simp [delL]
  | p :: A, B, n, x, h => by
    simp only [List.cons_append, delL]
    rw [if_neg (h p (List.mem_cons_self ..)), delL_mid (fun q hq => h q (List.mem_cons_of_mem _ hq))]
theorem getL_mid {A B : List (ByteArray × β)} {n : ByteArray} {x : β} (h : ∀ p ∈ A, p.1 ≠ n) : getL (A ++ (n, x) :: B) n = some x := by
  induction A with
  | nil => simp [getL]
  | cons p A ih =>
    simp only [List.cons_append, getL]
    rw [if_neg (h p (List.mem_cons_self ..)), ih (fun q hq => h q (List.mem_cons_of_mem _ hq))]
end
theorem srt.keys {F : Fs} (h : srt F) : keys F := List.Pairwise.imp (fun q => ltS_ne q) h
def delF (F : Fs) (n : ByteArray) : Fs := F.filter (fun p => decide (p.1 ≠ n))
def putF : Fs → ByteArray → Bs × Nat → Fs
  | [], n, x => [(n, x)]
  | p :: L, n, x => if p.1 = n then (n, x) :: L else if ltS n p.1 = true then (n, x) :: p :: L else p :: putF L n x
theorem delF_srt {F : Fs} (h : srt F) (n : ByteArray) : srt (delF F n) := List.Pairwise.filter _ h
theorem delF_none {F : Fs} {n : ByteArray} (h : ∀ p ∈ F, p.1 ≠ n) : delF F n = F := List.filter_eq_self.2 (fun p hp => by simpa using h p hp)
theorem delF_mem {F : Fs} {n : ByteArray} {p : FT} : p ∈ delF F n ↔ p ∈ F ∧ p.1 ≠ n := by unfold delF; rw [List.mem_filter]; simp
theorem putF_mem {F : Fs} {n : ByteArray} {x : Bs × Nat} {p : FT} (h : p ∈ putF F n x) : p = (n, x) ∨ p ∈ F := by
  induction F with
  | nil => exact .inl (by simpa [putF] using h)
  | cons q F ih =>
    unfold putF at h
    split at h
    · rcases List.mem_cons.1 h with h | h
      · exact .inl h
      · exact .inr (List.mem_cons_of_mem _ h)
    · split at h
      · rcases List.mem_cons.1 h with h | h
        · exact .inl h
        · exact .inr h
      · rcases List.mem_cons.1 h with h | h
        · exact .inr (by rw [h]; exact List.mem_cons_self ..)
        · rcases ih h with h | h
          · exact .inl h
          · exact .inr (List.mem_cons_of_mem _ h)
theorem putF_srt {F : Fs} (h : srt F) (n : ByteArray) (x : Bs × Nat) : srt (putF F n x) := by
  induction F with
  | nil => simp [putF, srt]
  | cons p F ih =>
    obtain ⟨h1, h2⟩ := List.pairwise_cons.1 h
    unfold putF
    split
    · rename_i e
      exact List.pairwise_cons.2 ⟨fun q hq => by rw [← e]; exact h1 q hq, h2⟩
    · rename_i e
      split
      · rename_i c
        exact List.pairwise_cons.2 ⟨fun q hq => by
          rcases List.mem_cons.1 hq with hq | hq
          · rw [hq]; exact c
          · exact ltS_trans c (h1 q hq), h⟩
      · rename_i c
        refine List.pairwise_cons.2 ⟨fun q hq => ?_, ih h2⟩
        rcases putF_mem hq with hq | hq
        · rw [hq]
          rcases ltS_tri p.1 n with t | t | t
          · exact t
          · exact absurd t e
          · exact absurd t c
        · exact h1 q hq
theorem putF_perm {F : Fs} (h : srt F) (n : ByteArray) (x : Bs × Nat) : (putF F n x).Perm ((n, x) :: delF F n) := by
  induction F with
  | nil => exact List.Perm.refl _
  | cons p F ih =>
    obtain ⟨h1, h2⟩ := List.pairwise_cons.1 h
    unfold putF
    split
    · rename_i e
      have : delF (p :: F) n = F := by
        have e1 : delF (p :: F) n = delF F n := by unfold delF; rw [List.filter_cons_of_neg (by simpa using e)]
        rw [e1]
        exact delF_none (fun q hq => fun e2 => ltS_ne (h1 q hq) (by rw [e, e2]))
      rw [this]
    · rename_i e
      have e1 : delF (p :: F) n = p :: delF F n := by unfold delF; rw [List.filter_cons_of_pos (by simpa using e)]
      rw [e1]
      split
      · rename_i c
        rw [delF_none (fun q hq e2 => ltS_ne (ltS_trans c (h1 q hq)) e2.symm)]
      · exact ((ih h2).cons p).trans (List.Perm.swap ..)
theorem putF_len {F : Fs} (h : srt F) (n : ByteArray) (x : Bs × Nat) : (putF F n x).length = (delF F n).length + 1 := (putF_perm h n x).length_eq
theorem delF_len {F : Fs} (h : srt F) {n : ByteArray} {x : Bs × Nat} (e : getL F n = some x) : (delF F n).length + 1 = F.length := by
  obtain ⟨A, B, rfl, h1⟩ := getL_split e
  have hk := h.keys
  unfold keys at hk
  rw [List.pairwise_append, List.pairwise_cons] at hk
  have e1 : delF (A ++ (n, x) :: B) n = A ++ B := by
    unfold delF
    rw [List.filter_append, List.filter_cons_of_neg (by simp)]
    rw [List.filter_eq_self.2 (fun p hp => by simpa using h1 p hp), List.filter_eq_self.2 (fun p hp => by have := hk.2.1.1 p hp; simp only [decide_eq_true_eq]; exact fun e => this e.symm)]
  rw [e1]; simp; omega
/-- The parts of such a list, told by any order of its files. -/
theorem del_perm {F : Fs} (h : srt F) {A B : Fs} {n : ByteArray} {x : Bs × Nat} (p : (A ++ (n, x) :: B).Perm F) : (A ++ B).Perm (delF F n) := by
  have hk : keys (A ++ (n, x) :: B) := h.keys.perm p.symm
  unfold keys at hk
  rw [List.pairwise_append, List.pairwise_cons] at hk
  have e1 : (A ++ (n, x) :: B).filter (fun p => decide (p.1 ≠ n)) = A ++ B := by
    rw [List.filter_append, List.filter_cons_of_neg (by simp)]
    rw [List.filter_eq_self.2 (fun p hp => by simpa using hk.2.2 p hp (n, x) (List.mem_cons_self ..)), List.filter_eq_self.2 (fun p hp => by have := hk.2.1.1 p hp; simp only [decide_eq_true_eq]; exact fun e => this e.symm)]
  rw [← e1]
  exact p.filter _
theorem getL_put {F : Fs} (h : srt F) (n m : ByteArray) (x : Bs × Nat) : getL (putF F n x) m = if m = n then some x else getL F m := by
  have hp := putF_perm h n x
  have hk := (putF_srt h n x).keys
  rw [getL_perm hk hp]
  have hc : getL ((n, x) :: delF F n) m = if n = m then some x else getL (delF F n) m := rfl
  rw [hc]
  by_cases e : n = m
  · rw [if_pos e, if_pos e.symm]
  · rw [if_neg e, if_neg (fun q => e q.symm)]
    cases c : getL F m with
    | none => rw [getL_none] at c ⊢; exact fun p hp => c p (delF_mem.1 hp).1
    | some y => rw [getL_some h.keys] at c; rw [getL_some (delF_srt h n).keys]; exact delF_mem.2 ⟨c, fun q => e q.symm⟩
theorem getL_del {F : Fs} (h : srt F) (n m : ByteArray) : getL (delF F n) m = if m = n then none else getL F m := by
  by_cases e : m = n
  · rw [if_pos e, getL_none]; exact fun p hp => by rw [e]; exact (delF_mem.1 hp).2
  · rw [if_neg e]
    cases c : getL F m with
    | none => rw [getL_none] at c ⊢; exact fun p hp => c p (delF_mem.1 hp).1
    | some y => rw [getL_some h.keys] at c; rw [getL_some (delF_srt h n).keys]; exact delF_mem.2 ⟨c, e⟩
/-! Names. -/
def nameC (c : UInt8) : Bool := (decide (97 ≤ c.toNat) && decide (c.toNat ≤ 122)) || ((decide (48 ≤ c.toNat) && decide (c.toNat ≤ 57)) || decide (c.toNat = 46))
def namedB (s : ByteArray) : Bool := s.data.toList.all nameC && (decide (s.size ≠ 0) && decide (s.size ≤ 32))
/-! What calls answer, and leave. -/
structure DS where
  F : Fs
  left : Nat
  down : Bool
structure DOk (S : DS) : Prop where
  srt : srt S.F
  len : ∀ p ∈ S.F, p.2.1.length ≤ 1048576 ∧ p.2.2 ≤ p.2.1.length
  few : S.F.length ≤ 64
  left : S.left ≤ 1099511627777
  nm : ∀ p ∈ S.F, p.1.size ≤ 32
theorem namedB_size {s : ByteArray} (h : namedB s = true) : s.size ≤ 32 := by
  unfold namedB at h
  simp at h
  exact h.2.2
/-- An operation: the error that it meets ahead of the fuse, and the files behind it. -/
def goI (S : DS) (c : Int) (F : Fs) : Int × DS := if S.down = true then (11, S) else if c ≠ 0 then (c, S) else
  match S.left with
  | 0 => (0, { S with F := F })
  | 1 => (11, { S with down := true })
  | k + 2 => (0, { S with F := F, left := k + 1 })
def apC (F : Fs) (n : ByteArray) (b : Bs) : Int := if namedB n = true then match getL F n with
  | none => if 64 ≤ F.length then 6 else if 1048576 < b.length then 1 else 0
  | some o => if 1048576 < o.1.length + b.length then 1 else 0 else 4
def apF (F : Fs) (n : ByteArray) (b : Bs) : Fs := putF F n (match getL F n with | none => (b, 0) | some o => (o.1 ++ b, o.2))
def syC (F : Fs) (n : ByteArray) : Int := match getL F n with | none => 3 | some _ => 0
def syF (F : Fs) (n : ByteArray) : Fs := match getL F n with | none => F | some o => putF F n (o.1, o.1.length)
def reC (F : Fs) (n m : ByteArray) : Int := match getL F n with | none => 3 | some _ => if namedB m = true then 0 else 4
def reF (F : Fs) (n m : ByteArray) : Fs := match getL F n with | none => F | some o => putF (delF F n) m o
def rmC (F : Fs) (n : ByteArray) : Int := match getL F n with | none => 3 | some _ => 0
def trC (F : Fs) (n : ByteArray) (k : Int) : Int := match getL F n with | none => 3 | some o => if k < 0 ∨ k > o.1.length then 2 else 0
def trF (F : Fs) (n : ByteArray) (k : Int) : Fs := match getL F n with | none => F | some o => putF F n (o.1.take k.toNat, min o.2 k.toNat)
end Go.Proofs.Ytlhcdfennipikaa
