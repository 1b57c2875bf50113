import Derived.Test.YtchaijafpmofdaaPl1
/-! The order of the tasks' turns; where a gang finds room: plain lists. -/
namespace Go.Proofs.Ytchaijafpmofdaa
open Go.Sl
set_option linter.unusedVariables false
set_option linter.unusedSimpArgs false

theorem cmpI_lt {a b : Int} (h : a < b) : cmpI a b = -1 := by simp [cmpI, h]
theorem cmpI_gt {a b : Int} (h : b < a) : cmpI a b = 1 := by
  have : ¬ a < b := by omega
  simp [cmpI, h, this]
theorem cmpI_eq (a : Int) : cmpI a a = 0 := by simp [cmpI]
def lt4 (a b : V4) : Prop := a.1 < b.1 ∨ (a.1 = b.1 ∧ (a.2.1 < b.2.1 ∨ (a.2.1 = b.2.1 ∧ (a.2.2.1 < b.2.2.1 ∨ (a.2.2.1 = b.2.2.1 ∧ a.2.2.2 < b.2.2.2)))))
instance (a b : V4) : Decidable (lt4 a b) := by unfold lt4; infer_instance
def cq (a b : V4) : Int := cmpL (l4 a) (l4 b)
theorem cq_cases (a b : V4) : (lt4 a b ∧ cq a b = -1) ∨ (lt4 b a ∧ cq a b = 1) ∨ (a = b ∧ cq a b = 0) := by
  obtain ⟨a1, a2, a3, a4⟩ := a
  obtain ⟨b1, b2, b3, b4⟩ := b
  unfold cq l4 lt4
  dsimp only
  rcases Int.lt_trichotomy a1 b1 with h | h | h
  · left; exact ⟨.inl h, by simp [cmpL, cmpI_lt h]⟩
  · subst h
    rcases Int.lt_trichotomy a2 b2 with h | h | h
    · left; exact ⟨.inr ⟨rfl, .inl h⟩, by simp [cmpL, cmpI_eq, cmpI_lt h]⟩
    · subst h
      rcases Int.lt_trichotomy a3 b3 with h | h | h
      · left; exact ⟨.inr ⟨rfl, .inr ⟨rfl, .inl h⟩⟩, by simp [cmpL, cmpI_eq, cmpI_lt h]⟩
      · subst h
        rcases Int.lt_trichotomy a4 b4 with h | h | h
        · left; exact ⟨.inr ⟨rfl, .inr ⟨rfl, .inr ⟨rfl, h⟩⟩⟩, by simp [cmpL, cmpI_eq, cmpI_lt h]⟩
        · subst h; right; right; exact ⟨rfl, by simp [cmpL, cmpI_eq]⟩
        · right; left; exact ⟨.inr ⟨rfl, .inr ⟨rfl, .inr ⟨rfl, h⟩⟩⟩, by simp [cmpL, cmpI_eq, cmpI_gt h]⟩
      · right; left; exact ⟨.inr ⟨rfl, .inr ⟨rfl, .inl h⟩⟩, by simp [cmpL, cmpI_eq, cmpI_gt h]⟩
    · right; left; exact ⟨.inr ⟨rfl, .inl h⟩, by simp [cmpL, cmpI_eq, cmpI_gt h]⟩
  · right; left; exact ⟨.inl h, by simp [cmpL, cmpI_gt h]⟩
theorem lt4_irrefl (a : V4) : ¬ lt4 a a := by unfold lt4; omega
theorem lt4_trans {a b c : V4} (h : lt4 a b) (k : lt4 b c) : lt4 a c := by unfold lt4 at *; omega
theorem lt4_asymm {a b : V4} (h : lt4 a b) : ¬ lt4 b a := fun k => lt4_irrefl a (lt4_trans h k)
/-- Task i's turn is ahead of j's. -/
def ordT (T : List V4) (i j : Nat) : Prop := lt4 (gd T j) (gd T i) ∨ (gd T i = gd T j ∧ i < j)
instance (T : List V4) (i j : Nat) : Decidable (ordT T i j) := by unfold ordT; infer_instance
theorem ordT_asymm {T : List V4} {i j : Nat} (h : ordT T i j) : ¬ ordT T j i := by
  unfold ordT at *
  rintro (k | ⟨k, k2⟩) <;> rcases h with h | ⟨h, h2⟩
  · exact lt4_asymm h k
  · rw [h] at k; exact lt4_irrefl _ k
  · rw [k] at h; exact lt4_irrefl _ h
  · omega
theorem ordT_trans {T : List V4} {i j k : Nat} (h : ordT T i j) (h' : ordT T j k) : ordT T i k := by
  unfold ordT at *
  rcases h with h | ⟨h, h2⟩ <;> rcases h' with h' | ⟨h', h2'⟩
  · exact .inl (lt4_trans h' h)
  · exact .inl (h' ▸ h)
  · exact .inl (h ▸ h')
  · exact .inr ⟨h.trans h', by omega⟩
theorem ordT_total {T : List V4} {i j : Nat} (h : i ≠ j) : ordT T i j ∨ ordT T j i := by
  unfold ordT
  rcases cq_cases (gd T i) (gd T j) with ⟨h', _⟩ | ⟨h', _⟩ | ⟨h', _⟩
  · exact .inr (.inl h')
  · exact .inl (.inl h')
  · rcases Nat.lt_or_gt_of_ne h with q | q
    · exact .inl (.inr ⟨h', q⟩)
    · exact .inr (.inr ⟨h'.symm, q⟩)
/-- The turns of all tasks. -/
structure IsOrd (T : List V4) (l : List Nat) : Prop where
  pw : l.Pairwise (ordT T)
  pm : l.Perm (List.range T.length)
theorem IsOrd.unique {T : List V4} {l l' : List Nat} (h : IsOrd T l) (h' : IsOrd T l') : l = l' :=
  List.Perm.eq_of_pairwise (fun a b _ _ h1 h2 => absurd h2 (ordT_asymm h1)) h.pw h'.pw (h.pm.trans h'.pm.symm)
theorem IsOrd.nodup {T : List V4} {l : List Nat} (h : IsOrd T l) : l.Nodup := h.pm.nodup_iff.2 List.nodup_range
theorem IsOrd.length {T : List V4} {l : List Nat} (h : IsOrd T l) : l.length = T.length := by rw [h.pm.length_eq, List.length_range]
theorem IsOrd.mem {T : List V4} {l : List Nat} (h : IsOrd T l) {i : Nat} : i ∈ l ↔ i < T.length := by rw [h.pm.mem_iff, List.mem_range]
def ordL (T : List V4) : List Nat := (List.range T.length).mergeSort (fun i j => !decide (ordT T j i))
theorem ordL_is (T : List V4) : IsOrd T (ordL T) := by
  have pm : (ordL T).Perm (List.range T.length) := List.mergeSort_perm _ _
  refine ⟨?_, pm⟩
  have nd : (ordL T).Nodup := pm.nodup_iff.2 List.nodup_range
  have pw : (ordL T).Pairwise (fun i j => (!decide (ordT T j i)) = true) := by
    refine List.pairwise_mergeSort ?_ ?_ _
    · intro a b c h1 h2
      simp only [Bool.not_eq_true', decide_eq_false_iff_not] at h1 h2 ⊢
      intro h3
      by_cases e : a = b
      · subst e; exact h2 h3
      by_cases e2 : b = c
      · subst e2; exact h1 h3
      rcases ordT_total (T := T) e with q | q
      · rcases ordT_total (T := T) e2 with r | r
        · exact ordT_asymm (ordT_trans q r) h3
        · exact h2 r
      · exact h1 q
    · intro a b
      simp only [Bool.or_eq_true, Bool.not_eq_true', decide_eq_false_iff_not]
      by_cases h : ordT T b a
      · exact .inr (ordT_asymm h)
      · exact .inl h
  refine (pw.and nd).imp ?_
  rintro a b ⟨h1, h2⟩
  simp only [Bool.not_eq_true', decide_eq_false_iff_not] at h1
  exact (ordT_total h2).resolve_right h1

theorem ins_pw {R : Nat → Nat → Prop} (tr : ∀ {a b c}, R a b → R b c → R a c) {Q : List Nat} {x k : Nat} (hp : Q.Pairwise R) (hk : k ≤ Q.length) (h1 : ∀ y ∈ Q.drop k, R x y) (h2 : k = 0 ∨ R (gd Q (k - 1)) x) : (Q.take k ++ x :: Q.drop k).Pairwise R := by
  have hq := hp
  rw [← List.take_append_drop k Q, List.pairwise_append] at hq
  obtain ⟨q1, q2, q3⟩ := hq
  have hz : ∀ z ∈ Q.take k, R z x := by
    intro z hz
    rcases h2 with rfl | h2
    · simp at hz
    · obtain ⟨j, hj, rfl⟩ := mem_gd hz
      rw [List.length_take] at hj
      rw [gd_take_lt (by omega)]
      by_cases e : j = k - 1
      · rw [e]; exact h2
      · refine tr ?_ h2
        rw [gd_eq (by omega), gd_eq (by omega)]
        exact List.pairwise_iff_getElem.1 hp j (k - 1) (by omega) (by omega) (by omega)
  rw [List.pairwise_append, List.pairwise_cons]
  refine ⟨q1, ⟨h1, q2⟩, fun a ha b hb => ?_⟩
  rcases List.mem_cons.1 hb with rfl | hb
  · exact hz a ha
  · exact q3 a ha b hb
theorem ins_pm {Q : List Nat} {i k : Nat} (h : Q.Perm (List.range i)) : (Q.take k ++ i :: Q.drop k).Perm (List.range (i + 1)) := by
  rw [List.range_succ]
  have : (Q.take k ++ i :: Q.drop k).Perm (i :: Q) := by
    have := List.perm_middle (a := i) (l₁ := Q.take k) (l₂ := Q.drop k)
    rwa [List.take_append_drop] at this
  exact this.trans ((h.cons i).trans (List.perm_append_comm (l₁ := [i])))

/-! The first that is so. -/
def idxI {α : Type} (p : α → Bool) (xs : List α) : Int := match xs.findIdx? p with | some k => (k : Int) | none => -1
theorem IsIdx.eq {α : Type} [Inhabited α] {p : α → Bool} {xs : List α} {r : Int} (h : IsIdx p xs r) : r = idxI p xs := by
  unfold idxI
  rcases h with ⟨rfl, h⟩ | ⟨i, rfl, h1, h2, h3⟩
  · have : xs.findIdx? p = none := by
      rw [List.findIdx?_eq_none_iff]
      intro x hx
      obtain ⟨j, hj, rfl⟩ := mem_gd hx
      exact h j hj
    rw [this]
  · have : xs.findIdx? p = some i := by
      rw [List.findIdx?_eq_some_iff_getElem]
      refine ⟨h1, by rw [← gd_eq h1]; exact h2, fun j hj => ?_⟩
      rw [← gd_eq (by omega)]; rw [h3 j hj]; simp
    rw [this]
theorem idxI_is {α : Type} [Inhabited α] (p : α → Bool) (xs : List α) : IsIdx p xs (idxI p xs) := by
  unfold idxI
  cases h : xs.findIdx? p with
  | none =>
    rw [List.findIdx?_eq_none_iff] at h
    exact .inl ⟨rfl, fun j hj => h _ (gd_mem hj)⟩
  | some k =>
    rw [List.findIdx?_eq_some_iff_getElem] at h
    obtain ⟨h1, h2, h3⟩ := h
    refine .inr ⟨k, rfl, h1, by rw [gd_eq h1]; exact h2, fun j hj => ?_⟩
    have := h3 j hj
    rw [gd_eq (by omega)]
    simpa using this

/-! A gang on slots. -/
def fitGo (T : List V4) : List Nat → List Slot → List ByteArray → Option (List ByteArray)
  | [], _, N => some N
  | t :: r, L, N => match L.findIdx? (fun s => fits (gd T t) s.2) with
    | none => none
    | some k => fitGo T r (L.set k ((gd L k).1, sub4 (gd L k).2 (gd T t))) (N.set t (gd L k).1)
def emptyS : ByteArray := ⟨#[]⟩
def fitR (T : List V4) (S : List Slot) : List ByteArray × Int :=
  if wrongR T S ≠ 0 then ([], wrongR T S) else match fitGo T (ordL T) S (List.replicate T.length emptyS) with
    | none => ([], 6)
    | some N => (N, 0)
def movedGo (op : V4 → V4 → V4 × Int) (T : List V4) (N : List ByteArray) : Nat → List Slot → Option (List Slot)
  | 0, L => some L
  | n + 1, L => match movedGo op T N n L with
    | none => none
    | some L => match L.findIdx? (fun s => decide (s.1 = gd N n)) with
      | none => none
      | some k => if (op (gd L k).2 (gd T n)).2 = 0 then some (L.set k ((gd L k).1, (op (gd L k).2 (gd T n)).1)) else none
def movedR (op : V4 → V4 → V4 × Int) (T : List V4) (N : List ByteArray) (S : List Slot) : List Slot × Int :=
  if wrongR T S ≠ 0 then ([], wrongR T S)
  else if N.length ≠ T.length then ([], 2)
  else if N.any (fun n => !(nms S).contains n) then ([], 3)
  else match movedGo op T N N.length S with
    | none => ([], 7)
    | some L => (L, 0)
end Go.Proofs.Ytchaijafpmofdaa
