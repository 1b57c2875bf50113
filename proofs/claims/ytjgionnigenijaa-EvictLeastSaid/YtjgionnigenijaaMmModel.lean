import Derived.Test.YtjgionnigenijaaGen
/-! The interval heap, as plain functions. -/
namespace Go.Proofs.Ytjgionnigenijaa
set_option linter.unusedVariables false

abbrev K3 := Int × Int × Int
def l3 (k : K3) : List Int := [k.1, k.2.1, k.2.2]
def lt3 (k : K3) (a : Nat) (k' : K3) (b : Nat) : Bool := decide (firstNZ [cmpL (l3 k) (l3 k'), cmpI a b] < 0)
/-- What stands where, and where what stands (and 1; 0: nowhere). -/
structure HS where
  A : List Nat
  S : List Nat
def at_ (A : List Nat) (i : Nat) : Nat := A.getD i 0
def key (K : List K3) (x : Nat) : K3 := K.getD x (0, 0, 0)
def ltP (K : List K3) (A : List Nat) (i j : Nat) : Bool := lt3 (key K (at_ A i)) (at_ A i) (key K (at_ A j)) (at_ A j)
def swA (A : List Nat) (i j : Nat) : List Nat := (A.set i (at_ A j)).set j (at_ A i)
def swS (A S : List Nat) (i j : Nat) : List Nat := (S.set (at_ (swA A i j) i) (i + 1)).set (at_ (swA A i j) j) (j + 1)
def swp (h : HS) (i j : Nat) : HS := ⟨swA h.A i j, swS h.A h.S i j⟩
def lo (i : Nat) : Nat := i / 2 * 2
def flip (i : Nat) : Nat := lo i + (1 - i % 2)
def pairB (K : List K3) (h : HS) (i : Nat) : Bool := decide (lo i + 1 < h.A.length) && ltP K h.A (lo i + 1) (lo i)
def pairH (K : List K3) (h : HS) (i : Nat) : HS := if pairB K h i then swp h (lo i) (lo i + 1) else h
def pairI (K : List K3) (h : HS) (i : Nat) : Nat := if pairB K h i then flip i else i
def upL (K : List K3) : Nat → HS → Nat → HS
  | 0, h, _ => h
  | f + 1, h, i =>
    if i < 2 then h
    else if ltP K h.A i ((i / 2 - 1) / 2 * 2) then upL K f (swp h i ((i / 2 - 1) / 2 * 2)) ((i / 2 - 1) / 2 * 2)
    else if ltP K h.A ((i / 2 - 1) / 2 * 2 + 1) i then upL K f (swp h i ((i / 2 - 1) / 2 * 2 + 1)) ((i / 2 - 1) / 2 * 2 + 1)
    else h
def up (K : List K3) (h : HS) (i : Nat) : HS := upL K (pairI K h i) (pairH K h i) (pairI K h i)
/-- The better one of the place b and the child c. -/
def bst (K : List K3) (A : List Nat) (high : Bool) (b c : Nat) : Nat :=
  let c' := if high && decide (c + 1 < A.length) then c + 1 else c
  if c' ≥ A.length then b
  else if (!high && ltP K A c' b) || (high && ltP K A b c') then c' else b
def best (K : List K3) (A : List Nat) (high : Bool) (i : Nat) : Nat := bst K A high (bst K A high i (i / 2 * 4 + 2)) (i / 2 * 4 + 4)
def fixP (K : List K3) (h : HS) (i : Nat) : HS := if pairB K h i then swp h (lo i) (lo i + 1) else h
def downL (K : List K3) (high : Bool) : Nat → HS → Nat → HS
  | 0, h, _ => h
  | f + 1, h, i =>
    let b := best K h.A high i
    if b = i then h
    else downL K high f (fixP K (swp h i b) b) b
def down (K : List K3) (h : HS) (i : Nat) : HS := downL K (decide (i % 2 = 1)) (h.A.length - i) h i
def settle (K : List K3) (h : HS) (i : Nat) : HS :=
  let h0 := pairH K h i
  let x := at_ h0.A (lo i)
  if lo i + 1 < h0.A.length then
    let y := at_ h0.A (lo i + 1)
    let h1 := up K h0 (at_ h0.S x - 1)
    let h2 := up K h1 (at_ h1.S y - 1)
    let h3 := down K h2 (at_ h2.S x - 1)
    down K h3 (at_ h3.S y - 1)
  else
    let h1 := up K h0 (at_ h0.S x - 1)
    down K h1 (at_ h1.S x - 1)

/-- What stands is where it stands: nothing more is asked for a run without a panic. -/
structure WF (K : List K3) (h : HS) : Prop where
  ks : h.S.length = K.length
  small : K.length ≤ 1048576
  lt : ∀ i, i < h.A.length → at_ h.A i < K.length
  sp : ∀ i, i < h.A.length → at_ h.S (at_ h.A i) = i + 1
theorem at_get {A : List Nat} {i : Nat} (h : i < A.length) : A[i]? = some (at_ A i) := by
  rw [List.getElem?_eq_getElem h]; simp [at_, List.getD_eq_getElem?_getD, List.getElem?_eq_getElem h]
theorem key_get {K : List K3} {i : Nat} (h : i < K.length) : K[i]? = some (key K i) := by
  rw [List.getElem?_eq_getElem h]; simp [key, List.getD_eq_getElem?_getD, List.getElem?_eq_getElem h]
theorem at_set (A : List Nat) (i j x : Nat) (h : i < A.length) : at_ (A.set i x) j = if j = i then x else at_ A j := by
  unfold at_
  rw [List.getD_eq_getElem?_getD, List.getD_eq_getElem?_getD, List.getElem?_set]
  by_cases e : i = j
  · subst e; simp [h]
  · have : ¬ j = i := fun e' => e e'.symm
    simp [e, this]
theorem swA_len (A : List Nat) (i j : Nat) : (swA A i j).length = A.length := by simp [swA]
theorem swS_len (A S : List Nat) (i j : Nat) : (swS A S i j).length = S.length := by simp [swS]
theorem at_swA {A : List Nat} {i j : Nat} (hi : i < A.length) (hj : j < A.length) (k : Nat) : at_ (swA A i j) k = if k = j then at_ A i else if k = i then at_ A j else at_ A k := by
  unfold swA
  rw [at_set _ _ _ _ (by simpa using hj), at_set _ _ _ _ hi]
theorem WF.inj {K : List K3} {h : HS} (w : WF K h) {i j : Nat} (hi : i < h.A.length) (hj : j < h.A.length) (e : at_ h.A i = at_ h.A j) : i = j := by
  have h1 := w.sp i hi
  have h2 := w.sp j hj
  rw [e] at h1
  omega
theorem WF.len {K : List K3} {h : HS} (w : WF K h) : h.A.length ≤ K.length := by
  have h1 : (List.range h.A.length).map (at_ h.A) ⊆ List.range K.length := by
    intro x hx
    obtain ⟨i, hi, rfl⟩ := List.mem_map.1 hx
    exact List.mem_range.2 (w.lt i (List.mem_range.1 hi))
  have h2 : ((List.range h.A.length).map (at_ h.A)).Nodup := by
    rw [List.nodup_iff_pairwise_ne, List.pairwise_map]
    refine List.Pairwise.imp_of_mem ?_ (List.nodup_iff_pairwise_ne.1 List.nodup_range)
    intro a b ha hb hne e
    exact hne (w.inj (List.mem_range.1 ha) (List.mem_range.1 hb) e)
  have := List.Nodup.length_le_of_subset h2 h1
  simpa using this
theorem WF.swpd {K : List K3} {h : HS} (w : WF K h) {i j : Nat} (hi : i < h.A.length) (hj : j < h.A.length) : WF K (swp h i j) := by
  have hai := w.lt i hi
  have haj := w.lt j hj
  refine ⟨by simp [swp, swS_len, w.ks], w.small, ?_, ?_⟩
  · intro k hk
    simp only [swp, swA_len] at hk ⊢
    rw [at_swA hi hj]
    split
    · exact hai
    · split
      · exact haj
      · exact w.lt k hk
  · intro k hk
    simp only [swp, swA_len] at hk ⊢
    have e1 : at_ (swA h.A i j) i = at_ h.A j := by rw [at_swA hi hj]; by_cases e : i = j <;> simp [e]
    have e2 : at_ (swA h.A i j) j = at_ h.A i := by rw [at_swA hi hj]; simp
    unfold swS
    rw [e1, e2, at_set _ _ _ _ (by simp [w.ks, hai]), at_set _ _ _ _ (by simp [w.ks, haj]), at_swA hi hj]
    by_cases k1 : k = j
    · simp [k1]
    · by_cases k2 : k = i
      · subst k2
        have : at_ h.A j ≠ at_ h.A k := fun e => k1 (w.inj hk hj e.symm)
        simp [k1, this]
      · have n1 : at_ h.A k ≠ at_ h.A i := fun e => k2 (w.inj hk hi e)
        have n2 : at_ h.A k ≠ at_ h.A j := fun e => k1 (w.inj hk hj e)
        simp [k1, k2, n1, n2, w.sp k hk]
end Go.Proofs.Ytjgionnigenijaa
