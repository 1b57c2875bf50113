import Derived.Test.YtjgionnigenijaaMmWalk
namespace Go.Proofs.Ytjgionnigenijaa
open Go.Sl
set_option linter.unusedVariables false
set_option maxRecDepth 100000
set_option maxHeartbeats 4000000

theorem bst_lt {K : List K3} {A : List Nat} {high : Bool} {b c : Nat} (hb : b < A.length) : bst K A high b c < A.length := by
  unfold bst
  dsimp only
  repeat' split
  all_goals omega
theorem bst_ge {K : List K3} {A : List Nat} {high : Bool} {b c i : Nat} (hb : i ≤ b) (hc : i ≤ c) : i ≤ bst K A high b c := by
  unfold bst
  dsimp only
  repeat' split
  all_goals omega
theorem bst_eq {K : List K3} {A : List Nat} {high : Bool} {b c c' : Nat} (hc : c' = if high && decide (c + 1 < A.length) then c + 1 else c) :
    bst K A high b c = if A.length ≤ c' then b else if (if high then ltP K A b c' else ltP K A c' b) then c' else b := by
  subst hc
  unfold bst
  cases high <;> simp
theorem best_lt {K : List K3} {A : List Nat} {high : Bool} {i : Nat} (hb : i < A.length) : best K A high i < A.length := bst_lt (bst_lt hb)
theorem best_ge {K : List K3} {A : List Nat} {high : Bool} {i : Nat} : i ≤ best K A high i := bst_ge (bst_ge (Nat.le_refl _) (by omega)) (by omega)
theorem WF.fixPd {K : List K3} {h : HS} (w : WF K h) (i : Nat) : WF K (fixP K h i) ∧ (fixP K h i).A.length = h.A.length := ⟨w.paird i, pairH_len K h i⟩
theorem downL_fuel (K : List K3) (high : Bool) : ∀ {f f' : Nat} {h : HS} {j : Nat}, WF K h → j < h.A.length → h.A.length - j ≤ f → h.A.length - j ≤ f' → downL K high f h j = downL K high f' h j := by
  intro f
  induction f with
  | zero => intro f' h j w hj h1 h2; omega
  | succ f ih =>
    intro f' h j w hj h1 h2
    obtain ⟨g', rfl⟩ : ∃ g, f' = g + 1 := ⟨f' - 1, by omega⟩
    rw [downL, downL]
    split
    · rfl
    · rename_i hne
      have hlt := best_lt (K := K) (high := high) hj
      have hge := best_ge (K := K) (A := h.A) (high := high) (i := j)
      have hs := w.swpd hj hlt
      have hl : (fixP K (swp h j (best K h.A high j)) (best K h.A high j)).A.length = h.A.length := by
        rw [(hs.fixPd _).2]; simp [swp, swA_len]
      exact ih (hs.fixPd _).1 (by omega) (by omega) (by omega)

theorem down_ct (p : Pl) (K : List K3) (h : HS) (w : WF K h) (i : Nat) (hi : i < h.A.length) :
    Ctr Try.prog 72 #[.pointer (some ⟨p.b, 0, none⟩), .int .i64 i] (HM p K h) (fun v M' => v = .tuple #[] ∧ M' = HM p K (down K h i)) := by
  have hs := w.small
  have hn := w.len
  refine ctr_of (Γ := tab) (vs := [_, _]) fn72 rfl ?_
  repeat (first | refine LNext.go tab ?_ | refine LText.all rfl ?_ | refine LDraw.all (by decide +kernel) ?_ | refine LRes.mk ?_ | refine load1 tab rfl zCe ?_ | refine lenSlice tab rfl ?_ | refine newBox rfl (fun _ => ?_) | refine newAlloc tab rfl (fun _ => ?_) | refine lbool (c := true) rfl ?_ | refine lbool (c := false) rfl ?_ | refine lcond_t rfl ?_ | refine lcond_f rfl ?_ | refine store1 tab rfl zTk rfl rfl rfl ?_ | refine lbool (c := true) (by assumption) ?_ | refine lbool (c := false) (by assumption) ?_ | refine lcond_t (by assumption) ?_ | refine lcond_f (by assumption) ?_ | refine build1 tab rfl ?_ | refine loadN tab rfl rfl zCs rfl ?_)
  refine leq_ (m := ((i % 2 : Nat) : Int)) (bits_and1 (by omega)) ?_
  repeat (first | refine LNext.go tab ?_ | refine LText.all rfl ?_ | refine LDraw.all (by decide +kernel) ?_ | refine LRes.mk ?_ | refine load1 tab rfl zCe ?_ | refine lenSlice tab rfl ?_ | refine newBox rfl (fun _ => ?_) | refine newAlloc tab rfl (fun _ => ?_) | refine lbool (c := true) rfl ?_ | refine lbool (c := false) rfl ?_ | refine lcond_t rfl ?_ | refine lcond_f rfl ?_ | refine store1 tab rfl zTk rfl rfl rfl ?_ | refine lbool (c := true) (by assumption) ?_ | refine lbool (c := false) (by assumption) ?_ | refine lcond_t (by assumption) ?_ | refine lcond_f (by assumption) ?_ | refine build1 tab rfl ?_ | refine loadN tab rfl rfl zCs rfl ?_)
  have hb : (((i % 2 : Nat) : Int) == 1) = decide (i % 2 = 1) := beq_nat (i % 2) 1
  rw [hb]
  have hd : down K h i = downL K (decide (i % 2 = 1)) (h.A.length - i) h i := rfl
  generalize decide (i % 2 = 1) = high at hd ⊢
  refine LLoop.inv (Γ := tab) (fun x : HS × Nat => [(0, .pointer (some ⟨p.b, 0, none⟩)), (1, .int .i64 (x.2 : Nat)), (4, .bool high)]) (fun x => HM p K x.1) (fun x => WF K x.1 ∧ x.1.A.length = h.A.length ∧ x.2 < h.A.length ∧ downL K high (h.A.length - x.2) x.1 x.2 = down K h i) (fun x => h.A.length - x.2) (h, i) ⟨w, rfl, hi, hd.symm⟩ ⟨rfl, rfl, rfl, trivial⟩ (Ent.refl _) ?_
  rintro ⟨h1, j⟩ ⟨w1, hl1, hj, he⟩
  dsimp only at w1 hl1 hj he ⊢
  repeat (first | refine LNext.go tab ?_ | refine LText.all rfl ?_ | refine LDraw.all (by decide +kernel) ?_ | refine LRes.mk ?_ | refine load1 tab rfl zCe ?_ | refine lenSlice tab rfl ?_ | refine newBox rfl (fun _ => ?_) | refine newAlloc tab rfl (fun _ => ?_) | refine lbool (c := true) rfl ?_ | refine lbool (c := false) rfl ?_ | refine lcond_t rfl ?_ | refine lcond_f rfl ?_ | refine store1 tab rfl zTk rfl rfl rfl ?_ | refine lbool (c := true) (by assumption) ?_ | refine lbool (c := false) (by assumption) ?_ | refine lcond_t (by assumption) ?_ | refine lcond_f (by assumption) ?_ | refine build1 tab rfl ?_ | refine loadN tab rfl rfl zCs rfl ?_)
  refine ldiv (j / 2) (by decide) (by first | rfl | exact tdiv_nat _ _ | omega) (by omega) ?_
  refine lnat (j / 2 * 4) (by first | rfl | exact tdiv_nat _ _ | omega) (by omega) ?_
  refine lnat (j / 2 * 4 + 2) (by first | rfl | exact tdiv_nat _ _ | omega) (by omega) ?_
  refine ldiv (j / 2) (by decide) (by first | rfl | exact tdiv_nat _ _ | omega) (by omega) ?_
  refine lnat (j / 2 * 4) (by first | rfl | exact tdiv_nat _ _ | omega) (by omega) ?_
  refine lnat (j / 2 * 4 + 4) (by first | rfl | exact tdiv_nat _ _ | omega) (by omega) ?_
  refine build1 tab rfl ?_
  repeat (first | refine LNext.go tab ?_ | refine LText.all rfl ?_ | refine LDraw.all (by decide +kernel) ?_ | refine LRes.mk ?_ | refine load1 tab rfl zCe ?_ | refine lenSlice tab rfl ?_ | refine newBox rfl (fun _ => ?_) | refine newAlloc tab rfl (fun _ => ?_) | refine lbool (c := true) rfl ?_ | refine lbool (c := false) rfl ?_ | refine lcond_t rfl ?_ | refine lcond_f rfl ?_ | refine store1 tab rfl zTk rfl rfl rfl ?_ | refine lbool (c := true) (by assumption) ?_ | refine lbool (c := false) (by assumption) ?_ | refine lcond_t (by assumption) ?_ | refine lcond_f (by assumption) ?_ | refine build1 tab rfl ?_ | refine loadN tab rfl rfl zCs rfl ?_)
  refine LLoop.inv (Γ := tab) (fun x : Nat × Nat => [(0, .pointer (some ⟨p.b, 0, none⟩)), (1, .int .i64 (j : Nat)), (4, .bool high), (5, .int .i64 (x.2 : Nat)), (21, .agg #[.int .i64 (j / 2 * 4 + 2 : Nat), .int .i64 (j / 2 * 4 + 4 : Nat)]), (22, .int .i64 (x.1 : Nat))]) (fun x => HM p K h1) (fun x => x.1 ≤ 2 ∧ x.2 < h1.A.length ∧ (x.1 = 0 → x.2 = j) ∧ (x.1 = 1 → x.2 = bst K h1.A high j (j / 2 * 4 + 2)) ∧ (x.1 = 2 → x.2 = best K h1.A high j)) (fun x => 2 - x.1) (0, j) ⟨by omega, by omega, fun _ => rfl, (by intro h; cases h), (by intro h; cases h)⟩ ⟨rfl, rfl, rfl, rfl, rfl, rfl, trivial⟩ (Ent.refl _) ?_
  rintro ⟨k, b⟩ ⟨hk, hb1, hk0, hk1, hk2⟩
  dsimp only at hk hb1 hk0 hk1 hk2 ⊢
  repeat (first | refine LNext.go tab ?_ | refine LText.all rfl ?_ | refine LDraw.all (by decide +kernel) ?_ | refine LRes.mk ?_ | refine load1 tab rfl zCe ?_ | refine lenSlice tab rfl ?_ | refine newBox rfl (fun _ => ?_) | refine newAlloc tab rfl (fun _ => ?_) | refine lbool (c := true) rfl ?_ | refine lbool (c := false) rfl ?_ | refine lcond_t rfl ?_ | refine lcond_f rfl ?_ | refine store1 tab rfl zTk rfl rfl rfl ?_ | refine lbool (c := true) (by assumption) ?_ | refine lbool (c := false) (by assumption) ?_ | refine lcond_t (by assumption) ?_ | refine lcond_f (by assumption) ?_ | refine build1 tab rfl ?_ | refine loadN tab rfl rfl zCs rfl ?_)
  refine LCond.mk (fun hc => ?_) (fun hc => ?_)
  · have hk' : k < 2 := by simp at hc; omega
    obtain ⟨c, hcv, hcl, hcb⟩ : ∃ c : Nat, #[Value.int .i64 (j / 2 * 4 + 2 : Nat), Value.int .i64 (j / 2 * 4 + 4 : Nat)][k]? = some (.int .i64 (c : Nat)) ∧ c ≤ j / 2 * 4 + 4 ∧ (k + 1 = 1 → bst K h1.A high b c = bst K h1.A high j (j / 2 * 4 + 2)) ∧ (k + 1 = 2 → bst K h1.A high b c = best K h1.A high j) := by
      obtain rfl | rfl : k = 0 ∨ k = 1 := by omega
      · exact ⟨_, rfl, by omega, (by intro _; rw [hk0 rfl]), (by intro h; omega)⟩
      · exact ⟨_, rfl, by omega, (by intro h; omega), (by intro _; rw [hk1 rfl]; rfl)⟩
    repeat (first | refine LNext.go tab ?_ | refine LText.all rfl ?_ | refine LDraw.all (by decide +kernel) ?_ | refine LRes.mk ?_ | refine load1 tab rfl zCe ?_ | refine lenSlice tab rfl ?_ | refine newBox rfl (fun _ => ?_) | refine newAlloc tab rfl (fun _ => ?_) | refine lbool (c := true) rfl ?_ | refine lbool (c := false) rfl ?_ | refine lcond_t rfl ?_ | refine lcond_f rfl ?_ | refine store1 tab rfl zTk rfl rfl rfl ?_ | refine lbool (c := true) (by assumption) ?_ | refine lbool (c := false) (by assumption) ?_ | refine lcond_t (by assumption) ?_ | refine lcond_f (by assumption) ?_ | refine build1 tab rfl ?_ | refine loadN tab rfl rfl zCs rfl ?_)
    refine index1 tab rfl rfl rfl hk' hcv ?_
    cases high
    · have hcl' : c ≤ 4611686018427387904 := by omega
      repeat (first | refine LNext.go tab ?_ | refine LText.all rfl ?_ | refine LDraw.all (by decide +kernel) ?_ | refine LRes.mk ?_ | refine load1 tab rfl zCe ?_ | refine lenSlice tab rfl ?_ | refine newBox rfl (fun _ => ?_) | refine newAlloc tab rfl (fun _ => ?_) | refine lbool (c := true) rfl ?_ | refine lbool (c := false) rfl ?_ | refine lcond_t rfl ?_ | refine lcond_f rfl ?_ | refine store1 tab rfl zTk rfl rfl rfl ?_ | refine lbool (c := true) (by assumption) ?_ | refine lbool (c := false) (by assumption) ?_ | refine lcond_t (by assumption) ?_ | refine lcond_f (by assumption) ?_ | refine build1 tab rfl ?_ | refine loadN tab rfl rfl zCs rfl ?_)
      refine LCond.mk (fun h7 => ?_) (fun h7 => ?_)
      · have h7' : h1.A.length ≤ c := by rw [ge_nat] at h7; simpa using h7
        repeat (first | refine LNext.go tab ?_ | refine LText.all rfl ?_ | refine LDraw.all (by decide +kernel) ?_ | refine LRes.mk ?_ | refine load1 tab rfl zCe ?_ | refine lenSlice tab rfl ?_ | refine newBox rfl (fun _ => ?_) | refine newAlloc tab rfl (fun _ => ?_) | refine lbool (c := true) rfl ?_ | refine lbool (c := false) rfl ?_ | refine lcond_t rfl ?_ | refine lcond_f rfl ?_ | refine store1 tab rfl zTk rfl rfl rfl ?_ | refine lbool (c := true) (by assumption) ?_ | refine lbool (c := false) (by assumption) ?_ | refine lcond_t (by assumption) ?_ | refine lcond_f (by assumption) ?_ | refine build1 tab rfl ?_ | refine loadN tab rfl rfl zCs rfl ?_)
        refine lnat (k + 1) (by first | rfl | exact tdiv_nat _ _ | omega) (by omega) ?_
        repeat (first | refine LNext.go tab ?_ | refine LText.all rfl ?_ | refine LDraw.all (by decide +kernel) ?_ | refine LRes.mk ?_ | refine load1 tab rfl zCe ?_ | refine lenSlice tab rfl ?_ | refine newBox rfl (fun _ => ?_) | refine newAlloc tab rfl (fun _ => ?_) | refine lbool (c := true) rfl ?_ | refine lbool (c := false) rfl ?_ | refine lcond_t rfl ?_ | refine lcond_f rfl ?_ | refine store1 tab rfl zTk rfl rfl rfl ?_ | refine lbool (c := true) (by assumption) ?_ | refine lbool (c := false) (by assumption) ?_ | refine lcond_t (by assumption) ?_ | refine lcond_f (by assumption) ?_ | refine build1 tab rfl ?_ | refine loadN tab rfl rfl zCs rfl ?_)
        have hb' : b = bst K h1.A false b c := by
          rw [bst_eq (c' := c) (by simp)]
          simp [h7']
        exact ⟨(k + 1, b), ⟨by dsimp only; omega, (by dsimp only; omega), (by intro h; dsimp only at h; omega), fun h => hb'.trans (hcb.1 h), fun h => hb'.trans (hcb.2 h)⟩, (by dsimp only; omega), ⟨rfl, rfl, rfl, rfl, rfl, rfl, trivial⟩, Ent.refl _⟩
      · have h7' : ¬ h1.A.length ≤ c := by rw [ge_nat] at h7; simpa using h7
        repeat (first | refine LNext.go tab ?_ | refine LText.all rfl ?_ | refine LDraw.all (by decide +kernel) ?_ | refine LRes.mk ?_ | refine load1 tab rfl zCe ?_ | refine lenSlice tab rfl ?_ | refine newBox rfl (fun _ => ?_) | refine newAlloc tab rfl (fun _ => ?_) | refine lbool (c := true) rfl ?_ | refine lbool (c := false) rfl ?_ | refine lcond_t rfl ?_ | refine lcond_f rfl ?_ | refine store1 tab rfl zTk rfl rfl rfl ?_ | refine lbool (c := true) (by assumption) ?_ | refine lbool (c := false) (by assumption) ?_ | refine lcond_t (by assumption) ?_ | refine lcond_f (by assumption) ?_ | refine build1 tab rfl ?_ | refine loadN tab rfl rfl zCs rfl ?_)
        refine call0 (less_ct p K h1 w1 (c) (b) (by omega) (by omega)) ?_
        rintro v rfl
        cases hl : ltP K h1.A (c) (b)
        · -- not better
          repeat (first | refine LNext.go tab ?_ | refine LText.all rfl ?_ | refine LDraw.all (by decide +kernel) ?_ | refine LRes.mk ?_ | refine load1 tab rfl zCe ?_ | refine lenSlice tab rfl ?_ | refine newBox rfl (fun _ => ?_) | refine newAlloc tab rfl (fun _ => ?_) | refine lbool (c := true) rfl ?_ | refine lbool (c := false) rfl ?_ | refine lcond_t rfl ?_ | refine lcond_f rfl ?_ | refine store1 tab rfl zTk rfl rfl rfl ?_ | refine lbool (c := true) (by assumption) ?_ | refine lbool (c := false) (by assumption) ?_ | refine lcond_t (by assumption) ?_ | refine lcond_f (by assumption) ?_ | refine build1 tab rfl ?_ | refine loadN tab rfl rfl zCs rfl ?_)
          refine lnat (k + 1) (by first | rfl | exact tdiv_nat _ _ | omega) (by omega) ?_
          repeat (first | refine LNext.go tab ?_ | refine LText.all rfl ?_ | refine LDraw.all (by decide +kernel) ?_ | refine LRes.mk ?_ | refine load1 tab rfl zCe ?_ | refine lenSlice tab rfl ?_ | refine newBox rfl (fun _ => ?_) | refine newAlloc tab rfl (fun _ => ?_) | refine lbool (c := true) rfl ?_ | refine lbool (c := false) rfl ?_ | refine lcond_t rfl ?_ | refine lcond_f rfl ?_ | refine store1 tab rfl zTk rfl rfl rfl ?_ | refine lbool (c := true) (by assumption) ?_ | refine lbool (c := false) (by assumption) ?_ | refine lcond_t (by assumption) ?_ | refine lcond_f (by assumption) ?_ | refine build1 tab rfl ?_ | refine loadN tab rfl rfl zCs rfl ?_)
          have hb' : b = bst K h1.A false b c := by
            rw [bst_eq (c' := c) (by simp)]
            simp [h7', hl]
          exact ⟨(k + 1, b), ⟨by dsimp only; omega, (by dsimp only; omega), (by intro h; dsimp only at h; omega), fun h => hb'.trans (hcb.1 h), fun h => hb'.trans (hcb.2 h)⟩, (by dsimp only; omega), ⟨rfl, rfl, rfl, rfl, rfl, rfl, trivial⟩, Ent.refl _⟩
        · -- better
          repeat (first | refine LNext.go tab ?_ | refine LText.all rfl ?_ | refine LDraw.all (by decide +kernel) ?_ | refine LRes.mk ?_ | refine load1 tab rfl zCe ?_ | refine lenSlice tab rfl ?_ | refine newBox rfl (fun _ => ?_) | refine newAlloc tab rfl (fun _ => ?_) | refine lbool (c := true) rfl ?_ | refine lbool (c := false) rfl ?_ | refine lcond_t rfl ?_ | refine lcond_f rfl ?_ | refine store1 tab rfl zTk rfl rfl rfl ?_ | refine lbool (c := true) (by assumption) ?_ | refine lbool (c := false) (by assumption) ?_ | refine lcond_t (by assumption) ?_ | refine lcond_f (by assumption) ?_ | refine build1 tab rfl ?_ | refine loadN tab rfl rfl zCs rfl ?_)
          refine lnat (k + 1) (by first | rfl | exact tdiv_nat _ _ | omega) (by omega) ?_
          repeat (first | refine LNext.go tab ?_ | refine LText.all rfl ?_ | refine LDraw.all (by decide +kernel) ?_ | refine LRes.mk ?_ | refine load1 tab rfl zCe ?_ | refine lenSlice tab rfl ?_ | refine newBox rfl (fun _ => ?_) | refine newAlloc tab rfl (fun _ => ?_) | refine lbool (c := true) rfl ?_ | refine lbool (c := false) rfl ?_ | refine lcond_t rfl ?_ | refine lcond_f rfl ?_ | refine store1 tab rfl zTk rfl rfl rfl ?_ | refine lbool (c := true) (by assumption) ?_ | refine lbool (c := false) (by assumption) ?_ | refine lcond_t (by assumption) ?_ | refine lcond_f (by assumption) ?_ | refine build1 tab rfl ?_ | refine loadN tab rfl rfl zCs rfl ?_)
          have hb' : c = bst K h1.A false b c := by
            rw [bst_eq (c' := c) (by simp)]
            simp [h7', hl]
          exact ⟨(k + 1, c), ⟨by dsimp only; omega, (by dsimp only; omega), (by intro h; dsimp only at h; omega), fun h => hb'.trans (hcb.1 h), fun h => hb'.trans (hcb.2 h)⟩, (by dsimp only; omega), ⟨rfl, rfl, rfl, rfl, rfl, rfl, trivial⟩, Ent.refl _⟩
    · repeat (first | refine LNext.go tab ?_ | refine LText.all rfl ?_ | refine LDraw.all (by decide +kernel) ?_ | refine LRes.mk ?_ | refine load1 tab rfl zCe ?_ | refine lenSlice tab rfl ?_ | refine newBox rfl (fun _ => ?_) | refine newAlloc tab rfl (fun _ => ?_) | refine lbool (c := true) rfl ?_ | refine lbool (c := false) rfl ?_ | refine lcond_t rfl ?_ | refine lcond_f rfl ?_ | refine store1 tab rfl zTk rfl rfl rfl ?_ | refine lbool (c := true) (by assumption) ?_ | refine lbool (c := false) (by assumption) ?_ | refine lcond_t (by assumption) ?_ | refine lcond_f (by assumption) ?_ | refine build1 tab rfl ?_ | refine loadN tab rfl rfl zCs rfl ?_)
      refine lnat (c + 1) (by first | rfl | exact tdiv_nat _ _ | omega) (by omega) ?_
      repeat (first | refine LNext.go tab ?_ | refine LText.all rfl ?_ | refine LDraw.all (by decide +kernel) ?_ | refine LRes.mk ?_ | refine load1 tab rfl zCe ?_ | refine lenSlice tab rfl ?_ | refine newBox rfl (fun _ => ?_) | refine newAlloc tab rfl (fun _ => ?_) | refine lbool (c := true) rfl ?_ | refine lbool (c := false) rfl ?_ | refine lcond_t rfl ?_ | refine lcond_f rfl ?_ | refine store1 tab rfl zTk rfl rfl rfl ?_ | refine lbool (c := true) (by assumption) ?_ | refine lbool (c := false) (by assumption) ?_ | refine lcond_t (by assumption) ?_ | refine lcond_f (by assumption) ?_ | refine build1 tab rfl ?_ | refine loadN tab rfl rfl zCs rfl ?_)
      refine LCond.mk (fun h6 => ?_) (fun h6 => ?_)
      · have h6' : c + 1 < h1.A.length := by rw [lt_nat] at h6; simpa using h6
        repeat (first | refine LNext.go tab ?_ | refine LText.all rfl ?_ | refine LDraw.all (by decide +kernel) ?_ | refine LRes.mk ?_ | refine load1 tab rfl zCe ?_ | refine lenSlice tab rfl ?_ | refine newBox rfl (fun _ => ?_) | refine newAlloc tab rfl (fun _ => ?_) | refine lbool (c := true) rfl ?_ | refine lbool (c := false) rfl ?_ | refine lcond_t rfl ?_ | refine lcond_f rfl ?_ | refine store1 tab rfl zTk rfl rfl rfl ?_ | refine lbool (c := true) (by assumption) ?_ | refine lbool (c := false) (by assumption) ?_ | refine lcond_t (by assumption) ?_ | refine lcond_f (by assumption) ?_ | refine build1 tab rfl ?_ | refine loadN tab rfl rfl zCs rfl ?_)
        refine lnat (c + 1) (by first | rfl | exact tdiv_nat _ _ | omega) (by omega) ?_
        repeat (first | refine LNext.go tab ?_ | refine LText.all rfl ?_ | refine LDraw.all (by decide +kernel) ?_ | refine LRes.mk ?_ | refine load1 tab rfl zCe ?_ | refine lenSlice tab rfl ?_ | refine newBox rfl (fun _ => ?_) | refine newAlloc tab rfl (fun _ => ?_) | refine lbool (c := true) rfl ?_ | refine lbool (c := false) rfl ?_ | refine lcond_t rfl ?_ | refine lcond_f rfl ?_ | refine store1 tab rfl zTk rfl rfl rfl ?_ | refine lbool (c := true) (by assumption) ?_ | refine lbool (c := false) (by assumption) ?_ | refine lcond_t (by assumption) ?_ | refine lcond_f (by assumption) ?_ | refine build1 tab rfl ?_ | refine loadN tab rfl rfl zCs rfl ?_)
        refine LCond.mk (fun h7 => ?_) (fun h7 => ?_)
        · have h7' : h1.A.length ≤ (c + 1) := by rw [ge_nat] at h7; simpa using h7
          repeat (first | refine LNext.go tab ?_ | refine LText.all rfl ?_ | refine LDraw.all (by decide +kernel) ?_ | refine LRes.mk ?_ | refine load1 tab rfl zCe ?_ | refine lenSlice tab rfl ?_ | refine newBox rfl (fun _ => ?_) | refine newAlloc tab rfl (fun _ => ?_) | refine lbool (c := true) rfl ?_ | refine lbool (c := false) rfl ?_ | refine lcond_t rfl ?_ | refine lcond_f rfl ?_ | refine store1 tab rfl zTk rfl rfl rfl ?_ | refine lbool (c := true) (by assumption) ?_ | refine lbool (c := false) (by assumption) ?_ | refine lcond_t (by assumption) ?_ | refine lcond_f (by assumption) ?_ | refine build1 tab rfl ?_ | refine loadN tab rfl rfl zCs rfl ?_)
          refine lnat (k + 1) (by first | rfl | exact tdiv_nat _ _ | omega) (by omega) ?_
          repeat (first | refine LNext.go tab ?_ | refine LText.all rfl ?_ | refine LDraw.all (by decide +kernel) ?_ | refine LRes.mk ?_ | refine load1 tab rfl zCe ?_ | refine lenSlice tab rfl ?_ | refine newBox rfl (fun _ => ?_) | refine newAlloc tab rfl (fun _ => ?_) | refine lbool (c := true) rfl ?_ | refine lbool (c := false) rfl ?_ | refine lcond_t rfl ?_ | refine lcond_f rfl ?_ | refine store1 tab rfl zTk rfl rfl rfl ?_ | refine lbool (c := true) (by assumption) ?_ | refine lbool (c := false) (by assumption) ?_ | refine lcond_t (by assumption) ?_ | refine lcond_f (by assumption) ?_ | refine build1 tab rfl ?_ | refine loadN tab rfl rfl zCs rfl ?_)
          have hb' : b = bst K h1.A true b c := by
            rw [bst_eq (c' := c + 1) (by simp [h6'])]
            simp [h7']
          exact ⟨(k + 1, b), ⟨by dsimp only; omega, (by dsimp only; omega), (by intro h; dsimp only at h; omega), fun h => hb'.trans (hcb.1 h), fun h => hb'.trans (hcb.2 h)⟩, (by dsimp only; omega), ⟨rfl, rfl, rfl, rfl, rfl, rfl, trivial⟩, Ent.refl _⟩
        · have h7' : ¬ h1.A.length ≤ (c + 1) := by rw [ge_nat] at h7; simpa using h7
          repeat (first | refine LNext.go tab ?_ | refine LText.all rfl ?_ | refine LDraw.all (by decide +kernel) ?_ | refine LRes.mk ?_ | refine load1 tab rfl zCe ?_ | refine lenSlice tab rfl ?_ | refine newBox rfl (fun _ => ?_) | refine newAlloc tab rfl (fun _ => ?_) | refine lbool (c := true) rfl ?_ | refine lbool (c := false) rfl ?_ | refine lcond_t rfl ?_ | refine lcond_f rfl ?_ | refine store1 tab rfl zTk rfl rfl rfl ?_ | refine lbool (c := true) (by assumption) ?_ | refine lbool (c := false) (by assumption) ?_ | refine lcond_t (by assumption) ?_ | refine lcond_f (by assumption) ?_ | refine build1 tab rfl ?_ | refine loadN tab rfl rfl zCs rfl ?_)
          refine call0 (less_ct p K h1 w1 (b) ((c + 1)) (by omega) (by omega)) ?_
          rintro v rfl
          cases hl : ltP K h1.A (b) ((c + 1))
          · -- not better
            repeat (first | refine LNext.go tab ?_ | refine LText.all rfl ?_ | refine LDraw.all (by decide +kernel) ?_ | refine LRes.mk ?_ | refine load1 tab rfl zCe ?_ | refine lenSlice tab rfl ?_ | refine newBox rfl (fun _ => ?_) | refine newAlloc tab rfl (fun _ => ?_) | refine lbool (c := true) rfl ?_ | refine lbool (c := false) rfl ?_ | refine lcond_t rfl ?_ | refine lcond_f rfl ?_ | refine store1 tab rfl zTk rfl rfl rfl ?_ | refine lbool (c := true) (by assumption) ?_ | refine lbool (c := false) (by assumption) ?_ | refine lcond_t (by assumption) ?_ | refine lcond_f (by assumption) ?_ | refine build1 tab rfl ?_ | refine loadN tab rfl rfl zCs rfl ?_)
            refine lnat (k + 1) (by first | rfl | exact tdiv_nat _ _ | omega) (by omega) ?_
            repeat (first | refine LNext.go tab ?_ | refine LText.all rfl ?_ | refine LDraw.all (by decide +kernel) ?_ | refine LRes.mk ?_ | refine load1 tab rfl zCe ?_ | refine lenSlice tab rfl ?_ | refine newBox rfl (fun _ => ?_) | refine newAlloc tab rfl (fun _ => ?_) | refine lbool (c := true) rfl ?_ | refine lbool (c := false) rfl ?_ | refine lcond_t rfl ?_ | refine lcond_f rfl ?_ | refine store1 tab rfl zTk rfl rfl rfl ?_ | refine lbool (c := true) (by assumption) ?_ | refine lbool (c := false) (by assumption) ?_ | refine lcond_t (by assumption) ?_ | refine lcond_f (by assumption) ?_ | refine build1 tab rfl ?_ | refine loadN tab rfl rfl zCs rfl ?_)
            have hb' : b = bst K h1.A true b c := by
              rw [bst_eq (c' := c + 1) (by simp [h6'])]
              simp [h7', hl]
            exact ⟨(k + 1, b), ⟨by dsimp only; omega, (by dsimp only; omega), (by intro h; dsimp only at h; omega), fun h => hb'.trans (hcb.1 h), fun h => hb'.trans (hcb.2 h)⟩, (by dsimp only; omega), ⟨rfl, rfl, rfl, rfl, rfl, rfl, trivial⟩, Ent.refl _⟩
          · -- better
            repeat (first | refine LNext.go tab ?_ | refine LText.all rfl ?_ | refine LDraw.all (by decide +kernel) ?_ | refine LRes.mk ?_ | refine load1 tab rfl zCe ?_ | refine lenSlice tab rfl ?_ | refine newBox rfl (fun _ => ?_) | refine newAlloc tab rfl (fun _ => ?_) | refine lbool (c := true) rfl ?_ | refine lbool (c := false) rfl ?_ | refine lcond_t rfl ?_ | refine lcond_f rfl ?_ | refine store1 tab rfl zTk rfl rfl rfl ?_ | refine lbool (c := true) (by assumption) ?_ | refine lbool (c := false) (by assumption) ?_ | refine lcond_t (by assumption) ?_ | refine lcond_f (by assumption) ?_ | refine build1 tab rfl ?_ | refine loadN tab rfl rfl zCs rfl ?_)
            refine lnat (k + 1) (by first | rfl | exact tdiv_nat _ _ | omega) (by omega) ?_
            repeat (first | refine LNext.go tab ?_ | refine LText.all rfl ?_ | refine LDraw.all (by decide +kernel) ?_ | refine LRes.mk ?_ | refine load1 tab rfl zCe ?_ | refine lenSlice tab rfl ?_ | refine newBox rfl (fun _ => ?_) | refine newAlloc tab rfl (fun _ => ?_) | refine lbool (c := true) rfl ?_ | refine lbool (c := false) rfl ?_ | refine lcond_t rfl ?_ | refine lcond_f rfl ?_ | refine store1 tab rfl zTk rfl rfl rfl ?_ | refine lbool (c := true) (by assumption) ?_ | refine lbool (c := false) (by assumption) ?_ | refine lcond_t (by assumption) ?_ | refine lcond_f (by assumption) ?_ | refine build1 tab rfl ?_ | refine loadN tab rfl rfl zCs rfl ?_)
            have hb' : (c + 1) = bst K h1.A true b c := by
              rw [bst_eq (c' := c + 1) (by simp [h6'])]
              simp [h7', hl]
            exact ⟨(k + 1, (c + 1)), ⟨by dsimp only; omega, (by dsimp only; omega), (by intro h; dsimp only at h; omega), fun h => hb'.trans (hcb.1 h), fun h => hb'.trans (hcb.2 h)⟩, (by dsimp only; omega), ⟨rfl, rfl, rfl, rfl, rfl, rfl, trivial⟩, Ent.refl _⟩
      · have h6' : ¬ c + 1 < h1.A.length := by rw [lt_nat] at h6; simpa using h6
        repeat (first | refine LNext.go tab ?_ | refine LText.all rfl ?_ | refine LDraw.all (by decide +kernel) ?_ | refine LRes.mk ?_ | refine load1 tab rfl zCe ?_ | refine lenSlice tab rfl ?_ | refine newBox rfl (fun _ => ?_) | refine newAlloc tab rfl (fun _ => ?_) | refine lbool (c := true) rfl ?_ | refine lbool (c := false) rfl ?_ | refine lcond_t rfl ?_ | refine lcond_f rfl ?_ | refine store1 tab rfl zTk rfl rfl rfl ?_ | refine lbool (c := true) (by assumption) ?_ | refine lbool (c := false) (by assumption) ?_ | refine lcond_t (by assumption) ?_ | refine lcond_f (by assumption) ?_ | refine build1 tab rfl ?_ | refine loadN tab rfl rfl zCs rfl ?_)
        refine LCond.mk (fun h7 => ?_) (fun h7 => ?_)
        · have h7' : h1.A.length ≤ c := by rw [ge_nat] at h7; simpa using h7
          repeat (first | refine LNext.go tab ?_ | refine LText.all rfl ?_ | refine LDraw.all (by decide +kernel) ?_ | refine LRes.mk ?_ | refine load1 tab rfl zCe ?_ | refine lenSlice tab rfl ?_ | refine newBox rfl (fun _ => ?_) | refine newAlloc tab rfl (fun _ => ?_) | refine lbool (c := true) rfl ?_ | refine lbool (c := false) rfl ?_ | refine lcond_t rfl ?_ | refine lcond_f rfl ?_ | refine store1 tab rfl zTk rfl rfl rfl ?_ | refine lbool (c := true) (by assumption) ?_ | refine lbool (c := false) (by assumption) ?_ | refine lcond_t (by assumption) ?_ | refine lcond_f (by assumption) ?_ | refine build1 tab rfl ?_ | refine loadN tab rfl rfl zCs rfl ?_)
          refine lnat (k + 1) (by first | rfl | exact tdiv_nat _ _ | omega) (by omega) ?_
          repeat (first | refine LNext.go tab ?_ | refine LText.all rfl ?_ | refine LDraw.all (by decide +kernel) ?_ | refine LRes.mk ?_ | refine load1 tab rfl zCe ?_ | refine lenSlice tab rfl ?_ | refine newBox rfl (fun _ => ?_) | refine newAlloc tab rfl (fun _ => ?_) | refine lbool (c := true) rfl ?_ | refine lbool (c := false) rfl ?_ | refine lcond_t rfl ?_ | refine lcond_f rfl ?_ | refine store1 tab rfl zTk rfl rfl rfl ?_ | refine lbool (c := true) (by assumption) ?_ | refine lbool (c := false) (by assumption) ?_ | refine lcond_t (by assumption) ?_ | refine lcond_f (by assumption) ?_ | refine build1 tab rfl ?_ | refine loadN tab rfl rfl zCs rfl ?_)
          have hb' : b = bst K h1.A true b c := by
            rw [bst_eq (c' := c) (by simp [h6'])]
            simp [h7']
          exact ⟨(k + 1, b), ⟨by dsimp only; omega, (by dsimp only; omega), (by intro h; dsimp only at h; omega), fun h => hb'.trans (hcb.1 h), fun h => hb'.trans (hcb.2 h)⟩, (by dsimp only; omega), ⟨rfl, rfl, rfl, rfl, rfl, rfl, trivial⟩, Ent.refl _⟩
        · have h7' : ¬ h1.A.length ≤ c := by rw [ge_nat] at h7; simpa using h7
          repeat (first | refine LNext.go tab ?_ | refine LText.all rfl ?_ | refine LDraw.all (by decide +kernel) ?_ | refine LRes.mk ?_ | refine load1 tab rfl zCe ?_ | refine lenSlice tab rfl ?_ | refine newBox rfl (fun _ => ?_) | refine newAlloc tab rfl (fun _ => ?_) | refine lbool (c := true) rfl ?_ | refine lbool (c := false) rfl ?_ | refine lcond_t rfl ?_ | refine lcond_f rfl ?_ | refine store1 tab rfl zTk rfl rfl rfl ?_ | refine lbool (c := true) (by assumption) ?_ | refine lbool (c := false) (by assumption) ?_ | refine lcond_t (by assumption) ?_ | refine lcond_f (by assumption) ?_ | refine build1 tab rfl ?_ | refine loadN tab rfl rfl zCs rfl ?_)
          refine call0 (less_ct p K h1 w1 (b) (c) (by omega) (by omega)) ?_
          rintro v rfl
          cases hl : ltP K h1.A (b) (c)
          · -- not better
            repeat (first | refine LNext.go tab ?_ | refine LText.all rfl ?_ | refine LDraw.all (by decide +kernel) ?_ | refine LRes.mk ?_ | refine load1 tab rfl zCe ?_ | refine lenSlice tab rfl ?_ | refine newBox rfl (fun _ => ?_) | refine newAlloc tab rfl (fun _ => ?_) | refine lbool (c := true) rfl ?_ | refine lbool (c := false) rfl ?_ | refine lcond_t rfl ?_ | refine lcond_f rfl ?_ | refine store1 tab rfl zTk rfl rfl rfl ?_ | refine lbool (c := true) (by assumption) ?_ | refine lbool (c := false) (by assumption) ?_ | refine lcond_t (by assumption) ?_ | refine lcond_f (by assumption) ?_ | refine build1 tab rfl ?_ | refine loadN tab rfl rfl zCs rfl ?_)
            refine lnat (k + 1) (by first | rfl | exact tdiv_nat _ _ | omega) (by omega) ?_
            repeat (first | refine LNext.go tab ?_ | refine LText.all rfl ?_ | refine LDraw.all (by decide +kernel) ?_ | refine LRes.mk ?_ | refine load1 tab rfl zCe ?_ | refine lenSlice tab rfl ?_ | refine newBox rfl (fun _ => ?_) | refine newAlloc tab rfl (fun _ => ?_) | refine lbool (c := true) rfl ?_ | refine lbool (c := false) rfl ?_ | refine lcond_t rfl ?_ | refine lcond_f rfl ?_ | refine store1 tab rfl zTk rfl rfl rfl ?_ | refine lbool (c := true) (by assumption) ?_ | refine lbool (c := false) (by assumption) ?_ | refine lcond_t (by assumption) ?_ | refine lcond_f (by assumption) ?_ | refine build1 tab rfl ?_ | refine loadN tab rfl rfl zCs rfl ?_)
            have hb' : b = bst K h1.A true b c := by
              rw [bst_eq (c' := c) (by simp [h6'])]
              simp [h7', hl]
            exact ⟨(k + 1, b), ⟨by dsimp only; omega, (by dsimp only; omega), (by intro h; dsimp only at h; omega), fun h => hb'.trans (hcb.1 h), fun h => hb'.trans (hcb.2 h)⟩, (by dsimp only; omega), ⟨rfl, rfl, rfl, rfl, rfl, rfl, trivial⟩, Ent.refl _⟩
          · -- better
            repeat (first | refine LNext.go tab ?_ | refine LText.all rfl ?_ | refine LDraw.all (by decide +kernel) ?_ | refine LRes.mk ?_ | refine load1 tab rfl zCe ?_ | refine lenSlice tab rfl ?_ | refine newBox rfl (fun _ => ?_) | refine newAlloc tab rfl (fun _ => ?_) | refine lbool (c := true) rfl ?_ | refine lbool (c := false) rfl ?_ | refine lcond_t rfl ?_ | refine lcond_f rfl ?_ | refine store1 tab rfl zTk rfl rfl rfl ?_ | refine lbool (c := true) (by assumption) ?_ | refine lbool (c := false) (by assumption) ?_ | refine lcond_t (by assumption) ?_ | refine lcond_f (by assumption) ?_ | refine build1 tab rfl ?_ | refine loadN tab rfl rfl zCs rfl ?_)
            refine lnat (k + 1) (by first | rfl | exact tdiv_nat _ _ | omega) (by omega) ?_
            repeat (first | refine LNext.go tab ?_ | refine LText.all rfl ?_ | refine LDraw.all (by decide +kernel) ?_ | refine LRes.mk ?_ | refine load1 tab rfl zCe ?_ | refine lenSlice tab rfl ?_ | refine newBox rfl (fun _ => ?_) | refine newAlloc tab rfl (fun _ => ?_) | refine lbool (c := true) rfl ?_ | refine lbool (c := false) rfl ?_ | refine lcond_t rfl ?_ | refine lcond_f rfl ?_ | refine store1 tab rfl zTk rfl rfl rfl ?_ | refine lbool (c := true) (by assumption) ?_ | refine lbool (c := false) (by assumption) ?_ | refine lcond_t (by assumption) ?_ | refine lcond_f (by assumption) ?_ | refine build1 tab rfl ?_ | refine loadN tab rfl rfl zCs rfl ?_)
            have hb' : c = bst K h1.A true b c := by
              rw [bst_eq (c' := c) (by simp [h6'])]
              simp [h7', hl]
            exact ⟨(k + 1, c), ⟨by dsimp only; omega, (by dsimp only; omega), (by intro h; dsimp only at h; omega), fun h => hb'.trans (hcb.1 h), fun h => hb'.trans (hcb.2 h)⟩, (by dsimp only; omega), ⟨rfl, rfl, rfl, rfl, rfl, rfl, trivial⟩, Ent.refl _⟩
  · have hk' : k = 2 := by rw [show ((2 : Int)) = ((2 : Nat) : Int) from rfl, lt_nat] at hc; simp at hc; omega
    have hbb : b = best K h1.A high j := hk2 hk'
    have hde : downL K high (h.A.length - j) h1 j = if b = j then h1 else downL K high (h.A.length - j - 1) (fixP K (swp h1 j b) b) b := by
      obtain ⟨f, hf⟩ : ∃ f, h.A.length - j = f + 1 := ⟨h.A.length - j - 1, by omega⟩
      rw [hf, downL, ← hbb]; rfl
    repeat (first | refine LNext.go tab ?_ | refine LText.all rfl ?_ | refine LDraw.all (by decide +kernel) ?_ | refine LRes.mk ?_ | refine load1 tab rfl zCe ?_ | refine lenSlice tab rfl ?_ | refine newBox rfl (fun _ => ?_) | refine newAlloc tab rfl (fun _ => ?_) | refine lbool (c := true) rfl ?_ | refine lbool (c := false) rfl ?_ | refine lcond_t rfl ?_ | refine lcond_f rfl ?_ | refine store1 tab rfl zTk rfl rfl rfl ?_ | refine lbool (c := true) (by assumption) ?_ | refine lbool (c := false) (by assumption) ?_ | refine lcond_t (by assumption) ?_ | refine lcond_f (by assumption) ?_ | refine build1 tab rfl ?_ | refine loadN tab rfl rfl zCs rfl ?_)
    rw [beq_nat]
    refine LCond.mk (fun hc => ?_) (fun hc => ?_)
    · repeat (first | refine LNext.go tab ?_ | refine LText.all rfl ?_ | refine LDraw.all (by decide +kernel) ?_ | refine LRes.mk ?_ | refine load1 tab rfl zCe ?_ | refine lenSlice tab rfl ?_ | refine newBox rfl (fun _ => ?_) | refine newAlloc tab rfl (fun _ => ?_) | refine lbool (c := true) rfl ?_ | refine lbool (c := false) rfl ?_ | refine lcond_t rfl ?_ | refine lcond_f rfl ?_ | refine store1 tab rfl zTk rfl rfl rfl ?_ | refine lbool (c := true) (by assumption) ?_ | refine lbool (c := false) (by assumption) ?_ | refine lcond_t (by assumption) ?_ | refine lcond_f (by assumption) ?_ | refine build1 tab rfl ?_ | refine loadN tab rfl rfl zCs rfl ?_)
      have hbj : b = j := by simpa using hc
      refine Fin.of (HM p K (down K h i)) ?_ ⟨rfl, rfl⟩
      rw [← he, hde, if_pos hbj]
      exact Split.ent zSp
    · have hbj : ¬ b = j := by simpa using hc
      have hbg : j ≤ b := by rw [hbb]; exact best_ge
      repeat (first | refine LNext.go tab ?_ | refine LText.all rfl ?_ | refine LDraw.all (by decide +kernel) ?_ | refine LRes.mk ?_ | refine load1 tab rfl zCe ?_ | refine lenSlice tab rfl ?_ | refine newBox rfl (fun _ => ?_) | refine newAlloc tab rfl (fun _ => ?_) | refine lbool (c := true) rfl ?_ | refine lbool (c := false) rfl ?_ | refine lcond_t rfl ?_ | refine lcond_f rfl ?_ | refine store1 tab rfl zTk rfl rfl rfl ?_ | refine lbool (c := true) (by assumption) ?_ | refine lbool (c := false) (by assumption) ?_ | refine lcond_t (by assumption) ?_ | refine lcond_f (by assumption) ?_ | refine build1 tab rfl ?_ | refine loadN tab rfl rfl zCs rfl ?_)
      refine call1 (swap_ct p K h1 w1 j b (by omega) (by omega)) zSp ?_
      rintro v M' ⟨rfl, rfl⟩
      have w2 := w1.swpd (i := j) (j := b) (by omega) (by omega)
      have hl2 : (swp h1 j b).A.length = h.A.length := by simp [swp, swA_len, hl1]
      have w3 := w2.fixPd b
      have hdown : downL K high (h.A.length - b) (fixP K (swp h1 j b) b) b = down K h i := by
        rw [← he, hde, if_neg hbj]
        exact downL_fuel K high w3.1 (by rw [w3.2]; omega) (by rw [w3.2]; omega) (by rw [w3.2]; omega)
      have hlb : lo b ≤ b := by unfold lo; omega
      generalize hh2 : swp h1 j b = h2 at *
      clear hbb hk0 hk1 hk2 hde
      repeat (first | refine LNext.go tab ?_ | refine LText.all rfl ?_ | refine LDraw.all (by decide +kernel) ?_ | refine LRes.mk ?_ | refine load1 tab rfl zCe ?_ | refine lenSlice tab rfl ?_ | refine newBox rfl (fun _ => ?_) | refine newAlloc tab rfl (fun _ => ?_) | refine lbool (c := true) rfl ?_ | refine lbool (c := false) rfl ?_ | refine lcond_t rfl ?_ | refine lcond_f rfl ?_ | refine store1 tab rfl zTk rfl rfl rfl ?_ | refine lbool (c := true) (by assumption) ?_ | refine lbool (c := false) (by assumption) ?_ | refine lcond_t (by assumption) ?_ | refine lcond_f (by assumption) ?_ | refine build1 tab rfl ?_ | refine loadN tab rfl rfl zCs rfl ?_)
      refine leq_ (m := ((lo b : Nat) : Int)) (bits_andNot1 (by omega)) ?_
      repeat (first | refine LNext.go tab ?_ | refine LText.all rfl ?_ | refine LDraw.all (by decide +kernel) ?_ | refine LRes.mk ?_ | refine load1 tab rfl zCe ?_ | refine lenSlice tab rfl ?_ | refine newBox rfl (fun _ => ?_) | refine newAlloc tab rfl (fun _ => ?_) | refine lbool (c := true) rfl ?_ | refine lbool (c := false) rfl ?_ | refine lcond_t rfl ?_ | refine lcond_f rfl ?_ | refine store1 tab rfl zTk rfl rfl rfl ?_ | refine lbool (c := true) (by assumption) ?_ | refine lbool (c := false) (by assumption) ?_ | refine lcond_t (by assumption) ?_ | refine lcond_f (by assumption) ?_ | refine build1 tab rfl ?_ | refine loadN tab rfl rfl zCs rfl ?_)
      refine lnat (lo b + 1) (by first | rfl | exact tdiv_nat _ _ | omega) (by omega) ?_
      repeat (first | refine LNext.go tab ?_ | refine LText.all rfl ?_ | refine LDraw.all (by decide +kernel) ?_ | refine LRes.mk ?_ | refine load1 tab rfl zCe ?_ | refine lenSlice tab rfl ?_ | refine newBox rfl (fun _ => ?_) | refine newAlloc tab rfl (fun _ => ?_) | refine lbool (c := true) rfl ?_ | refine lbool (c := false) rfl ?_ | refine lcond_t rfl ?_ | refine lcond_f rfl ?_ | refine store1 tab rfl zTk rfl rfl rfl ?_ | refine lbool (c := true) (by assumption) ?_ | refine lbool (c := false) (by assumption) ?_ | refine lcond_t (by assumption) ?_ | refine lcond_f (by assumption) ?_ | refine build1 tab rfl ?_ | refine loadN tab rfl rfl zCs rfl ?_)
      by_cases hl : lo b + 1 < h2.A.length
      · have hg' : decide (((lo b + 1 : Nat) : Int) < ((h2.A.length : Nat) : Int)) = true := by rw [lt_nat]; simp [hl]
        have hg : (decide (((lo b + 1 : Nat) : Int) < ((h2.A.length : Nat) : Int)) == true) = true := by rw [hg']; rfl
        repeat (first | refine LNext.go tab ?_ | refine LText.all rfl ?_ | refine LDraw.all (by decide +kernel) ?_ | refine LRes.mk ?_ | refine load1 tab rfl zCe ?_ | refine lenSlice tab rfl ?_ | refine newBox rfl (fun _ => ?_) | refine newAlloc tab rfl (fun _ => ?_) | refine lbool (c := true) rfl ?_ | refine lbool (c := false) rfl ?_ | refine lcond_t rfl ?_ | refine lcond_f rfl ?_ | refine store1 tab rfl zTk rfl rfl rfl ?_ | refine lbool (c := true) (by assumption) ?_ | refine lbool (c := false) (by assumption) ?_ | refine lcond_t (by assumption) ?_ | refine lcond_f (by assumption) ?_ | refine build1 tab rfl ?_ | refine loadN tab rfl rfl zCs rfl ?_)
        refine lnat (lo b + 1) (by first | rfl | exact tdiv_nat _ _ | omega) (by omega) ?_
        repeat (first | refine LNext.go tab ?_ | refine LText.all rfl ?_ | refine LDraw.all (by decide +kernel) ?_ | refine LRes.mk ?_ | refine load1 tab rfl zCe ?_ | refine lenSlice tab rfl ?_ | refine newBox rfl (fun _ => ?_) | refine newAlloc tab rfl (fun _ => ?_) | refine lbool (c := true) rfl ?_ | refine lbool (c := false) rfl ?_ | refine lcond_t rfl ?_ | refine lcond_f rfl ?_ | refine store1 tab rfl zTk rfl rfl rfl ?_ | refine lbool (c := true) (by assumption) ?_ | refine lbool (c := false) (by assumption) ?_ | refine lcond_t (by assumption) ?_ | refine lcond_f (by assumption) ?_ | refine build1 tab rfl ?_ | refine loadN tab rfl rfl zCs rfl ?_)
        refine call0 (less_ct p K h2 w2 (lo b + 1) (lo b) hl (by omega)) ?_
        rintro v rfl
        repeat (first | refine LNext.go tab ?_ | refine LText.all rfl ?_ | refine LDraw.all (by decide +kernel) ?_ | refine LRes.mk ?_ | refine load1 tab rfl zCe ?_ | refine lenSlice tab rfl ?_ | refine newBox rfl (fun _ => ?_) | refine newAlloc tab rfl (fun _ => ?_) | refine lbool (c := true) rfl ?_ | refine lbool (c := false) rfl ?_ | refine lcond_t rfl ?_ | refine lcond_f rfl ?_ | refine store1 tab rfl zTk rfl rfl rfl ?_ | refine lbool (c := true) (by assumption) ?_ | refine lbool (c := false) (by assumption) ?_ | refine lcond_t (by assumption) ?_ | refine lcond_f (by assumption) ?_ | refine build1 tab rfl ?_ | refine loadN tab rfl rfl zCs rfl ?_)
        refine LCond.mk (fun hc2 => ?_) (fun hc2 => ?_)
        · have hpb : pairB K h2 b = true := by simp [pairB, hl, hc2]
          repeat (first | refine LNext.go tab ?_ | refine LText.all rfl ?_ | refine LDraw.all (by decide +kernel) ?_ | refine LRes.mk ?_ | refine load1 tab rfl zCe ?_ | refine lenSlice tab rfl ?_ | refine newBox rfl (fun _ => ?_) | refine newAlloc tab rfl (fun _ => ?_) | refine lbool (c := true) rfl ?_ | refine lbool (c := false) rfl ?_ | refine lcond_t rfl ?_ | refine lcond_f rfl ?_ | refine store1 tab rfl zTk rfl rfl rfl ?_ | refine lbool (c := true) (by assumption) ?_ | refine lbool (c := false) (by assumption) ?_ | refine lcond_t (by assumption) ?_ | refine lcond_f (by assumption) ?_ | refine build1 tab rfl ?_ | refine loadN tab rfl rfl zCs rfl ?_)
          refine lnat (lo b + 1) (by first | rfl | exact tdiv_nat _ _ | omega) (by omega) ?_
          refine call1 (swap_ct p K h2 w2 (lo b) (lo b + 1) (by omega) hl) zSp ?_
          rintro v M' ⟨rfl, rfl⟩
          have hfx : fixP K h2 b = swp h2 (lo b) (lo b + 1) := by unfold fixP; rw [if_pos hpb]
          rw [← hfx]
          have hln : (decide (((b : Nat) : Int) ≥ (((fixP K h2 b).A.length : Nat) : Int))) = false := by rw [ge_nat, w3.2, hl2]; simp; omega
          repeat (first | refine LNext.go tab ?_ | refine LText.all rfl ?_ | refine LDraw.all (by decide +kernel) ?_ | refine LRes.mk ?_ | refine load1 tab rfl zCe ?_ | refine lenSlice tab rfl ?_ | refine newBox rfl (fun _ => ?_) | refine newAlloc tab rfl (fun _ => ?_) | refine lbool (c := true) rfl ?_ | refine lbool (c := false) rfl ?_ | refine lcond_t rfl ?_ | refine lcond_f rfl ?_ | refine store1 tab rfl zTk rfl rfl rfl ?_ | refine lbool (c := true) (by assumption) ?_ | refine lbool (c := false) (by assumption) ?_ | refine lcond_t (by assumption) ?_ | refine lcond_f (by assumption) ?_ | refine build1 tab rfl ?_ | refine loadN tab rfl rfl zCs rfl ?_)
          exact ⟨(fixP K h2 b, b), ⟨w3.1, by rw [w3.2]; exact hl2, by dsimp only; omega, hdown⟩, (by dsimp only; omega), ⟨rfl, rfl, rfl, trivial⟩, Ent.refl _⟩
        · have hpb : ¬ pairB K h2 b = true := by simp [pairB, hc2]
          have hfx : fixP K h2 b = h2 := by unfold fixP; rw [if_neg hpb]
          have hln : (decide (((b : Nat) : Int) ≥ ((h2.A.length : Nat) : Int))) = false := by rw [ge_nat, hl2]; simp; omega
          repeat (first | refine LNext.go tab ?_ | refine LText.all rfl ?_ | refine LDraw.all (by decide +kernel) ?_ | refine LRes.mk ?_ | refine load1 tab rfl zCe ?_ | refine lenSlice tab rfl ?_ | refine newBox rfl (fun _ => ?_) | refine newAlloc tab rfl (fun _ => ?_) | refine lbool (c := true) rfl ?_ | refine lbool (c := false) rfl ?_ | refine lcond_t rfl ?_ | refine lcond_f rfl ?_ | refine store1 tab rfl zTk rfl rfl rfl ?_ | refine lbool (c := true) (by assumption) ?_ | refine lbool (c := false) (by assumption) ?_ | refine lcond_t (by assumption) ?_ | refine lcond_f (by assumption) ?_ | refine build1 tab rfl ?_ | refine loadN tab rfl rfl zCs rfl ?_)
          exact ⟨(h2, b), ⟨w2, hl2, by dsimp only; omega, by rw [hfx] at hdown; exact hdown⟩, (by dsimp only; omega), ⟨rfl, rfl, rfl, trivial⟩, Ent.refl _⟩
      · have hg' : decide (((lo b + 1 : Nat) : Int) < ((h2.A.length : Nat) : Int)) = false := by rw [lt_nat]; simp [hl]
        have hg : (decide (((lo b + 1 : Nat) : Int) < ((h2.A.length : Nat) : Int)) == true) = false := by rw [hg']; rfl
        have hpb : ¬ pairB K h2 b = true := by simp [pairB, hl]
        have hfx : fixP K h2 b = h2 := by unfold fixP; rw [if_neg hpb]
        have hln : (decide (((b : Nat) : Int) ≥ ((h2.A.length : Nat) : Int))) = false := by rw [ge_nat, hl2]; simp; omega
        repeat (first | refine LNext.go tab ?_ | refine LText.all rfl ?_ | refine LDraw.all (by decide +kernel) ?_ | refine LRes.mk ?_ | refine load1 tab rfl zCe ?_ | refine lenSlice tab rfl ?_ | refine newBox rfl (fun _ => ?_) | refine newAlloc tab rfl (fun _ => ?_) | refine lbool (c := true) rfl ?_ | refine lbool (c := false) rfl ?_ | refine lcond_t rfl ?_ | refine lcond_f rfl ?_ | refine store1 tab rfl zTk rfl rfl rfl ?_ | refine lbool (c := true) (by assumption) ?_ | refine lbool (c := false) (by assumption) ?_ | refine lcond_t (by assumption) ?_ | refine lcond_f (by assumption) ?_ | refine build1 tab rfl ?_ | refine loadN tab rfl rfl zCs rfl ?_)
        exact ⟨(h2, b), ⟨w2, hl2, by dsimp only; omega, by rw [hfx] at hdown; exact hdown⟩, (by dsimp only; omega), ⟨rfl, rfl, rfl, trivial⟩, Ent.refl _⟩
end Go.Proofs.Ytjgionnigenijaa
