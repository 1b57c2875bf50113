import Derived.Test.YtjgionnigenijaaMmDown
namespace Go.Proofs.Ytjgionnigenijaa
open Go.Sl
set_option linter.unusedVariables false
set_option maxRecDepth 100000
set_option maxHeartbeats 4000000

def In (h : HS) (x : Nat) : Prop := ∃ i, i < h.A.length ∧ at_ h.A i = x
/-- The same entries, perhaps at other places. -/
structure Kept (K : List K3) (h h' : HS) : Prop where
  wf : WF K h'
  len : h'.A.length = h.A.length
  mem : ∀ x, In h x → In h' x
  mem' : ∀ x, In h' x → In h x
  out : ∀ x, ¬ In h x → at_ h'.S x = at_ h.S x
theorem Kept.refl {K : List K3} {h : HS} (w : WF K h) : Kept K h h := ⟨w, rfl, fun _ h => h, fun _ h => h, fun _ _ => rfl⟩
theorem Kept.trans {K : List K3} {h h' h'' : HS} (a : Kept K h h') (b : Kept K h' h'') : Kept K h h'' := ⟨b.wf, b.len.trans a.len, fun x hx => b.mem x (a.mem x hx), fun x hx => a.mem' x (b.mem' x hx), fun x hx => (b.out x (fun h => hx (a.mem' x h))).trans (a.out x hx)⟩
theorem Kept.swp {K : List K3} {h : HS} (w : WF K h) {i j : Nat} (hi : i < h.A.length) (hj : j < h.A.length) : Kept K h (swp h i j) := by
  have hl : (Go.Proofs.Ytjgionnigenijaa.swp h i j).A.length = h.A.length := swA_len _ _ _
  refine ⟨w.swpd hi hj, swA_len _ _ _, ?_, ?_, ?_⟩
  · rintro x ⟨k, hk, rfl⟩
    by_cases k1 : k = i
    · refine ⟨j, by rw [hl]; exact hj, ?_⟩
      show at_ (swA h.A i j) j = _
      rw [at_swA hi hj]; simp [k1]
    · by_cases k2 : k = j
      · refine ⟨i, by rw [hl]; exact hi, ?_⟩
        show at_ (swA h.A i j) i = _
        rw [at_swA hi hj]; by_cases e : i = j <;> simp [k2, e]
      · refine ⟨k, by rw [hl]; exact hk, ?_⟩
        show at_ (swA h.A i j) k = _
        rw [at_swA hi hj]; simp [k1, k2]
  · rintro x ⟨k, hk, rfl⟩
    rw [hl] at hk
    show ∃ m, m < h.A.length ∧ at_ h.A m = at_ (swA h.A i j) k
    rw [at_swA hi hj]
    split
    · exact ⟨i, hi, rfl⟩
    · split
      · exact ⟨j, hj, rfl⟩
      · exact ⟨k, hk, rfl⟩
  · intro x hx
    have hai := w.lt i hi
    have haj := w.lt j hj
    have e1 : at_ (swA h.A i j) i = at_ h.A j := by rw [at_swA hi hj]; by_cases e : i = j <;> simp [e]
    have e2 : at_ (swA h.A i j) j = at_ h.A i := by rw [at_swA hi hj]; simp
    show at_ (swS h.A h.S i j) x = _
    unfold swS
    rw [e1, e2, at_set _ _ _ _ (by simp [w.ks, hai]), at_set _ _ _ _ (by simp [w.ks, haj])]
    have n1 : ¬ x = at_ h.A i := fun e => hx ⟨i, hi, e.symm⟩
    have n2 : ¬ x = at_ h.A j := fun e => hx ⟨j, hj, e.symm⟩
    simp [n1, n2]
theorem Kept.pairH {K : List K3} {h : HS} (w : WF K h) (i : Nat) : Kept K h (pairH K h i) := by
  unfold Go.Proofs.Ytjgionnigenijaa.pairH
  split
  · rename_i hb
    simp only [pairB, Bool.and_eq_true, decide_eq_true_eq] at hb
    exact Kept.swp w (by omega) hb.1
  · exact Kept.refl w
theorem Kept.upL {K : List K3} : ∀ (f : Nat) {h : HS} (i : Nat), WF K h → i < h.A.length → Kept K h (upL K f h i) := by
  intro f
  induction f with
  | zero => intro h i w hi; exact Kept.refl w
  | succ f ih =>
    intro h i w hi
    unfold Go.Proofs.Ytjgionnigenijaa.upL
    split
    · exact Kept.refl w
    · split
      · have s := Kept.swp w hi (j := (i / 2 - 1) / 2 * 2) (by omega)
        exact s.trans (ih _ s.wf (by rw [s.len]; omega))
      · split
        · have s := Kept.swp w hi (j := (i / 2 - 1) / 2 * 2 + 1) (by omega)
          exact s.trans (ih _ s.wf (by rw [s.len]; omega))
        · exact Kept.refl w
theorem Kept.up {K : List K3} {h : HS} (w : WF K h) {i : Nat} (hi : i < h.A.length) : Kept K h (up K h i) :=
  (Kept.pairH w i).trans (Kept.upL _ _ (w.paird i) (by rw [pairH_len]; exact pairI_lt K h i hi))
theorem Kept.downL {K : List K3} {high : Bool} : ∀ (f : Nat) {h : HS} (i : Nat), WF K h → i < h.A.length → Kept K h (downL K high f h i) := by
  intro f
  induction f with
  | zero => intro h i w hi; exact Kept.refl w
  | succ f ih =>
    intro h i w hi
    rw [Go.Proofs.Ytjgionnigenijaa.downL]
    split
    · exact Kept.refl w
    · have hlt := best_lt (K := K) (high := high) hi
      have s := Kept.swp w hi hlt
      have s2 : Kept K (Go.Proofs.Ytjgionnigenijaa.swp h i (best K h.A high i)) (fixP K (Go.Proofs.Ytjgionnigenijaa.swp h i (best K h.A high i)) (best K h.A high i)) := Kept.pairH s.wf _
      exact (s.trans s2).trans (ih _ s2.wf (by rw [s2.len, s.len]; exact hlt))
theorem Kept.down {K : List K3} {h : HS} (w : WF K h) {i : Nat} (hi : i < h.A.length) : Kept K h (down K h i) := Kept.downL _ _ w hi
theorem Kept.spot {K : List K3} {h h' : HS} (k : Kept K h h') {x : Nat} (hx : ∃ i, i < h.A.length ∧ at_ h.A i = x) : at_ h'.S x - 1 < h'.A.length ∧ 1 ≤ at_ h'.S x ∧ x < K.length := by
  obtain ⟨i, hi, rfl⟩ := k.mem x hx
  have := k.wf.sp i hi
  have := k.wf.lt i hi
  omega

/-- One round over an entry, or over none. -/
def upZ (K : List K3) (h : HS) (z : Option Nat) : HS := match z with | some z => up K h (at_ h.S z - 1) | none => h
def downZ (K : List K3) (h : HS) (z : Option Nat) : HS := match z with | some z => down K h (at_ h.S z - 1) | none => h
def zI (z : Option Nat) : Int := match z with | some z => (z : Int) | none => -1
def settleY (K : List K3) (h0 : HS) (i : Nat) : Option Nat := if lo i + 1 < h0.A.length then some (at_ h0.A (lo i + 1)) else none
theorem settle_eq (K : List K3) (h : HS) (i : Nat) : settle K h i =
    (let h0 := pairH K h i
     let x := some (at_ h0.A (lo i))
     let y := settleY K h0 i
     downZ K (downZ K (upZ K (upZ K h0 x) y) x) y) := by
  unfold settle settleY
  dsimp only
  split <;> rfl
theorem lo_pairI (K : List K3) (h : HS) (i : Nat) : lo (pairI K h i) = lo i := by
  unfold pairI; split
  · unfold flip lo; omega
  · rfl
theorem Kept.upZ {K : List K3} {h h0 : HS} (k : Kept K h0 h) {z : Option Nat} (hz : ∀ x, z = some x → ∃ i, i < h0.A.length ∧ at_ h0.A i = x) : Kept K h0 (upZ K h z) := by
  cases z with
  | none => exact k
  | some z => exact k.trans (Kept.up k.wf (k.spot (hz z rfl)).1)
theorem Kept.downZ {K : List K3} {h h0 : HS} (k : Kept K h0 h) {z : Option Nat} (hz : ∀ x, z = some x → ∃ i, i < h0.A.length ∧ at_ h0.A i = x) : Kept K h0 (downZ K h z) := by
  cases z with
  | none => exact k
  | some z => exact k.trans (Kept.down k.wf (k.spot (hz z rfl)).1)

theorem settle_ct (p : Pl) (K : List K3) (h : HS) (w : WF K h) (i : Nat) (hi : i < h.A.length) :
    Ctr Try.prog 63 #[.pointer (some ⟨p.b, 0, none⟩), .int .i64 i] (HM p K h) (fun v M' => v = .tuple #[] ∧ M' = HM p K (settle K h i)) := by
  have hs := w.small
  have hn := w.len
  have k0 := Kept.pairH w i
  have hp := pairI_lt K h i hi
  have hlp := lo_pairI K h i
  have hlo : lo i < h.A.length := by unfold lo; omega
  have hll := k0.len
  have hse := settle_eq K h i
  dsimp only at hse
  refine ctr_of (Γ := tab) (vs := [_, _]) fn63 rfl ?_
  repeat (first | refine LNext.go tab ?_ | refine LText.all rfl ?_ | refine LDraw.all (by decide +kernel) ?_ | refine LRes.mk ?_ | refine load1 tab rfl zCe ?_ | refine lenSlice tab rfl ?_ | refine newBox rfl (fun _ => ?_) | refine newAlloc tab rfl (fun _ => ?_) | refine lbool (c := true) rfl ?_ | refine lbool (c := false) rfl ?_ | refine lcond_t rfl ?_ | refine lcond_f rfl ?_ | refine store1 tab rfl zTk rfl rfl rfl ?_ | refine lbool (c := true) (by assumption) ?_ | refine lbool (c := false) (by assumption) ?_ | refine lcond_t (by assumption) ?_ | refine lcond_f (by assumption) ?_ | refine build1 tab rfl ?_ | refine loadN tab rfl rfl zCs rfl ?_)
  refine call1 (paired_ct p K h w i hi) zSp ?_
  rintro v M' ⟨rfl, rfl⟩
  generalize hh0 : pairH K h i = h0 at *
  generalize hj : pairI K h i = j at *
  have w0 := k0.wf
  repeat (first | refine LNext.go tab ?_ | refine LText.all rfl ?_ | refine LDraw.all (by decide +kernel) ?_ | refine LRes.mk ?_ | refine load1 tab rfl zCe ?_ | refine lenSlice tab rfl ?_ | refine newBox rfl (fun _ => ?_) | refine newAlloc tab rfl (fun _ => ?_) | refine lbool (c := true) rfl ?_ | refine lbool (c := false) rfl ?_ | refine lcond_t rfl ?_ | refine lcond_f rfl ?_ | refine store1 tab rfl zTk rfl rfl rfl ?_ | refine lbool (c := true) (by assumption) ?_ | refine lbool (c := false) (by assumption) ?_ | refine lcond_t (by assumption) ?_ | refine lcond_f (by assumption) ?_ | refine build1 tab rfl ?_ | refine loadN tab rfl rfl zCs rfl ?_)
  refine leq_ (m := ((lo i : Nat) : Int)) (by rw [bits_andNot1 (by omega), ← hlp]; rfl) ?_
  refine lidx (lo i) rfl (by omega) ?_
  refine load1 tab rfl (ccA p K h0 (i := lo i) (by omega) (by omega)) ?_
  repeat (first | refine LNext.go tab ?_ | refine LText.all rfl ?_ | refine LDraw.all (by decide +kernel) ?_ | refine LRes.mk ?_ | refine load1 tab rfl zCe ?_ | refine lenSlice tab rfl ?_ | refine newBox rfl (fun _ => ?_) | refine newAlloc tab rfl (fun _ => ?_) | refine lbool (c := true) rfl ?_ | refine lbool (c := false) rfl ?_ | refine lcond_t rfl ?_ | refine lcond_f rfl ?_ | refine store1 tab rfl zTk rfl rfl rfl ?_ | refine lbool (c := true) (by assumption) ?_ | refine lbool (c := false) (by assumption) ?_ | refine lcond_t (by assumption) ?_ | refine lcond_f (by assumption) ?_ | refine build1 tab rfl ?_ | refine loadN tab rfl rfl zCs rfl ?_)
  refine leq_ (m := ((lo i + 1 : Nat) : Int)) (by rw [bits_or1 (by omega), ← hlp]; rfl) ?_
  repeat (first | refine LNext.go tab ?_ | refine LText.all rfl ?_ | refine LDraw.all (by decide +kernel) ?_ | refine LRes.mk ?_ | refine load1 tab rfl zCe ?_ | refine lenSlice tab rfl ?_ | refine newBox rfl (fun _ => ?_) | refine newAlloc tab rfl (fun _ => ?_) | refine lbool (c := true) rfl ?_ | refine lbool (c := false) rfl ?_ | refine lcond_t rfl ?_ | refine lcond_f rfl ?_ | refine store1 tab rfl zTk rfl rfl rfl ?_ | refine lbool (c := true) (by assumption) ?_ | refine lbool (c := false) (by assumption) ?_ | refine lcond_t (by assumption) ?_ | refine lcond_f (by assumption) ?_ | refine build1 tab rfl ?_ | refine loadN tab rfl rfl zCs rfl ?_)
  have hx : ∀ x, some (at_ h0.A (lo i)) = some x → ∃ i, i < h0.A.length ∧ at_ h0.A i = x := fun x e => ⟨lo i, by omega, by injection e⟩
  have hy : ∀ x, settleY K h0 i = some x → ∃ i, i < h0.A.length ∧ at_ h0.A i = x := by
    intro x e
    unfold settleY at e
    split at e
    · rename_i hl
      exact ⟨_, hl, by injection e⟩
    · cases e
  apply LCond.join
  · intro hc t
    have hl : lo i + 1 < h0.A.length := by rw [lt_nat] at hc; simpa using hc
    repeat (first | refine LNext.go tab ?_ | refine LText.all rfl ?_ | refine LDraw.all (by decide +kernel) ?_ | refine LRes.mk ?_ | refine load1 tab rfl zCe ?_ | refine lenSlice tab rfl ?_ | refine newBox rfl (fun _ => ?_) | refine newAlloc tab rfl (fun _ => ?_) | refine lbool (c := true) rfl ?_ | refine lbool (c := false) rfl ?_ | refine lcond_t rfl ?_ | refine lcond_f rfl ?_ | refine store1 tab rfl zTk rfl rfl rfl ?_ | refine lbool (c := true) (by assumption) ?_ | refine lbool (c := false) (by assumption) ?_ | refine lcond_t (by assumption) ?_ | refine lcond_f (by assumption) ?_ | refine build1 tab rfl ?_ | refine loadN tab rfl rfl zCs rfl ?_)
    refine leq_ (m := ((lo i + 1 : Nat) : Int)) (by rw [bits_or1 (by omega), ← hlp]; rfl) ?_
    refine lidx (lo i + 1) rfl (by omega) ?_
    refine load1 tab rfl (ccA p K h0 (i := lo i + 1) (by omega) (by omega)) ?_
    exact LNext.keep [(0, .pointer (some ⟨p.b, 0, none⟩)), (4, .int .i64 (at_ h0.A (lo i) : Nat)), (5, .int .i64 (zI (settleY K h0 i)))] ⟨rfl, rfl, (by unfold settleY; rw [if_pos hl]; rfl), trivial⟩ t.h
  · intro hc t
    have hl : ¬ lo i + 1 < h0.A.length := by rw [lt_nat] at hc; simpa using hc
    exact LNext.keep [(0, .pointer (some ⟨p.b, 0, none⟩)), (4, .int .i64 (at_ h0.A (lo i) : Nat)), (5, .int .i64 (zI (settleY K h0 i)))] ⟨rfl, rfl, (by unfold settleY; rw [if_neg hl]; rfl), trivial⟩ t.h
  repeat (first | refine LNext.go tab ?_ | refine LText.all rfl ?_ | refine LDraw.all (by decide +kernel) ?_ | refine LRes.mk ?_ | refine load1 tab rfl zCe ?_ | refine lenSlice tab rfl ?_ | refine newBox rfl (fun _ => ?_) | refine newAlloc tab rfl (fun _ => ?_) | refine lbool (c := true) rfl ?_ | refine lbool (c := false) rfl ?_ | refine lcond_t rfl ?_ | refine lcond_f rfl ?_ | refine store1 tab rfl zTk rfl rfl rfl ?_ | refine lbool (c := true) (by assumption) ?_ | refine lbool (c := false) (by assumption) ?_ | refine lcond_t (by assumption) ?_ | refine lcond_f (by assumption) ?_ | refine build1 tab rfl ?_ | refine loadN tab rfl rfl zCs rfl ?_)
  have hxy : ∀ k, k < 2 → ∀ x, (if k = 0 then some (at_ h0.A (lo i)) else settleY K h0 i) = some x → ∃ i, i < h0.A.length ∧ at_ h0.A i = x := by
    intro k hk x e
    split at e
    · exact hx x e
    · exact hy x e
  refine LLoop.inv (Γ := tab) (fun x : Nat × HS => [(0, .pointer (some ⟨p.b, 0, none⟩)), (4, .int .i64 (at_ h0.A (lo i) : Nat)), (5, .int .i64 (zI (settleY K h0 i))), (39, .agg #[.int .i64 (at_ h0.A (lo i) : Nat), .int .i64 (zI (settleY K h0 i))]), (40, .int .i64 (x.1 : Nat))]) (fun x => HM p K x.2)
    (fun x => x.1 ≤ 2 ∧ Kept K h0 x.2 ∧ (x.1 = 0 → x.2 = h0) ∧ (x.1 = 1 → x.2 = upZ K h0 (some (at_ h0.A (lo i)))) ∧ (x.1 = 2 → x.2 = upZ K (upZ K h0 (some (at_ h0.A (lo i)))) (settleY K h0 i))) (fun x => 2 - x.1) (0, h0) ⟨by omega, Kept.refl w0, fun _ => rfl, (by intro h; cases h), (by intro h; cases h)⟩ ⟨rfl, rfl, rfl, rfl, rfl, trivial⟩ (Ent.refl _) ?_
  rintro ⟨k, h1⟩ ⟨hk, kp, hk0, hk1, hk2⟩
  dsimp only at hk kp hk0 hk1 hk2 ⊢
  repeat (first | refine LNext.go tab ?_ | refine LText.all rfl ?_ | refine LDraw.all (by decide +kernel) ?_ | refine LRes.mk ?_ | refine load1 tab rfl zCe ?_ | refine lenSlice tab rfl ?_ | refine newBox rfl (fun _ => ?_) | refine newAlloc tab rfl (fun _ => ?_) | refine lbool (c := true) rfl ?_ | refine lbool (c := false) rfl ?_ | refine lcond_t rfl ?_ | refine lcond_f rfl ?_ | refine store1 tab rfl zTk rfl rfl rfl ?_ | refine lbool (c := true) (by assumption) ?_ | refine lbool (c := false) (by assumption) ?_ | refine lcond_t (by assumption) ?_ | refine lcond_f (by assumption) ?_ | refine build1 tab rfl ?_ | refine loadN tab rfl rfl zCs rfl ?_)
  refine LCond.mk (fun hc => ?_) (fun hc => ?_)
  · have hk' : k < 2 := by rw [show ((2 : Int)) = ((2 : Nat) : Int) from rfl, lt_nat] at hc; simpa using hc
    obtain ⟨z, hz, hcv, hcb⟩ : ∃ z : Option Nat, (∀ x, z = some x → ∃ i, i < h0.A.length ∧ at_ h0.A i = x) ∧ #[Value.int .i64 (at_ h0.A (lo i) : Nat), Value.int .i64 (zI (settleY K h0 i))][k]? = some (.int .i64 (zI z)) ∧ (k + 1 = 1 → upZ K h1 z = upZ K h0 (some (at_ h0.A (lo i)))) ∧ (k + 1 = 2 → upZ K h1 z = upZ K (upZ K h0 (some (at_ h0.A (lo i)))) (settleY K h0 i)) := by
      obtain rfl | rfl : k = 0 ∨ k = 1 := by omega
      · exact ⟨some (at_ h0.A (lo i)), hx, rfl, (by intro _; rw [hk0 rfl]), (by intro h; omega)⟩
      · exact ⟨settleY K h0 i, hy, rfl, (by intro h; omega), (by intro _; rw [hk1 rfl])⟩
    repeat (first | refine LNext.go tab ?_ | refine LText.all rfl ?_ | refine LDraw.all (by decide +kernel) ?_ | refine LRes.mk ?_ | refine load1 tab rfl zCe ?_ | refine lenSlice tab rfl ?_ | refine newBox rfl (fun _ => ?_) | refine newAlloc tab rfl (fun _ => ?_) | refine lbool (c := true) rfl ?_ | refine lbool (c := false) rfl ?_ | refine lcond_t rfl ?_ | refine lcond_f rfl ?_ | refine store1 tab rfl zTk rfl rfl rfl ?_ | refine lbool (c := true) (by assumption) ?_ | refine lbool (c := false) (by assumption) ?_ | refine lcond_t (by assumption) ?_ | refine lcond_f (by assumption) ?_ | refine build1 tab rfl ?_ | refine loadN tab rfl rfl zCs rfl ?_)
    refine index1 tab rfl rfl rfl hk' hcv ?_
    repeat (first | refine LNext.go tab ?_ | refine LText.all rfl ?_ | refine LDraw.all (by decide +kernel) ?_ | refine LRes.mk ?_ | refine load1 tab rfl zCe ?_ | refine lenSlice tab rfl ?_ | refine newBox rfl (fun _ => ?_) | refine newAlloc tab rfl (fun _ => ?_) | refine lbool (c := true) rfl ?_ | refine lbool (c := false) rfl ?_ | refine lcond_t rfl ?_ | refine lcond_f rfl ?_ | refine store1 tab rfl zTk rfl rfl rfl ?_ | refine lbool (c := true) (by assumption) ?_ | refine lbool (c := false) (by assumption) ?_ | refine lcond_t (by assumption) ?_ | refine lcond_f (by assumption) ?_ | refine build1 tab rfl ?_ | refine loadN tab rfl rfl zCs rfl ?_)
    refine LCond.mk (fun hz0 => ?_) (fun hz0 => ?_)
    · obtain ⟨x, rfl⟩ : ∃ x, z = some x := by
        cases z with
        | none => simp [zI] at hz0
        | some x => exact ⟨x, rfl⟩
      have sp := kp.spot (hz x rfl)
      have hks := kp.wf.ks
      have hkl := kp.len
      repeat (first | refine LNext.go tab ?_ | refine LText.all rfl ?_ | refine LDraw.all (by decide +kernel) ?_ | refine LRes.mk ?_ | refine load1 tab rfl zCe ?_ | refine lenSlice tab rfl ?_ | refine newBox rfl (fun _ => ?_) | refine newAlloc tab rfl (fun _ => ?_) | refine lbool (c := true) rfl ?_ | refine lbool (c := false) rfl ?_ | refine lcond_t rfl ?_ | refine lcond_f rfl ?_ | refine store1 tab rfl zTk rfl rfl rfl ?_ | refine lbool (c := true) (by assumption) ?_ | refine lbool (c := false) (by assumption) ?_ | refine lcond_t (by assumption) ?_ | refine lcond_f (by assumption) ?_ | refine build1 tab rfl ?_ | refine loadN tab rfl rfl zCs rfl ?_)
      refine lidx x rfl (by omega) ?_
      refine load1 tab rfl (ccS p K h1 (i := x) (by omega) (by omega)) ?_
      refine lnat (at_ h1.S x - 1) (by first | rfl | exact tdiv_nat _ _ | omega) (by omega) ?_
      refine call1 (up_ct p K h1 kp.wf (at_ h1.S x - 1) sp.1) zSp ?_
      rintro v M' ⟨rfl, rfl⟩
      repeat (first | refine LNext.go tab ?_ | refine LText.all rfl ?_ | refine LDraw.all (by decide +kernel) ?_ | refine LRes.mk ?_ | refine load1 tab rfl zCe ?_ | refine lenSlice tab rfl ?_ | refine newBox rfl (fun _ => ?_) | refine newAlloc tab rfl (fun _ => ?_) | refine lbool (c := true) rfl ?_ | refine lbool (c := false) rfl ?_ | refine lcond_t rfl ?_ | refine lcond_f rfl ?_ | refine store1 tab rfl zTk rfl rfl rfl ?_ | refine lbool (c := true) (by assumption) ?_ | refine lbool (c := false) (by assumption) ?_ | refine lcond_t (by assumption) ?_ | refine lcond_f (by assumption) ?_ | refine build1 tab rfl ?_ | refine loadN tab rfl rfl zCs rfl ?_)
      refine lnat (k + 1) (by first | rfl | exact tdiv_nat _ _ | omega) (by omega) ?_
      exact ⟨(k + 1, upZ K h1 (some x)), ⟨(by dsimp only; omega), kp.upZ hz, (by intro h; dsimp only at h; omega), hcb.1, hcb.2⟩, (by dsimp only; omega), ⟨rfl, rfl, rfl, rfl, rfl, trivial⟩, Ent.refl _⟩
    · obtain rfl : z = none := by
        cases z with
        | none => rfl
        | some x => simp [zI] at hz0
      repeat (first | refine LNext.go tab ?_ | refine LText.all rfl ?_ | refine LDraw.all (by decide +kernel) ?_ | refine LRes.mk ?_ | refine load1 tab rfl zCe ?_ | refine lenSlice tab rfl ?_ | refine newBox rfl (fun _ => ?_) | refine newAlloc tab rfl (fun _ => ?_) | refine lbool (c := true) rfl ?_ | refine lbool (c := false) rfl ?_ | refine lcond_t rfl ?_ | refine lcond_f rfl ?_ | refine store1 tab rfl zTk rfl rfl rfl ?_ | refine lbool (c := true) (by assumption) ?_ | refine lbool (c := false) (by assumption) ?_ | refine lcond_t (by assumption) ?_ | refine lcond_f (by assumption) ?_ | refine build1 tab rfl ?_ | refine loadN tab rfl rfl zCs rfl ?_)
      refine lnat (k + 1) (by first | rfl | exact tdiv_nat _ _ | omega) (by omega) ?_
      exact ⟨(k + 1, upZ K h1 none), ⟨(by dsimp only; omega), kp, (by intro h; dsimp only at h; omega), hcb.1, hcb.2⟩, (by dsimp only; omega), ⟨rfl, rfl, rfl, rfl, rfl, trivial⟩, Ent.refl _⟩
  · have hk' : k = 2 := by rw [show ((2 : Int)) = ((2 : Nat) : Int) from rfl, lt_nat] at hc; simp at hc; omega
    have hh := hk2 hk'
    repeat (first | refine LNext.go tab ?_ | refine LText.all rfl ?_ | refine LDraw.all (by decide +kernel) ?_ | refine LRes.mk ?_ | refine load1 tab rfl zCe ?_ | refine lenSlice tab rfl ?_ | refine newBox rfl (fun _ => ?_) | refine newAlloc tab rfl (fun _ => ?_) | refine lbool (c := true) rfl ?_ | refine lbool (c := false) rfl ?_ | refine lcond_t rfl ?_ | refine lcond_f rfl ?_ | refine store1 tab rfl zTk rfl rfl rfl ?_ | refine lbool (c := true) (by assumption) ?_ | refine lbool (c := false) (by assumption) ?_ | refine lcond_t (by assumption) ?_ | refine lcond_f (by assumption) ?_ | refine build1 tab rfl ?_ | refine loadN tab rfl rfl zCs rfl ?_)
    clear hk0 hk1 hk2
    generalize hH : upZ K (upZ K h0 (some (at_ h0.A (lo i)))) (settleY K h0 i) = H at *
    subst hh
    refine LLoop.inv (Γ := tab) (fun x : Nat × HS => [(0, .pointer (some ⟨p.b, 0, none⟩)), (58, .agg #[.int .i64 (at_ h0.A (lo i) : Nat), .int .i64 (zI (settleY K h0 i))]), (59, .int .i64 (x.1 : Nat))]) (fun x => HM p K x.2)
      (fun x => x.1 ≤ 2 ∧ Kept K h0 x.2 ∧ (x.1 = 0 → x.2 = h1) ∧ (x.1 = 1 → x.2 = downZ K h1 (some (at_ h0.A (lo i)))) ∧ (x.1 = 2 → x.2 = downZ K (downZ K h1 (some (at_ h0.A (lo i)))) (settleY K h0 i))) (fun x => 2 - x.1) (0, h1) ⟨by omega, kp, fun _ => rfl, (by intro h; cases h), (by intro h; cases h)⟩ ⟨rfl, rfl, rfl, trivial⟩ (Ent.refl _) ?_
    clear kp
    rintro ⟨k, h2⟩ ⟨hk, kp, hk0, hk1, hk2⟩
    dsimp only at hk kp hk0 hk1 hk2 ⊢
    repeat (first | refine LNext.go tab ?_ | refine LText.all rfl ?_ | refine LDraw.all (by decide +kernel) ?_ | refine LRes.mk ?_ | refine load1 tab rfl zCe ?_ | refine lenSlice tab rfl ?_ | refine newBox rfl (fun _ => ?_) | refine newAlloc tab rfl (fun _ => ?_) | refine lbool (c := true) rfl ?_ | refine lbool (c := false) rfl ?_ | refine lcond_t rfl ?_ | refine lcond_f rfl ?_ | refine store1 tab rfl zTk rfl rfl rfl ?_ | refine lbool (c := true) (by assumption) ?_ | refine lbool (c := false) (by assumption) ?_ | refine lcond_t (by assumption) ?_ | refine lcond_f (by assumption) ?_ | refine build1 tab rfl ?_ | refine loadN tab rfl rfl zCs rfl ?_)
    refine LCond.mk (fun hc => ?_) (fun hc => ?_)
    · have hk' : k < 2 := by rw [show ((2 : Int)) = ((2 : Nat) : Int) from rfl, lt_nat] at hc; simpa using hc
      obtain ⟨z, hz, hcv, hcb⟩ : ∃ z : Option Nat, (∀ x, z = some x → ∃ i, i < h0.A.length ∧ at_ h0.A i = x) ∧ #[Value.int .i64 (at_ h0.A (lo i) : Nat), Value.int .i64 (zI (settleY K h0 i))][k]? = some (.int .i64 (zI z)) ∧ (k + 1 = 1 → downZ K h2 z = downZ K h1 (some (at_ h0.A (lo i)))) ∧ (k + 1 = 2 → downZ K h2 z = downZ K (downZ K h1 (some (at_ h0.A (lo i)))) (settleY K h0 i)) := by
        obtain rfl | rfl : k = 0 ∨ k = 1 := by omega
        · exact ⟨some (at_ h0.A (lo i)), hx, rfl, (by intro _; rw [hk0 rfl]), (by intro h; omega)⟩
        · exact ⟨settleY K h0 i, hy, rfl, (by intro h; omega), (by intro _; rw [hk1 rfl])⟩
      repeat (first | refine LNext.go tab ?_ | refine LText.all rfl ?_ | refine LDraw.all (by decide +kernel) ?_ | refine LRes.mk ?_ | refine load1 tab rfl zCe ?_ | refine lenSlice tab rfl ?_ | refine newBox rfl (fun _ => ?_) | refine newAlloc tab rfl (fun _ => ?_) | refine lbool (c := true) rfl ?_ | refine lbool (c := false) rfl ?_ | refine lcond_t rfl ?_ | refine lcond_f rfl ?_ | refine store1 tab rfl zTk rfl rfl rfl ?_ | refine lbool (c := true) (by assumption) ?_ | refine lbool (c := false) (by assumption) ?_ | refine lcond_t (by assumption) ?_ | refine lcond_f (by assumption) ?_ | refine build1 tab rfl ?_ | refine loadN tab rfl rfl zCs rfl ?_)
      refine index1 tab rfl rfl rfl hk' hcv ?_
      repeat (first | refine LNext.go tab ?_ | refine LText.all rfl ?_ | refine LDraw.all (by decide +kernel) ?_ | refine LRes.mk ?_ | refine load1 tab rfl zCe ?_ | refine lenSlice tab rfl ?_ | refine newBox rfl (fun _ => ?_) | refine newAlloc tab rfl (fun _ => ?_) | refine lbool (c := true) rfl ?_ | refine lbool (c := false) rfl ?_ | refine lcond_t rfl ?_ | refine lcond_f rfl ?_ | refine store1 tab rfl zTk rfl rfl rfl ?_ | refine lbool (c := true) (by assumption) ?_ | refine lbool (c := false) (by assumption) ?_ | refine lcond_t (by assumption) ?_ | refine lcond_f (by assumption) ?_ | refine build1 tab rfl ?_ | refine loadN tab rfl rfl zCs rfl ?_)
      refine LCond.mk (fun hz0 => ?_) (fun hz0 => ?_)
      · obtain ⟨x, rfl⟩ : ∃ x, z = some x := by
          cases z with
          | none => simp [zI] at hz0
          | some x => exact ⟨x, rfl⟩
        have sp := kp.spot (hz x rfl)
        have hks := kp.wf.ks
        have hkl := kp.len
        repeat (first | refine LNext.go tab ?_ | refine LText.all rfl ?_ | refine LDraw.all (by decide +kernel) ?_ | refine LRes.mk ?_ | refine load1 tab rfl zCe ?_ | refine lenSlice tab rfl ?_ | refine newBox rfl (fun _ => ?_) | refine newAlloc tab rfl (fun _ => ?_) | refine lbool (c := true) rfl ?_ | refine lbool (c := false) rfl ?_ | refine lcond_t rfl ?_ | refine lcond_f rfl ?_ | refine store1 tab rfl zTk rfl rfl rfl ?_ | refine lbool (c := true) (by assumption) ?_ | refine lbool (c := false) (by assumption) ?_ | refine lcond_t (by assumption) ?_ | refine lcond_f (by assumption) ?_ | refine build1 tab rfl ?_ | refine loadN tab rfl rfl zCs rfl ?_)
        refine lidx x rfl (by omega) ?_
        refine load1 tab rfl (ccS p K h2 (i := x) (by omega) (by omega)) ?_
        refine lnat (at_ h2.S x - 1) (by first | rfl | exact tdiv_nat _ _ | omega) (by omega) ?_
        refine call1 (down_ct p K h2 kp.wf (at_ h2.S x - 1) sp.1) zSp ?_
        rintro v M' ⟨rfl, rfl⟩
        repeat (first | refine LNext.go tab ?_ | refine LText.all rfl ?_ | refine LDraw.all (by decide +kernel) ?_ | refine LRes.mk ?_ | refine load1 tab rfl zCe ?_ | refine lenSlice tab rfl ?_ | refine newBox rfl (fun _ => ?_) | refine newAlloc tab rfl (fun _ => ?_) | refine lbool (c := true) rfl ?_ | refine lbool (c := false) rfl ?_ | refine lcond_t rfl ?_ | refine lcond_f rfl ?_ | refine store1 tab rfl zTk rfl rfl rfl ?_ | refine lbool (c := true) (by assumption) ?_ | refine lbool (c := false) (by assumption) ?_ | refine lcond_t (by assumption) ?_ | refine lcond_f (by assumption) ?_ | refine build1 tab rfl ?_ | refine loadN tab rfl rfl zCs rfl ?_)
        refine lnat (k + 1) (by first | rfl | exact tdiv_nat _ _ | omega) (by omega) ?_
        exact ⟨(k + 1, downZ K h2 (some x)), ⟨(by dsimp only; omega), kp.downZ hz, (by intro h; dsimp only at h; omega), hcb.1, hcb.2⟩, (by dsimp only; omega), ⟨rfl, rfl, rfl, trivial⟩, Ent.refl _⟩
      · obtain rfl : z = none := by
          cases z with
          | none => rfl
          | some x => simp [zI] at hz0
        repeat (first | refine LNext.go tab ?_ | refine LText.all rfl ?_ | refine LDraw.all (by decide +kernel) ?_ | refine LRes.mk ?_ | refine load1 tab rfl zCe ?_ | refine lenSlice tab rfl ?_ | refine newBox rfl (fun _ => ?_) | refine newAlloc tab rfl (fun _ => ?_) | refine lbool (c := true) rfl ?_ | refine lbool (c := false) rfl ?_ | refine lcond_t rfl ?_ | refine lcond_f rfl ?_ | refine store1 tab rfl zTk rfl rfl rfl ?_ | refine lbool (c := true) (by assumption) ?_ | refine lbool (c := false) (by assumption) ?_ | refine lcond_t (by assumption) ?_ | refine lcond_f (by assumption) ?_ | refine build1 tab rfl ?_ | refine loadN tab rfl rfl zCs rfl ?_)
        refine lnat (k + 1) (by first | rfl | exact tdiv_nat _ _ | omega) (by omega) ?_
        exact ⟨(k + 1, downZ K h2 none), ⟨(by dsimp only; omega), kp, (by intro h; dsimp only at h; omega), hcb.1, hcb.2⟩, (by dsimp only; omega), ⟨rfl, rfl, rfl, trivial⟩, Ent.refl _⟩
    · have hk' : k = 2 := by rw [show ((2 : Int)) = ((2 : Nat) : Int) from rfl, lt_nat] at hc; simp at hc; omega
      have hh := hk2 hk'
      repeat (first | refine LNext.go tab ?_ | refine LText.all rfl ?_ | refine LDraw.all (by decide +kernel) ?_ | refine LRes.mk ?_ | refine load1 tab rfl zCe ?_ | refine lenSlice tab rfl ?_ | refine newBox rfl (fun _ => ?_) | refine newAlloc tab rfl (fun _ => ?_) | refine lbool (c := true) rfl ?_ | refine lbool (c := false) rfl ?_ | refine lcond_t rfl ?_ | refine lcond_f rfl ?_ | refine store1 tab rfl zTk rfl rfl rfl ?_ | refine lbool (c := true) (by assumption) ?_ | refine lbool (c := false) (by assumption) ?_ | refine lcond_t (by assumption) ?_ | refine lcond_f (by assumption) ?_ | refine build1 tab rfl ?_ | refine loadN tab rfl rfl zCs rfl ?_)
      refine Fin.of (HM p K (settle K h i)) ?_ ⟨rfl, rfl⟩
      rw [hse, ← hh]
      exact Split.ent zSp
end Go.Proofs.Ytjgionnigenijaa
