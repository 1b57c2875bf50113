import Derived.Test.YtjgionnigenijaaMmHeap5
/-! Who is in a heap; the ends. -/
namespace Go.Proofs.Ytjgionnigenijaa
set_option linter.unusedVariables false
set_option linter.unusedSimpArgs false

theorem In.cut {K : List K3} {h : HS} (o : Okh K h) {i y : Nat} (hi : i < h.A.length) (hy : at_ h.A i = y) (x : Nat) : In (cut h i y) x ↔ In h x ∧ x ≠ y := by
  have k := Kept.swp o.wf hi (j := h.A.length - 1) (by omega)
  have hla := cut_last hi
  have hl := k.len
  have hcl := cut_len (K := K) (h := h) i y
  have hA : ∀ j, j < h.A.length - 1 → at_ (Go.Proofs.Ytjgionnigenijaa.cut h i y).A j = at_ (swp h i (h.A.length - 1)).A j := fun j hj => at_take hj
  constructor
  · rintro ⟨j, hj, e⟩
    rw [hcl] at hj
    rw [hA j hj] at e
    refine ⟨k.mem' x ⟨j, by rw [hl]; omega, e⟩, ?_⟩
    rintro rfl
    have := k.wf.inj (i := j) (j := h.A.length - 1) (by omega) (by omega) (by rw [e, hla, hy])
    omega
  · rintro ⟨hx, hne⟩
    obtain ⟨j, hj, e⟩ := k.mem x hx
    have : j ≠ h.A.length - 1 := by
      rintro rfl
      rw [hla, hy] at e
      exact hne e.symm
    rw [hl] at hj
    exact ⟨j, by rw [hcl]; omega, by rw [hA j (by omega)]; exact e⟩
theorem In.rm {K : List K3} {h : HS} (o : Okh K h) {i y : Nat} (hi : i < h.A.length) (hy : at_ h.A i = y) : (∀ x, In (rmH K h i y) x ↔ In h x ∧ x ≠ y) ∧ (rmH K h i y).A.length = h.A.length - 1 := by
  have hc := In.cut o hi hy
  have oc := o.cut hi hy
  have hcl := cut_len (K := K) (h := h) i y
  unfold rmH
  split
  · rename_i hl
    have k := Kept.settle oc.wf (i := i) (by rw [hcl]; exact hl)
    exact ⟨fun x => ⟨fun hx => (hc x).1 (k.mem' x hx), fun hx => k.mem x ((hc x).2 hx)⟩, k.len.trans hcl⟩
  · exact ⟨hc, hcl⟩
theorem plc_in {K : List K3} {h : HS} (o : Okh K h) (x : Nat) : (¬ plc h x < 0) ↔ In h x := by
  constructor
  · intro hp
    obtain ⟨y, i, e, hy, hi, e1, e2, e3⟩ := o.plc hp
    have : x = y := by omega
    subst this
    exact ⟨i, hi, e1⟩
  · rintro ⟨i, hi, e⟩
    have h1 := o.wf.lt i hi
    have h2 := o.wf.sp i hi
    have h3 := o.wf.ks
    rw [e] at h1 h2
    unfold plc
    rw [if_pos ⟨by omega, by omega⟩]
    rw [Int.toNat_natCast, h2]
    omega
theorem plc_neg {h : HS} {x : Int} (hx : x < 0) : plc h x < 0 := by
  unfold plc; rw [if_neg (by omega)]; omega
theorem plc_big {K : List K3} {h : HS} (o : Okh K h) {x : Int} (hx : K.length ≤ x) : plc h x < 0 := by
  unfold plc; rw [o.wf.ks, if_neg (by omega)]; omega
theorem In.rem {K : List K3} {h : HS} (o : Okh K h) {y : Nat} (hy : In h y) : (∀ x, In (remH K h y) x ↔ In h x ∧ x ≠ y) ∧ (remH K h y).A.length = h.A.length - 1 := by
  have hp := (plc_in o y).2 hy
  unfold remH
  rw [if_neg hp]
  obtain ⟨z, i, e, hz, hi, e1, e2, e3⟩ := o.plc hp
  have : y = z := by omega
  subst this
  rw [e3]
  exact In.rm o hi e1
theorem In.lt {K : List K3} {h : HS} (w : WF K h) {x : Nat} (hx : In h x) : x < K.length := by
  obtain ⟨i, hi, rfl⟩ := hx; exact w.lt i hi
theorem In.ins {K : List K3} {h : HS} (o : Okh K h) (k : K3) (hlt : K.length < 1048576) : (∀ x, In (insH K h k) x ↔ In h x ∨ x = K.length) ∧ (insH K h k).A.length = h.A.length + 1 := by
  have oa := o.add k hlt
  have hl : (addH K h).A.length = h.A.length + 1 := by simp [addH]
  have ku := Kept.up oa.wf (i := h.A.length) (by rw [hl]; omega)
  have ha : ∀ x, In (addH K h) x ↔ In h x ∨ x = K.length := by
    intro x
    constructor
    · rintro ⟨j, hj, e⟩
      rw [hl] at hj
      by_cases hj' : j < h.A.length
      · left
        refine ⟨j, hj', ?_⟩
        rw [← e]; show _ = at_ (h.A ++ [K.length]) j; rw [at_app, if_pos hj']
      · right
        rw [← e]; show at_ (h.A ++ [K.length]) j = _; rw [at_app, if_neg hj', if_pos (by omega)]
    · rintro (⟨j, hj, e⟩ | rfl)
      · refine ⟨j, by rw [hl]; omega, ?_⟩
        show at_ (h.A ++ [K.length]) j = _; rw [at_app, if_pos hj]; exact e
      · refine ⟨h.A.length, by rw [hl]; omega, ?_⟩
        show at_ (h.A ++ [K.length]) _ = _; rw [at_app, if_neg (by omega), if_pos rfl]
  refine ⟨fun x => ⟨fun hx => (ha x).1 (ku.mem' x hx), fun hx => ku.mem x ((ha x).2 hx)⟩, ku.len.trans hl⟩
theorem In.upd {K : List K3} {h : HS} (o : Okh K h) (x : Int) (k : K3) : (∀ y, In (updH K h x k) y ↔ In h y) ∧ (updH K h x k).A.length = h.A.length := by
  unfold updH
  split
  · exact ⟨fun _ => Iff.rfl, rfl⟩
  · rename_i hp
    obtain ⟨y, i, rfl, hy, hi, e1, e2, e3⟩ := o.plc hp
    have o' := o.keys (K' := K.set (((y : Nat) : Int)).toNat k) (by simp)
    rw [e3]
    have ks := Kept.settle o'.wf (i := i) hi
    exact ⟨fun y => ⟨fun hx => ks.mem' y hx, fun hx => ks.mem y hx⟩, ks.len⟩

/-- The least, and the greatest. -/
theorem Full.minim {K : List K3} {h : HS} (w : WF K h) (d : Full K h) (h0 : 0 < h.A.length) : ∃ x, minR K h = (x, key K x, 0) ∧ In h x ∧ ∀ y, In h y → ltE K y x = false := by
  refine ⟨at_ h.A 0, ?_, ⟨0, h0, rfl⟩, ?_⟩
  · unfold minR; rw [if_neg (by omega)]; rfl
  · rintro y ⟨j, hj, rfl⟩
    exact (le_iff (w.lt 0 h0) (w.lt j hj)).1 (d.least j hj)
theorem Full.maxim {K : List K3} {h : HS} (w : WF K h) (d : Full K h) (h0 : 0 < h.A.length) : ∃ x, maxR K h = (x, key K x, 0) ∧ In h x ∧ ∀ y, In h y → ltE K x y = false := by
  refine ⟨at_ h.A (min 1 (h.A.length - 1)), ?_, ⟨_, by omega, rfl⟩, ?_⟩
  · unfold maxR; rw [if_neg (by omega)]; rfl
  · rintro y ⟨j, hj, rfl⟩
    exact (le_iff (w.lt j hj) (w.lt _ (by omega))).1 (d.most j hj)
theorem min_none {K : List K3} {h : HS} (h0 : h.A.length = 0) : minR K h = noAns := by unfold minR; rw [if_pos h0]
theorem max_none {K : List K3} {h : HS} (h0 : h.A.length = 0) : maxR K h = noAns := by unfold maxR; rw [if_pos h0]
theorem pop_none {K : List K3} {h : HS} : popH K h noAns = h := by unfold popH noAns; simp
theorem pop_some {K : List K3} {h : HS} {x : Nat} {k : K3} : popH K h (x, k, 0) = remH K h x := by unfold popH; simp
theorem In.none {h : HS} (h0 : h.A.length = 0) (x : Nat) : ¬ In h x := by rintro ⟨i, hi, _⟩; omega
theorem in_pos {h : HS} {x : Nat} (hx : In h x) : 0 < h.A.length := by obtain ⟨i, hi, _⟩ := hx; omega
/-- A heap in order, and who is in it. -/
structure Hp (K : List K3) (h : HS) : Prop where
  o : Okh K h
  d : Full K h
theorem Hp.h0 : Hp [] h0 := ⟨Okh.h0, Full.h0⟩
theorem Hp.ins {K : List K3} {h : HS} (p : Hp K h) (k : K3) (hlt : K.length < 1048576) : Hp (K ++ [k]) (insH K h k) := ⟨p.o.ins k hlt, p.d.ins p.o k hlt⟩
theorem Hp.rem {K : List K3} {h : HS} (p : Hp K h) (x : Int) : Hp K (remH K h x) := ⟨p.o.rem x, p.d.rem p.o x⟩
theorem Hp.pop {K : List K3} {h : HS} (p : Hp K h) (r : Nat × K3 × Int) : Hp K (popH K h r) := ⟨p.o.pop r, p.d.pop p.o r⟩
theorem Hp.upd {K : List K3} {h : HS} (p : Hp K h) (x : Int) (k : K3) : Hp (updK K h x k) (updH K h x k) := ⟨p.o.upd x k, p.d.upd p.o x k⟩
/-- Taking the least out. -/
theorem Hp.popMin {K : List K3} {h : HS} (p : Hp K h) (h0 : 0 < h.A.length) : ∃ x, minR K h = (x, key K x, 0) ∧ In h x ∧ (∀ y, In h y → ltE K y x = false) ∧ popH K h (minR K h) = remH K h x ∧ (∀ y, In (remH K h x) y ↔ In h y ∧ y ≠ x) ∧ (remH K h x).A.length = h.A.length - 1 := by
  obtain ⟨x, e, hx, hm⟩ := p.d.minim p.o.wf h0
  have hr := In.rem p.o hx
  exact ⟨x, e, hx, hm, by rw [e]; exact pop_some, hr.1, hr.2⟩
theorem Hp.popMax {K : List K3} {h : HS} (p : Hp K h) (h0 : 0 < h.A.length) : ∃ x, maxR K h = (x, key K x, 0) ∧ In h x ∧ (∀ y, In h y → ltE K x y = false) ∧ popH K h (maxR K h) = remH K h x ∧ (∀ y, In (remH K h x) y ↔ In h y ∧ y ≠ x) ∧ (remH K h x).A.length = h.A.length - 1 := by
  obtain ⟨x, e, hx, hm⟩ := p.d.maxim p.o.wf h0
  have hr := In.rem p.o hx
  exact ⟨x, e, hx, hm, by rw [e]; exact pop_some, hr.1, hr.2⟩
end Go.Proofs.Ytjgionnigenijaa
