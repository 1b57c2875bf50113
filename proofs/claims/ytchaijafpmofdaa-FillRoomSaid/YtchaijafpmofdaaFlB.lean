import Derived.Test.YtchaijafpmofdaaFlS
/-! slices.Compact of numbers, walked. -/
namespace Go.Proofs.Ytchaijafpmofdaa
open Go.Sl
set_option linter.unusedVariables false
set_option linter.unusedSimpArgs false
set_option maxRecDepth 100000
set_option maxHeartbeats 4000000

/-- The first k of zs rise and are what the first i of xs are. -/
structure Cpt (xs : List Int) (zs : List Int) (k i : Nat) : Prop where
  up : ∀ a b, a < b → b < k → gd zs a < gd zs b
  mem : ∀ t, (∃ j, j < k ∧ gd zs j = t) ↔ ∃ j, j < i ∧ gd xs j = t
  rest : ∀ j, i ≤ j + 1 → j < xs.length → gd zs j = gd xs j
  len : zs.length = xs.length
def sortd (xs : List Int) : Prop := ∀ a b, a < b → b < xs.length → gd xs a ≤ gd xs b
theorem Cpt.start {xs : List Int} {k : Nat} (hs : sortd xs) (hk : k < xs.length) (h0 : 0 < k) (hn : ∀ j, 0 < j → j < k → gd xs j ≠ gd xs (j - 1)) (he : gd xs k = gd xs (k - 1)) : Cpt xs xs k (k + 1) := by
  have up : ∀ b, b < k → ∀ a, a < b → gd xs a < gd xs b := by
    intro b
    induction b with
    | zero => intro _ a h; omega
    | succ b ih =>
      intro hb a ha
      have h1 := hn (b + 1) (by omega) hb
      have h2 := hs b (b + 1) (by omega) (by omega)
      rw [Nat.add_sub_cancel] at h1
      by_cases e : a = b
      · subst e; omega
      · have := ih (by omega) a (by omega); omega
  refine ⟨fun a b ha hb => up b hb a ha, fun t => ⟨fun ⟨j, hj, e⟩ => ⟨j, by omega, e⟩, fun ⟨j, hj, e⟩ => ?_⟩, fun _ _ _ => rfl, rfl⟩
  by_cases q : j = k
  · subst q; exact ⟨j - 1, by omega, by rw [← he]; exact e⟩
  · exact ⟨j, by omega, e⟩
theorem Cpt.same {xs zs : List Int} {k i : Nat} (h : Cpt xs zs k i) (h0 : 0 < i) (he : gd xs i = gd xs (i - 1)) : Cpt xs zs k (i + 1) := by
  refine ⟨h.up, fun t => (h.mem t).trans ⟨fun ⟨j, hj, e⟩ => ⟨j, by omega, e⟩, fun ⟨j, hj, e⟩ => ?_⟩, fun j q => h.rest j (by omega), h.len⟩
  by_cases q : j = i
  · subst q; exact ⟨j - 1, by omega, by rw [← he]; exact e⟩
  · exact ⟨j, by omega, e⟩
theorem Cpt.next {xs zs : List Int} {k i : Nat} (h : Cpt xs zs k i) (hs : sortd xs) (hi : i < xs.length) (hk : k < i) (he : gd xs i ≠ gd xs (i - 1)) : Cpt xs (zs.set k (gd xs i)) (k + 1) (i + 1) := by
  have hlt : ∀ j, j < i → gd xs j < gd xs i := by
    intro j hj
    have h2 := hs (i - 1) i (by omega) hi
    by_cases e : j = i - 1
    · subst e; omega
    · have := hs j (i - 1) (by omega) (by omega); omega
  have hkz : k < zs.length := by rw [h.len]; omega
  refine ⟨fun a b ha hb => ?_, fun t => ?_, fun j q hj => ?_, by rw [List.length_set]; exact h.len⟩
  · rw [gd_set hkz, gd_set hkz, if_neg (by omega)]
    by_cases e : b = k
    · rw [if_pos e]
      obtain ⟨j, hj, e2⟩ := (h.mem (gd zs a)).1 ⟨a, by omega, rfl⟩
      rw [← e2]; exact hlt j hj
    · rw [if_neg e]; exact h.up a b ha (by omega)
  · constructor
    · rintro ⟨j, hj, e⟩
      rw [gd_set hkz] at e
      by_cases q : j = k
      · rw [if_pos q] at e; exact ⟨i, by omega, e⟩
      · rw [if_neg q] at e
        obtain ⟨j2, hj2, e2⟩ := (h.mem t).1 ⟨j, by omega, e⟩
        exact ⟨j2, by omega, e2⟩
    · rintro ⟨j, hj, e⟩
      by_cases q : j = i
      · exact ⟨k, by omega, by rw [gd_set hkz, if_pos rfl, ← q]; exact e⟩
      · obtain ⟨j2, hj2, e2⟩ := (h.mem t).2 ⟨j, by omega, e⟩
        exact ⟨j2, by omega, by rw [gd_set hkz, if_neg (by omega)]; exact e2⟩
  · rw [gd_set hkz, if_neg (by omega)]
    exact h.rest j (by omega) hj
structure KS where
  k : Nat
  j : Nat
  Z : List Int
theorem compact_ct (g cap : Nat) (xs : List Int) (hn : xs.length ≤ 1000000) (hs : sortd xs) :
    Ctr Try.prog 37 #[.slice (some ⟨g, 0, none⟩) xs.length cap] [ERow 2 1 encZ (some ⟨g, 0, none⟩) xs.length cap xs]
      (fun v M' => ∃ ys : List Int, v = .slice (some ⟨g, 0, none⟩) ys.length cap ∧ M' = [ERow 2 1 encZ (some ⟨g, 0, none⟩) ys.length cap ys] ∧ (∀ a b, a < b → b < ys.length → gd ys a < gd ys b) ∧ (∀ t, t ∈ ys ↔ t ∈ xs) ∧ ys.length ≤ xs.length) := by
  refine Ctr.row (okf fn37) Take.here (fun rh => ?_)
  refine ctr_of (Γ := tab) (vs := [_]) fn37 rfl ?_
  have hcm := rh.le
  have hmx := rh.max
  by_cases h2 : xs.length < 2
  · repeat ((conv => whnf); (first | refine ztx ?_ | refine LNext.nilr ?_ | refine zne ?_ | refine zga ?_ | refine zxa ?_ | refine zca ?_ | refine zcb ?_ | refine zgb ?_ | refine zgc ?_ | refine zgd1 ?_ | refine zge ?_ | refine zgf ?_ | refine zgg ?_ | refine zgh ?_ | refine zgi ?_ | refine zgj ?_ | refine zgk ?_ | refine max2m ?_ | refine min2m ?_ | refine eqStr ?_ | refine neqStr ?_ | refine eqSlNil ?_ | refine neqSlNil ?_ | refine eqBool ?_ | refine neqBool ?_ | refine capSlice ?_ | refine zgl ?_ | refine zgm ?_ | refine zgn ?_ | refine zgo ?_ | refine zba ?_ | refine zbb ?_ | refine zbc ?_ | refine zbd ?_ | refine zbe ?_ | refine zbf ?_ | refine zia ?_ | refine zib ?_ | refine zic ?_ | refine zid1 ?_ | refine zie ?_ | refine zif1 ?_ | refine zig ?_ | refine zih ?_ | refine lint_u8_mod ?_ | refine lint_u32_mod ?_ | refine zii ?_ | refine zij ?_ | refine zua ?_ | refine zgs ?_ | refine zgu ?_ | refine eqMapNil ?_ | refine neqMapNil ?_ | refine LRes.mk ?_ | refine LIn.step ?_ | refine zdr ?_ | refine zna (fun _ => ?_) | refine znb (fun _ => ?_) | refine znc (fun _ => ?_) | refine newSlice0 (fun _ => ?_) | refine newMap (fun _ => ?_)))
    show Fin _ _ _; exact Fin.of [ERow 2 1 encZ (some ⟨g, 0, none⟩) xs.length cap xs] zEn ⟨xs, rfl, rfl, fun a b h q => by omega, fun t => Iff.rfl, Nat.le_refl _⟩
  repeat ((conv => whnf); (first | refine ztx ?_ | refine LNext.nilr ?_ | refine zne ?_ | refine zga ?_ | refine zxa ?_ | refine zca ?_ | refine zcb ?_ | refine zgb ?_ | refine zgc ?_ | refine zgd1 ?_ | refine zge ?_ | refine zgf ?_ | refine zgg ?_ | refine zgh ?_ | refine zgi ?_ | refine zgj ?_ | refine zgk ?_ | refine max2m ?_ | refine min2m ?_ | refine eqStr ?_ | refine neqStr ?_ | refine eqSlNil ?_ | refine neqSlNil ?_ | refine eqBool ?_ | refine neqBool ?_ | refine capSlice ?_ | refine zgl ?_ | refine zgm ?_ | refine zgn ?_ | refine zgo ?_ | refine zba ?_ | refine zbb ?_ | refine zbc ?_ | refine zbd ?_ | refine zbe ?_ | refine zbf ?_ | refine zia ?_ | refine zib ?_ | refine zic ?_ | refine zid1 ?_ | refine zie ?_ | refine zif1 ?_ | refine zig ?_ | refine zih ?_ | refine lint_u8_mod ?_ | refine lint_u32_mod ?_ | refine zii ?_ | refine zij ?_ | refine zua ?_ | refine zgs ?_ | refine zgu ?_ | refine eqMapNil ?_ | refine neqMapNil ?_ | refine LRes.mk ?_ | refine LIn.step ?_ | refine zdr ?_ | refine zna (fun _ => ?_) | refine znb (fun _ => ?_) | refine znc (fun _ => ?_) | refine newSlice0 (fun _ => ?_) | refine newMap (fun _ => ?_)))
  refine LLoop.inv (Γ := tab) (fun k : Nat => [(0, .slice (some ⟨g, 0, none⟩) xs.length cap), (3, .int .i64 k)]) (fun _ => [ERow 2 1 encZ (some ⟨g, 0, none⟩) xs.length cap xs])
    (fun k => 0 < k ∧ k ≤ xs.length ∧ ∀ j, 0 < j → j < k → gd xs j ≠ gd xs (j - 1)) (fun k => xs.length - k) 1 ⟨Nat.one_pos, by omega, fun j q1 q2 => by omega⟩ zSu zEn ?_
  rintro k ⟨h0, hk, hne⟩
  by_cases h1 : k < xs.length
  case neg =>
    have : k = xs.length := by omega
    subst this
    repeat ((conv => whnf); (first | refine ztx ?_ | refine LNext.nilr ?_ | refine zne ?_ | refine zga ?_ | refine zxa ?_ | refine zca ?_ | refine zcb ?_ | refine zgb ?_ | refine zgc ?_ | refine zgd1 ?_ | refine zge ?_ | refine zgf ?_ | refine zgg ?_ | refine zgh ?_ | refine zgi ?_ | refine zgj ?_ | refine zgk ?_ | refine max2m ?_ | refine min2m ?_ | refine eqStr ?_ | refine neqStr ?_ | refine eqSlNil ?_ | refine neqSlNil ?_ | refine eqBool ?_ | refine neqBool ?_ | refine capSlice ?_ | refine zgl ?_ | refine zgm ?_ | refine zgn ?_ | refine zgo ?_ | refine zba ?_ | refine zbb ?_ | refine zbc ?_ | refine zbd ?_ | refine zbe ?_ | refine zbf ?_ | refine zia ?_ | refine zib ?_ | refine zic ?_ | refine zid1 ?_ | refine zie ?_ | refine zif1 ?_ | refine zig ?_ | refine zih ?_ | refine lint_u8_mod ?_ | refine lint_u32_mod ?_ | refine zii ?_ | refine zij ?_ | refine zua ?_ | refine zgs ?_ | refine zgu ?_ | refine eqMapNil ?_ | refine neqMapNil ?_ | refine LRes.mk ?_ | refine LIn.step ?_ | refine zdr ?_ | refine zna (fun _ => ?_) | refine znb (fun _ => ?_) | refine znc (fun _ => ?_) | refine newSlice0 (fun _ => ?_) | refine newMap (fun _ => ?_)))
    refine Fin.of [ERow 2 1 encZ (some ⟨g, 0, none⟩) xs.length cap xs] zEn ⟨xs, rfl, rfl, fun a b h q => ?_, fun t => Iff.rfl, Nat.le_refl _⟩
    have hup : ∀ b, b < xs.length → ∀ a, a < b → gd xs a < gd xs b := by
      intro b
      induction b with
      | zero => intro _ a h; omega
      | succ b ih =>
        intro hb a ha
        have h1 := hne (b + 1) (by omega) hb
        have h2 := hs b (b + 1) (by omega) (by omega)
        rw [Nat.add_sub_cancel] at h1
        by_cases e : a = b
        · subst e; omega
        · have := ih (by omega) a (by omega); omega
    exact hup b q a h
  by_cases he : gd xs k = gd xs (k - 1)
  case neg =>
    repeat ((conv => whnf); (first | refine ztx ?_ | refine LNext.nilr ?_ | refine zne ?_ | refine zga ?_ | refine zxa ?_ | refine zca ?_ | refine zcb ?_ | refine zgb ?_ | refine zgc ?_ | refine zgd1 ?_ | refine zge ?_ | refine zgf ?_ | refine zgg ?_ | refine zgh ?_ | refine zgi ?_ | refine zgj ?_ | refine zgk ?_ | refine max2m ?_ | refine min2m ?_ | refine eqStr ?_ | refine neqStr ?_ | refine eqSlNil ?_ | refine neqSlNil ?_ | refine eqBool ?_ | refine neqBool ?_ | refine capSlice ?_ | refine zgl ?_ | refine zgm ?_ | refine zgn ?_ | refine zgo ?_ | refine zba ?_ | refine zbb ?_ | refine zbc ?_ | refine zbd ?_ | refine zbe ?_ | refine zbf ?_ | refine zia ?_ | refine zib ?_ | refine zic ?_ | refine zid1 ?_ | refine zie ?_ | refine zif1 ?_ | refine zig ?_ | refine zih ?_ | refine lint_u8_mod ?_ | refine lint_u32_mod ?_ | refine zii ?_ | refine zij ?_ | refine zua ?_ | refine zgs ?_ | refine zgu ?_ | refine eqMapNil ?_ | refine neqMapNil ?_ | refine LRes.mk ?_ | refine LIn.step ?_ | refine zdr ?_ | refine zna (fun _ => ?_) | refine znb (fun _ => ?_) | refine znc (fun _ => ?_) | refine newSlice0 (fun _ => ?_) | refine newMap (fun _ => ?_)))
    exact ⟨k + 1, ⟨by omega, h1, fun j q1 q2 => by by_cases e : j = k; exact e ▸ he; exact hne j q1 (by omega)⟩, by omega, zSu, zEn⟩
  have hst := Cpt.start hs h1 h0 hne he
  repeat ((conv => whnf); (first | refine ztx ?_ | refine LNext.nilr ?_ | refine zne ?_ | refine zga ?_ | refine zxa ?_ | refine zca ?_ | refine zcb ?_ | refine zgb ?_ | refine zgc ?_ | refine zgd1 ?_ | refine zge ?_ | refine zgf ?_ | refine zgg ?_ | refine zgh ?_ | refine zgi ?_ | refine zgj ?_ | refine zgk ?_ | refine max2m ?_ | refine min2m ?_ | refine eqStr ?_ | refine neqStr ?_ | refine eqSlNil ?_ | refine neqSlNil ?_ | refine eqBool ?_ | refine neqBool ?_ | refine capSlice ?_ | refine zgl ?_ | refine zgm ?_ | refine zgn ?_ | refine zgo ?_ | refine zba ?_ | refine zbb ?_ | refine zbc ?_ | refine zbd ?_ | refine zbe ?_ | refine zbf ?_ | refine zia ?_ | refine zib ?_ | refine zic ?_ | refine zid1 ?_ | refine zie ?_ | refine zif1 ?_ | refine zig ?_ | refine zih ?_ | refine lint_u8_mod ?_ | refine lint_u32_mod ?_ | refine zii ?_ | refine zij ?_ | refine zua ?_ | refine zgs ?_ | refine zgu ?_ | refine eqMapNil ?_ | refine neqMapNil ?_ | refine LRes.mk ?_ | refine LIn.step ?_ | refine zdr ?_ | refine zna (fun _ => ?_) | refine znb (fun _ => ?_) | refine znc (fun _ => ?_) | refine newSlice0 (fun _ => ?_) | refine newMap (fun _ => ?_)))
  refine sliceLo tab rfl rfl (by omega) ?_
  rw [if_neg (by omega)]
  repeat ((conv => whnf); (first | refine ztx ?_ | refine LNext.nilr ?_ | refine zne ?_ | refine zga ?_ | refine zxa ?_ | refine zca ?_ | refine zcb ?_ | refine zgb ?_ | refine zgc ?_ | refine zgd1 ?_ | refine zge ?_ | refine zgf ?_ | refine zgg ?_ | refine zgh ?_ | refine zgi ?_ | refine zgj ?_ | refine zgk ?_ | refine max2m ?_ | refine min2m ?_ | refine eqStr ?_ | refine neqStr ?_ | refine eqSlNil ?_ | refine neqSlNil ?_ | refine eqBool ?_ | refine neqBool ?_ | refine capSlice ?_ | refine zgl ?_ | refine zgm ?_ | refine zgn ?_ | refine zgo ?_ | refine zba ?_ | refine zbb ?_ | refine zbc ?_ | refine zbd ?_ | refine zbe ?_ | refine zbf ?_ | refine zia ?_ | refine zib ?_ | refine zic ?_ | refine zid1 ?_ | refine zie ?_ | refine zif1 ?_ | refine zig ?_ | refine zih ?_ | refine lint_u8_mod ?_ | refine lint_u32_mod ?_ | refine zii ?_ | refine zij ?_ | refine zua ?_ | refine zgs ?_ | refine zgu ?_ | refine eqMapNil ?_ | refine neqMapNil ?_ | refine LRes.mk ?_ | refine LIn.step ?_ | refine zdr ?_ | refine zna (fun _ => ?_) | refine znb (fun _ => ?_) | refine znc (fun _ => ?_) | refine newSlice0 (fun _ => ?_) | refine newMap (fun _ => ?_)))
  refine LLoop.inv (Γ := tab) (fun x : KS => [(0, .slice (some ⟨g, 0, none⟩) xs.length cap), (3, .int .i64 x.k), (4, .slice (some ⟨g, 0 + k * 1, none⟩) (xs.length - k) (cap - k)), (5, .int .i64 x.j)])
    (fun x => [ERow 2 1 encZ (some ⟨g, 0, none⟩) xs.length cap x.Z]) (fun x => 0 < x.j ∧ k + x.j ≤ xs.length ∧ x.k < k + x.j ∧ Cpt xs x.Z x.k (k + x.j)) (fun x => xs.length - x.j) ⟨k, 1, xs⟩ ⟨Nat.one_pos, by show k + 1 ≤ _; omega, by show k < k + 1; omega, hst⟩ zSu zEn ?_
  rintro ⟨m, j, Z⟩ ⟨q1, q2, q3, hc⟩
  dsimp only at q1 q2 q3 hc ⊢
  have hZ := hc.len
  by_cases h3 : k + j < xs.length
  · have l : Lies [ERow 2 1 encZ (some ⟨g, 0, none⟩) xs.length cap Z] g (0 + k * 1) 1 encZ (Z.drop k) := (Lies.erow (by intro _; rfl)).drop k
    have hdl : (Z.drop k).length = xs.length - k := by rw [List.length_drop, hZ]
    have hj : j < (Z.drop k).length := by omega
    have hj' : j - 1 < (Z.drop k).length := by omega
    have e1 : gd (Z.drop k) j = gd xs (k + j) := by rw [← hc.rest (k + j) (by omega) h3]; simp [gd]
    have e2 : gd (Z.drop k) (j - 1) = gd xs (k + j - 1) := by rw [← hc.rest (k + j - 1) (by omega) (by omega)]; simp only [gd, List.getElem?_drop, List.getD_eq_getElem?_getD, show k + (j - 1) = k + j - 1 by omega]
    by_cases h4 : gd (Z.drop k) j = gd (Z.drop k) (j - 1)
    · rw [← hdl]
      repeat ((conv => whnf); (first | refine ztx ?_ | refine LNext.nilr ?_ | refine zne ?_ | refine zga ?_ | refine zxa ?_ | refine zca ?_ | refine zcb ?_ | refine zgb ?_ | refine zgc ?_ | refine zgd1 ?_ | refine zge ?_ | refine zgf ?_ | refine zgg ?_ | refine zgh ?_ | refine zgi ?_ | refine zgj ?_ | refine zgk ?_ | refine max2m ?_ | refine min2m ?_ | refine eqStr ?_ | refine neqStr ?_ | refine eqSlNil ?_ | refine neqSlNil ?_ | refine eqBool ?_ | refine neqBool ?_ | refine capSlice ?_ | refine zgl ?_ | refine zgm ?_ | refine zgn ?_ | refine zgo ?_ | refine zba ?_ | refine zbb ?_ | refine zbc ?_ | refine zbd ?_ | refine zbe ?_ | refine zbf ?_ | refine zia ?_ | refine zib ?_ | refine zic ?_ | refine zid1 ?_ | refine zie ?_ | refine zif1 ?_ | refine zig ?_ | refine zih ?_ | refine lint_u8_mod ?_ | refine lint_u32_mod ?_ | refine zii ?_ | refine zij ?_ | refine zua ?_ | refine zgs ?_ | refine zgu ?_ | refine eqMapNil ?_ | refine neqMapNil ?_ | refine LRes.mk ?_ | refine LIn.step ?_ | refine zdr ?_ | refine zna (fun _ => ?_) | refine znb (fun _ => ?_) | refine znc (fun _ => ?_) | refine newSlice0 (fun _ => ?_) | refine newMap (fun _ => ?_)))
      exact ⟨⟨m, j + 1, Z⟩, ⟨by show 0 < j + 1; omega, h3, by show m < k + (j + 1); omega, hc.same (by omega) (by rw [← e1, ← e2]; exact h4)⟩, by show xs.length - (j + 1) < xs.length - j; omega, zSu, zEn⟩
    · rw [← hdl]
      repeat ((conv => whnf); (first | refine ztx ?_ | refine LNext.nilr ?_ | refine zne ?_ | refine zga ?_ | refine zxa ?_ | refine zca ?_ | refine zcb ?_ | refine zgb ?_ | refine zgc ?_ | refine zgd1 ?_ | refine zge ?_ | refine zgf ?_ | refine zgg ?_ | refine zgh ?_ | refine zgi ?_ | refine zgj ?_ | refine zgk ?_ | refine max2m ?_ | refine min2m ?_ | refine eqStr ?_ | refine neqStr ?_ | refine eqSlNil ?_ | refine neqSlNil ?_ | refine eqBool ?_ | refine neqBool ?_ | refine capSlice ?_ | refine zgl ?_ | refine zgm ?_ | refine zgn ?_ | refine zgo ?_ | refine zba ?_ | refine zbb ?_ | refine zbc ?_ | refine zbd ?_ | refine zbe ?_ | refine zbf ?_ | refine zia ?_ | refine zib ?_ | refine zic ?_ | refine zid1 ?_ | refine zie ?_ | refine zif1 ?_ | refine zig ?_ | refine zih ?_ | refine lint_u8_mod ?_ | refine lint_u32_mod ?_ | refine zii ?_ | refine zij ?_ | refine zua ?_ | refine zgs ?_ | refine zgu ?_ | refine eqMapNil ?_ | refine neqMapNil ?_ | refine LRes.mk ?_ | refine LIn.step ?_ | refine zdr ?_ | refine zna (fun _ => ?_) | refine znb (fun _ => ?_) | refine znc (fun _ => ?_) | refine newSlice0 (fun _ => ?_) | refine newMap (fun _ => ?_)))
      refine storeE tab (gd (Z.drop k) j) zTk (by intro _; rfl) rfl (by first | exact Nat.zero_add _ | rfl | omega | simp) zOm (by rfl) (by rfl) ?_
      repeat ((conv => whnf); (first | refine ztx ?_ | refine LNext.nilr ?_ | refine zne ?_ | refine zga ?_ | refine zxa ?_ | refine zca ?_ | refine zcb ?_ | refine zgb ?_ | refine zgc ?_ | refine zgd1 ?_ | refine zge ?_ | refine zgf ?_ | refine zgg ?_ | refine zgh ?_ | refine zgi ?_ | refine zgj ?_ | refine zgk ?_ | refine max2m ?_ | refine min2m ?_ | refine eqStr ?_ | refine neqStr ?_ | refine eqSlNil ?_ | refine neqSlNil ?_ | refine eqBool ?_ | refine neqBool ?_ | refine capSlice ?_ | refine zgl ?_ | refine zgm ?_ | refine zgn ?_ | refine zgo ?_ | refine zba ?_ | refine zbb ?_ | refine zbc ?_ | refine zbd ?_ | refine zbe ?_ | refine zbf ?_ | refine zia ?_ | refine zib ?_ | refine zic ?_ | refine zid1 ?_ | refine zie ?_ | refine zif1 ?_ | refine zig ?_ | refine zih ?_ | refine lint_u8_mod ?_ | refine lint_u32_mod ?_ | refine zii ?_ | refine zij ?_ | refine zua ?_ | refine zgs ?_ | refine zgu ?_ | refine eqMapNil ?_ | refine neqMapNil ?_ | refine LRes.mk ?_ | refine LIn.step ?_ | refine zdr ?_ | refine zna (fun _ => ?_) | refine znb (fun _ => ?_) | refine znc (fun _ => ?_) | refine newSlice0 (fun _ => ?_) | refine newMap (fun _ => ?_)))
      exact ⟨⟨m + 1, j + 1, Z.set m (gd (Z.drop k) j)⟩, ⟨by show 0 < j + 1; omega, h3, by show m + 1 < k + (j + 1); omega, by
        show Cpt xs (Z.set m (gd (Z.drop k) j)) (m + 1) (k + j + 1)
        rw [e1]
        exact hc.next hs h3 q3 (by rw [← e1, ← e2]; exact h4)⟩, by show xs.length - (j + 1) < xs.length - j; omega, zSu, zEn⟩
  · have hjl : xs.length - k = j := by omega
    have hend : k + j = xs.length := by omega
    rw [hend] at hc
    repeat ((conv => whnf); (first | refine ztx ?_ | refine LNext.nilr ?_ | refine zne ?_ | refine zga ?_ | refine zxa ?_ | refine zca ?_ | refine zcb ?_ | refine zgb ?_ | refine zgc ?_ | refine zgd1 ?_ | refine zge ?_ | refine zgf ?_ | refine zgg ?_ | refine zgh ?_ | refine zgi ?_ | refine zgj ?_ | refine zgk ?_ | refine max2m ?_ | refine min2m ?_ | refine eqStr ?_ | refine neqStr ?_ | refine eqSlNil ?_ | refine neqSlNil ?_ | refine eqBool ?_ | refine neqBool ?_ | refine capSlice ?_ | refine zgl ?_ | refine zgm ?_ | refine zgn ?_ | refine zgo ?_ | refine zba ?_ | refine zbb ?_ | refine zbc ?_ | refine zbd ?_ | refine zbe ?_ | refine zbf ?_ | refine zia ?_ | refine zib ?_ | refine zic ?_ | refine zid1 ?_ | refine zie ?_ | refine zif1 ?_ | refine zig ?_ | refine zih ?_ | refine lint_u8_mod ?_ | refine lint_u32_mod ?_ | refine zii ?_ | refine zij ?_ | refine zua ?_ | refine zgs ?_ | refine zgu ?_ | refine eqMapNil ?_ | refine neqMapNil ?_ | refine LRes.mk ?_ | refine LIn.step ?_ | refine zdr ?_ | refine zna (fun _ => ?_) | refine znb (fun _ => ?_) | refine znc (fun _ => ?_) | refine newSlice0 (fun _ => ?_) | refine newMap (fun _ => ?_)))
    refine sliceLo tab rfl rfl (by omega) ?_
    repeat ((conv => whnf); (first | refine ztx ?_ | refine LNext.nilr ?_ | refine zne ?_ | refine zga ?_ | refine zxa ?_ | refine zca ?_ | refine zcb ?_ | refine zgb ?_ | refine zgc ?_ | refine zgd1 ?_ | refine zge ?_ | refine zgf ?_ | refine zgg ?_ | refine zgh ?_ | refine zgi ?_ | refine zgj ?_ | refine zgk ?_ | refine max2m ?_ | refine min2m ?_ | refine eqStr ?_ | refine neqStr ?_ | refine eqSlNil ?_ | refine neqSlNil ?_ | refine eqBool ?_ | refine neqBool ?_ | refine capSlice ?_ | refine zgl ?_ | refine zgm ?_ | refine zgn ?_ | refine zgo ?_ | refine zba ?_ | refine zbb ?_ | refine zbc ?_ | refine zbd ?_ | refine zbe ?_ | refine zbf ?_ | refine zia ?_ | refine zib ?_ | refine zic ?_ | refine zid1 ?_ | refine zie ?_ | refine zif1 ?_ | refine zig ?_ | refine zih ?_ | refine lint_u8_mod ?_ | refine lint_u32_mod ?_ | refine zii ?_ | refine zij ?_ | refine zua ?_ | refine zgs ?_ | refine zgu ?_ | refine eqMapNil ?_ | refine neqMapNil ?_ | refine LRes.mk ?_ | refine LIn.step ?_ | refine zdr ?_ | refine zna (fun _ => ?_) | refine znb (fun _ => ?_) | refine znc (fun _ => ?_) | refine newSlice0 (fun _ => ?_) | refine newMap (fun _ => ?_)))
    refine clearW tab (enc := encZ) (i := m) (0 : Int) zTk (by intro _; rfl) rfl rfl rfl (by by_cases e : cap = m; exact .inl (by omega); exact .inr (by rw [if_neg e]; omega)) (by omega) rfl (by rfl) ?_
    repeat ((conv => whnf); (first | refine ztx ?_ | refine LNext.nilr ?_ | refine zne ?_ | refine zga ?_ | refine zxa ?_ | refine zca ?_ | refine zcb ?_ | refine zgb ?_ | refine zgc ?_ | refine zgd1 ?_ | refine zge ?_ | refine zgf ?_ | refine zgg ?_ | refine zgh ?_ | refine zgi ?_ | refine zgj ?_ | refine zgk ?_ | refine max2m ?_ | refine min2m ?_ | refine eqStr ?_ | refine neqStr ?_ | refine eqSlNil ?_ | refine neqSlNil ?_ | refine eqBool ?_ | refine neqBool ?_ | refine capSlice ?_ | refine zgl ?_ | refine zgm ?_ | refine zgn ?_ | refine zgo ?_ | refine zba ?_ | refine zbb ?_ | refine zbc ?_ | refine zbd ?_ | refine zbe ?_ | refine zbf ?_ | refine zia ?_ | refine zib ?_ | refine zic ?_ | refine zid1 ?_ | refine zie ?_ | refine zif1 ?_ | refine zig ?_ | refine zih ?_ | refine lint_u8_mod ?_ | refine lint_u32_mod ?_ | refine zii ?_ | refine zij ?_ | refine zua ?_ | refine zgs ?_ | refine zgu ?_ | refine eqMapNil ?_ | refine neqMapNil ?_ | refine LRes.mk ?_ | refine LIn.step ?_ | refine zdr ?_ | refine zna (fun _ => ?_) | refine znb (fun _ => ?_) | refine znc (fun _ => ?_) | refine newSlice0 (fun _ => ?_) | refine newMap (fun _ => ?_)))
    refine sliceHi tab rfl rfl (fun _ _ => by omega) ?_
    repeat ((conv => whnf); (first | refine ztx ?_ | refine LNext.nilr ?_ | refine zne ?_ | refine zga ?_ | refine zxa ?_ | refine zca ?_ | refine zcb ?_ | refine zgb ?_ | refine zgc ?_ | refine zgd1 ?_ | refine zge ?_ | refine zgf ?_ | refine zgg ?_ | refine zgh ?_ | refine zgi ?_ | refine zgj ?_ | refine zgk ?_ | refine max2m ?_ | refine min2m ?_ | refine eqStr ?_ | refine neqStr ?_ | refine eqSlNil ?_ | refine neqSlNil ?_ | refine eqBool ?_ | refine neqBool ?_ | refine capSlice ?_ | refine zgl ?_ | refine zgm ?_ | refine zgn ?_ | refine zgo ?_ | refine zba ?_ | refine zbb ?_ | refine zbc ?_ | refine zbd ?_ | refine zbe ?_ | refine zbf ?_ | refine zia ?_ | refine zib ?_ | refine zic ?_ | refine zid1 ?_ | refine zie ?_ | refine zif1 ?_ | refine zig ?_ | refine zih ?_ | refine lint_u8_mod ?_ | refine lint_u32_mod ?_ | refine zii ?_ | refine zij ?_ | refine zua ?_ | refine zgs ?_ | refine zgu ?_ | refine eqMapNil ?_ | refine neqMapNil ?_ | refine LRes.mk ?_ | refine LIn.step ?_ | refine zdr ?_ | refine zna (fun _ => ?_) | refine znb (fun _ => ?_) | refine znc (fun _ => ?_) | refine newSlice0 (fun _ => ?_) | refine newMap (fun _ => ?_)))
    have e7 : (Z.take m ++ List.replicate (xs.length - m) (0 : Int) ++ Z.drop (m + (xs.length - m))).take m = Z.take m := by
      rw [List.append_assoc, List.take_left' (by rw [List.length_take]; omega)]
    have hyl : (Z.take m).length = m := by rw [List.length_take]; omega
    refine Fin.of [ERow 2 1 encZ (some ⟨g, 0, none⟩) m cap (Z.take m)] ?_ ⟨Z.take m, by rw [hyl], by rw [hyl], fun a b ha hb => ?_, fun t => ?_, by omega⟩
    · have hshr : Ent [ERow 2 1 encZ (some ⟨g, 0, none⟩) xs.length cap (Z.take m ++ List.replicate (xs.length - m) (0 : Int) ++ Z.drop (m + (xs.length - m)))] [ERow 2 1 encZ (some ⟨g, 0, none⟩) m cap ((Z.take m ++ List.replicate (xs.length - m) (0 : Int) ++ Z.drop (m + (xs.length - m))).take m)] := ERow.shrink (by intro _; rfl) (by omega)
      rw [e7] at hshr
      exact Ent.trans zEn hshr
    · rw [hyl] at hb
      rw [gd_take_lt (by omega), gd_take_lt hb]
      exact hc.up a b ha hb
    · constructor
      · intro ht
        obtain ⟨j2, hj2, e⟩ := mem_gd ht
        rw [hyl] at hj2
        rw [gd_take_lt hj2] at e
        obtain ⟨j3, hj3, e3⟩ := (hc.mem t).1 ⟨j2, hj2, e⟩
        rw [← e3]; exact gd_mem hj3
      · intro ht
        obtain ⟨j2, hj2, e⟩ := mem_gd ht
        obtain ⟨j3, hj3, e3⟩ := (hc.mem t).2 ⟨j2, hj2, e⟩
        rw [← e3, ← gd_take_lt (k := m) hj3]
        exact gd_mem (by rw [hyl]; exact hj3)
end Go.Proofs.Ytchaijafpmofdaa
