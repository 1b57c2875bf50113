import Derived.Test.YtkfebhogimmoeaaRp11
/-! The ticks at which takes begin and end. -/
namespace Go.Proofs.Ytkfebhogimmoeaa
open Go.Sl
set_option linter.unusedVariables false
set_option linter.unusedSimpArgs false
set_option maxRecDepth 100000
set_option maxHeartbeats 4000000

def encI (n : Int) : List Value := [.int .i64 n]
/-- The tick of the number i: a take's beginning, or its end. -/
def tick (W : List TkT) (i : Nat) : Int := if i % 2 = 1 then (gd W (i / 2)).2.1 else (gd W (i / 2)).1
/-- Rising, and just the first n ticks. -/
structure Ends (W : List TkT) (n : Nat) (E : List Int) : Prop where
  up : ∀ i j, i < j → j < E.length → gd E i < gd E j
  mem : ∀ t, t ∈ E ↔ ∃ i, i < n ∧ tick W i = t
  len : E.length ≤ n
theorem Ends.same {W : List TkT} {i : Nat} {E : List Int} (h : Ends W i E) {k : Nat} (hk : k < E.length) (e : gd E k = tick W i) : Ends W (i + 1) E :=
  ⟨h.up, fun t => by
    rw [h.mem]
    constructor
    · rintro ⟨j, hj, q⟩; exact ⟨j, by omega, q⟩
    · rintro ⟨j, hj, q⟩
      by_cases c : j = i
      · subst c
        have := (h.mem (gd E k)).1 (gd_mem hk)
        rw [e, q] at this; exact this
      · exact ⟨j, by omega, q⟩, by have := h.len; omega⟩
theorem insG {E : List Int} {k : Nat} {x : Int} (hk : k ≤ E.length) {y : Nat} (hy : y < E.length + 1) : gd (E.take k ++ x :: E.drop k) y = if y < k then gd E y else if y = k then x else gd E (y - 1) := by
  by_cases c : y < k
  · rw [gd_app_left (by rw [List.length_take]; omega), gd_take_lt c, if_pos c]
  · have ht : (E.take k).length = k := by rw [List.length_take]; omega
    rw [gd_app_right (by omega), ht, if_neg c]
    by_cases c2 : y = k
    · subst c2; rw [Nat.sub_self, if_pos rfl]; rfl
    · rw [if_neg c2]
      obtain ⟨z, hz⟩ : ∃ z, y - k = z + 1 := ⟨y - k - 1, by omega⟩
      rw [hz]
      show gd (E.drop k) z = _
      rw [gd_drop_add]
      congr 1; omega
theorem Ends.ins {W : List TkT} {i : Nat} {E : List Int} (h : Ends W i E) {k : Nat} (hk : k ≤ E.length) (h1 : ∀ y, y < k → gd E y < tick W i) (h2 : ∀ y, k ≤ y → y < E.length → tick W i < gd E y) : Ends W (i + 1) (E.take k ++ tick W i :: E.drop k) := by
  have hl : (E.take k ++ tick W i :: E.drop k).length = E.length + 1 := by simp; omega
  have hg : ∀ y, y < E.length + 1 → gd (E.take k ++ tick W i :: E.drop k) y = if y < k then gd E y else if y = k then tick W i else gd E (y - 1) := by
    intro y hy
    by_cases c : y < k
    · rw [gd_app_left (by rw [List.length_take]; omega), gd_take_lt c, if_pos c]
    · have ht : (E.take k).length = k := by rw [List.length_take]; omega
      rw [gd_app_right (by omega), ht, if_neg c]
      by_cases c2 : y = k
      · subst c2; rw [Nat.sub_self, if_pos rfl]; rfl
      · rw [if_neg c2]
        obtain ⟨z, hz⟩ : ∃ z, y - k = z + 1 := ⟨y - k - 1, by omega⟩
        rw [hz]
        show gd (E.drop k) z = _
        rw [gd_drop_add]
        congr 1; omega
  refine ⟨fun a b hab hb => ?_, fun t => ?_, by have := h.len; omega⟩
  · rw [hl] at hb
    rw [hg a (by omega), hg b hb]
    by_cases a1 : a < k
    · rw [if_pos a1]
      by_cases b1 : b < k
      · rw [if_pos b1]; exact h.up a b hab (by omega)
      · rw [if_neg b1]
        by_cases b2 : b = k
        · rw [if_pos b2]; exact h1 a a1
        · rw [if_neg b2]; exact h.up a (b - 1) (by omega) (by omega)
    · rw [if_neg a1, if_neg (show ¬ b < k by omega), if_neg (show ¬ b = k by omega)]
      by_cases a2 : a = k
      · rw [if_pos a2]; exact h2 (b - 1) (by omega) (by omega)
      · rw [if_neg a2]; exact h.up (a - 1) (b - 1) (by omega) (by omega)
  · have : t ∈ E.take k ++ tick W i :: E.drop k ↔ t ∈ E ∨ t = tick W i := by
      conv => rhs; rw [← List.take_append_drop k E]
      simp only [List.mem_append, List.mem_cons]
      constructor
      · rintro (q | q | q)
        · exact .inl (.inl q)
        · exact .inr q
        · exact .inl (.inr q)
      · rintro ((q | q) | q)
        · exact .inl q
        · exact .inr (.inr q)
        · exact .inr (.inl q)
    rw [this, h.mem]
    constructor
    · rintro (⟨j, hj, q⟩ | q)
      · exact ⟨j, by omega, q⟩
      · exact ⟨i, by omega, q.symm⟩
    · rintro ⟨j, hj, q⟩
      by_cases c : j = i
      · subst c; exact .inr q.symm
      · exact .inl ⟨j, by omega, q⟩
structure ES where
  i : Nat
  a : Option Addr
  c : Nat
  E : List Int
theorem rEnds_ct (M : List As) (wb : Nat) (c : V4) (a : Option Addr) (cap : Nat) (W : List TkT) (hn : W.length ≤ 5000) :
    Ctr Try.prog 33 #[.pointer (some ⟨wb, 0, none⟩)] (RT wb c a W.length cap :: ERow 74 6 encTk a W.length cap W :: M)
      (fun v M' => ∃ E a' cap', Ends W (2 * W.length) E ∧ v = .slice a' E.length cap' ∧ M' = ERow 2 1 encI a' E.length cap' E :: RT wb c a W.length cap :: ERow 74 6 encTk a W.length cap W :: M) := by
  refine Ctr.row (okf fn33) (Take.there Take.here) (fun rh => ?_)
  refine ctr_of (Γ := tab) (vs := [_]) fn33 rfl ?_
  repeat ((conv => whnf); (first | refine ztx ?_ | refine LNext.nilr ?_ | refine zne ?_ | refine zga ?_ | refine zxa ?_ | refine zca ?_ | refine zcb ?_ | refine zgb ?_ | refine zgc ?_ | refine zgd1 ?_ | refine zge ?_ | refine zgf ?_ | refine zgg ?_ | refine zgh ?_ | refine zgi ?_ | refine zgj ?_ | refine zgk ?_ | refine max2m ?_ | refine min2m ?_ | refine eqStr ?_ | refine neqStr ?_ | refine eqSlNil ?_ | refine neqSlNil ?_ | refine eqBool ?_ | refine neqBool ?_ | refine capSlice ?_ | refine zgl ?_ | refine zgm ?_ | refine zgn ?_ | refine zgo ?_ | refine zba ?_ | refine zbb ?_ | refine zbc ?_ | refine zbd ?_ | refine zbe ?_ | refine zbf ?_ | refine zia ?_ | refine zib ?_ | refine zic ?_ | refine zid1 ?_ | refine zie ?_ | refine zif1 ?_ | refine zig ?_ | refine zih ?_ | refine lint_u8_mod ?_ | refine lint_u32_mod ?_ | refine zii ?_ | refine zij ?_ | refine zua ?_ | refine LRes.mk ?_ | refine LIn.step ?_ | refine zdr ?_ | refine zna (fun _ => ?_) | refine znb (fun _ => ?_) | refine znc (fun _ => ?_) | refine newSlice0 (fun _ => ?_) | refine newMap (fun _ => ?_)))
  refine LLoop.inv (Γ := tab) (fun x : ES => [(0, .pointer (some ⟨wb, 0, none⟩)), (3, .slice x.a x.E.length x.c), (4, .int .i64 x.i)])
    (fun x => ERow 2 1 encI x.a x.E.length x.c x.E :: RT wb c a W.length cap :: ERow 74 6 encTk a W.length cap W :: M)
    (fun x => x.i ≤ 2 * W.length ∧ Ends W x.i x.E) (fun x => 2 * W.length - x.i) ⟨0, none, 0, []⟩ ⟨Nat.zero_le _, fun i j _ h => (by simp at h), fun t => ⟨fun h => (by simp at h), fun ⟨i, h, _⟩ => absurd h (Nat.not_lt_zero _)⟩, Nat.le_refl _⟩ zSu ent_e0 ?_
  rintro ⟨i, ea, ec, E⟩ ⟨hi, he⟩
  dsimp only at hi he ⊢
  by_cases h1 : i < 2 * W.length
  · obtain ⟨g0, rfl⟩ := rh.ad (by omega)
    have hi2 : i / 2 < W.length := by omega
    have hp : i % 2 = 1 ∧ tick W i = (gd W (i / 2)).2.1 ∨ ¬ i % 2 = 1 ∧ tick W i = (gd W (i / 2)).1 := by
      unfold tick
      by_cases q : i % 2 = 1
      · exact .inl ⟨q, by rw [if_pos q]⟩
      · exact .inr ⟨q, by rw [if_neg q]⟩
    rcases hp with ⟨hpar, ht⟩ | ⟨hpar, ht⟩
    have hp1 : ((i % 2 : Nat) : Int) = 1 := by omega
    repeat ((conv => whnf); (first | refine ztx ?_ | refine LNext.nilr ?_ | refine zne ?_ | refine zga ?_ | refine zxa ?_ | refine zca ?_ | refine zcb ?_ | refine zgb ?_ | refine zgc ?_ | refine zgd1 ?_ | refine zge ?_ | refine zgf ?_ | refine zgg ?_ | refine zgh ?_ | refine zgi ?_ | refine zgj ?_ | refine zgk ?_ | refine max2m ?_ | refine min2m ?_ | refine eqStr ?_ | refine neqStr ?_ | refine eqSlNil ?_ | refine neqSlNil ?_ | refine eqBool ?_ | refine neqBool ?_ | refine capSlice ?_ | refine zgl ?_ | refine zgm ?_ | refine zgn ?_ | refine zgo ?_ | refine zba ?_ | refine zbb ?_ | refine zbc ?_ | refine zbd ?_ | refine zbe ?_ | refine zbf ?_ | refine zia ?_ | refine zib ?_ | refine zic ?_ | refine zid1 ?_ | refine zie ?_ | refine zif1 ?_ | refine zig ?_ | refine zih ?_ | refine lint_u8_mod ?_ | refine lint_u32_mod ?_ | refine zii ?_ | refine zij ?_ | refine zua ?_ | refine LRes.mk ?_ | refine LIn.step ?_ | refine zdr ?_ | refine zna (fun _ => ?_) | refine znb (fun _ => ?_) | refine znc (fun _ => ?_) | refine newSlice0 (fun _ => ?_) | refine newMap (fun _ => ?_)))
    refine ldiv (i / 2) (by decide) (by first | rfl | exact tdiv_nat _ _ | omega) (by omega) ?_
    repeat ((conv => whnf); (first | refine ztx ?_ | refine LNext.nilr ?_ | refine zne ?_ | refine zga ?_ | refine zxa ?_ | refine zca ?_ | refine zcb ?_ | refine zgb ?_ | refine zgc ?_ | refine zgd1 ?_ | refine zge ?_ | refine zgf ?_ | refine zgg ?_ | refine zgh ?_ | refine zgi ?_ | refine zgj ?_ | refine zgk ?_ | refine max2m ?_ | refine min2m ?_ | refine eqStr ?_ | refine neqStr ?_ | refine eqSlNil ?_ | refine neqSlNil ?_ | refine eqBool ?_ | refine neqBool ?_ | refine capSlice ?_ | refine zgl ?_ | refine zgm ?_ | refine zgn ?_ | refine zgo ?_ | refine zba ?_ | refine zbb ?_ | refine zbc ?_ | refine zbd ?_ | refine zbe ?_ | refine zbf ?_ | refine zia ?_ | refine zib ?_ | refine zic ?_ | refine zid1 ?_ | refine zie ?_ | refine zif1 ?_ | refine zig ?_ | refine zih ?_ | refine lint_u8_mod ?_ | refine lint_u32_mod ?_ | refine zii ?_ | refine zij ?_ | refine zua ?_ | refine LRes.mk ?_ | refine LIn.step ?_ | refine zdr ?_ | refine zna (fun _ => ?_) | refine znb (fun _ => ?_) | refine znc (fun _ => ?_) | refine newSlice0 (fun _ => ?_) | refine newMap (fun _ => ?_)))
    refine lmod_nn (a := i) (b := 2) (by decide) ?_
    rw [hp1]
    repeat ((conv => whnf); (first | refine ztx ?_ | refine LNext.nilr ?_ | refine zne ?_ | refine zga ?_ | refine zxa ?_ | refine zca ?_ | refine zcb ?_ | refine zgb ?_ | refine zgc ?_ | refine zgd1 ?_ | refine zge ?_ | refine zgf ?_ | refine zgg ?_ | refine zgh ?_ | refine zgi ?_ | refine zgj ?_ | refine zgk ?_ | refine max2m ?_ | refine min2m ?_ | refine eqStr ?_ | refine neqStr ?_ | refine eqSlNil ?_ | refine neqSlNil ?_ | refine eqBool ?_ | refine neqBool ?_ | refine capSlice ?_ | refine zgl ?_ | refine zgm ?_ | refine zgn ?_ | refine zgo ?_ | refine zba ?_ | refine zbb ?_ | refine zbc ?_ | refine zbd ?_ | refine zbe ?_ | refine zbf ?_ | refine zia ?_ | refine zib ?_ | refine zic ?_ | refine zid1 ?_ | refine zie ?_ | refine zif1 ?_ | refine zig ?_ | refine zih ?_ | refine lint_u8_mod ?_ | refine lint_u32_mod ?_ | refine zii ?_ | refine zij ?_ | refine zua ?_ | refine LRes.mk ?_ | refine LIn.step ?_ | refine zdr ?_ | refine zna (fun _ => ?_) | refine znb (fun _ => ?_) | refine znc (fun _ => ?_) | refine newSlice0 (fun _ => ?_) | refine newMap (fun _ => ?_)))
    refine ldiv (i / 2) (by decide) (by first | rfl | exact tdiv_nat _ _ | omega) (by omega) ?_
    repeat ((conv => whnf); (first | refine ztx ?_ | refine LNext.nilr ?_ | refine zne ?_ | refine zga ?_ | refine zxa ?_ | refine zca ?_ | refine zcb ?_ | refine zgb ?_ | refine zgc ?_ | refine zgd1 ?_ | refine zge ?_ | refine zgf ?_ | refine zgg ?_ | refine zgh ?_ | refine zgi ?_ | refine zgj ?_ | refine zgk ?_ | refine max2m ?_ | refine min2m ?_ | refine eqStr ?_ | refine neqStr ?_ | refine eqSlNil ?_ | refine neqSlNil ?_ | refine eqBool ?_ | refine neqBool ?_ | refine capSlice ?_ | refine zgl ?_ | refine zgm ?_ | refine zgn ?_ | refine zgo ?_ | refine zba ?_ | refine zbb ?_ | refine zbc ?_ | refine zbd ?_ | refine zbe ?_ | refine zbf ?_ | refine zia ?_ | refine zib ?_ | refine zic ?_ | refine zid1 ?_ | refine zie ?_ | refine zif1 ?_ | refine zig ?_ | refine zih ?_ | refine lint_u8_mod ?_ | refine lint_u32_mod ?_ | refine zii ?_ | refine zij ?_ | refine zua ?_ | refine LRes.mk ?_ | refine LIn.step ?_ | refine zdr ?_ | refine zna (fun _ => ?_) | refine znb (fun _ => ?_) | refine znc (fun _ => ?_) | refine newSlice0 (fun _ => ?_) | refine newMap (fun _ => ?_)))
    rw [← ht]
    rotate_left
    have hp1 : ((i % 2 : Nat) : Int) = 0 := by omega
    repeat ((conv => whnf); (first | refine ztx ?_ | refine LNext.nilr ?_ | refine zne ?_ | refine zga ?_ | refine zxa ?_ | refine zca ?_ | refine zcb ?_ | refine zgb ?_ | refine zgc ?_ | refine zgd1 ?_ | refine zge ?_ | refine zgf ?_ | refine zgg ?_ | refine zgh ?_ | refine zgi ?_ | refine zgj ?_ | refine zgk ?_ | refine max2m ?_ | refine min2m ?_ | refine eqStr ?_ | refine neqStr ?_ | refine eqSlNil ?_ | refine neqSlNil ?_ | refine eqBool ?_ | refine neqBool ?_ | refine capSlice ?_ | refine zgl ?_ | refine zgm ?_ | refine zgn ?_ | refine zgo ?_ | refine zba ?_ | refine zbb ?_ | refine zbc ?_ | refine zbd ?_ | refine zbe ?_ | refine zbf ?_ | refine zia ?_ | refine zib ?_ | refine zic ?_ | refine zid1 ?_ | refine zie ?_ | refine zif1 ?_ | refine zig ?_ | refine zih ?_ | refine lint_u8_mod ?_ | refine lint_u32_mod ?_ | refine zii ?_ | refine zij ?_ | refine zua ?_ | refine LRes.mk ?_ | refine LIn.step ?_ | refine zdr ?_ | refine zna (fun _ => ?_) | refine znb (fun _ => ?_) | refine znc (fun _ => ?_) | refine newSlice0 (fun _ => ?_) | refine newMap (fun _ => ?_)))
    refine ldiv (i / 2) (by decide) (by first | rfl | exact tdiv_nat _ _ | omega) (by omega) ?_
    repeat ((conv => whnf); (first | refine ztx ?_ | refine LNext.nilr ?_ | refine zne ?_ | refine zga ?_ | refine zxa ?_ | refine zca ?_ | refine zcb ?_ | refine zgb ?_ | refine zgc ?_ | refine zgd1 ?_ | refine zge ?_ | refine zgf ?_ | refine zgg ?_ | refine zgh ?_ | refine zgi ?_ | refine zgj ?_ | refine zgk ?_ | refine max2m ?_ | refine min2m ?_ | refine eqStr ?_ | refine neqStr ?_ | refine eqSlNil ?_ | refine neqSlNil ?_ | refine eqBool ?_ | refine neqBool ?_ | refine capSlice ?_ | refine zgl ?_ | refine zgm ?_ | refine zgn ?_ | refine zgo ?_ | refine zba ?_ | refine zbb ?_ | refine zbc ?_ | refine zbd ?_ | refine zbe ?_ | refine zbf ?_ | refine zia ?_ | refine zib ?_ | refine zic ?_ | refine zid1 ?_ | refine zie ?_ | refine zif1 ?_ | refine zig ?_ | refine zih ?_ | refine lint_u8_mod ?_ | refine lint_u32_mod ?_ | refine zii ?_ | refine zij ?_ | refine zua ?_ | refine LRes.mk ?_ | refine LIn.step ?_ | refine zdr ?_ | refine zna (fun _ => ?_) | refine znb (fun _ => ?_) | refine znc (fun _ => ?_) | refine newSlice0 (fun _ => ?_) | refine newMap (fun _ => ?_)))
    refine lmod_nn (a := i) (b := 2) (by decide) ?_
    rw [hp1]
    repeat ((conv => whnf); (first | refine ztx ?_ | refine LNext.nilr ?_ | refine zne ?_ | refine zga ?_ | refine zxa ?_ | refine zca ?_ | refine zcb ?_ | refine zgb ?_ | refine zgc ?_ | refine zgd1 ?_ | refine zge ?_ | refine zgf ?_ | refine zgg ?_ | refine zgh ?_ | refine zgi ?_ | refine zgj ?_ | refine zgk ?_ | refine max2m ?_ | refine min2m ?_ | refine eqStr ?_ | refine neqStr ?_ | refine eqSlNil ?_ | refine neqSlNil ?_ | refine eqBool ?_ | refine neqBool ?_ | refine capSlice ?_ | refine zgl ?_ | refine zgm ?_ | refine zgn ?_ | refine zgo ?_ | refine zba ?_ | refine zbb ?_ | refine zbc ?_ | refine zbd ?_ | refine zbe ?_ | refine zbf ?_ | refine zia ?_ | refine zib ?_ | refine zic ?_ | refine zid1 ?_ | refine zie ?_ | refine zif1 ?_ | refine zig ?_ | refine zih ?_ | refine lint_u8_mod ?_ | refine lint_u32_mod ?_ | refine zii ?_ | refine zij ?_ | refine zua ?_ | refine LRes.mk ?_ | refine LIn.step ?_ | refine zdr ?_ | refine zna (fun _ => ?_) | refine znb (fun _ => ?_) | refine znc (fun _ => ?_) | refine newSlice0 (fun _ => ?_) | refine newMap (fun _ => ?_)))
    rw [← ht]
    all_goals
      refine LLoop.row (a := ea) (xs := E) (enc := encI) zTk (fun rhe => ?_)
      refine LLoop.inv (Γ := tab) (fun k : Nat => [(0, .pointer (some ⟨wb, 0, none⟩)), (3, .slice ea E.length ec), (4, .int .i64 i), (5, .int .i64 (tick W i)), (6, .int .i64 k)])
        (fun k => ERow 2 1 encI ea E.length ec E :: RT wb c (some ⟨g0, 0, none⟩) W.length cap :: ERow 74 6 encTk (some ⟨g0, 0, none⟩) W.length cap W :: M)
        (fun k => k ≤ E.length ∧ ∀ y, k ≤ y → y < E.length → tick W i < gd E y) (fun k => k) E.length ⟨Nat.le_refl _, fun y h1 h2 => by omega⟩ zSu zEn ?_
      rintro k ⟨hk, hk2⟩
      have hel := he.len
      by_cases k0 : 0 < k
      · obtain ⟨ge, rfl⟩ := rhe.ad (by omega)
        have hk1 : k - 1 < E.length := by omega
        by_cases c1 : gd E (k - 1) > tick W i
        · repeat ((conv => whnf); (first | refine ztx ?_ | refine LNext.nilr ?_ | refine zne ?_ | refine zga ?_ | refine zxa ?_ | refine zca ?_ | refine zcb ?_ | refine zgb ?_ | refine zgc ?_ | refine zgd1 ?_ | refine zge ?_ | refine zgf ?_ | refine zgg ?_ | refine zgh ?_ | refine zgi ?_ | refine zgj ?_ | refine zgk ?_ | refine max2m ?_ | refine min2m ?_ | refine eqStr ?_ | refine neqStr ?_ | refine eqSlNil ?_ | refine neqSlNil ?_ | refine eqBool ?_ | refine neqBool ?_ | refine capSlice ?_ | refine zgl ?_ | refine zgm ?_ | refine zgn ?_ | refine zgo ?_ | refine zba ?_ | refine zbb ?_ | refine zbc ?_ | refine zbd ?_ | refine zbe ?_ | refine zbf ?_ | refine zia ?_ | refine zib ?_ | refine zic ?_ | refine zid1 ?_ | refine zie ?_ | refine zif1 ?_ | refine zig ?_ | refine zih ?_ | refine lint_u8_mod ?_ | refine lint_u32_mod ?_ | refine zii ?_ | refine zij ?_ | refine zua ?_ | refine LRes.mk ?_ | refine LIn.step ?_ | refine zdr ?_ | refine zna (fun _ => ?_) | refine znb (fun _ => ?_) | refine znc (fun _ => ?_) | refine newSlice0 (fun _ => ?_) | refine newMap (fun _ => ?_)))
          exact ⟨k - 1, ⟨by omega, fun y h2 h3 => by by_cases e : y = k - 1; exact e ▸ c1; exact hk2 y (by omega) h3⟩, by omega, zSu, zEn⟩
        · by_cases c2 : gd E (k - 1) = tick W i
          · repeat ((conv => whnf); (first | refine ztx ?_ | refine LNext.nilr ?_ | refine zne ?_ | refine zga ?_ | refine zxa ?_ | refine zca ?_ | refine zcb ?_ | refine zgb ?_ | refine zgc ?_ | refine zgd1 ?_ | refine zge ?_ | refine zgf ?_ | refine zgg ?_ | refine zgh ?_ | refine zgi ?_ | refine zgj ?_ | refine zgk ?_ | refine max2m ?_ | refine min2m ?_ | refine eqStr ?_ | refine neqStr ?_ | refine eqSlNil ?_ | refine neqSlNil ?_ | refine eqBool ?_ | refine neqBool ?_ | refine capSlice ?_ | refine zgl ?_ | refine zgm ?_ | refine zgn ?_ | refine zgo ?_ | refine zba ?_ | refine zbb ?_ | refine zbc ?_ | refine zbd ?_ | refine zbe ?_ | refine zbf ?_ | refine zia ?_ | refine zib ?_ | refine zic ?_ | refine zid1 ?_ | refine zie ?_ | refine zif1 ?_ | refine zig ?_ | refine zih ?_ | refine lint_u8_mod ?_ | refine lint_u32_mod ?_ | refine zii ?_ | refine zij ?_ | refine zua ?_ | refine LRes.mk ?_ | refine LIn.step ?_ | refine zdr ?_ | refine zna (fun _ => ?_) | refine znb (fun _ => ?_) | refine znc (fun _ => ?_) | refine newSlice0 (fun _ => ?_) | refine newMap (fun _ => ?_)))
            exact ⟨⟨i + 1, some ⟨ge, 0, none⟩, ec, E⟩, ⟨h1, he.same hk1 c2⟩, by show 2 * W.length - (i + 1) < 2 * W.length - i; omega, zSu, zEn⟩
          · have hb : ∀ y, y < k → gd E y < tick W i := fun y hy => by
              by_cases e : y = k - 1
              · subst e; omega
              · have := he.up y (k - 1) (by omega) hk1; omega
            repeat ((conv => whnf); (first | refine ztx ?_ | refine LNext.nilr ?_ | refine zne ?_ | refine zga ?_ | refine zxa ?_ | refine zca ?_ | refine zcb ?_ | refine zgb ?_ | refine zgc ?_ | refine zgd1 ?_ | refine zge ?_ | refine zgf ?_ | refine zgg ?_ | refine zgh ?_ | refine zgi ?_ | refine zgj ?_ | refine zgk ?_ | refine max2m ?_ | refine min2m ?_ | refine eqStr ?_ | refine neqStr ?_ | refine eqSlNil ?_ | refine neqSlNil ?_ | refine eqBool ?_ | refine neqBool ?_ | refine capSlice ?_ | refine zgl ?_ | refine zgm ?_ | refine zgn ?_ | refine zgo ?_ | refine zba ?_ | refine zbb ?_ | refine zbc ?_ | refine zbd ?_ | refine zbe ?_ | refine zbf ?_ | refine zia ?_ | refine zib ?_ | refine zic ?_ | refine zid1 ?_ | refine zie ?_ | refine zif1 ?_ | refine zig ?_ | refine zih ?_ | refine lint_u8_mod ?_ | refine lint_u32_mod ?_ | refine zii ?_ | refine zij ?_ | refine zua ?_ | refine LRes.mk ?_ | refine LIn.step ?_ | refine zdr ?_ | refine zna (fun _ => ?_) | refine znb (fun _ => ?_) | refine znc (fun _ => ?_) | refine newSlice0 (fun _ => ?_) | refine newMap (fun _ => ?_)))
            refine appendE tab (enc := encI) (xs := E) ([tick W i]) zTk (by intro _; rfl) rfl rfl rfl rfl rfl zCs (by intro x hx; simp at hx; subst hx; rfl) (by simp only [maxLen]; omega) (by omega) (by omega) (fun g d => ?_)
            repeat ((conv => whnf); (first | refine ztx ?_ | refine LNext.nilr ?_ | refine zne ?_ | refine zga ?_ | refine zxa ?_ | refine zca ?_ | refine zcb ?_ | refine zgb ?_ | refine zgc ?_ | refine zgd1 ?_ | refine zge ?_ | refine zgf ?_ | refine zgg ?_ | refine zgh ?_ | refine zgi ?_ | refine zgj ?_ | refine zgk ?_ | refine max2m ?_ | refine min2m ?_ | refine eqStr ?_ | refine neqStr ?_ | refine eqSlNil ?_ | refine neqSlNil ?_ | refine eqBool ?_ | refine neqBool ?_ | refine capSlice ?_ | refine zgl ?_ | refine zgm ?_ | refine zgn ?_ | refine zgo ?_ | refine zba ?_ | refine zbb ?_ | refine zbc ?_ | refine zbd ?_ | refine zbe ?_ | refine zbf ?_ | refine zia ?_ | refine zib ?_ | refine zic ?_ | refine zid1 ?_ | refine zie ?_ | refine zif1 ?_ | refine zig ?_ | refine zih ?_ | refine lint_u8_mod ?_ | refine lint_u32_mod ?_ | refine zii ?_ | refine zij ?_ | refine zua ?_ | refine LRes.mk ?_ | refine LIn.step ?_ | refine zdr ?_ | refine zna (fun _ => ?_) | refine znb (fun _ => ?_) | refine znc (fun _ => ?_) | refine newSlice0 (fun _ => ?_) | refine newMap (fun _ => ?_)))
            refine LLoop.inv (Γ := tab) (fun x : Nat × List Int => [(0, .pointer (some ⟨wb, 0, none⟩)), (3, .slice (some ⟨g, 0, none⟩) (E.length + 1) d), (4, .int .i64 i), (5, .int .i64 (tick W i)), (6, .int .i64 k), (7, .int .i64 x.1)])
              (fun x => ERow 2 1 encI (some ⟨g, 0, none⟩) (E.length + 1) d x.2 :: RT wb c (some ⟨g0, 0, none⟩) W.length cap :: ERow 74 6 encTk (some ⟨g0, 0, none⟩) W.length cap W :: M)
              (fun x => k ≤ x.1 ∧ x.1 ≤ E.length ∧ x.2.length = E.length + 1 ∧ ∀ y, y < E.length + 1 → y ≠ x.1 → gd x.2 y = if y < x.1 then gd E y else gd E (y - 1)) (fun x => x.1) (E.length, E ++ [tick W i])
              ⟨hk, Nat.le_refl _, by simp, fun y h8 h9 => by
                have h9' : y ≠ E.length := h9
                show gd (E ++ [tick W i]) y = if y < E.length then gd E y else gd E (y - 1)
                rw [if_pos (by omega), gd_app_left (by omega)]⟩ zSu zEn ?_
            rintro ⟨j, R⟩ ⟨r1, r2, r3, r4⟩
            dsimp only at r1 r2 r3 r4 ⊢
            by_cases h5 : k < j
            · have hj1 : j - 1 < R.length := by omega
              repeat ((conv => whnf); (first | refine ztx ?_ | refine LNext.nilr ?_ | refine zne ?_ | refine zga ?_ | refine zxa ?_ | refine zca ?_ | refine zcb ?_ | refine zgb ?_ | refine zgc ?_ | refine zgd1 ?_ | refine zge ?_ | refine zgf ?_ | refine zgg ?_ | refine zgh ?_ | refine zgi ?_ | refine zgj ?_ | refine zgk ?_ | refine max2m ?_ | refine min2m ?_ | refine eqStr ?_ | refine neqStr ?_ | refine eqSlNil ?_ | refine neqSlNil ?_ | refine eqBool ?_ | refine neqBool ?_ | refine capSlice ?_ | refine zgl ?_ | refine zgm ?_ | refine zgn ?_ | refine zgo ?_ | refine zba ?_ | refine zbb ?_ | refine zbc ?_ | refine zbd ?_ | refine zbe ?_ | refine zbf ?_ | refine zia ?_ | refine zib ?_ | refine zic ?_ | refine zid1 ?_ | refine zie ?_ | refine zif1 ?_ | refine zig ?_ | refine zih ?_ | refine lint_u8_mod ?_ | refine lint_u32_mod ?_ | refine zii ?_ | refine zij ?_ | refine zua ?_ | refine LRes.mk ?_ | refine LIn.step ?_ | refine zdr ?_ | refine zna (fun _ => ?_) | refine znb (fun _ => ?_) | refine znc (fun _ => ?_) | refine newSlice0 (fun _ => ?_) | refine newMap (fun _ => ?_)))
              refine storeE tab (gd R (j - 1)) zTk (by intro _; rfl) rfl (by first | exact Nat.zero_add _ | rfl | omega | simp) zOm (by rfl) (by rfl) ?_
              repeat ((conv => whnf); (first | refine ztx ?_ | refine LNext.nilr ?_ | refine zne ?_ | refine zga ?_ | refine zxa ?_ | refine zca ?_ | refine zcb ?_ | refine zgb ?_ | refine zgc ?_ | refine zgd1 ?_ | refine zge ?_ | refine zgf ?_ | refine zgg ?_ | refine zgh ?_ | refine zgi ?_ | refine zgj ?_ | refine zgk ?_ | refine max2m ?_ | refine min2m ?_ | refine eqStr ?_ | refine neqStr ?_ | refine eqSlNil ?_ | refine neqSlNil ?_ | refine eqBool ?_ | refine neqBool ?_ | refine capSlice ?_ | refine zgl ?_ | refine zgm ?_ | refine zgn ?_ | refine zgo ?_ | refine zba ?_ | refine zbb ?_ | refine zbc ?_ | refine zbd ?_ | refine zbe ?_ | refine zbf ?_ | refine zia ?_ | refine zib ?_ | refine zic ?_ | refine zid1 ?_ | refine zie ?_ | refine zif1 ?_ | refine zig ?_ | refine zih ?_ | refine lint_u8_mod ?_ | refine lint_u32_mod ?_ | refine zii ?_ | refine zij ?_ | refine zua ?_ | refine LRes.mk ?_ | refine LIn.step ?_ | refine zdr ?_ | refine zna (fun _ => ?_) | refine znb (fun _ => ?_) | refine znc (fun _ => ?_) | refine newSlice0 (fun _ => ?_) | refine newMap (fun _ => ?_)))
              exact ⟨(j - 1, R.set j (gd R (j - 1))), ⟨by show k ≤ j - 1; omega, by show j - 1 ≤ E.length; omega, by rw [List.length_set]; exact r3, fun y h8 h9 => by
                have h9' : y ≠ j - 1 := h9
                show gd (R.set j (gd R (j - 1))) y = if y < j - 1 then gd E y else gd E (y - 1)
                rw [gd_set (by omega)]
                by_cases e : y = j
                · subst e; rw [if_pos rfl, if_neg (by omega), r4 (y - 1) (by omega) (by omega), if_pos (by omega)]
                · rw [if_neg e, r4 y h8 e]
                  by_cases e2 : y < j
                  · rw [if_pos e2, if_pos (by omega)]
                  · rw [if_neg e2, if_neg (by omega)]⟩, by show j - 1 < j; omega, zSu, zEn⟩
            · have hjk : j = k := by omega
              subst hjk
              have hset : R.set j (tick W i) = E.take j ++ tick W i :: E.drop j := by
                refine gd_ext (by rw [List.length_set, r3]; simp; omega) (fun y hy => ?_)
                rw [List.length_set, r3] at hy
                rw [insG r2 hy, gd_set (by omega)]
                by_cases e : y = j
                · subst e; rw [if_pos rfl, if_neg (by omega), if_pos rfl]
                · rw [if_neg e, r4 y hy e]
                  by_cases e2 : y < j
                  · rw [if_pos e2, if_pos e2]
                  · rw [if_neg e2, if_neg e2, if_neg e]
              have hlen : E.length + 1 = (E.take j ++ tick W i :: E.drop j).length := by simp; omega
              repeat ((conv => whnf); (first | refine ztx ?_ | refine LNext.nilr ?_ | refine zne ?_ | refine zga ?_ | refine zxa ?_ | refine zca ?_ | refine zcb ?_ | refine zgb ?_ | refine zgc ?_ | refine zgd1 ?_ | refine zge ?_ | refine zgf ?_ | refine zgg ?_ | refine zgh ?_ | refine zgi ?_ | refine zgj ?_ | refine zgk ?_ | refine max2m ?_ | refine min2m ?_ | refine eqStr ?_ | refine neqStr ?_ | refine eqSlNil ?_ | refine neqSlNil ?_ | refine eqBool ?_ | refine neqBool ?_ | refine capSlice ?_ | refine zgl ?_ | refine zgm ?_ | refine zgn ?_ | refine zgo ?_ | refine zba ?_ | refine zbb ?_ | refine zbc ?_ | refine zbd ?_ | refine zbe ?_ | refine zbf ?_ | refine zia ?_ | refine zib ?_ | refine zic ?_ | refine zid1 ?_ | refine zie ?_ | refine zif1 ?_ | refine zig ?_ | refine zih ?_ | refine lint_u8_mod ?_ | refine lint_u32_mod ?_ | refine zii ?_ | refine zij ?_ | refine zua ?_ | refine LRes.mk ?_ | refine LIn.step ?_ | refine zdr ?_ | refine zna (fun _ => ?_) | refine znb (fun _ => ?_) | refine znc (fun _ => ?_) | refine newSlice0 (fun _ => ?_) | refine newMap (fun _ => ?_)))
              refine storeE tab (tick W i) zTk (by intro _; rfl) rfl (by first | exact Nat.zero_add _ | rfl | omega | simp) zOm (by rfl) (by rfl) ?_
              rw [hset, hlen]
              repeat ((conv => whnf); (first | refine ztx ?_ | refine LNext.nilr ?_ | refine zne ?_ | refine zga ?_ | refine zxa ?_ | refine zca ?_ | refine zcb ?_ | refine zgb ?_ | refine zgc ?_ | refine zgd1 ?_ | refine zge ?_ | refine zgf ?_ | refine zgg ?_ | refine zgh ?_ | refine zgi ?_ | refine zgj ?_ | refine zgk ?_ | refine max2m ?_ | refine min2m ?_ | refine eqStr ?_ | refine neqStr ?_ | refine eqSlNil ?_ | refine neqSlNil ?_ | refine eqBool ?_ | refine neqBool ?_ | refine capSlice ?_ | refine zgl ?_ | refine zgm ?_ | refine zgn ?_ | refine zgo ?_ | refine zba ?_ | refine zbb ?_ | refine zbc ?_ | refine zbd ?_ | refine zbe ?_ | refine zbf ?_ | refine zia ?_ | refine zib ?_ | refine zic ?_ | refine zid1 ?_ | refine zie ?_ | refine zif1 ?_ | refine zig ?_ | refine zih ?_ | refine lint_u8_mod ?_ | refine lint_u32_mod ?_ | refine zii ?_ | refine zij ?_ | refine zua ?_ | refine LRes.mk ?_ | refine LIn.step ?_ | refine zdr ?_ | refine zna (fun _ => ?_) | refine znb (fun _ => ?_) | refine znc (fun _ => ?_) | refine newSlice0 (fun _ => ?_) | refine newMap (fun _ => ?_)))
              exact ⟨⟨i + 1, some ⟨g, 0, none⟩, d, E.take j ++ tick W i :: E.drop j⟩, ⟨h1, he.ins r2 hb hk2⟩, by show 2 * W.length - (i + 1) < 2 * W.length - i; omega, zSu, zEn⟩
      · have hb : ∀ y, y < k → gd E y < tick W i := fun y hy => by omega
        repeat ((conv => whnf); (first | refine ztx ?_ | refine LNext.nilr ?_ | refine zne ?_ | refine zga ?_ | refine zxa ?_ | refine zca ?_ | refine zcb ?_ | refine zgb ?_ | refine zgc ?_ | refine zgd1 ?_ | refine zge ?_ | refine zgf ?_ | refine zgg ?_ | refine zgh ?_ | refine zgi ?_ | refine zgj ?_ | refine zgk ?_ | refine max2m ?_ | refine min2m ?_ | refine eqStr ?_ | refine neqStr ?_ | refine eqSlNil ?_ | refine neqSlNil ?_ | refine eqBool ?_ | refine neqBool ?_ | refine capSlice ?_ | refine zgl ?_ | refine zgm ?_ | refine zgn ?_ | refine zgo ?_ | refine zba ?_ | refine zbb ?_ | refine zbc ?_ | refine zbd ?_ | refine zbe ?_ | refine zbf ?_ | refine zia ?_ | refine zib ?_ | refine zic ?_ | refine zid1 ?_ | refine zie ?_ | refine zif1 ?_ | refine zig ?_ | refine zih ?_ | refine lint_u8_mod ?_ | refine lint_u32_mod ?_ | refine zii ?_ | refine zij ?_ | refine zua ?_ | refine LRes.mk ?_ | refine LIn.step ?_ | refine zdr ?_ | refine zna (fun _ => ?_) | refine znb (fun _ => ?_) | refine znc (fun _ => ?_) | refine newSlice0 (fun _ => ?_) | refine newMap (fun _ => ?_)))
        refine appendE tab (enc := encI) (xs := E) ([tick W i]) zTk (by intro _; rfl) rfl rfl rfl rfl rfl zCs (by intro x hx; simp at hx; subst hx; rfl) (by simp only [maxLen]; omega) (by omega) (by omega) (fun g d => ?_)
        repeat ((conv => whnf); (first | refine ztx ?_ | refine LNext.nilr ?_ | refine zne ?_ | refine zga ?_ | refine zxa ?_ | refine zca ?_ | refine zcb ?_ | refine zgb ?_ | refine zgc ?_ | refine zgd1 ?_ | refine zge ?_ | refine zgf ?_ | refine zgg ?_ | refine zgh ?_ | refine zgi ?_ | refine zgj ?_ | refine zgk ?_ | refine max2m ?_ | refine min2m ?_ | refine eqStr ?_ | refine neqStr ?_ | refine eqSlNil ?_ | refine neqSlNil ?_ | refine eqBool ?_ | refine neqBool ?_ | refine capSlice ?_ | refine zgl ?_ | refine zgm ?_ | refine zgn ?_ | refine zgo ?_ | refine zba ?_ | refine zbb ?_ | refine zbc ?_ | refine zbd ?_ | refine zbe ?_ | refine zbf ?_ | refine zia ?_ | refine zib ?_ | refine zic ?_ | refine zid1 ?_ | refine zie ?_ | refine zif1 ?_ | refine zig ?_ | refine zih ?_ | refine lint_u8_mod ?_ | refine lint_u32_mod ?_ | refine zii ?_ | refine zij ?_ | refine zua ?_ | refine LRes.mk ?_ | refine LIn.step ?_ | refine zdr ?_ | refine zna (fun _ => ?_) | refine znb (fun _ => ?_) | refine znc (fun _ => ?_) | refine newSlice0 (fun _ => ?_) | refine newMap (fun _ => ?_)))
        refine LLoop.inv (Γ := tab) (fun x : Nat × List Int => [(0, .pointer (some ⟨wb, 0, none⟩)), (3, .slice (some ⟨g, 0, none⟩) (E.length + 1) d), (4, .int .i64 i), (5, .int .i64 (tick W i)), (6, .int .i64 k), (7, .int .i64 x.1)])
          (fun x => ERow 2 1 encI (some ⟨g, 0, none⟩) (E.length + 1) d x.2 :: RT wb c (some ⟨g0, 0, none⟩) W.length cap :: ERow 74 6 encTk (some ⟨g0, 0, none⟩) W.length cap W :: M)
          (fun x => k ≤ x.1 ∧ x.1 ≤ E.length ∧ x.2.length = E.length + 1 ∧ ∀ y, y < E.length + 1 → y ≠ x.1 → gd x.2 y = if y < x.1 then gd E y else gd E (y - 1)) (fun x => x.1) (E.length, E ++ [tick W i])
          ⟨hk, Nat.le_refl _, by simp, fun y h8 h9 => by
            have h9' : y ≠ E.length := h9
            show gd (E ++ [tick W i]) y = if y < E.length then gd E y else gd E (y - 1)
            rw [if_pos (by omega), gd_app_left (by omega)]⟩ zSu zEn ?_
        rintro ⟨j, R⟩ ⟨r1, r2, r3, r4⟩
        dsimp only at r1 r2 r3 r4 ⊢
        by_cases h5 : k < j
        · have hj1 : j - 1 < R.length := by omega
          repeat ((conv => whnf); (first | refine ztx ?_ | refine LNext.nilr ?_ | refine zne ?_ | refine zga ?_ | refine zxa ?_ | refine zca ?_ | refine zcb ?_ | refine zgb ?_ | refine zgc ?_ | refine zgd1 ?_ | refine zge ?_ | refine zgf ?_ | refine zgg ?_ | refine zgh ?_ | refine zgi ?_ | refine zgj ?_ | refine zgk ?_ | refine max2m ?_ | refine min2m ?_ | refine eqStr ?_ | refine neqStr ?_ | refine eqSlNil ?_ | refine neqSlNil ?_ | refine eqBool ?_ | refine neqBool ?_ | refine capSlice ?_ | refine zgl ?_ | refine zgm ?_ | refine zgn ?_ | refine zgo ?_ | refine zba ?_ | refine zbb ?_ | refine zbc ?_ | refine zbd ?_ | refine zbe ?_ | refine zbf ?_ | refine zia ?_ | refine zib ?_ | refine zic ?_ | refine zid1 ?_ | refine zie ?_ | refine zif1 ?_ | refine zig ?_ | refine zih ?_ | refine lint_u8_mod ?_ | refine lint_u32_mod ?_ | refine zii ?_ | refine zij ?_ | refine zua ?_ | refine LRes.mk ?_ | refine LIn.step ?_ | refine zdr ?_ | refine zna (fun _ => ?_) | refine znb (fun _ => ?_) | refine znc (fun _ => ?_) | refine newSlice0 (fun _ => ?_) | refine newMap (fun _ => ?_)))
          refine storeE tab (gd R (j - 1)) zTk (by intro _; rfl) rfl (by first | exact Nat.zero_add _ | rfl | omega | simp) zOm (by rfl) (by rfl) ?_
          repeat ((conv => whnf); (first | refine ztx ?_ | refine LNext.nilr ?_ | refine zne ?_ | refine zga ?_ | refine zxa ?_ | refine zca ?_ | refine zcb ?_ | refine zgb ?_ | refine zgc ?_ | refine zgd1 ?_ | refine zge ?_ | refine zgf ?_ | refine zgg ?_ | refine zgh ?_ | refine zgi ?_ | refine zgj ?_ | refine zgk ?_ | refine max2m ?_ | refine min2m ?_ | refine eqStr ?_ | refine neqStr ?_ | refine eqSlNil ?_ | refine neqSlNil ?_ | refine eqBool ?_ | refine neqBool ?_ | refine capSlice ?_ | refine zgl ?_ | refine zgm ?_ | refine zgn ?_ | refine zgo ?_ | refine zba ?_ | refine zbb ?_ | refine zbc ?_ | refine zbd ?_ | refine zbe ?_ | refine zbf ?_ | refine zia ?_ | refine zib ?_ | refine zic ?_ | refine zid1 ?_ | refine zie ?_ | refine zif1 ?_ | refine zig ?_ | refine zih ?_ | refine lint_u8_mod ?_ | refine lint_u32_mod ?_ | refine zii ?_ | refine zij ?_ | refine zua ?_ | refine LRes.mk ?_ | refine LIn.step ?_ | refine zdr ?_ | refine zna (fun _ => ?_) | refine znb (fun _ => ?_) | refine znc (fun _ => ?_) | refine newSlice0 (fun _ => ?_) | refine newMap (fun _ => ?_)))
          exact ⟨(j - 1, R.set j (gd R (j - 1))), ⟨by show k ≤ j - 1; omega, by show j - 1 ≤ E.length; omega, by rw [List.length_set]; exact r3, fun y h8 h9 => by
            have h9' : y ≠ j - 1 := h9
            show gd (R.set j (gd R (j - 1))) y = if y < j - 1 then gd E y else gd E (y - 1)
            rw [gd_set (by omega)]
            by_cases e : y = j
            · subst e; rw [if_pos rfl, if_neg (by omega), r4 (y - 1) (by omega) (by omega), if_pos (by omega)]
            · rw [if_neg e, r4 y h8 e]
              by_cases e2 : y < j
              · rw [if_pos e2, if_pos (by omega)]
              · rw [if_neg e2, if_neg (by omega)]⟩, by show j - 1 < j; omega, zSu, zEn⟩
        · have hjk : j = k := by omega
          subst hjk
          have hset : R.set j (tick W i) = E.take j ++ tick W i :: E.drop j := by
            refine gd_ext (by rw [List.length_set, r3]; simp; omega) (fun y hy => ?_)
            rw [List.length_set, r3] at hy
            rw [insG r2 hy, gd_set (by omega)]
            by_cases e : y = j
            · subst e; rw [if_pos rfl, if_neg (by omega), if_pos rfl]
            · rw [if_neg e, r4 y hy e]
              by_cases e2 : y < j
              · rw [if_pos e2, if_pos e2]
              · rw [if_neg e2, if_neg e2, if_neg e]
          have hlen : E.length + 1 = (E.take j ++ tick W i :: E.drop j).length := by simp; omega
          repeat ((conv => whnf); (first | refine ztx ?_ | refine LNext.nilr ?_ | refine zne ?_ | refine zga ?_ | refine zxa ?_ | refine zca ?_ | refine zcb ?_ | refine zgb ?_ | refine zgc ?_ | refine zgd1 ?_ | refine zge ?_ | refine zgf ?_ | refine zgg ?_ | refine zgh ?_ | refine zgi ?_ | refine zgj ?_ | refine zgk ?_ | refine max2m ?_ | refine min2m ?_ | refine eqStr ?_ | refine neqStr ?_ | refine eqSlNil ?_ | refine neqSlNil ?_ | refine eqBool ?_ | refine neqBool ?_ | refine capSlice ?_ | refine zgl ?_ | refine zgm ?_ | refine zgn ?_ | refine zgo ?_ | refine zba ?_ | refine zbb ?_ | refine zbc ?_ | refine zbd ?_ | refine zbe ?_ | refine zbf ?_ | refine zia ?_ | refine zib ?_ | refine zic ?_ | refine zid1 ?_ | refine zie ?_ | refine zif1 ?_ | refine zig ?_ | refine zih ?_ | refine lint_u8_mod ?_ | refine lint_u32_mod ?_ | refine zii ?_ | refine zij ?_ | refine zua ?_ | refine LRes.mk ?_ | refine LIn.step ?_ | refine zdr ?_ | refine zna (fun _ => ?_) | refine znb (fun _ => ?_) | refine znc (fun _ => ?_) | refine newSlice0 (fun _ => ?_) | refine newMap (fun _ => ?_)))
          refine storeE tab (tick W i) zTk (by intro _; rfl) rfl (by first | exact Nat.zero_add _ | rfl | omega | simp) zOm (by rfl) (by rfl) ?_
          rw [hset, hlen]
          repeat ((conv => whnf); (first | refine ztx ?_ | refine LNext.nilr ?_ | refine zne ?_ | refine zga ?_ | refine zxa ?_ | refine zca ?_ | refine zcb ?_ | refine zgb ?_ | refine zgc ?_ | refine zgd1 ?_ | refine zge ?_ | refine zgf ?_ | refine zgg ?_ | refine zgh ?_ | refine zgi ?_ | refine zgj ?_ | refine zgk ?_ | refine max2m ?_ | refine min2m ?_ | refine eqStr ?_ | refine neqStr ?_ | refine eqSlNil ?_ | refine neqSlNil ?_ | refine eqBool ?_ | refine neqBool ?_ | refine capSlice ?_ | refine zgl ?_ | refine zgm ?_ | refine zgn ?_ | refine zgo ?_ | refine zba ?_ | refine zbb ?_ | refine zbc ?_ | refine zbd ?_ | refine zbe ?_ | refine zbf ?_ | refine zia ?_ | refine zib ?_ | refine zic ?_ | refine zid1 ?_ | refine zie ?_ | refine zif1 ?_ | refine zig ?_ | refine zih ?_ | refine lint_u8_mod ?_ | refine lint_u32_mod ?_ | refine zii ?_ | refine zij ?_ | refine zua ?_ | refine LRes.mk ?_ | refine LIn.step ?_ | refine zdr ?_ | refine zna (fun _ => ?_) | refine znb (fun _ => ?_) | refine znc (fun _ => ?_) | refine newSlice0 (fun _ => ?_) | refine newMap (fun _ => ?_)))
          exact ⟨⟨i + 1, some ⟨g, 0, none⟩, d, E.take j ++ tick W i :: E.drop j⟩, ⟨h1, he.ins r2 hb hk2⟩, by show 2 * W.length - (i + 1) < 2 * W.length - i; omega, zSu, zEn⟩
  · have : i = 2 * W.length := by omega
    subst this
    repeat ((conv => whnf); (first | refine ztx ?_ | refine LNext.nilr ?_ | refine zne ?_ | refine zga ?_ | refine zxa ?_ | refine zca ?_ | refine zcb ?_ | refine zgb ?_ | refine zgc ?_ | refine zgd1 ?_ | refine zge ?_ | refine zgf ?_ | refine zgg ?_ | refine zgh ?_ | refine zgi ?_ | refine zgj ?_ | refine zgk ?_ | refine max2m ?_ | refine min2m ?_ | refine eqStr ?_ | refine neqStr ?_ | refine eqSlNil ?_ | refine neqSlNil ?_ | refine eqBool ?_ | refine neqBool ?_ | refine capSlice ?_ | refine zgl ?_ | refine zgm ?_ | refine zgn ?_ | refine zgo ?_ | refine zba ?_ | refine zbb ?_ | refine zbc ?_ | refine zbd ?_ | refine zbe ?_ | refine zbf ?_ | refine zia ?_ | refine zib ?_ | refine zic ?_ | refine zid1 ?_ | refine zie ?_ | refine zif1 ?_ | refine zig ?_ | refine zih ?_ | refine lint_u8_mod ?_ | refine lint_u32_mod ?_ | refine zii ?_ | refine zij ?_ | refine zua ?_ | refine LRes.mk ?_ | refine LIn.step ?_ | refine zdr ?_ | refine zna (fun _ => ?_) | refine znb (fun _ => ?_) | refine znc (fun _ => ?_) | refine newSlice0 (fun _ => ?_) | refine newMap (fun _ => ?_)))
    show Fin _ _ _; exact Fin.of (ERow 2 1 encI ea E.length ec E :: RT wb c a W.length cap :: ERow 74 6 encTk a W.length cap W :: M) zEn ⟨E, ea, ec, he, rfl, rfl⟩
end Go.Proofs.Ytkfebhogimmoeaa
