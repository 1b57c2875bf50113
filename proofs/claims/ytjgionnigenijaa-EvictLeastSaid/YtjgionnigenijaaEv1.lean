import Derived.Test.YtjgionnigenijaaRf16d
import Derived.Test.YtjgionnigenijaaMmIn
/-! Victims: their numbers, their turns, the heap of them. -/
namespace Go.Proofs.Ytjgionnigenijaa
open Go.Sl
set_option linter.unusedVariables false
set_option linter.unusedSimpArgs false
set_option maxRecDepth 100000
set_option maxHeartbeats 4000000

structure Vic where
  job : Int
  prio : Int
  start : Int
  tasks : SlV V4
  nodes : SlV ByteArray
instance : Inhabited Vic := ⟨⟨0, 0, 0, ⟨none, 0, []⟩, ⟨none, 0, []⟩⟩⟩
def encVic (v : Vic) : List Value := [.int .i64 v.job, .int .i64 v.prio, .int .i64 v.start, v.tasks.val, v.nodes.val]
def i64r (n : Int) : Prop := -9223372036854775808 ≤ n ∧ n ≤ 9223372036854775807
def jobs (VS : List Vic) : List Int := VS.map (·.job)
/-- Two of the first k are one. -/
def dupJ (J : List Int) : Nat → Bool
  | 0 => false
  | k + 1 => dupJ J k || decide (gd J k ∈ J.take k)
theorem dupJ_mono {J : List Int} {k : Nat} (h : dupJ J k = true) : ∀ m, k ≤ m → dupJ J m = true := by
  intro m hm
  induction m with
  | zero => have : k = 0 := by omega
            subst this; exact h
  | succ m ih =>
    by_cases e : k = m + 1
    · rw [← e]; exact h
    · unfold dupJ; rw [ih (by omega), Bool.true_or]
def distJ (VS : List Vic) : Prop := ∀ i j, i < j → j < VS.length → (gd VS i).job ≠ (gd VS j).job
theorem dup_dist {VS : List Vic} : ∀ {k : Nat}, k ≤ VS.length → dupJ (jobs VS) k = false → ∀ i j, i < j → j < k → (gd VS i).job ≠ (gd VS j).job := by
  intro k
  induction k with
  | zero => intro _ _ i j _ h; omega
  | succ k ih =>
    intro hk h i j hij hj
    unfold dupJ at h
    rw [Bool.or_eq_false_iff, decide_eq_false_iff_not] at h
    by_cases e : j = k
    · subst e
      intro he
      apply h.2
      unfold jobs
      rw [gd_map (by omega), ← he, ← gd_map (f := fun v : Vic => v.job) (l := VS) (by omega), ← gd_take_lt (l := List.map (fun v : Vic => v.job) VS) (k := j) hij]
      exact gd_mem (by rw [List.length_take, List.length_map]; omega)
    · exact ih (by omega) h.1 i j hij (by omega)
theorem dist_dup {VS : List Vic} (h : distJ VS) : ∀ k, k ≤ VS.length → dupJ (jobs VS) k = false := by
  intro k
  induction k with
  | zero => intro _; rfl
  | succ k ih =>
    intro hk
    unfold dupJ
    rw [ih (by omega), Bool.false_or, decide_eq_false_iff_not]
    intro hm
    obtain ⟨j, hj, he⟩ := mem_gd hm
    rw [List.length_take] at hj
    unfold jobs at he hj
    rw [List.length_map] at hj
    rw [gd_take_lt (by omega), gd_map (by omega), gd_map (by omega)] at he
    exact h j k (by omega) (by omega) he
theorem dup_iff {VS : List Vic} : dupJ (jobs VS) VS.length = false ↔ distJ VS := ⟨fun h i j hij hj => dup_dist (Nat.le_refl _) h i j hij hj, fun h => dist_dup h _ (Nat.le_refl _)⟩

theorem twice_ct (M : List As) (a : Option Addr) (cap : Nat) (VS : List Vic) (hr : RdH M a 5 encVic VS) (hn : VS.length ≤ 1000000) :
    Ctr Try.prog 21 #[.slice a VS.length cap] M (fun v M' => v = .bool (dupJ (jobs VS) VS.length) ∧ M' = M) := by
  refine Ctr.rd (okf fn21) hr (fun hrd => ?_)
  refine ctr_of (Γ := tab) (vs := [_]) fn21 rfl ?_
  repeat ((conv => whnf); (first | refine ztx ?_ | refine LNext.nilr ?_ | refine zne ?_ | refine zga ?_ | refine zxa ?_ | refine zca ?_ | refine zcb ?_ | refine zgb ?_ | refine zgc ?_ | refine zgd1 ?_ | refine zge ?_ | refine zgf ?_ | refine zgg ?_ | refine zgh ?_ | refine zgi ?_ | refine zgj ?_ | refine zgk ?_ | refine max2m ?_ | refine min2m ?_ | refine eqStr ?_ | refine neqStr ?_ | refine eqSlNil ?_ | refine neqSlNil ?_ | refine eqBool ?_ | refine neqBool ?_ | refine zgl ?_ | refine zgm ?_ | refine zgn ?_ | refine zgo ?_ | refine zba ?_ | refine zbb ?_ | refine zbc ?_ | refine zbd ?_ | refine zbe ?_ | refine zbf ?_ | refine zia ?_ | refine zib ?_ | refine zic ?_ | refine zid1 ?_ | refine zie ?_ | refine zif1 ?_ | refine zig ?_ | refine zih ?_ | refine lint_u8_mod ?_ | refine lint_u32_mod ?_ | refine zii ?_ | refine zij ?_ | refine zua ?_ | refine LRes.mk ?_ | refine LIn.step ?_ | refine zdr ?_ | refine zna (fun _ => ?_) | refine znb (fun _ => ?_) | refine znc (fun _ => ?_) | refine newSlice0 (fun _ => ?_) | refine newMap (fun _ => ?_)))
  rename_i mb
  refine LLoop.inv (Γ := tab) (fun x : Nat × List (Int × Bool) => [(3, .map (some mb)), (7, .slice a VS.length cap), (8, .int .i64 VS.length), (9, .int .i64 x.1)])
    (fun x => MapA (.int .i64) (Value.int .i64) Value.bool mb x.2 :: M) (fun x => x.1 ≤ VS.length ∧ dupJ (jobs VS) x.1 = false ∧ ∀ j, getL x.2 j = if j ∈ (jobs VS).take x.1 then some true else none) (fun x => VS.length - x.1) (0, []) ⟨by simp, rfl, by intro nm; simp [getL]⟩ zSu zEn ?_
  rintro ⟨k, L⟩ ⟨hk, hd, hL⟩
  dsimp only at hk hd hL ⊢
  by_cases h1 : k < VS.length
  · obtain ⟨b, o, rfl, hl⟩ := hrd.get h1
    have hjk : gd (jobs VS) k = (gd VS k).job := by unfold jobs; rw [gd_map h1]
    have hjl : (jobs VS).length = VS.length := by unfold jobs; rw [List.length_map]
    have hdk : dupJ (jobs VS) (k + 1) = decide ((gd VS k).job ∈ (jobs VS).take k) := by
      show (dupJ (jobs VS) k || decide (gd (jobs VS) k ∈ (jobs VS).take k)) = _
      rw [hd, Bool.false_or, hjk]
    have hget := hL (gd VS k).job
    repeat ((conv => whnf); (first | refine ztx ?_ | refine LNext.nilr ?_ | refine zne ?_ | refine zga ?_ | refine zxa ?_ | refine zca ?_ | refine zcb ?_ | refine zgb ?_ | refine zgc ?_ | refine zgd1 ?_ | refine zge ?_ | refine zgf ?_ | refine zgg ?_ | refine zgh ?_ | refine zgi ?_ | refine zgj ?_ | refine zgk ?_ | refine max2m ?_ | refine min2m ?_ | refine eqStr ?_ | refine neqStr ?_ | refine eqSlNil ?_ | refine neqSlNil ?_ | refine eqBool ?_ | refine neqBool ?_ | refine zgl ?_ | refine zgm ?_ | refine zgn ?_ | refine zgo ?_ | refine zba ?_ | refine zbb ?_ | refine zbc ?_ | refine zbd ?_ | refine zbe ?_ | refine zbf ?_ | refine zia ?_ | refine zib ?_ | refine zic ?_ | refine zid1 ?_ | refine zie ?_ | refine zif1 ?_ | refine zig ?_ | refine zih ?_ | refine lint_u8_mod ?_ | refine lint_u32_mod ?_ | refine zii ?_ | refine zij ?_ | refine zua ?_ | refine LRes.mk ?_ | refine LIn.step ?_ | refine zdr ?_ | refine zna (fun _ => ?_) | refine znb (fun _ => ?_) | refine znc (fun _ => ?_) | refine newSlice0 (fun _ => ?_) | refine newMap (fun _ => ?_)))
    refine lookup1 tab (L := L) (k := (gd VS k).job) ?_ keyInt rfl rfl rfl (by repeat (first | exact HasMap.here | apply HasMap.there))
    rw [hget]
    by_cases e3 : (gd VS k).job ∈ (jobs VS).take k
    · rw [if_pos e3]
      rw [decide_eq_true e3] at hdk
      rw [dupJ_mono hdk _ h1]
      repeat ((conv => whnf); (first | refine ztx ?_ | refine LNext.nilr ?_ | refine zne ?_ | refine zga ?_ | refine zxa ?_ | refine zca ?_ | refine zcb ?_ | refine zgb ?_ | refine zgc ?_ | refine zgd1 ?_ | refine zge ?_ | refine zgf ?_ | refine zgg ?_ | refine zgh ?_ | refine zgi ?_ | refine zgj ?_ | refine zgk ?_ | refine max2m ?_ | refine min2m ?_ | refine eqStr ?_ | refine neqStr ?_ | refine eqSlNil ?_ | refine neqSlNil ?_ | refine eqBool ?_ | refine neqBool ?_ | refine zgl ?_ | refine zgm ?_ | refine zgn ?_ | refine zgo ?_ | refine zba ?_ | refine zbb ?_ | refine zbc ?_ | refine zbd ?_ | refine zbe ?_ | refine zbf ?_ | refine zia ?_ | refine zib ?_ | refine zic ?_ | refine zid1 ?_ | refine zie ?_ | refine zif1 ?_ | refine zig ?_ | refine zih ?_ | refine lint_u8_mod ?_ | refine lint_u32_mod ?_ | refine zii ?_ | refine zij ?_ | refine zua ?_ | refine LRes.mk ?_ | refine LIn.step ?_ | refine zdr ?_ | refine zna (fun _ => ?_) | refine znb (fun _ => ?_) | refine znc (fun _ => ?_) | refine newSlice0 (fun _ => ?_) | refine newMap (fun _ => ?_)))
      show Fin _ _ _; exact Fin.of M zEn ⟨rfl, rfl⟩
    · rw [if_neg e3]
      rw [decide_eq_false e3] at hdk
      repeat ((conv => whnf); (first | refine ztx ?_ | refine LNext.nilr ?_ | refine zne ?_ | refine zga ?_ | refine zxa ?_ | refine zca ?_ | refine zcb ?_ | refine zgb ?_ | refine zgc ?_ | refine zgd1 ?_ | refine zge ?_ | refine zgf ?_ | refine zgg ?_ | refine zgh ?_ | refine zgi ?_ | refine zgj ?_ | refine zgk ?_ | refine max2m ?_ | refine min2m ?_ | refine eqStr ?_ | refine neqStr ?_ | refine eqSlNil ?_ | refine neqSlNil ?_ | refine eqBool ?_ | refine neqBool ?_ | refine zgl ?_ | refine zgm ?_ | refine zgn ?_ | refine zgo ?_ | refine zba ?_ | refine zbb ?_ | refine zbc ?_ | refine zbd ?_ | refine zbe ?_ | refine zbf ?_ | refine zia ?_ | refine zib ?_ | refine zic ?_ | refine zid1 ?_ | refine zie ?_ | refine zif1 ?_ | refine zig ?_ | refine zih ?_ | refine lint_u8_mod ?_ | refine lint_u32_mod ?_ | refine zii ?_ | refine zij ?_ | refine zua ?_ | refine LRes.mk ?_ | refine LIn.step ?_ | refine zdr ?_ | refine zna (fun _ => ?_) | refine znb (fun _ => ?_) | refine znc (fun _ => ?_) | refine newSlice0 (fun _ => ?_) | refine newMap (fun _ => ?_)))
      refine put1 tab (L := L) (k := (gd VS k).job) (x := true) ?_ keyInt rfl rfl zTk
      repeat ((conv => whnf); (first | refine ztx ?_ | refine LNext.nilr ?_ | refine zne ?_ | refine zga ?_ | refine zxa ?_ | refine zca ?_ | refine zcb ?_ | refine zgb ?_ | refine zgc ?_ | refine zgd1 ?_ | refine zge ?_ | refine zgf ?_ | refine zgg ?_ | refine zgh ?_ | refine zgi ?_ | refine zgj ?_ | refine zgk ?_ | refine max2m ?_ | refine min2m ?_ | refine eqStr ?_ | refine neqStr ?_ | refine eqSlNil ?_ | refine neqSlNil ?_ | refine eqBool ?_ | refine neqBool ?_ | refine zgl ?_ | refine zgm ?_ | refine zgn ?_ | refine zgo ?_ | refine zba ?_ | refine zbb ?_ | refine zbc ?_ | refine zbd ?_ | refine zbe ?_ | refine zbf ?_ | refine zia ?_ | refine zib ?_ | refine zic ?_ | refine zid1 ?_ | refine zie ?_ | refine zif1 ?_ | refine zig ?_ | refine zih ?_ | refine lint_u8_mod ?_ | refine lint_u32_mod ?_ | refine zii ?_ | refine zij ?_ | refine zua ?_ | refine LRes.mk ?_ | refine LIn.step ?_ | refine zdr ?_ | refine zna (fun _ => ?_) | refine znb (fun _ => ?_) | refine znc (fun _ => ?_) | refine newSlice0 (fun _ => ?_) | refine newMap (fun _ => ?_)))
      exact ⟨(k + 1, putL L (gd VS k).job true), ⟨h1, hdk, fun j => by
        show getL (putL L (gd VS k).job true) j = _
        rw [getL_put, hL j, gd_take (by omega), hjk]
        by_cases e : j = (gd VS k).job
        · subst e; simp
        · simp [e]⟩, by show VS.length - (k + 1) < VS.length - k; omega, zSu, zEn⟩
  · have : k = VS.length := by omega
    subst this
    rw [hd]
    repeat ((conv => whnf); (first | refine ztx ?_ | refine LNext.nilr ?_ | refine zne ?_ | refine zga ?_ | refine zxa ?_ | refine zca ?_ | refine zcb ?_ | refine zgb ?_ | refine zgc ?_ | refine zgd1 ?_ | refine zge ?_ | refine zgf ?_ | refine zgg ?_ | refine zgh ?_ | refine zgi ?_ | refine zgj ?_ | refine zgk ?_ | refine max2m ?_ | refine min2m ?_ | refine eqStr ?_ | refine neqStr ?_ | refine eqSlNil ?_ | refine neqSlNil ?_ | refine eqBool ?_ | refine neqBool ?_ | refine zgl ?_ | refine zgm ?_ | refine zgn ?_ | refine zgo ?_ | refine zba ?_ | refine zbb ?_ | refine zbc ?_ | refine zbd ?_ | refine zbe ?_ | refine zbf ?_ | refine zia ?_ | refine zib ?_ | refine zic ?_ | refine zid1 ?_ | refine zie ?_ | refine zif1 ?_ | refine zig ?_ | refine zih ?_ | refine lint_u8_mod ?_ | refine lint_u32_mod ?_ | refine zii ?_ | refine zij ?_ | refine zua ?_ | refine LRes.mk ?_ | refine LIn.step ?_ | refine zdr ?_ | refine zna (fun _ => ?_) | refine znb (fun _ => ?_) | refine znc (fun _ => ?_) | refine newSlice0 (fun _ => ?_) | refine newMap (fun _ => ?_)))
    show Fin _ _ _; exact Fin.of M zEn ⟨rfl, rfl⟩
theorem rTwice_ct (M : List As) (a : Option Addr) (cap : Nat) (VS : List Vic) (hr : RdH M a 5 encVic VS) (hn : VS.length ≤ 1000000) :
    Ctr Try.prog 26 #[.slice a VS.length cap] M (fun v M' => v = .bool (dupJ (jobs VS) VS.length) ∧ M' = M) := by
  refine Ctr.rd (okf fn26) hr (fun hrd => ?_)
  refine ctr_of (Γ := tab) (vs := [_]) fn26 rfl ?_
  repeat ((conv => whnf); (first | refine ztx ?_ | refine LNext.nilr ?_ | refine zne ?_ | refine zga ?_ | refine zxa ?_ | refine zca ?_ | refine zcb ?_ | refine zgb ?_ | refine zgc ?_ | refine zgd1 ?_ | refine zge ?_ | refine zgf ?_ | refine zgg ?_ | refine zgh ?_ | refine zgi ?_ | refine zgj ?_ | refine zgk ?_ | refine max2m ?_ | refine min2m ?_ | refine eqStr ?_ | refine neqStr ?_ | refine eqSlNil ?_ | refine neqSlNil ?_ | refine eqBool ?_ | refine neqBool ?_ | refine zgl ?_ | refine zgm ?_ | refine zgn ?_ | refine zgo ?_ | refine zba ?_ | refine zbb ?_ | refine zbc ?_ | refine zbd ?_ | refine zbe ?_ | refine zbf ?_ | refine zia ?_ | refine zib ?_ | refine zic ?_ | refine zid1 ?_ | refine zie ?_ | refine zif1 ?_ | refine zig ?_ | refine zih ?_ | refine lint_u8_mod ?_ | refine lint_u32_mod ?_ | refine zii ?_ | refine zij ?_ | refine zua ?_ | refine LRes.mk ?_ | refine LIn.step ?_ | refine zdr ?_ | refine zna (fun _ => ?_) | refine znb (fun _ => ?_) | refine znc (fun _ => ?_) | refine newSlice0 (fun _ => ?_) | refine newMap (fun _ => ?_)))
  refine LLoop.inv (Γ := tab) (fun i : Nat => [(0, .slice a VS.length cap), (3, .int .i64 i)]) (fun _ => M) (fun i => i ≤ VS.length ∧ dupJ (jobs VS) i = false) (fun i => VS.length - i) 0 ⟨by simp, rfl⟩ zSu zEn ?_
  rintro i ⟨hi, hd⟩
  by_cases h1 : i < VS.length
  · have hjk : gd (jobs VS) i = (gd VS i).job := by unfold jobs; rw [gd_map h1]
    have hjl : (jobs VS).length = VS.length := by unfold jobs; rw [List.length_map]
    have hdk : dupJ (jobs VS) (i + 1) = decide ((gd VS i).job ∈ (jobs VS).take i) := by
      show (dupJ (jobs VS) i || decide (gd (jobs VS) i ∈ (jobs VS).take i)) = _
      rw [hd, Bool.false_or, hjk]
    obtain ⟨b, o, rfl, hl⟩ := hrd.get h1
    repeat ((conv => whnf); (first | refine ztx ?_ | refine LNext.nilr ?_ | refine zne ?_ | refine zga ?_ | refine zxa ?_ | refine zca ?_ | refine zcb ?_ | refine zgb ?_ | refine zgc ?_ | refine zgd1 ?_ | refine zge ?_ | refine zgf ?_ | refine zgg ?_ | refine zgh ?_ | refine zgi ?_ | refine zgj ?_ | refine zgk ?_ | refine max2m ?_ | refine min2m ?_ | refine eqStr ?_ | refine neqStr ?_ | refine eqSlNil ?_ | refine neqSlNil ?_ | refine eqBool ?_ | refine neqBool ?_ | refine zgl ?_ | refine zgm ?_ | refine zgn ?_ | refine zgo ?_ | refine zba ?_ | refine zbb ?_ | refine zbc ?_ | refine zbd ?_ | refine zbe ?_ | refine zbf ?_ | refine zia ?_ | refine zib ?_ | refine zic ?_ | refine zid1 ?_ | refine zie ?_ | refine zif1 ?_ | refine zig ?_ | refine zih ?_ | refine lint_u8_mod ?_ | refine lint_u32_mod ?_ | refine zii ?_ | refine zij ?_ | refine zua ?_ | refine LRes.mk ?_ | refine LIn.step ?_ | refine zdr ?_ | refine zna (fun _ => ?_) | refine znb (fun _ => ?_) | refine znc (fun _ => ?_) | refine newSlice0 (fun _ => ?_) | refine newMap (fun _ => ?_)))
    refine LLoop.inv (Γ := tab) (fun k : Nat => [(0, .slice (some ⟨b, o, none⟩) VS.length cap), (3, .int .i64 i), (4, .int .i64 k)]) (fun _ => M) (fun k => k ≤ i ∧ ∀ j, j < k → (gd VS j).job ≠ (gd VS i).job) (fun k => i - k) 0 ⟨by simp, fun j hj => absurd hj (Nat.not_lt_zero _)⟩ zSu zEn ?_
    rintro k ⟨hk, hne⟩
    by_cases h2 : k < i
    · by_cases h3 : (gd VS k).job = (gd VS i).job
      · have : dupJ (jobs VS) (i + 1) = true := by
          rw [hdk]
          refine decide_eq_true ?_
          rw [← h3]
          have h4 : gd ((jobs VS).take i) k = (gd VS k).job := by rw [gd_take_lt h2]; unfold jobs; rw [gd_map (by omega)]
          rw [← h4]
          exact gd_mem (by rw [List.length_take]; omega)
        rw [dupJ_mono this _ h1]
        repeat ((conv => whnf); (first | refine ztx ?_ | refine LNext.nilr ?_ | refine zne ?_ | refine zga ?_ | refine zxa ?_ | refine zca ?_ | refine zcb ?_ | refine zgb ?_ | refine zgc ?_ | refine zgd1 ?_ | refine zge ?_ | refine zgf ?_ | refine zgg ?_ | refine zgh ?_ | refine zgi ?_ | refine zgj ?_ | refine zgk ?_ | refine max2m ?_ | refine min2m ?_ | refine eqStr ?_ | refine neqStr ?_ | refine eqSlNil ?_ | refine neqSlNil ?_ | refine eqBool ?_ | refine neqBool ?_ | refine zgl ?_ | refine zgm ?_ | refine zgn ?_ | refine zgo ?_ | refine zba ?_ | refine zbb ?_ | refine zbc ?_ | refine zbd ?_ | refine zbe ?_ | refine zbf ?_ | refine zia ?_ | refine zib ?_ | refine zic ?_ | refine zid1 ?_ | refine zie ?_ | refine zif1 ?_ | refine zig ?_ | refine zih ?_ | refine lint_u8_mod ?_ | refine lint_u32_mod ?_ | refine zii ?_ | refine zij ?_ | refine zua ?_ | refine LRes.mk ?_ | refine LIn.step ?_ | refine zdr ?_ | refine zna (fun _ => ?_) | refine znb (fun _ => ?_) | refine znc (fun _ => ?_) | refine newSlice0 (fun _ => ?_) | refine newMap (fun _ => ?_)))
        show Fin _ _ _; exact Fin.of M zEn ⟨rfl, rfl⟩
      · repeat ((conv => whnf); (first | refine ztx ?_ | refine LNext.nilr ?_ | refine zne ?_ | refine zga ?_ | refine zxa ?_ | refine zca ?_ | refine zcb ?_ | refine zgb ?_ | refine zgc ?_ | refine zgd1 ?_ | refine zge ?_ | refine zgf ?_ | refine zgg ?_ | refine zgh ?_ | refine zgi ?_ | refine zgj ?_ | refine zgk ?_ | refine max2m ?_ | refine min2m ?_ | refine eqStr ?_ | refine neqStr ?_ | refine eqSlNil ?_ | refine neqSlNil ?_ | refine eqBool ?_ | refine neqBool ?_ | refine zgl ?_ | refine zgm ?_ | refine zgn ?_ | refine zgo ?_ | refine zba ?_ | refine zbb ?_ | refine zbc ?_ | refine zbd ?_ | refine zbe ?_ | refine zbf ?_ | refine zia ?_ | refine zib ?_ | refine zic ?_ | refine zid1 ?_ | refine zie ?_ | refine zif1 ?_ | refine zig ?_ | refine zih ?_ | refine lint_u8_mod ?_ | refine lint_u32_mod ?_ | refine zii ?_ | refine zij ?_ | refine zua ?_ | refine LRes.mk ?_ | refine LIn.step ?_ | refine zdr ?_ | refine zna (fun _ => ?_) | refine znb (fun _ => ?_) | refine znc (fun _ => ?_) | refine newSlice0 (fun _ => ?_) | refine newMap (fun _ => ?_)))
        exact ⟨k + 1, ⟨h2, fun j hj => by by_cases e : j = k; exact e ▸ h3; exact hne j (by omega)⟩, by omega, zSu, zEn⟩
    · have : k = i := by omega
      subst this
      have hno : dupJ (jobs VS) (k + 1) = false := by
        rw [hdk]
        refine decide_eq_false ?_
        intro hm
        obtain ⟨j, hj, he⟩ := mem_gd hm
        rw [List.length_take] at hj
        rw [gd_take_lt (by omega)] at he
        unfold jobs at he
        rw [gd_map (by omega)] at he
        exact hne j (by omega) he
      repeat ((conv => whnf); (first | refine ztx ?_ | refine LNext.nilr ?_ | refine zne ?_ | refine zga ?_ | refine zxa ?_ | refine zca ?_ | refine zcb ?_ | refine zgb ?_ | refine zgc ?_ | refine zgd1 ?_ | refine zge ?_ | refine zgf ?_ | refine zgg ?_ | refine zgh ?_ | refine zgi ?_ | refine zgj ?_ | refine zgk ?_ | refine max2m ?_ | refine min2m ?_ | refine eqStr ?_ | refine neqStr ?_ | refine eqSlNil ?_ | refine neqSlNil ?_ | refine eqBool ?_ | refine neqBool ?_ | refine zgl ?_ | refine zgm ?_ | refine zgn ?_ | refine zgo ?_ | refine zba ?_ | refine zbb ?_ | refine zbc ?_ | refine zbd ?_ | refine zbe ?_ | refine zbf ?_ | refine zia ?_ | refine zib ?_ | refine zic ?_ | refine zid1 ?_ | refine zie ?_ | refine zif1 ?_ | refine zig ?_ | refine zih ?_ | refine lint_u8_mod ?_ | refine lint_u32_mod ?_ | refine zii ?_ | refine zij ?_ | refine zua ?_ | refine LRes.mk ?_ | refine LIn.step ?_ | refine zdr ?_ | refine zna (fun _ => ?_) | refine znb (fun _ => ?_) | refine znc (fun _ => ?_) | refine newSlice0 (fun _ => ?_) | refine newMap (fun _ => ?_)))
      exact ⟨k + 1, ⟨h1, hno⟩, by omega, zSu, zEn⟩
  · have : i = VS.length := by omega
    subst this
    rw [hd]
    repeat ((conv => whnf); (first | refine ztx ?_ | refine LNext.nilr ?_ | refine zne ?_ | refine zga ?_ | refine zxa ?_ | refine zca ?_ | refine zcb ?_ | refine zgb ?_ | refine zgc ?_ | refine zgd1 ?_ | refine zge ?_ | refine zgf ?_ | refine zgg ?_ | refine zgh ?_ | refine zgi ?_ | refine zgj ?_ | refine zgk ?_ | refine max2m ?_ | refine min2m ?_ | refine eqStr ?_ | refine neqStr ?_ | refine eqSlNil ?_ | refine neqSlNil ?_ | refine eqBool ?_ | refine neqBool ?_ | refine zgl ?_ | refine zgm ?_ | refine zgn ?_ | refine zgo ?_ | refine zba ?_ | refine zbb ?_ | refine zbc ?_ | refine zbd ?_ | refine zbe ?_ | refine zbf ?_ | refine zia ?_ | refine zib ?_ | refine zic ?_ | refine zid1 ?_ | refine zie ?_ | refine zif1 ?_ | refine zig ?_ | refine zih ?_ | refine lint_u8_mod ?_ | refine lint_u32_mod ?_ | refine zii ?_ | refine zij ?_ | refine zua ?_ | refine LRes.mk ?_ | refine LIn.step ?_ | refine zdr ?_ | refine zna (fun _ => ?_) | refine znb (fun _ => ?_) | refine znc (fun _ => ?_) | refine newSlice0 (fun _ => ?_) | refine newMap (fun _ => ?_)))
    show Fin _ _ _; exact Fin.of M zEn ⟨rfl, rfl⟩
/-- The key of a victim. -/
def vkey (v : Vic) : K3 := (-1 - v.prio, v.start, v.job)
theorem heap_ct (M : List As) (a : Option Addr) (cap : Nat) (VS : List Vic) (hr : RdH M a 5 encVic VS) (hn : VS.length ≤ 1000000) (hw : ∀ v ∈ VS, i64r v.prio) :
    Ctr Try.prog 22 #[.slice a VS.length cap] M (fun v M' => ∃ q h, v = .pointer (some ⟨q.b, 0, none⟩) ∧ Hp (VS.map vkey) h ∧ Good q (VS.map vkey) ∧ (∀ x, In h x ↔ x < VS.length) ∧ h.A.length = VS.length ∧ M' = HMq q (VS.map vkey) h ++ M) := by
  refine Ctr.rd (okf fn22) hr (fun hrd => ?_)
  refine ctr_of (Γ := tab) (vs := [_]) fn22 rfl ?_
  repeat ((conv => whnf); (first | refine ztx ?_ | refine LNext.nilr ?_ | refine zne ?_ | refine zga ?_ | refine zxa ?_ | refine zca ?_ | refine zcb ?_ | refine zgb ?_ | refine zgc ?_ | refine zgd1 ?_ | refine zge ?_ | refine zgf ?_ | refine zgg ?_ | refine zgh ?_ | refine zgi ?_ | refine zgj ?_ | refine zgk ?_ | refine max2m ?_ | refine min2m ?_ | refine eqStr ?_ | refine neqStr ?_ | refine eqSlNil ?_ | refine neqSlNil ?_ | refine eqBool ?_ | refine neqBool ?_ | refine zgl ?_ | refine zgm ?_ | refine zgn ?_ | refine zgo ?_ | refine zba ?_ | refine zbb ?_ | refine zbc ?_ | refine zbd ?_ | refine zbe ?_ | refine zbf ?_ | refine zia ?_ | refine zib ?_ | refine zic ?_ | refine zid1 ?_ | refine zie ?_ | refine zif1 ?_ | refine zig ?_ | refine zih ?_ | refine lint_u8_mod ?_ | refine lint_u32_mod ?_ | refine zii ?_ | refine zij ?_ | refine zua ?_ | refine LRes.mk ?_ | refine LIn.step ?_ | refine zdr ?_ | refine zna (fun _ => ?_) | refine znb (fun _ => ?_) | refine znc (fun _ => ?_) | refine newSlice0 (fun _ => ?_) | refine newMap (fun _ => ?_)))
  refine call1 New_ct zSp ?_
  rintro v M' ⟨hb, rfl, rfl⟩
  repeat ((conv => whnf); (first | refine ztx ?_ | refine LNext.nilr ?_ | refine zne ?_ | refine zga ?_ | refine zxa ?_ | refine zca ?_ | refine zcb ?_ | refine zgb ?_ | refine zgc ?_ | refine zgd1 ?_ | refine zge ?_ | refine zgf ?_ | refine zgg ?_ | refine zgh ?_ | refine zgi ?_ | refine zgj ?_ | refine zgk ?_ | refine max2m ?_ | refine min2m ?_ | refine eqStr ?_ | refine neqStr ?_ | refine eqSlNil ?_ | refine neqSlNil ?_ | refine eqBool ?_ | refine neqBool ?_ | refine zgl ?_ | refine zgm ?_ | refine zgn ?_ | refine zgo ?_ | refine zba ?_ | refine zbb ?_ | refine zbc ?_ | refine zbd ?_ | refine zbe ?_ | refine zbf ?_ | refine zia ?_ | refine zib ?_ | refine zic ?_ | refine zid1 ?_ | refine zie ?_ | refine zif1 ?_ | refine zig ?_ | refine zih ?_ | refine lint_u8_mod ?_ | refine lint_u32_mod ?_ | refine zii ?_ | refine zij ?_ | refine zua ?_ | refine LRes.mk ?_ | refine LIn.step ?_ | refine zdr ?_ | refine zna (fun _ => ?_) | refine znb (fun _ => ?_) | refine znc (fun _ => ?_) | refine newSlice0 (fun _ => ?_) | refine newMap (fun _ => ?_)))
  refine LLoop.inv (Γ := tab) (fun x : Nat × Pq × HS => [(3, .pointer (some ⟨x.2.1.b, 0, none⟩)), (7, .slice a VS.length cap), (8, .int .i64 VS.length), (9, .int .i64 x.1)])
    (fun x => HMq x.2.1 ((VS.take x.1).map vkey) x.2.2 ++ M) (fun x => x.1 ≤ VS.length ∧ Hp ((VS.take x.1).map vkey) x.2.2 ∧ Good x.2.1 ((VS.take x.1).map vkey) ∧ (∀ y, In x.2.2 y ↔ y < x.1) ∧ x.2.2.A.length = x.1) (fun x => VS.length - x.1)
    (0, q0 hb, h0) ⟨by simp, Hp.h0, .inl rfl, fun y => ⟨fun hy => absurd hy (In.none rfl y), fun hy => absurd hy (Nat.not_lt_zero _)⟩, rfl⟩ zSu zEn ?_
  rintro ⟨k, q, h⟩ ⟨hk, hp, hg, hin, hl⟩
  dsimp only at hk hp hg hin hl ⊢
  have hkl : ((VS.take k).map vkey).length = k := by rw [List.length_map, List.length_take]; omega
  by_cases h1 : k < VS.length
  · obtain ⟨b, o, rfl, hlies⟩ := hrd.get h1
    have hi := In.ins hp.o (vkey (gd VS k)) (by omega)
    rw [hkl] at hi
    have hpi := hp.ins (vkey (gd VS k)) (by omega)
    have ht : (VS.take (k + 1)).map vkey = (VS.take k).map vkey ++ [vkey (gd VS k)] := by rw [gd_take h1, List.map_append]; rfl
    repeat ((conv => whnf); (first | refine ztx ?_ | refine LNext.nilr ?_ | refine zne ?_ | refine zga ?_ | refine zxa ?_ | refine zca ?_ | refine zcb ?_ | refine zgb ?_ | refine zgc ?_ | refine zgd1 ?_ | refine zge ?_ | refine zgf ?_ | refine zgg ?_ | refine zgh ?_ | refine zgi ?_ | refine zgj ?_ | refine zgk ?_ | refine max2m ?_ | refine min2m ?_ | refine eqStr ?_ | refine neqStr ?_ | refine eqSlNil ?_ | refine neqSlNil ?_ | refine eqBool ?_ | refine neqBool ?_ | refine zgl ?_ | refine zgm ?_ | refine zgn ?_ | refine zgo ?_ | refine zba ?_ | refine zbb ?_ | refine zbc ?_ | refine zbd ?_ | refine zbe ?_ | refine zbf ?_ | refine zia ?_ | refine zib ?_ | refine zic ?_ | refine zid1 ?_ | refine zie ?_ | refine zif1 ?_ | refine zig ?_ | refine zih ?_ | refine lint_u8_mod ?_ | refine lint_u32_mod ?_ | refine zii ?_ | refine zij ?_ | refine zua ?_ | refine LRes.mk ?_ | refine LIn.step ?_ | refine zdr ?_ | refine zna (fun _ => ?_) | refine znb (fun _ => ?_) | refine znc (fun _ => ?_) | refine newSlice0 (fun _ => ?_) | refine newMap (fun _ => ?_)))
    refine unNot (hw _ (gd_mem h1)) ?_
    repeat ((conv => whnf); (first | refine ztx ?_ | refine LNext.nilr ?_ | refine zne ?_ | refine zga ?_ | refine zxa ?_ | refine zca ?_ | refine zcb ?_ | refine zgb ?_ | refine zgc ?_ | refine zgd1 ?_ | refine zge ?_ | refine zgf ?_ | refine zgg ?_ | refine zgh ?_ | refine zgi ?_ | refine zgj ?_ | refine zgk ?_ | refine max2m ?_ | refine min2m ?_ | refine eqStr ?_ | refine neqStr ?_ | refine eqSlNil ?_ | refine neqSlNil ?_ | refine eqBool ?_ | refine neqBool ?_ | refine zgl ?_ | refine zgm ?_ | refine zgn ?_ | refine zgo ?_ | refine zba ?_ | refine zbb ?_ | refine zbc ?_ | refine zbd ?_ | refine zbe ?_ | refine zbf ?_ | refine zia ?_ | refine zib ?_ | refine zic ?_ | refine zid1 ?_ | refine zie ?_ | refine zif1 ?_ | refine zig ?_ | refine zih ?_ | refine lint_u8_mod ?_ | refine lint_u32_mod ?_ | refine zii ?_ | refine zij ?_ | refine zua ?_ | refine LRes.mk ?_ | refine LIn.step ?_ | refine zdr ?_ | refine zna (fun _ => ?_) | refine znb (fun _ => ?_) | refine znc (fun _ => ?_) | refine newSlice0 (fun _ => ?_) | refine newMap (fun _ => ?_)))
    refine call1 (Insert_ct q ((VS.take k).map vkey) h hp.o (vkey (gd VS k)) (by omega)) zSp ?_
    rintro v M' ⟨rfl, p, hpb, rfl⟩
    repeat ((conv => whnf); (first | refine ztx ?_ | refine LNext.nilr ?_ | refine zne ?_ | refine zga ?_ | refine zxa ?_ | refine zca ?_ | refine zcb ?_ | refine zgb ?_ | refine zgc ?_ | refine zgd1 ?_ | refine zge ?_ | refine zgf ?_ | refine zgg ?_ | refine zgh ?_ | refine zgi ?_ | refine zgj ?_ | refine zgk ?_ | refine max2m ?_ | refine min2m ?_ | refine eqStr ?_ | refine neqStr ?_ | refine eqSlNil ?_ | refine neqSlNil ?_ | refine eqBool ?_ | refine neqBool ?_ | refine zgl ?_ | refine zgm ?_ | refine zgn ?_ | refine zgo ?_ | refine zba ?_ | refine zbb ?_ | refine zbc ?_ | refine zbd ?_ | refine zbe ?_ | refine zbf ?_ | refine zia ?_ | refine zib ?_ | refine zic ?_ | refine zid1 ?_ | refine zie ?_ | refine zif1 ?_ | refine zig ?_ | refine zih ?_ | refine lint_u8_mod ?_ | refine lint_u32_mod ?_ | refine zii ?_ | refine zij ?_ | refine zua ?_ | refine LRes.mk ?_ | refine LIn.step ?_ | refine zdr ?_ | refine zna (fun _ => ?_) | refine znb (fun _ => ?_) | refine znc (fun _ => ?_) | refine newSlice0 (fun _ => ?_) | refine newMap (fun _ => ?_)))
    refine ⟨(k + 1, p.q, insH ((VS.take k).map vkey) h (vkey (gd VS k))), ⟨h1, by dsimp only; rw [ht]; exact hpi, by dsimp only; exact .inr ⟨p, rfl⟩, fun y => ?_, ?_⟩, by show VS.length - (k + 1) < VS.length - k; omega, ?_, ?_⟩
    · show In (insH _ h _) y ↔ y < k + 1
      rw [hi.1 y, hin y]; omega
    · show (insH _ h _).A.length = k + 1
      rw [hi.2, hl]
    · show Sl.Sub [(3, .pointer (some ⟨p.q.b, 0, none⟩)), _, _, _] _
      rw [show p.q.b = q.b from hpb]
      exact zSu
    · dsimp only
      rw [ht]
      exact zEn
  · have : k = VS.length := by omega
    subst this
    rw [List.take_length] at *
    repeat ((conv => whnf); (first | refine ztx ?_ | refine LNext.nilr ?_ | refine zne ?_ | refine zga ?_ | refine zxa ?_ | refine zca ?_ | refine zcb ?_ | refine zgb ?_ | refine zgc ?_ | refine zgd1 ?_ | refine zge ?_ | refine zgf ?_ | refine zgg ?_ | refine zgh ?_ | refine zgi ?_ | refine zgj ?_ | refine zgk ?_ | refine max2m ?_ | refine min2m ?_ | refine eqStr ?_ | refine neqStr ?_ | refine eqSlNil ?_ | refine neqSlNil ?_ | refine eqBool ?_ | refine neqBool ?_ | refine zgl ?_ | refine zgm ?_ | refine zgn ?_ | refine zgo ?_ | refine zba ?_ | refine zbb ?_ | refine zbc ?_ | refine zbd ?_ | refine zbe ?_ | refine zbf ?_ | refine zia ?_ | refine zib ?_ | refine zic ?_ | refine zid1 ?_ | refine zie ?_ | refine zif1 ?_ | refine zig ?_ | refine zih ?_ | refine lint_u8_mod ?_ | refine lint_u32_mod ?_ | refine zii ?_ | refine zij ?_ | refine zua ?_ | refine LRes.mk ?_ | refine LIn.step ?_ | refine zdr ?_ | refine zna (fun _ => ?_) | refine znb (fun _ => ?_) | refine znc (fun _ => ?_) | refine newSlice0 (fun _ => ?_) | refine newMap (fun _ => ?_)))
    show Fin _ _ _; exact Fin.of (HMq q (VS.map vkey) h ++ M) zEn ⟨q, h, rfl, hp, hg, hin, hl, rfl⟩
end Go.Proofs.Ytjgionnigenijaa
