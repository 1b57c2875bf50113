import Derived.Test.YtkfebhogimmoeaaLw11b
/-! The document's profile, walked. -/
namespace Go.Proofs.Ytkfebhogimmoeaa
open Go.Sl
set_option linter.unusedVariables false
set_option linter.unusedSimpArgs false
set_option maxRecDepth 100000
set_option maxHeartbeats 4000000

instance : Inhabited TkT := ⟨(0, 0, 0, 0, 0, 0)⟩
def encTk (w : TkT) : List Value := [.int .i64 w.1, .int .i64 w.2.1, .int .i64 w.2.2.1, .int .i64 w.2.2.2.1, .int .i64 w.2.2.2.2.1, .int .i64 w.2.2.2.2.2]
abbrev RT (b : Nat) (c : V4) (a : Option Addr) (n cap : Nat) : As := pt b (.cells #[.int .i64 c.1, .int .i64 c.2.1, .int .i64 c.2.2.1, .int .i64 c.2.2.2, .slice a n cap] 51)
def fW (c : V4) (W : List TkT) (t : Int) : V4 := sub4 c (sm W t)
theorem at4_le {w : TkT} (h : formed w.2.2 = true) (t : Int) : (at4 w t).1 ≤ 1099511627776 ∧ (at4 w t).2.1 ≤ 1099511627776 ∧ (at4 w t).2.2.1 ≤ 1099511627776 ∧ (at4 w t).2.2.2 ≤ 1099511627776 := by
  rw [formed_iff] at h
  unfold at4
  split
  · omega
  · simp
theorem sm_le {W : List TkT} (h : ∀ w ∈ W, formed w.2.2 = true) (t : Int) : (sm W t).1 ≤ W.length * 1099511627776 ∧ (sm W t).2.1 ≤ W.length * 1099511627776 ∧ (sm W t).2.2.1 ≤ W.length * 1099511627776 ∧ (sm W t).2.2.2 ≤ W.length * 1099511627776 := by
  induction W with
  | nil => simp [sm]
  | cons w W ih =>
    have h1 := at4_le (h w (List.mem_cons_self ..)) t
    have h2 := ih (fun x hx => h x (List.mem_cons_of_mem _ hx))
    rw [sm_cons, List.length_cons]
    simp only [sm.add4']
    omega
theorem fW_bound {c : V4} {W : List TkT} (hc : formed c = true) (h : ∀ w ∈ W, formed w.2.2 = true) (hn : W.length ≤ 5000) (t : Int) :
    (-6000000000000000 ≤ (fW c W t).1 ∧ (fW c W t).1 ≤ 1099511627776) ∧ (-6000000000000000 ≤ (fW c W t).2.1 ∧ (fW c W t).2.1 ≤ 1099511627776) ∧ (-6000000000000000 ≤ (fW c W t).2.2.1 ∧ (fW c W t).2.2.1 ≤ 1099511627776) ∧ (-6000000000000000 ≤ (fW c W t).2.2.2 ∧ (fW c W t).2.2.2 ≤ 1099511627776) := by
  have h1 := sm_nn h t
  have h2 := sm_le h t
  rw [formed_iff] at hc
  simp only [fW, sub4]
  omega
theorem fW_snoc (c : V4) (W : List TkT) (w : TkT) (t : Int) : fW c (W ++ [w]) t = sub4 (fW c W t) (at4 w t) := by
  unfold fW
  rw [sm_app, sm_cons]
  simp only [sub4, sm.add4', sm, List.foldr, Prod.mk.injEq]
  omega
theorem rSpan_ct (a b : Int) (M : List As) : Ctr Try.prog 34 #[.int .i64 a, .int .i64 b] M (fun v M' => v = .bool (spanB a b) ∧ M' = M) := by
  refine ctr_of (Γ := tab) (vs := [_, _]) fn34 rfl ?_
  unfold spanB
  by_cases h1 : 0 ≤ a
  · by_cases h2 : b ≤ 1099511627776
    · repeat ((conv => whnf); (first | refine ztx ?_ | refine LNext.nilr ?_ | refine zne ?_ | refine zga ?_ | refine zxa ?_ | refine zca ?_ | refine zcb ?_ | refine zgb ?_ | refine zgc ?_ | refine zgd1 ?_ | refine zge ?_ | refine zgf ?_ | refine zgg ?_ | refine zgh ?_ | refine zgi ?_ | refine zgj ?_ | refine zgk ?_ | refine max2m ?_ | refine min2m ?_ | refine eqStr ?_ | refine neqStr ?_ | refine eqSlNil ?_ | refine neqSlNil ?_ | refine eqBool ?_ | refine neqBool ?_ | refine capSlice ?_ | refine zgl ?_ | refine zgm ?_ | refine zgn ?_ | refine zgo ?_ | refine zba ?_ | refine zbb ?_ | refine zbc ?_ | refine zbd ?_ | refine zbe ?_ | refine zbf ?_ | refine zia ?_ | refine zib ?_ | refine zic ?_ | refine zid1 ?_ | refine zie ?_ | refine zif1 ?_ | refine zig ?_ | refine zih ?_ | refine lint_u8_mod ?_ | refine lint_u32_mod ?_ | refine zii ?_ | refine zij ?_ | refine zua ?_ | refine LRes.mk ?_ | refine LIn.step ?_ | refine zdr ?_ | refine zna (fun _ => ?_) | refine znb (fun _ => ?_) | refine znc (fun _ => ?_) | refine newSlice0 (fun _ => ?_) | refine newMap (fun _ => ?_)))
      show Fin _ _ _; exact Fin.of M zEn ⟨by simp [h1, h2], rfl⟩
    · repeat ((conv => whnf); (first | refine ztx ?_ | refine LNext.nilr ?_ | refine zne ?_ | refine zga ?_ | refine zxa ?_ | refine zca ?_ | refine zcb ?_ | refine zgb ?_ | refine zgc ?_ | refine zgd1 ?_ | refine zge ?_ | refine zgf ?_ | refine zgg ?_ | refine zgh ?_ | refine zgi ?_ | refine zgj ?_ | refine zgk ?_ | refine max2m ?_ | refine min2m ?_ | refine eqStr ?_ | refine neqStr ?_ | refine eqSlNil ?_ | refine neqSlNil ?_ | refine eqBool ?_ | refine neqBool ?_ | refine capSlice ?_ | refine zgl ?_ | refine zgm ?_ | refine zgn ?_ | refine zgo ?_ | refine zba ?_ | refine zbb ?_ | refine zbc ?_ | refine zbd ?_ | refine zbe ?_ | refine zbf ?_ | refine zia ?_ | refine zib ?_ | refine zic ?_ | refine zid1 ?_ | refine zie ?_ | refine zif1 ?_ | refine zig ?_ | refine zih ?_ | refine lint_u8_mod ?_ | refine lint_u32_mod ?_ | refine zii ?_ | refine zij ?_ | refine zua ?_ | refine LRes.mk ?_ | refine LIn.step ?_ | refine zdr ?_ | refine zna (fun _ => ?_) | refine znb (fun _ => ?_) | refine znc (fun _ => ?_) | refine newSlice0 (fun _ => ?_) | refine newMap (fun _ => ?_)))
      show Fin _ _ _; exact Fin.of M zEn ⟨by simp [h1, h2], rfl⟩
  · repeat ((conv => whnf); (first | refine ztx ?_ | refine LNext.nilr ?_ | refine zne ?_ | refine zga ?_ | refine zxa ?_ | refine zca ?_ | refine zcb ?_ | refine zgb ?_ | refine zgc ?_ | refine zgd1 ?_ | refine zge ?_ | refine zgf ?_ | refine zgg ?_ | refine zgh ?_ | refine zgi ?_ | refine zgj ?_ | refine zgk ?_ | refine max2m ?_ | refine min2m ?_ | refine eqStr ?_ | refine neqStr ?_ | refine eqSlNil ?_ | refine neqSlNil ?_ | refine eqBool ?_ | refine neqBool ?_ | refine capSlice ?_ | refine zgl ?_ | refine zgm ?_ | refine zgn ?_ | refine zgo ?_ | refine zba ?_ | refine zbb ?_ | refine zbc ?_ | refine zbd ?_ | refine zbe ?_ | refine zbf ?_ | refine zia ?_ | refine zib ?_ | refine zic ?_ | refine zid1 ?_ | refine zie ?_ | refine zif1 ?_ | refine zig ?_ | refine zih ?_ | refine lint_u8_mod ?_ | refine lint_u32_mod ?_ | refine zii ?_ | refine zij ?_ | refine zua ?_ | refine LRes.mk ?_ | refine LIn.step ?_ | refine zdr ?_ | refine zna (fun _ => ?_) | refine znb (fun _ => ?_) | refine znc (fun _ => ?_) | refine newSlice0 (fun _ => ?_) | refine newMap (fun _ => ?_)))
    show Fin _ _ _; exact Fin.of M zEn ⟨by simp [h1], rfl⟩
theorem rFree_ct (wb : Nat) (c : V4) (a : Option Addr) (cap : Nat) (W : List TkT) (t : Int) (hc : formed c = true) (hW : ∀ w ∈ W, formed w.2.2 = true) (hn : W.length ≤ 5000) :
    Ctr Try.prog 32 #[.pointer (some ⟨wb, 0, none⟩), .int .i64 t] [RT wb c a W.length cap, ERow 74 6 encTk a W.length cap W]
      (fun v M' => v = vv (fW c W t) ∧ M' = [RT wb c a W.length cap, ERow 74 6 encTk a W.length cap W]) := by
  refine Ctr.row (okf fn32) (Take.there Take.here) (fun rh => ?_)
  refine ctr_of (Γ := tab) (vs := [_, _]) fn32 rfl ?_
  repeat ((conv => whnf); (first | refine ztx ?_ | refine LNext.nilr ?_ | refine zne ?_ | refine zga ?_ | refine zxa ?_ | refine zca ?_ | refine zcb ?_ | refine zgb ?_ | refine zgc ?_ | refine zgd1 ?_ | refine zge ?_ | refine zgf ?_ | refine zgg ?_ | refine zgh ?_ | refine zgi ?_ | refine zgj ?_ | refine zgk ?_ | refine max2m ?_ | refine min2m ?_ | refine eqStr ?_ | refine neqStr ?_ | refine eqSlNil ?_ | refine neqSlNil ?_ | refine eqBool ?_ | refine neqBool ?_ | refine capSlice ?_ | refine zgl ?_ | refine zgm ?_ | refine zgn ?_ | refine zgo ?_ | refine zba ?_ | refine zbb ?_ | refine zbc ?_ | refine zbd ?_ | refine zbe ?_ | refine zbf ?_ | refine zia ?_ | refine zib ?_ | refine zic ?_ | refine zid1 ?_ | refine zie ?_ | refine zif1 ?_ | refine zig ?_ | refine zih ?_ | refine lint_u8_mod ?_ | refine lint_u32_mod ?_ | refine zii ?_ | refine zij ?_ | refine zua ?_ | refine LRes.mk ?_ | refine LIn.step ?_ | refine zdr ?_ | refine zna (fun _ => ?_) | refine znb (fun _ => ?_) | refine znc (fun _ => ?_) | refine newSlice0 (fun _ => ?_) | refine newMap (fun _ => ?_)))
  rename_i rb vb
  refine LLoop.inv (Γ := tab) (fun i : Nat => [(0, .pointer (some ⟨wb, 0, none⟩)), (1, .int .i64 t), (4, .pointer (some ⟨rb, 0, none⟩)), (5, .pointer (some ⟨vb, 0, none⟩)), (6, .int .i64 i)])
    (fun i => [pt rb (.cells (encV (0, 0, 0, 0)).toArray 23), pt vb (.cells (encV (fW c (W.take i) t)).toArray 23), RT wb c a W.length cap, ERow 74 6 encTk a W.length cap W])
    (fun i => i ≤ W.length) (fun i => W.length - i) 0 (Nat.zero_le _) zSu (by
      have e : fW c (W.take 0) t = c := by simp [fW, sm, sub4]
      rw [e]; exact zEn) ?_
  rintro i hi
  by_cases h1 : i < W.length
  · obtain ⟨g0, rfl⟩ := rh.ad (by omega)
    have hb := fW_bound (W := W.take i) hc (fun w hw => hW w (List.mem_of_mem_take hw)) (by rw [List.length_take]; omega) t
    have hw := hW _ (gd_mem h1)
    rw [formed_iff] at hw
    have hs : fW c (W.take (i + 1)) t = sub4 (fW c (W.take i) t) (at4 (gd W i) t) := by rw [gd_take h1, fW_snoc]
    by_cases h2 : (gd W i).1 ≤ t
    · by_cases h3 : t < (gd W i).2.1
      · have ha : at4 (gd W i) t = (gd W i).2.2 := by unfold at4; rw [if_pos ⟨h2, h3⟩]
        rw [ha] at hs
        repeat (first | ((conv => whnf); (first | refine ztx ?_ | refine LNext.nilr ?_ | refine zne ?_ | refine zga ?_ | refine zxa ?_ | refine zca ?_ | refine zcb ?_ | refine zgb ?_ | refine zgc ?_ | refine zgd1 ?_ | refine zge ?_ | refine zgf ?_ | refine zgg ?_ | refine zgh ?_ | refine zgi ?_ | refine zgj ?_ | refine zgk ?_ | refine max2m ?_ | refine min2m ?_ | refine eqStr ?_ | refine neqStr ?_ | refine eqSlNil ?_ | refine neqSlNil ?_ | refine eqBool ?_ | refine neqBool ?_ | refine capSlice ?_ | refine zgl ?_ | refine zgm ?_ | refine zgn ?_ | refine zgo ?_ | refine zba ?_ | refine zbb ?_ | refine zbc ?_ | refine zbd ?_ | refine zbe ?_ | refine zbf ?_ | refine zia ?_ | refine zib ?_ | refine zic ?_ | refine zid1 ?_ | refine zie ?_ | refine zif1 ?_ | refine zig ?_ | refine zih ?_ | refine lint_u8_mod ?_ | refine lint_u32_mod ?_ | refine zii ?_ | refine zij ?_ | refine zua ?_ | refine LRes.mk ?_ | refine LIn.step ?_ | refine zdr ?_ | refine zna (fun _ => ?_) | refine znb (fun _ => ?_) | refine znc (fun _ => ?_) | refine newSlice0 (fun _ => ?_) | refine newMap (fun _ => ?_))) | (show LLoop _ _ _ _ _ _; refine LLoop.unroll (Γ := tab) ?_))
        show LGet _ (Instr.loadAt 2 (.pointer (some ⟨g0, 0 + i * 6 + 3, none⟩))) _ _
        repeat (first | ((conv => whnf); (first | refine ztx ?_ | refine LNext.nilr ?_ | refine zne ?_ | refine zga ?_ | refine zxa ?_ | refine zca ?_ | refine zcb ?_ | refine zgb ?_ | refine zgc ?_ | refine zgd1 ?_ | refine zge ?_ | refine zgf ?_ | refine zgg ?_ | refine zgh ?_ | refine zgi ?_ | refine zgj ?_ | refine zgk ?_ | refine max2m ?_ | refine min2m ?_ | refine eqStr ?_ | refine neqStr ?_ | refine eqSlNil ?_ | refine neqSlNil ?_ | refine eqBool ?_ | refine neqBool ?_ | refine capSlice ?_ | refine zgl ?_ | refine zgm ?_ | refine zgn ?_ | refine zgo ?_ | refine zba ?_ | refine zbb ?_ | refine zbc ?_ | refine zbd ?_ | refine zbe ?_ | refine zbf ?_ | refine zia ?_ | refine zib ?_ | refine zic ?_ | refine zid1 ?_ | refine zie ?_ | refine zif1 ?_ | refine zig ?_ | refine zih ?_ | refine lint_u8_mod ?_ | refine lint_u32_mod ?_ | refine zii ?_ | refine zij ?_ | refine zua ?_ | refine LRes.mk ?_ | refine LIn.step ?_ | refine zdr ?_ | refine zna (fun _ => ?_) | refine znb (fun _ => ?_) | refine znc (fun _ => ?_) | refine newSlice0 (fun _ => ?_) | refine newMap (fun _ => ?_))) | (show LLoop _ _ _ _ _ _; refine LLoop.unroll (Γ := tab) ?_))
        show LGet _ (Instr.loadAt 2 (.pointer (some ⟨g0, 0 + i * 6 + 4, none⟩))) _ _
        repeat (first | ((conv => whnf); (first | refine ztx ?_ | refine LNext.nilr ?_ | refine zne ?_ | refine zga ?_ | refine zxa ?_ | refine zca ?_ | refine zcb ?_ | refine zgb ?_ | refine zgc ?_ | refine zgd1 ?_ | refine zge ?_ | refine zgf ?_ | refine zgg ?_ | refine zgh ?_ | refine zgi ?_ | refine zgj ?_ | refine zgk ?_ | refine max2m ?_ | refine min2m ?_ | refine eqStr ?_ | refine neqStr ?_ | refine eqSlNil ?_ | refine neqSlNil ?_ | refine eqBool ?_ | refine neqBool ?_ | refine capSlice ?_ | refine zgl ?_ | refine zgm ?_ | refine zgn ?_ | refine zgo ?_ | refine zba ?_ | refine zbb ?_ | refine zbc ?_ | refine zbd ?_ | refine zbe ?_ | refine zbf ?_ | refine zia ?_ | refine zib ?_ | refine zic ?_ | refine zid1 ?_ | refine zie ?_ | refine zif1 ?_ | refine zig ?_ | refine zih ?_ | refine lint_u8_mod ?_ | refine lint_u32_mod ?_ | refine zii ?_ | refine zij ?_ | refine zua ?_ | refine LRes.mk ?_ | refine LIn.step ?_ | refine zdr ?_ | refine zna (fun _ => ?_) | refine znb (fun _ => ?_) | refine znc (fun _ => ?_) | refine newSlice0 (fun _ => ?_) | refine newMap (fun _ => ?_))) | (show LLoop _ _ _ _ _ _; refine LLoop.unroll (Γ := tab) ?_))
        show LGet _ (Instr.loadAt 2 (.pointer (some ⟨g0, 0 + i * 6 + 5, none⟩))) _ _
        repeat (first | ((conv => whnf); (first | refine ztx ?_ | refine LNext.nilr ?_ | refine zne ?_ | refine zga ?_ | refine zxa ?_ | refine zca ?_ | refine zcb ?_ | refine zgb ?_ | refine zgc ?_ | refine zgd1 ?_ | refine zge ?_ | refine zgf ?_ | refine zgg ?_ | refine zgh ?_ | refine zgi ?_ | refine zgj ?_ | refine zgk ?_ | refine max2m ?_ | refine min2m ?_ | refine eqStr ?_ | refine neqStr ?_ | refine eqSlNil ?_ | refine neqSlNil ?_ | refine eqBool ?_ | refine neqBool ?_ | refine capSlice ?_ | refine zgl ?_ | refine zgm ?_ | refine zgn ?_ | refine zgo ?_ | refine zba ?_ | refine zbb ?_ | refine zbc ?_ | refine zbd ?_ | refine zbe ?_ | refine zbf ?_ | refine zia ?_ | refine zib ?_ | refine zic ?_ | refine zid1 ?_ | refine zie ?_ | refine zif1 ?_ | refine zig ?_ | refine zih ?_ | refine lint_u8_mod ?_ | refine lint_u32_mod ?_ | refine zii ?_ | refine zij ?_ | refine zua ?_ | refine LRes.mk ?_ | refine LIn.step ?_ | refine zdr ?_ | refine zna (fun _ => ?_) | refine znb (fun _ => ?_) | refine znc (fun _ => ?_) | refine newSlice0 (fun _ => ?_) | refine newMap (fun _ => ?_))) | (show LLoop _ _ _ _ _ _; refine LLoop.unroll (Γ := tab) ?_))
        exact ⟨i + 1, h1, by omega, zSu, by rw [hs]; exact zEn⟩
      · have ha : at4 (gd W i) t = (0, 0, 0, 0) := by unfold at4; rw [if_neg (fun q => h3 q.2)]
        rw [ha, sub4_zero] at hs
        repeat ((conv => whnf); (first | refine ztx ?_ | refine LNext.nilr ?_ | refine zne ?_ | refine zga ?_ | refine zxa ?_ | refine zca ?_ | refine zcb ?_ | refine zgb ?_ | refine zgc ?_ | refine zgd1 ?_ | refine zge ?_ | refine zgf ?_ | refine zgg ?_ | refine zgh ?_ | refine zgi ?_ | refine zgj ?_ | refine zgk ?_ | refine max2m ?_ | refine min2m ?_ | refine eqStr ?_ | refine neqStr ?_ | refine eqSlNil ?_ | refine neqSlNil ?_ | refine eqBool ?_ | refine neqBool ?_ | refine capSlice ?_ | refine zgl ?_ | refine zgm ?_ | refine zgn ?_ | refine zgo ?_ | refine zba ?_ | refine zbb ?_ | refine zbc ?_ | refine zbd ?_ | refine zbe ?_ | refine zbf ?_ | refine zia ?_ | refine zib ?_ | refine zic ?_ | refine zid1 ?_ | refine zie ?_ | refine zif1 ?_ | refine zig ?_ | refine zih ?_ | refine lint_u8_mod ?_ | refine lint_u32_mod ?_ | refine zii ?_ | refine zij ?_ | refine zua ?_ | refine LRes.mk ?_ | refine LIn.step ?_ | refine zdr ?_ | refine zna (fun _ => ?_) | refine znb (fun _ => ?_) | refine znc (fun _ => ?_) | refine newSlice0 (fun _ => ?_) | refine newMap (fun _ => ?_)))
        exact ⟨i + 1, h1, by omega, zSu, by rw [hs]; exact zEn⟩
    · have ha : at4 (gd W i) t = (0, 0, 0, 0) := by unfold at4; rw [if_neg (fun q => h2 q.1)]
      rw [ha, sub4_zero] at hs
      repeat ((conv => whnf); (first | refine ztx ?_ | refine LNext.nilr ?_ | refine zne ?_ | refine zga ?_ | refine zxa ?_ | refine zca ?_ | refine zcb ?_ | refine zgb ?_ | refine zgc ?_ | refine zgd1 ?_ | refine zge ?_ | refine zgf ?_ | refine zgg ?_ | refine zgh ?_ | refine zgi ?_ | refine zgj ?_ | refine zgk ?_ | refine max2m ?_ | refine min2m ?_ | refine eqStr ?_ | refine neqStr ?_ | refine eqSlNil ?_ | refine neqSlNil ?_ | refine eqBool ?_ | refine neqBool ?_ | refine capSlice ?_ | refine zgl ?_ | refine zgm ?_ | refine zgn ?_ | refine zgo ?_ | refine zba ?_ | refine zbb ?_ | refine zbc ?_ | refine zbd ?_ | refine zbe ?_ | refine zbf ?_ | refine zia ?_ | refine zib ?_ | refine zic ?_ | refine zid1 ?_ | refine zie ?_ | refine zif1 ?_ | refine zig ?_ | refine zih ?_ | refine lint_u8_mod ?_ | refine lint_u32_mod ?_ | refine zii ?_ | refine zij ?_ | refine zua ?_ | refine LRes.mk ?_ | refine LIn.step ?_ | refine zdr ?_ | refine zna (fun _ => ?_) | refine znb (fun _ => ?_) | refine znc (fun _ => ?_) | refine newSlice0 (fun _ => ?_) | refine newMap (fun _ => ?_)))
      exact ⟨i + 1, h1, by omega, zSu, by rw [hs]; exact zEn⟩
  · have : i = W.length := by omega
    subst this
    rw [List.take_length]
    repeat ((conv => whnf); (first | refine ztx ?_ | refine LNext.nilr ?_ | refine zne ?_ | refine zga ?_ | refine zxa ?_ | refine zca ?_ | refine zcb ?_ | refine zgb ?_ | refine zgc ?_ | refine zgd1 ?_ | refine zge ?_ | refine zgf ?_ | refine zgg ?_ | refine zgh ?_ | refine zgi ?_ | refine zgj ?_ | refine zgk ?_ | refine max2m ?_ | refine min2m ?_ | refine eqStr ?_ | refine neqStr ?_ | refine eqSlNil ?_ | refine neqSlNil ?_ | refine eqBool ?_ | refine neqBool ?_ | refine capSlice ?_ | refine zgl ?_ | refine zgm ?_ | refine zgn ?_ | refine zgo ?_ | refine zba ?_ | refine zbb ?_ | refine zbc ?_ | refine zbd ?_ | refine zbe ?_ | refine zbf ?_ | refine zia ?_ | refine zib ?_ | refine zic ?_ | refine zid1 ?_ | refine zie ?_ | refine zif1 ?_ | refine zig ?_ | refine zih ?_ | refine lint_u8_mod ?_ | refine lint_u32_mod ?_ | refine zii ?_ | refine zij ?_ | refine zua ?_ | refine LRes.mk ?_ | refine LIn.step ?_ | refine zdr ?_ | refine zna (fun _ => ?_) | refine znb (fun _ => ?_) | refine znc (fun _ => ?_) | refine newSlice0 (fun _ => ?_) | refine newMap (fun _ => ?_)))
    show Fin _ _ _; exact Fin.of [RT wb c a W.length cap, ERow 74 6 encTk a W.length cap W] zEn ⟨rfl, rfl⟩
end Go.Proofs.Ytkfebhogimmoeaa
