import Derived.Test.YtkfebhogimmoeaaLw11
/-! What is free hangs on no order. -/
namespace Go.Proofs.Ytkfebhogimmoeaa
open Go.Sl
set_option linter.unusedVariables false
set_option linter.unusedSimpArgs false
set_option maxRecDepth 100000
set_option maxHeartbeats 4000000

abbrev TkT := Int × Int × V4
/-- What is taken at a tick. -/
def at4 (w : TkT) (t : Int) : V4 := if w.1 ≤ t ∧ t < w.2.1 then w.2.2 else (0, 0, 0, 0)
def rf : V4 → List TkT → Int → V4
  | c, [], _ => c
  | c, w :: W, t => sub4 (rf c W t) (at4 w t)
/-- A profile and its takes (the latest first). -/
structure Of (c : V4) (L : List StepT) (k : Nat) (W : List TkT) : Prop where
  inv : PInv c L k
  len : W.length = k
  fr : ∀ t, fr c L t = rf c W t
  right : ∀ w ∈ W, formed w.2.2 = true ∧ spanB w.1 w.2.1 = true
theorem Of.zero {c : V4} (h : formed c = true) : Of c [] 0 [] := ⟨PInv.zero h, rfl, fun _ => rfl, fun w hw => by simp at hw⟩
theorem sub4_zero (a : V4) : sub4 a (0, 0, 0, 0) = a := by simp [sub4]
theorem Of.take {c : V4} {L : List StepT} {k : Nat} {W : List TkT} {a b : Int} {v : V4} (h : Of c L k W) (he : takeE c L k a b v = 0) : Of c (lessL c L a b v) (k + 1) ((a, b, v) :: W) := by
  refine ⟨h.inv.take he, by rw [List.length_cons, h.len], fun t => ?_, fun w hw => ?_⟩
  · rw [fr_lessL h.inv he t, h.fr]
    show _ = sub4 _ (if a ≤ t ∧ t < b then v else _)
    split
    · rfl
    · rw [sub4_zero]
  · rcases List.mem_cons.1 hw with e | e
    · subst e
      obtain ⟨h1, h2, _, _⟩ := takeE_ok.1 he
      exact ⟨h1, h2⟩
    · exact h.right w e
/-- Componentwise: the sum of what is taken. -/
def sm (W : List TkT) (t : Int) : V4 := W.foldr (fun w s => add4' (at4 w t) s) (0, 0, 0, 0)
where add4' (a b : V4) : V4 := (a.1 + b.1, a.2.1 + b.2.1, a.2.2.1 + b.2.2.1, a.2.2.2 + b.2.2.2)
theorem sm_cons (w : TkT) (W : List TkT) (t : Int) : sm (w :: W) t = sm.add4' (at4 w t) (sm W t) := rfl
theorem rf_sm (c : V4) (W : List TkT) (t : Int) : rf c W t = sub4 c (sm W t) := by
  induction W with
  | nil => simp [rf, sm, sub4]
  | cons w W ih =>
    rw [sm_cons]
    show sub4 (rf c W t) _ = _
    rw [ih]
    simp only [sub4, sm.add4', Prod.mk.injEq]
    omega
theorem sm_perm {W W' : List TkT} (h : W.Perm W') (t : Int) : sm W t = sm W' t := by
  induction h with
  | nil => rfl
  | cons x _ ih => rw [sm_cons, sm_cons, ih]
  | swap x y l => simp only [sm_cons, sm.add4', Prod.mk.injEq]; omega
  | trans _ _ ih1 ih2 => rw [ih1, ih2]
theorem at4_nn {w : TkT} (h : formed w.2.2 = true) (t : Int) : 0 ≤ (at4 w t).1 ∧ 0 ≤ (at4 w t).2.1 ∧ 0 ≤ (at4 w t).2.2.1 ∧ 0 ≤ (at4 w t).2.2.2 := by
  rw [formed_iff] at h
  unfold at4
  split
  · omega
  · simp
theorem sm_nn {W : List TkT} (h : ∀ w ∈ W, formed w.2.2 = true) (t : Int) : 0 ≤ (sm W t).1 ∧ 0 ≤ (sm W t).2.1 ∧ 0 ≤ (sm W t).2.2.1 ∧ 0 ≤ (sm W t).2.2.2 := by
  induction W with
  | nil => simp [sm]
  | cons w W ih =>
    have h1 := at4_nn (h w (List.mem_cons_self ..)) t
    have h2 := ih (fun x hx => h x (List.mem_cons_of_mem _ hx))
    rw [sm_cons]
    simp only [sm.add4']
    omega
theorem sm_app (A B : List TkT) (t : Int) : sm (A ++ B) t = sm.add4' (sm A t) (sm B t) := by
  induction A with
  | nil => simp [sm, sm.add4']
  | cons w A ih => rw [List.cons_append, sm_cons, sm_cons, ih]; simp only [sm.add4', Prod.mk.injEq]; omega
/-- What was taken can be taken in any order: of one that has taken some of them. -/
theorem Of.again {c : V4} {L L' : List StepT} {k k' : Nat} {W A B : List TkT} {w : TkT} (h : Of c L k W) (h' : Of c L' k' A) (hp : W.Perm (w :: (A ++ B))) (hk : k' < 4096) : takeE c L' k' w.1 w.2.1 w.2.2 = 0 := by
  obtain ⟨h1, h2⟩ := h.right w (hp.mem_iff.2 (List.mem_cons_self ..))
  obtain ⟨s1, s2, s3⟩ := span_iff.1 h2
  refine takeE_ok.2 ⟨h1, h2, hk, (lst_fits h'.inv.ris s2).2 (fun t q1 q2 => ?_)⟩
  have hf := (h.inv.at' t).1
  rw [h.fr, rf_sm, sm_perm hp, sm_cons, sm_app] at hf
  rw [h'.fr, rf_sm]
  have hB := sm_nn (W := B) (fun x hx => (h.right x (hp.mem_iff.2 (List.mem_cons_of_mem _ (List.mem_append_right _ hx)))).1) t
  have ha : at4 w t = w.2.2 := by unfold at4; rw [if_pos ⟨q1, q2⟩]
  rw [ha] at hf
  rw [formed_iff] at hf
  simp only [sub4, sm.add4'] at hf
  rw [fits_iff]
  simp only [sub4]
  omega
theorem Of.same {c : V4} {L L' : List StepT} {k k' : Nat} {W W' : List TkT} (h : Of c L k W) (h' : Of c L' k' W') (hp : W.Perm W') : L = L' :=
  h.inv.uniq h'.inv (fun t => by rw [h.fr, h'.fr, rf_sm, rf_sm, sm_perm hp])
def tk (o : OpT) : TkT := (o.2.1, o.2.2.1, o.2.2.2)
theorem Of.next {c : V4} {L : List StepT} {k : Nat} {W : List TkT} (h : Of c L k W) {o : OpT} (he : takeE c L k o.2.1 o.2.2.1 o.2.2.2 = 0) : Of c (takeN c L k o.2.1 o.2.2.1 o.2.2.2).1 (takeN c L k o.2.1 o.2.2.1 o.2.2.2).2 (tk o :: W) := by
  unfold takeN
  rw [if_pos he]
  exact h.take he
structure P2 where
  r : Nat
  a : Option Addr
  cap : Nat
  L : List StepT
  k : Nat
theorem stepEq (s : StepT) : EqL Try.prog 9999 37 (.agg (encStep s).toArray) (.agg (encStep s).toArray) true :=
  (EqL.struct tab rfl (by decide +kernel) (EqFs.cons rfl (PartIs.one tab rfl rfl) (PartIs.one tab rfl rfl) (EqL.int tab rfl) (EqFs.cons rfl (PartIs.agg tab rfl rfl rfl) (PartIs.agg tab rfl rfl rfl) (EqL.arr (xs := [s.2.1, s.2.2.1, s.2.2.2.1, s.2.2.2.2]) (ys := [s.2.1, s.2.2.1, s.2.2.2.1, s.2.2.2.2]) tab rfl rfl rfl rfl rfl) EqFs.nil))).cast (by simp)
theorem Order_ct (M : List As) (c : V4) (a : Option Addr) (cap : Nat) (S : List OpT) (hr : RdH M a 7 encOp S) :
    Ctr Try.prog 4 #[vv c, .slice a S.length cap] M (fun v M' => v = .bool true ∧ M' = M) := by
  refine Ctr.rd (okf fn4) hr (fun hrd => ?_)
  refine ctr_of (Γ := tab) (vs := [_, _]) fn4 rfl ?_
  repeat ((conv => whnf); (first | refine ztx ?_ | refine LNext.nilr ?_ | refine zne ?_ | refine zga ?_ | refine zxa ?_ | refine zca ?_ | refine zcb ?_ | refine zgb ?_ | refine zgc ?_ | refine zgd1 ?_ | refine zge ?_ | refine zgf ?_ | refine zgg ?_ | refine zgh ?_ | refine zgi ?_ | refine zgj ?_ | refine zgk ?_ | refine max2m ?_ | refine min2m ?_ | refine eqStr ?_ | refine neqStr ?_ | refine eqSlNil ?_ | refine neqSlNil ?_ | refine eqBool ?_ | refine neqBool ?_ | refine capSlice ?_ | refine zgl ?_ | refine zgm ?_ | refine zgn ?_ | refine zgo ?_ | refine zba ?_ | refine zbb ?_ | refine zbc ?_ | refine zbd ?_ | refine zbe ?_ | refine zbf ?_ | refine zia ?_ | refine zib ?_ | refine zic ?_ | refine zid1 ?_ | refine zie ?_ | refine zif1 ?_ | refine zig ?_ | refine zih ?_ | refine lint_u8_mod ?_ | refine lint_u32_mod ?_ | refine zii ?_ | refine zij ?_ | refine zua ?_ | refine LRes.mk ?_ | refine LIn.step ?_ | refine zdr ?_ | refine zna (fun _ => ?_) | refine znb (fun _ => ?_) | refine znc (fun _ => ?_) | refine newSlice0 (fun _ => ?_) | refine newMap (fun _ => ?_)))
  (first | refine call0 (awake_ct _) ?_ | refine ext0 (awake_ct _) ?_); rintro v rfl
  by_cases hl : S.length > 100
  · repeat ((conv => whnf); (first | refine ztx ?_ | refine LNext.nilr ?_ | refine zne ?_ | refine zga ?_ | refine zxa ?_ | refine zca ?_ | refine zcb ?_ | refine zgb ?_ | refine zgc ?_ | refine zgd1 ?_ | refine zge ?_ | refine zgf ?_ | refine zgg ?_ | refine zgh ?_ | refine zgi ?_ | refine zgj ?_ | refine zgk ?_ | refine max2m ?_ | refine min2m ?_ | refine eqStr ?_ | refine neqStr ?_ | refine eqSlNil ?_ | refine neqSlNil ?_ | refine eqBool ?_ | refine neqBool ?_ | refine capSlice ?_ | refine zgl ?_ | refine zgm ?_ | refine zgn ?_ | refine zgo ?_ | refine zba ?_ | refine zbb ?_ | refine zbc ?_ | refine zbd ?_ | refine zbe ?_ | refine zbf ?_ | refine zia ?_ | refine zib ?_ | refine zic ?_ | refine zid1 ?_ | refine zie ?_ | refine zif1 ?_ | refine zig ?_ | refine zih ?_ | refine lint_u8_mod ?_ | refine lint_u32_mod ?_ | refine zii ?_ | refine zij ?_ | refine zua ?_ | refine LRes.mk ?_ | refine LIn.step ?_ | refine zdr ?_ | refine zna (fun _ => ?_) | refine znb (fun _ => ?_) | refine znc (fun _ => ?_) | refine newSlice0 (fun _ => ?_) | refine newMap (fun _ => ?_)))
    (first | refine call0 (awake_ct _) ?_ | refine ext0 (awake_ct _) ?_); rintro v rfl
    repeat ((conv => whnf); (first | refine ztx ?_ | refine LNext.nilr ?_ | refine zne ?_ | refine zga ?_ | refine zxa ?_ | refine zca ?_ | refine zcb ?_ | refine zgb ?_ | refine zgc ?_ | refine zgd1 ?_ | refine zge ?_ | refine zgf ?_ | refine zgg ?_ | refine zgh ?_ | refine zgi ?_ | refine zgj ?_ | refine zgk ?_ | refine max2m ?_ | refine min2m ?_ | refine eqStr ?_ | refine neqStr ?_ | refine eqSlNil ?_ | refine neqSlNil ?_ | refine eqBool ?_ | refine neqBool ?_ | refine capSlice ?_ | refine zgl ?_ | refine zgm ?_ | refine zgn ?_ | refine zgo ?_ | refine zba ?_ | refine zbb ?_ | refine zbc ?_ | refine zbd ?_ | refine zbe ?_ | refine zbf ?_ | refine zia ?_ | refine zib ?_ | refine zic ?_ | refine zid1 ?_ | refine zie ?_ | refine zif1 ?_ | refine zig ?_ | refine zih ?_ | refine lint_u8_mod ?_ | refine lint_u32_mod ?_ | refine zii ?_ | refine zij ?_ | refine zua ?_ | refine LRes.mk ?_ | refine LIn.step ?_ | refine zdr ?_ | refine zna (fun _ => ?_) | refine znb (fun _ => ?_) | refine znc (fun _ => ?_) | refine newSlice0 (fun _ => ?_) | refine newMap (fun _ => ?_)))
    show Fin _ _ _; exact Fin.of M zEn ⟨rfl, rfl⟩
  repeat ((conv => whnf); (first | refine ztx ?_ | refine LNext.nilr ?_ | refine zne ?_ | refine zga ?_ | refine zxa ?_ | refine zca ?_ | refine zcb ?_ | refine zgb ?_ | refine zgc ?_ | refine zgd1 ?_ | refine zge ?_ | refine zgf ?_ | refine zgg ?_ | refine zgh ?_ | refine zgi ?_ | refine zgj ?_ | refine zgk ?_ | refine max2m ?_ | refine min2m ?_ | refine eqStr ?_ | refine neqStr ?_ | refine eqSlNil ?_ | refine neqSlNil ?_ | refine eqBool ?_ | refine neqBool ?_ | refine capSlice ?_ | refine zgl ?_ | refine zgm ?_ | refine zgn ?_ | refine zgo ?_ | refine zba ?_ | refine zbb ?_ | refine zbc ?_ | refine zbd ?_ | refine zbe ?_ | refine zbf ?_ | refine zia ?_ | refine zib ?_ | refine zic ?_ | refine zid1 ?_ | refine zie ?_ | refine zif1 ?_ | refine zig ?_ | refine zih ?_ | refine lint_u8_mod ?_ | refine lint_u32_mod ?_ | refine zii ?_ | refine zij ?_ | refine zua ?_ | refine LRes.mk ?_ | refine LIn.step ?_ | refine zdr ?_ | refine zna (fun _ => ?_) | refine znb (fun _ => ?_) | refine znc (fun _ => ?_) | refine newSlice0 (fun _ => ?_) | refine newMap (fun _ => ?_)))
  cases hf : formed c with
  | false =>
    refine call3 (newBad_ct c _ hf) ?_
    rintro v M' ⟨rfl, rfl⟩
    repeat ((conv => whnf); (first | refine ztx ?_ | refine LNext.nilr ?_ | refine zne ?_ | refine zga ?_ | refine zxa ?_ | refine zca ?_ | refine zcb ?_ | refine zgb ?_ | refine zgc ?_ | refine zgd1 ?_ | refine zge ?_ | refine zgf ?_ | refine zgg ?_ | refine zgh ?_ | refine zgi ?_ | refine zgj ?_ | refine zgk ?_ | refine max2m ?_ | refine min2m ?_ | refine eqStr ?_ | refine neqStr ?_ | refine eqSlNil ?_ | refine neqSlNil ?_ | refine eqBool ?_ | refine neqBool ?_ | refine capSlice ?_ | refine zgl ?_ | refine zgm ?_ | refine zgn ?_ | refine zgo ?_ | refine zba ?_ | refine zbb ?_ | refine zbc ?_ | refine zbd ?_ | refine zbe ?_ | refine zbf ?_ | refine zia ?_ | refine zib ?_ | refine zic ?_ | refine zid1 ?_ | refine zie ?_ | refine zif1 ?_ | refine zig ?_ | refine zih ?_ | refine lint_u8_mod ?_ | refine lint_u32_mod ?_ | refine zii ?_ | refine zij ?_ | refine zua ?_ | refine LRes.mk ?_ | refine LIn.step ?_ | refine zdr ?_ | refine zna (fun _ => ?_) | refine znb (fun _ => ?_) | refine znc (fun _ => ?_) | refine newSlice0 (fun _ => ?_) | refine newMap (fun _ => ?_)))
    refine call3 (newBad_ct c _ hf) ?_
    rintro v M' ⟨rfl, rfl⟩
    repeat ((conv => whnf); (first | refine ztx ?_ | refine LNext.nilr ?_ | refine zne ?_ | refine zga ?_ | refine zxa ?_ | refine zca ?_ | refine zcb ?_ | refine zgb ?_ | refine zgc ?_ | refine zgd1 ?_ | refine zge ?_ | refine zgf ?_ | refine zgg ?_ | refine zgh ?_ | refine zgi ?_ | refine zgj ?_ | refine zgk ?_ | refine max2m ?_ | refine min2m ?_ | refine eqStr ?_ | refine neqStr ?_ | refine eqSlNil ?_ | refine neqSlNil ?_ | refine eqBool ?_ | refine neqBool ?_ | refine capSlice ?_ | refine zgl ?_ | refine zgm ?_ | refine zgn ?_ | refine zgo ?_ | refine zba ?_ | refine zbb ?_ | refine zbc ?_ | refine zbd ?_ | refine zbe ?_ | refine zbf ?_ | refine zia ?_ | refine zib ?_ | refine zic ?_ | refine zid1 ?_ | refine zie ?_ | refine zif1 ?_ | refine zig ?_ | refine zih ?_ | refine lint_u8_mod ?_ | refine lint_u32_mod ?_ | refine zii ?_ | refine zij ?_ | refine zua ?_ | refine LRes.mk ?_ | refine LIn.step ?_ | refine zdr ?_ | refine zna (fun _ => ?_) | refine znb (fun _ => ?_) | refine znc (fun _ => ?_) | refine newSlice0 (fun _ => ?_) | refine newMap (fun _ => ?_)))
    show Fin _ _ _; exact Fin.of M zEn ⟨rfl, rfl⟩
  | true =>
  refine call3 (newOk_ct c _ hf) ?_
  rintro v M' ⟨pb, rfl, rfl⟩
  repeat ((conv => whnf); (first | refine ztx ?_ | refine LNext.nilr ?_ | refine zne ?_ | refine zga ?_ | refine zxa ?_ | refine zca ?_ | refine zcb ?_ | refine zgb ?_ | refine zgc ?_ | refine zgd1 ?_ | refine zge ?_ | refine zgf ?_ | refine zgg ?_ | refine zgh ?_ | refine zgi ?_ | refine zgj ?_ | refine zgk ?_ | refine max2m ?_ | refine min2m ?_ | refine eqStr ?_ | refine neqStr ?_ | refine eqSlNil ?_ | refine neqSlNil ?_ | refine eqBool ?_ | refine neqBool ?_ | refine capSlice ?_ | refine zgl ?_ | refine zgm ?_ | refine zgn ?_ | refine zgo ?_ | refine zba ?_ | refine zbb ?_ | refine zbc ?_ | refine zbd ?_ | refine zbe ?_ | refine zbf ?_ | refine zia ?_ | refine zib ?_ | refine zic ?_ | refine zid1 ?_ | refine zie ?_ | refine zif1 ?_ | refine zig ?_ | refine zih ?_ | refine lint_u8_mod ?_ | refine lint_u32_mod ?_ | refine zii ?_ | refine zij ?_ | refine zua ?_ | refine LRes.mk ?_ | refine LIn.step ?_ | refine zdr ?_ | refine zna (fun _ => ?_) | refine znb (fun _ => ?_) | refine znc (fun _ => ?_) | refine newSlice0 (fun _ => ?_) | refine newMap (fun _ => ?_)))
  refine call3 (newOk_ct c _ hf) ?_
  rintro v M' ⟨qb, rfl, rfl⟩
  repeat ((conv => whnf); (first | refine ztx ?_ | refine LNext.nilr ?_ | refine zne ?_ | refine zga ?_ | refine zxa ?_ | refine zca ?_ | refine zcb ?_ | refine zgb ?_ | refine zgc ?_ | refine zgd1 ?_ | refine zge ?_ | refine zgf ?_ | refine zgg ?_ | refine zgh ?_ | refine zgi ?_ | refine zgj ?_ | refine zgk ?_ | refine max2m ?_ | refine min2m ?_ | refine eqStr ?_ | refine neqStr ?_ | refine eqSlNil ?_ | refine neqSlNil ?_ | refine eqBool ?_ | refine neqBool ?_ | refine capSlice ?_ | refine zgl ?_ | refine zgm ?_ | refine zgn ?_ | refine zgo ?_ | refine zba ?_ | refine zbb ?_ | refine zbc ?_ | refine zbd ?_ | refine zbe ?_ | refine zbf ?_ | refine zia ?_ | refine zib ?_ | refine zic ?_ | refine zid1 ?_ | refine zie ?_ | refine zif1 ?_ | refine zig ?_ | refine zih ?_ | refine lint_u8_mod ?_ | refine lint_u32_mod ?_ | refine zii ?_ | refine zij ?_ | refine zua ?_ | refine LRes.mk ?_ | refine LIn.step ?_ | refine zdr ?_ | refine zna (fun _ => ?_) | refine znb (fun _ => ?_) | refine znc (fun _ => ?_) | refine newSlice0 (fun _ => ?_) | refine newMap (fun _ => ?_)))
  refine LLoop.inv (Γ := tab) (fun x : PS => [(1, .slice a S.length cap), (5, .pointer (some ⟨pb, 0, none⟩)), (7, .pointer (some ⟨qb, 0, none⟩)), (9, .int .i64 x.j)])
    (fun x => PT pb c x.a x.L.length x.cap x.k :: ERow 37 5 encStep x.a x.L.length x.cap x.L :: PT qb c none 0 0 0 :: M)
    (fun x => x.j ≤ S.length ∧ Of c x.L x.k ((S.take x.j).map tk).reverse) (fun x => S.length - x.j) ⟨0, none, 0, [], 0⟩ ⟨Nat.zero_le _, Of.zero hf⟩ zSu zEn ?_
  rintro ⟨j, a1, cap1, L, k⟩ ⟨hj, hi⟩
  dsimp only at hj hi ⊢
  by_cases h1 : j < S.length
  · obtain ⟨sb, so, rfl, hlies⟩ := hrd.get h1
    repeat ((conv => whnf); (first | refine ztx ?_ | refine LNext.nilr ?_ | refine zne ?_ | refine zga ?_ | refine zxa ?_ | refine zca ?_ | refine zcb ?_ | refine zgb ?_ | refine zgc ?_ | refine zgd1 ?_ | refine zge ?_ | refine zgf ?_ | refine zgg ?_ | refine zgh ?_ | refine zgi ?_ | refine zgj ?_ | refine zgk ?_ | refine max2m ?_ | refine min2m ?_ | refine eqStr ?_ | refine neqStr ?_ | refine eqSlNil ?_ | refine neqSlNil ?_ | refine eqBool ?_ | refine neqBool ?_ | refine capSlice ?_ | refine zgl ?_ | refine zgm ?_ | refine zgn ?_ | refine zgo ?_ | refine zba ?_ | refine zbb ?_ | refine zbc ?_ | refine zbd ?_ | refine zbe ?_ | refine zbf ?_ | refine zia ?_ | refine zib ?_ | refine zic ?_ | refine zid1 ?_ | refine zie ?_ | refine zif1 ?_ | refine zig ?_ | refine zih ?_ | refine lint_u8_mod ?_ | refine lint_u32_mod ?_ | refine zii ?_ | refine zij ?_ | refine zua ?_ | refine LRes.mk ?_ | refine LIn.step ?_ | refine zdc ?_ | refine zna (fun _ => ?_) | refine znb (fun _ => ?_) | refine znc (fun _ => ?_) | refine newSlice0 (fun _ => ?_) | refine newMap (fun _ => ?_)))
    refine call1 (takeN_ct pb c a1 cap1 k L (gd S j).2.1 (gd S j).2.2.1 (gd S j).2.2.2 hi.inv) zSp ?_
    rintro v M' ⟨a2, cap2, rfl, rfl⟩
    by_cases he : takeE c L k (gd S j).2.1 (gd S j).2.2.1 (gd S j).2.2.2 = 0
    · rw [he]
      repeat ((conv => whnf); (first | refine ztx ?_ | refine LNext.nilr ?_ | refine zne ?_ | refine zga ?_ | refine zxa ?_ | refine zca ?_ | refine zcb ?_ | refine zgb ?_ | refine zgc ?_ | refine zgd1 ?_ | refine zge ?_ | refine zgf ?_ | refine zgg ?_ | refine zgh ?_ | refine zgi ?_ | refine zgj ?_ | refine zgk ?_ | refine max2m ?_ | refine min2m ?_ | refine eqStr ?_ | refine neqStr ?_ | refine eqSlNil ?_ | refine neqSlNil ?_ | refine eqBool ?_ | refine neqBool ?_ | refine capSlice ?_ | refine zgl ?_ | refine zgm ?_ | refine zgn ?_ | refine zgo ?_ | refine zba ?_ | refine zbb ?_ | refine zbc ?_ | refine zbd ?_ | refine zbe ?_ | refine zbf ?_ | refine zia ?_ | refine zib ?_ | refine zic ?_ | refine zid1 ?_ | refine zie ?_ | refine zif1 ?_ | refine zig ?_ | refine zih ?_ | refine lint_u8_mod ?_ | refine lint_u32_mod ?_ | refine zii ?_ | refine zij ?_ | refine zua ?_ | refine LRes.mk ?_ | refine LIn.step ?_ | refine zdc ?_ | refine zna (fun _ => ?_) | refine znb (fun _ => ?_) | refine znc (fun _ => ?_) | refine newSlice0 (fun _ => ?_) | refine newMap (fun _ => ?_)))
      exact ⟨⟨j + 1, a2, cap2, _, _⟩, ⟨h1, by
        show Of c _ _ ((S.take (j + 1)).map tk).reverse
        rw [gd_take h1, List.map_append, List.reverse_append]
        exact hi.next he⟩, by show S.length - (j + 1) < S.length - j; omega, zSu, zEn⟩
    · repeat ((conv => whnf); (first | refine ztx ?_ | refine LNext.nilr ?_ | refine zne ?_ | refine zga ?_ | refine zxa ?_ | refine zca ?_ | refine zcb ?_ | refine zgb ?_ | refine zgc ?_ | refine zgd1 ?_ | refine zge ?_ | refine zgf ?_ | refine zgg ?_ | refine zgh ?_ | refine zgi ?_ | refine zgj ?_ | refine zgk ?_ | refine max2m ?_ | refine min2m ?_ | refine eqStr ?_ | refine neqStr ?_ | refine eqSlNil ?_ | refine neqSlNil ?_ | refine eqBool ?_ | refine neqBool ?_ | refine capSlice ?_ | refine zgl ?_ | refine zgm ?_ | refine zgn ?_ | refine zgo ?_ | refine zba ?_ | refine zbb ?_ | refine zbc ?_ | refine zbd ?_ | refine zbe ?_ | refine zbf ?_ | refine zia ?_ | refine zib ?_ | refine zic ?_ | refine zid1 ?_ | refine zie ?_ | refine zif1 ?_ | refine zig ?_ | refine zih ?_ | refine lint_u8_mod ?_ | refine lint_u32_mod ?_ | refine zii ?_ | refine zij ?_ | refine zua ?_ | refine LRes.mk ?_ | refine LIn.step ?_ | refine zdc ?_ | refine zna (fun _ => ?_) | refine znb (fun _ => ?_) | refine znc (fun _ => ?_) | refine newSlice0 (fun _ => ?_) | refine newMap (fun _ => ?_)))
      show Fin _ _ _; exact Fin.of M zEn ⟨rfl, rfl⟩
  · have hjn : j = S.length := by omega
    subst hjn
    rw [List.take_length] at hi
    have hik : k = S.length := by have := hi.len; simpa using this.symm
    repeat ((conv => whnf); (first | refine ztx ?_ | refine LNext.nilr ?_ | refine zne ?_ | refine zga ?_ | refine zxa ?_ | refine zca ?_ | refine zcb ?_ | refine zgb ?_ | refine zgc ?_ | refine zgd1 ?_ | refine zge ?_ | refine zgf ?_ | refine zgg ?_ | refine zgh ?_ | refine zgi ?_ | refine zgj ?_ | refine zgk ?_ | refine max2m ?_ | refine min2m ?_ | refine eqStr ?_ | refine neqStr ?_ | refine eqSlNil ?_ | refine neqSlNil ?_ | refine eqBool ?_ | refine neqBool ?_ | refine capSlice ?_ | refine zgl ?_ | refine zgm ?_ | refine zgn ?_ | refine zgo ?_ | refine zba ?_ | refine zbb ?_ | refine zbc ?_ | refine zbd ?_ | refine zbe ?_ | refine zbf ?_ | refine zia ?_ | refine zib ?_ | refine zic ?_ | refine zid1 ?_ | refine zie ?_ | refine zif1 ?_ | refine zig ?_ | refine zih ?_ | refine lint_u8_mod ?_ | refine lint_u32_mod ?_ | refine zii ?_ | refine zij ?_ | refine zua ?_ | refine LRes.mk ?_ | refine LIn.step ?_ | refine zdr ?_ | refine zna (fun _ => ?_) | refine znb (fun _ => ?_) | refine znc (fun _ => ?_) | refine newSlice0 (fun _ => ?_) | refine newMap (fun _ => ?_)))
    refine LLoop.inv (Γ := tab) (fun x : P2 => [(1, .slice a S.length cap), (5, .pointer (some ⟨pb, 0, none⟩)), (7, .pointer (some ⟨qb, 0, none⟩)), (10, .int .i64 ((x.r : Int) - 1))])
      (fun x => PT qb c x.a x.L.length x.cap x.k :: ERow 37 5 encStep x.a x.L.length x.cap x.L :: PT pb c a1 L.length cap1 k :: ERow 37 5 encStep a1 L.length cap1 L :: M)
      (fun x => x.r ≤ S.length ∧ Of c x.L x.k ((S.drop x.r).map tk)) (fun x => x.r) ⟨S.length, none, 0, [], 0⟩ ⟨Nat.le_refl _, by rw [List.drop_length]; exact Of.zero hf⟩ zSu zEn ?_
    rintro ⟨r, b1, d1, L', k'⟩ ⟨hr1, hi'⟩
    dsimp only at hr1 hi' ⊢
    cases r with
    | succ r =>
      have e1 : ((r + 1 : Nat) : Int) - 1 = (r : Int) := by omega
      rw [e1]
      have h2 : r < S.length := by omega
      obtain ⟨sb, so, rfl, hlies⟩ := hrd.get h2
      have hk' : k' = S.length - (r + 1) := by have := hi'.len; rw [List.length_map, List.length_drop] at this; exact this.symm
      have hS : S = S.take r ++ gd S r :: S.drop (r + 1) := by rw [← gd_drop h2, List.take_append_drop]
      have hp : ((S.map tk).reverse).Perm (tk (gd S r) :: ((S.drop (r + 1)).map tk ++ (S.take r).map tk)) := by
        refine (List.reverse_perm _).trans ?_
        have : S.map tk = (S.take r).map tk ++ tk (gd S r) :: (S.drop (r + 1)).map tk := by
          conv => lhs; rw [hS]
          rw [List.map_append, List.map_cons]
        rw [this]
        exact List.perm_middle.trans ((List.perm_append_comm).cons _)
      have he : takeE c L' k' (gd S r).2.1 (gd S r).2.2.1 (gd S r).2.2.2 = 0 := hi.again hi' hp (by omega)
      repeat ((conv => whnf); (first | refine ztx ?_ | refine LNext.nilr ?_ | refine zne ?_ | refine zga ?_ | refine zxa ?_ | refine zca ?_ | refine zcb ?_ | refine zgb ?_ | refine zgc ?_ | refine zgd1 ?_ | refine zge ?_ | refine zgf ?_ | refine zgg ?_ | refine zgh ?_ | refine zgi ?_ | refine zgj ?_ | refine zgk ?_ | refine max2m ?_ | refine min2m ?_ | refine eqStr ?_ | refine neqStr ?_ | refine eqSlNil ?_ | refine neqSlNil ?_ | refine eqBool ?_ | refine neqBool ?_ | refine capSlice ?_ | refine zgl ?_ | refine zgm ?_ | refine zgn ?_ | refine zgo ?_ | refine zba ?_ | refine zbb ?_ | refine zbc ?_ | refine zbd ?_ | refine zbe ?_ | refine zbf ?_ | refine zia ?_ | refine zib ?_ | refine zic ?_ | refine zid1 ?_ | refine zie ?_ | refine zif1 ?_ | refine zig ?_ | refine zih ?_ | refine lint_u8_mod ?_ | refine lint_u32_mod ?_ | refine zii ?_ | refine zij ?_ | refine zua ?_ | refine LRes.mk ?_ | refine LIn.step ?_ | refine zdc ?_ | refine zna (fun _ => ?_) | refine znb (fun _ => ?_) | refine znc (fun _ => ?_) | refine newSlice0 (fun _ => ?_) | refine newMap (fun _ => ?_)))
      refine call1 (takeN_ct qb c b1 d1 k' L' (gd S r).2.1 (gd S r).2.2.1 (gd S r).2.2.2 hi'.inv) zSp ?_
      rintro v M' ⟨b2, d2, rfl, rfl⟩
      rw [he]
      repeat ((conv => whnf); (first | refine ztx ?_ | refine LNext.nilr ?_ | refine zne ?_ | refine zga ?_ | refine zxa ?_ | refine zca ?_ | refine zcb ?_ | refine zgb ?_ | refine zgc ?_ | refine zgd1 ?_ | refine zge ?_ | refine zgf ?_ | refine zgg ?_ | refine zgh ?_ | refine zgi ?_ | refine zgj ?_ | refine zgk ?_ | refine max2m ?_ | refine min2m ?_ | refine eqStr ?_ | refine neqStr ?_ | refine eqSlNil ?_ | refine neqSlNil ?_ | refine eqBool ?_ | refine neqBool ?_ | refine capSlice ?_ | refine zgl ?_ | refine zgm ?_ | refine zgn ?_ | refine zgo ?_ | refine zba ?_ | refine zbb ?_ | refine zbc ?_ | refine zbd ?_ | refine zbe ?_ | refine zbf ?_ | refine zia ?_ | refine zib ?_ | refine zic ?_ | refine zid1 ?_ | refine zie ?_ | refine zif1 ?_ | refine zig ?_ | refine zih ?_ | refine lint_u8_mod ?_ | refine lint_u32_mod ?_ | refine zii ?_ | refine zij ?_ | refine zua ?_ | refine LRes.mk ?_ | refine LIn.step ?_ | refine zdc ?_ | refine zna (fun _ => ?_) | refine znb (fun _ => ?_) | refine znc (fun _ => ?_) | refine newSlice0 (fun _ => ?_) | refine newMap (fun _ => ?_)))
      exact ⟨⟨r, b2, d2, (takeN c L' k' (gd S r).2.1 (gd S r).2.2.1 (gd S r).2.2.2).1, (takeN c L' k' (gd S r).2.1 (gd S r).2.2.1 (gd S r).2.2.2).2⟩, ⟨by show r ≤ S.length; omega, by
        show Of c _ _ ((S.drop r).map tk)
        rw [gd_drop h2, List.map_cons]
        exact hi'.next he⟩, by show r < r + 1; omega, zSu, zEn⟩
    | zero =>
      rw [List.drop_zero] at hi'
      have hLL : L = L' := hi.same hi' (List.reverse_perm _)
      subst hLL
      have hlen : L.length ≤ 8192 := by have := hi.inv.len; have := hi.inv.few; omega
      repeat ((conv => whnf); (first | refine ztx ?_ | refine LNext.nilr ?_ | refine zne ?_ | refine zga ?_ | refine zxa ?_ | refine zca ?_ | refine zcb ?_ | refine zgb ?_ | refine zgc ?_ | refine zgd1 ?_ | refine zge ?_ | refine zgf ?_ | refine zgg ?_ | refine zgh ?_ | refine zgi ?_ | refine zgj ?_ | refine zgk ?_ | refine max2m ?_ | refine min2m ?_ | refine eqStr ?_ | refine neqStr ?_ | refine eqSlNil ?_ | refine neqSlNil ?_ | refine eqBool ?_ | refine neqBool ?_ | refine capSlice ?_ | refine zgl ?_ | refine zgm ?_ | refine zgn ?_ | refine zgo ?_ | refine zba ?_ | refine zbb ?_ | refine zbc ?_ | refine zbd ?_ | refine zbe ?_ | refine zbf ?_ | refine zia ?_ | refine zib ?_ | refine zic ?_ | refine zid1 ?_ | refine zie ?_ | refine zif1 ?_ | refine zig ?_ | refine zih ?_ | refine lint_u8_mod ?_ | refine lint_u32_mod ?_ | refine zii ?_ | refine zij ?_ | refine zua ?_ | refine LRes.mk ?_ | refine LIn.step ?_ | refine zdr ?_ | refine zna (fun _ => ?_) | refine znb (fun _ => ?_) | refine znc (fun _ => ?_) | refine newSlice0 (fun _ => ?_) | refine newMap (fun _ => ?_)))
      refine call1 (steps_ct [] pb c a1 cap1 k L (by omega)) zSp ?_
      rintro v M' ⟨a2, cap2, rfl, rfl⟩
      repeat ((conv => whnf); (first | refine ztx ?_ | refine LNext.nilr ?_ | refine zne ?_ | refine zga ?_ | refine zxa ?_ | refine zca ?_ | refine zcb ?_ | refine zgb ?_ | refine zgc ?_ | refine zgd1 ?_ | refine zge ?_ | refine zgf ?_ | refine zgg ?_ | refine zgh ?_ | refine zgi ?_ | refine zgj ?_ | refine zgk ?_ | refine max2m ?_ | refine min2m ?_ | refine eqStr ?_ | refine neqStr ?_ | refine eqSlNil ?_ | refine neqSlNil ?_ | refine eqBool ?_ | refine neqBool ?_ | refine capSlice ?_ | refine zgl ?_ | refine zgm ?_ | refine zgn ?_ | refine zgo ?_ | refine zba ?_ | refine zbb ?_ | refine zbc ?_ | refine zbd ?_ | refine zbe ?_ | refine zbf ?_ | refine zia ?_ | refine zib ?_ | refine zic ?_ | refine zid1 ?_ | refine zie ?_ | refine zif1 ?_ | refine zig ?_ | refine zih ?_ | refine lint_u8_mod ?_ | refine lint_u32_mod ?_ | refine zii ?_ | refine zij ?_ | refine zua ?_ | refine LRes.mk ?_ | refine LIn.step ?_ | refine zdr ?_ | refine zna (fun _ => ?_) | refine znb (fun _ => ?_) | refine znc (fun _ => ?_) | refine newSlice0 (fun _ => ?_) | refine newMap (fun _ => ?_)))
      refine call1 (steps_ct [] qb c b1 d1 k' L (by omega)) zSp ?_
      rintro v M' ⟨a3, cap3, rfl, rfl⟩
      repeat ((conv => whnf); (first | refine ztx ?_ | refine LNext.nilr ?_ | refine zne ?_ | refine zga ?_ | refine zxa ?_ | refine zca ?_ | refine zcb ?_ | refine zgb ?_ | refine zgc ?_ | refine zgd1 ?_ | refine zge ?_ | refine zgf ?_ | refine zgg ?_ | refine zgh ?_ | refine zgi ?_ | refine zgj ?_ | refine zgk ?_ | refine max2m ?_ | refine min2m ?_ | refine eqStr ?_ | refine neqStr ?_ | refine eqSlNil ?_ | refine neqSlNil ?_ | refine eqBool ?_ | refine neqBool ?_ | refine capSlice ?_ | refine zgl ?_ | refine zgm ?_ | refine zgn ?_ | refine zgo ?_ | refine zba ?_ | refine zbb ?_ | refine zbc ?_ | refine zbd ?_ | refine zbe ?_ | refine zbf ?_ | refine zia ?_ | refine zib ?_ | refine zic ?_ | refine zid1 ?_ | refine zie ?_ | refine zif1 ?_ | refine zig ?_ | refine zih ?_ | refine lint_u8_mod ?_ | refine lint_u32_mod ?_ | refine zii ?_ | refine zij ?_ | refine zua ?_ | refine LRes.mk ?_ | refine LIn.step ?_ | refine zdr ?_ | refine zna (fun _ => ?_) | refine znb (fun _ => ?_) | refine znc (fun _ => ?_) | refine newSlice0 (fun _ => ?_) | refine newMap (fun _ => ?_)))
      refine LLoop.row (a := a2) (xs := L) (enc := encStep) zTk (fun rh => ?_)
      refine LLoop.row (a := a3) (xs := L) (enc := encStep) zTk (fun rh' => ?_)
      refine LLoop.inv (Γ := tab) (fun i : Nat => [(11, .slice a2 L.length cap2), (12, .slice a3 L.length cap3), (13, .int .i64 i)])
        (fun i => ERow 37 5 encStep a2 L.length cap2 L :: ERow 37 5 encStep a3 L.length cap3 L :: M)
        (fun i => i ≤ L.length) (fun i => L.length - i) 0 (Nat.zero_le _) zSu zEn ?_
      rintro i hile
      by_cases h3 : i < L.length
      · obtain ⟨g2, rfl⟩ := rh.ad (by omega)
        obtain ⟨g3, rfl⟩ := rh'.ad (by omega)
        repeat ((conv => whnf); (first | refine ztx ?_ | refine LNext.nilr ?_ | refine zne ?_ | refine zga ?_ | refine zxa ?_ | refine zca ?_ | refine zcb ?_ | refine zgb ?_ | refine zgc ?_ | refine zgd1 ?_ | refine zge ?_ | refine zgf ?_ | refine zgg ?_ | refine zgh ?_ | refine zgi ?_ | refine zgj ?_ | refine zgk ?_ | refine max2m ?_ | refine min2m ?_ | refine eqStr ?_ | refine neqStr ?_ | refine eqSlNil ?_ | refine neqSlNil ?_ | refine eqBool ?_ | refine neqBool ?_ | refine capSlice ?_ | refine zgl ?_ | refine zgm ?_ | refine zgn ?_ | refine zgo ?_ | refine zba ?_ | refine zbb ?_ | refine zbc ?_ | refine zbd ?_ | refine zbe ?_ | refine zbf ?_ | refine zia ?_ | refine zib ?_ | refine zic ?_ | refine zid1 ?_ | refine zie ?_ | refine zif1 ?_ | refine zig ?_ | refine zih ?_ | refine lint_u8_mod ?_ | refine lint_u32_mod ?_ | refine zii ?_ | refine zij ?_ | refine zua ?_ | refine LRes.mk ?_ | refine LIn.step ?_ | refine zdr ?_ | refine zna (fun _ => ?_) | refine znb (fun _ => ?_) | refine znc (fun _ => ?_) | refine newSlice0 (fun _ => ?_) | refine newMap (fun _ => ?_)))
        refine neqAgg (stepEq (gd L i)) ?_
        repeat ((conv => whnf); (first | refine ztx ?_ | refine LNext.nilr ?_ | refine zne ?_ | refine zga ?_ | refine zxa ?_ | refine zca ?_ | refine zcb ?_ | refine zgb ?_ | refine zgc ?_ | refine zgd1 ?_ | refine zge ?_ | refine zgf ?_ | refine zgg ?_ | refine zgh ?_ | refine zgi ?_ | refine zgj ?_ | refine zgk ?_ | refine max2m ?_ | refine min2m ?_ | refine eqStr ?_ | refine neqStr ?_ | refine eqSlNil ?_ | refine neqSlNil ?_ | refine eqBool ?_ | refine neqBool ?_ | refine capSlice ?_ | refine zgl ?_ | refine zgm ?_ | refine zgn ?_ | refine zgo ?_ | refine zba ?_ | refine zbb ?_ | refine zbc ?_ | refine zbd ?_ | refine zbe ?_ | refine zbf ?_ | refine zia ?_ | refine zib ?_ | refine zic ?_ | refine zid1 ?_ | refine zie ?_ | refine zif1 ?_ | refine zig ?_ | refine zih ?_ | refine lint_u8_mod ?_ | refine lint_u32_mod ?_ | refine zii ?_ | refine zij ?_ | refine zua ?_ | refine LRes.mk ?_ | refine LIn.step ?_ | refine zdr ?_ | refine zna (fun _ => ?_) | refine znb (fun _ => ?_) | refine znc (fun _ => ?_) | refine newSlice0 (fun _ => ?_) | refine newMap (fun _ => ?_)))
        exact ⟨i + 1, h3, by omega, zSu, zEn⟩
      · have : i = L.length := by omega
        subst this
        repeat ((conv => whnf); (first | refine ztx ?_ | refine LNext.nilr ?_ | refine zne ?_ | refine zga ?_ | refine zxa ?_ | refine zca ?_ | refine zcb ?_ | refine zgb ?_ | refine zgc ?_ | refine zgd1 ?_ | refine zge ?_ | refine zgf ?_ | refine zgg ?_ | refine zgh ?_ | refine zgi ?_ | refine zgj ?_ | refine zgk ?_ | refine max2m ?_ | refine min2m ?_ | refine eqStr ?_ | refine neqStr ?_ | refine eqSlNil ?_ | refine neqSlNil ?_ | refine eqBool ?_ | refine neqBool ?_ | refine capSlice ?_ | refine zgl ?_ | refine zgm ?_ | refine zgn ?_ | refine zgo ?_ | refine zba ?_ | refine zbb ?_ | refine zbc ?_ | refine zbd ?_ | refine zbe ?_ | refine zbf ?_ | refine zia ?_ | refine zib ?_ | refine zic ?_ | refine zid1 ?_ | refine zie ?_ | refine zif1 ?_ | refine zig ?_ | refine zih ?_ | refine lint_u8_mod ?_ | refine lint_u32_mod ?_ | refine zii ?_ | refine zij ?_ | refine zua ?_ | refine LRes.mk ?_ | refine LIn.step ?_ | refine zdr ?_ | refine zna (fun _ => ?_) | refine znb (fun _ => ?_) | refine znc (fun _ => ?_) | refine newSlice0 (fun _ => ?_) | refine newMap (fun _ => ?_)))
        show Fin _ _ _; exact Fin.of M zEn ⟨rfl, rfl⟩
end Go.Proofs.Ytkfebhogimmoeaa
