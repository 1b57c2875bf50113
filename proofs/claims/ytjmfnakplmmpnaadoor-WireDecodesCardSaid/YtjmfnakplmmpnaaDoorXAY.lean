import Derived.Test.YtjmfnakplmmpnaaDoorXAX
namespace Go.Proofs.YtjmfnakplmmpnaaDoor
open Go.Sl
set_option linter.unusedVariables false
set_option linter.unusedSimpArgs false
set_option maxRecDepth 100000
set_option maxHeartbeats 1000000
theorem RdH.ptOff {α : Type} {enc : α → List Value} {b sz o : Nat} {cs : Array Value} {T : TypeId} {fr : Nat × Nat} {M : List As} {xs : List α} (he : ∀ x, (enc x).length = sz) (hc : (cs.toList.drop o).take (xs.flatMap enc).length = xs.flatMap enc) : RdH (Sl.pt b (.cells cs T fr) :: M) (some ⟨b, o, none⟩) sz enc xs :=
  .lies ⟨fun i x hx => ⟨fun j v hj => Cell.pt (by
    have hlt := (List.getElem?_eq_some_iff.1 hj).1
    rw [he] at hlt
    have h1 := flat_get he hx hlt
    rw [hj] at h1
    have h2 := (List.getElem?_eq_some_iff.1 h1).1
    rw [← hc, List.getElem?_take_of_lt h2, List.getElem?_drop, Array.getElem?_toList] at h1
    rw [Nat.add_assoc]
    exact h1)⟩⟩
def vnat (v : V4) : List Nat := [v.1.toNat, v.2.1.toNat, v.2.2.1.toNat, v.2.2.2.toNat]
theorem UpKind_ct (M : List As) (v0 v1 v2 v3 v4 v5 : Value) : Ctr Tryd.prog 100 #[.agg #[v0, v1, v2, v3, v4, v5]] M (fun v M' => v = .int .i64 2 ∧ M' = M) := by
  refine ctr_of (Γ := tab) (vs := [_]) fn100 rfl ?_
  repeat ((conv => whnf); (first | refine ztx ?_ | refine LNext.nilr ?_ | refine zne ?_ | refine zga ?_ | refine zxa ?_ | refine zca ?_ | refine zcb ?_ | refine zgb ?_ | refine zgd1 ?_ | refine zge ?_ | refine zgf ?_ | refine zgj ?_ | refine zgk ?_ | refine eqStr ?_ | refine neqStr ?_ | refine eqSlNil ?_ | refine capSlice ?_ | refine zgm ?_ | refine zgn ?_ | refine zgo ?_ | refine zba ?_ | refine zbb ?_ | refine zbc ?_ | refine zbd ?_ | refine zbe ?_ | refine zbf ?_ | refine zia ?_ | refine zib ?_ | refine zic ?_ | refine zid1 ?_ | refine zif1 ?_ | refine zig ?_ | refine zih ?_ | refine lint_u8_mod ?_ | refine zua ?_ | refine zgs ?_ | refine LRes.mk ?_ | refine LIn.step ?_ | refine zdr ?_ | refine zna (fun _ => ?_) | refine znb (fun _ => ?_) | refine znc (fun _ => ?_) | refine newSlice0 (fun _ => ?_)))
  show Fin _ _ _; exact Fin.of M zEn ⟨rfl, rfl⟩
theorem EncodeUp_ct (M : List As) (s : ByteArray) (e a b c d : Nat) (h : nameR s = true) (h1 : 1 ≤ e) (h2 : e < 2147483648) (ha : a ≤ 1099511627776) (hb : b ≤ 1099511627776) (hc : c ≤ 1099511627776) (hd : d ≤ 1099511627776) :
    Ctr Tryd.prog 20 #[.iface 72 (.agg #[.string s, .int .i64 e, .int .i64 a, .int .i64 b, .int .i64 c, .int .i64 d])] M (fun v M' => ∃ a' cap, v = .tuple #[.slice a' (2 :: (txtB s ++ (seven e ++ sevs [a, b, c, d])) : Bs).length cap, .int .i64 0] ∧ M' = BR a' (2 :: (txtB s ++ (seven e ++ sevs [a, b, c, d])) : Bs).length cap (2 :: (txtB s ++ (seven e ++ sevs [a, b, c, d]))) :: M) := by
  have hsz := nameR_size h
  have hs1 := seven_len (n := s.size) (by omega)
  have hs2 := seven_len (n := e) (by omega)
  have hfm : (nameR s && decide (1 ≤ (e : Int)) && decide ((e : Int) < 2147483648) && vecR ((a : Int), (b : Int), (c : Int), (d : Int))) = true := by simp [h, vecR, v1R]; omega
  refine ctr_of (Γ := tab) (vs := [_]) fn20 rfl ?_
  repeat ((conv => whnf); (first | refine ztx ?_ | refine LNext.nilr ?_ | refine zne ?_ | refine zga ?_ | refine zxa ?_ | refine zca ?_ | refine zcb ?_ | refine zgb ?_ | refine zgd1 ?_ | refine zge ?_ | refine zgf ?_ | refine zgj ?_ | refine zgk ?_ | refine eqStr ?_ | refine neqStr ?_ | refine eqSlNil ?_ | refine capSlice ?_ | refine zgm ?_ | refine zgn ?_ | refine zgo ?_ | refine zba ?_ | refine zbb ?_ | refine zbc ?_ | refine zbd ?_ | refine zbe ?_ | refine zbf ?_ | refine zia ?_ | refine zib ?_ | refine zic ?_ | refine zid1 ?_ | refine zif1 ?_ | refine zig ?_ | refine zih ?_ | refine lint_u8_mod ?_ | refine zua ?_ | refine zgs ?_ | refine LRes.mk ?_ | refine LIn.step ?_ | refine zdr ?_ | refine zna (fun _ => ?_) | refine znb (fun _ => ?_) | refine znc (fun _ => ?_) | refine newSlice0 (fun _ => ?_)))
  refine call0 (FormedUp_ct _ s e ((a : Int), (b : Int), (c : Int), (d : Int)) (by omega)) ?_
  rintro v rfl
  rw [hfm]
  repeat ((conv => whnf); (first | refine ztx ?_ | refine LNext.nilr ?_ | refine zne ?_ | refine zga ?_ | refine zxa ?_ | refine zca ?_ | refine zcb ?_ | refine zgb ?_ | refine zgd1 ?_ | refine zge ?_ | refine zgf ?_ | refine zgj ?_ | refine zgk ?_ | refine eqStr ?_ | refine neqStr ?_ | refine eqSlNil ?_ | refine capSlice ?_ | refine zgm ?_ | refine zgn ?_ | refine zgo ?_ | refine zba ?_ | refine zbb ?_ | refine zbc ?_ | refine zbd ?_ | refine zbe ?_ | refine zbf ?_ | refine zia ?_ | refine zib ?_ | refine zic ?_ | refine zid1 ?_ | refine zif1 ?_ | refine zig ?_ | refine zih ?_ | refine lint_u8_mod ?_ | refine zua ?_ | refine zgs ?_ | refine LRes.mk ?_ | refine LIn.step ?_ | refine zdr ?_ | refine zna (fun _ => ?_) | refine znb (fun _ => ?_) | refine znc (fun _ => ?_) | refine newSlice0 (fun _ => ?_)))
  refine invVal (f := 100) (by kernel_rfl) ?_
  refine call0 (UpKind_ct _ (.string s) (.int .i64 e) (.int .i64 a) (.int .i64 b) (.int .i64 c) (.int .i64 d)) ?_
  rintro v rfl
  repeat ((conv => whnf); (first | refine ztx ?_ | refine LNext.nilr ?_ | refine zne ?_ | refine zga ?_ | refine zxa ?_ | refine zca ?_ | refine zcb ?_ | refine zgb ?_ | refine zgd1 ?_ | refine zge ?_ | refine zgf ?_ | refine zgj ?_ | refine zgk ?_ | refine eqStr ?_ | refine neqStr ?_ | refine eqSlNil ?_ | refine capSlice ?_ | refine zgm ?_ | refine zgn ?_ | refine zgo ?_ | refine zba ?_ | refine zbb ?_ | refine zbc ?_ | refine zbd ?_ | refine zbe ?_ | refine zbf ?_ | refine zia ?_ | refine zib ?_ | refine zic ?_ | refine zid1 ?_ | refine zif1 ?_ | refine zig ?_ | refine zih ?_ | refine lint_u8_mod ?_ | refine zua ?_ | refine zgs ?_ | refine LRes.mk ?_ | refine LIn.step ?_ | refine zdr ?_ | refine zna (fun _ => ?_) | refine znb (fun _ => ?_) | refine znc (fun _ => ?_) | refine newSlice0 (fun _ => ?_)))
  rename_i wb
  refine call1 ((WByte_ct wb [] 2 (by decide)).weaken bf_new (fun _ _ h => h)) zSp ?_
  rintro v M' ⟨rfl, rfl⟩
  rw [List.nil_append]
  repeat ((conv => whnf); (first | refine ztx ?_ | refine LNext.nilr ?_ | refine zne ?_ | refine zga ?_ | refine zxa ?_ | refine zca ?_ | refine zcb ?_ | refine zgb ?_ | refine zgd1 ?_ | refine zge ?_ | refine zgf ?_ | refine zgj ?_ | refine zgk ?_ | refine eqStr ?_ | refine neqStr ?_ | refine eqSlNil ?_ | refine capSlice ?_ | refine zgm ?_ | refine zgn ?_ | refine zgo ?_ | refine zba ?_ | refine zbb ?_ | refine zbc ?_ | refine zbd ?_ | refine zbe ?_ | refine zbf ?_ | refine zia ?_ | refine zib ?_ | refine zic ?_ | refine zid1 ?_ | refine zif1 ?_ | refine zig ?_ | refine zih ?_ | refine lint_u8_mod ?_ | refine zua ?_ | refine zgs ?_ | refine LRes.mk ?_ | refine LIn.step ?_ | refine zdr ?_ | refine zna (fun _ => ?_) | refine znb (fun _ => ?_) | refine znc (fun _ => ?_) | refine newSlice0 (fun _ => ?_)))
  repeat ((first | refine taYes ?_ | refine taNo ?_); repeat ((conv => whnf); (first | refine ztx ?_ | refine LNext.nilr ?_ | refine zne ?_ | refine zga ?_ | refine zxa ?_ | refine zca ?_ | refine zcb ?_ | refine zgb ?_ | refine zgd1 ?_ | refine zge ?_ | refine zgf ?_ | refine zgj ?_ | refine zgk ?_ | refine eqStr ?_ | refine neqStr ?_ | refine eqSlNil ?_ | refine capSlice ?_ | refine zgm ?_ | refine zgn ?_ | refine zgo ?_ | refine zba ?_ | refine zbb ?_ | refine zbc ?_ | refine zbd ?_ | refine zbe ?_ | refine zbf ?_ | refine zia ?_ | refine zib ?_ | refine zic ?_ | refine zid1 ?_ | refine zif1 ?_ | refine zig ?_ | refine zih ?_ | refine lint_u8_mod ?_ | refine zua ?_ | refine zgs ?_ | refine LRes.mk ?_ | refine LIn.step ?_ | refine zdr ?_ | refine zna (fun _ => ?_) | refine znb (fun _ => ?_) | refine znc (fun _ => ?_) | refine newSlice0 (fun _ => ?_))))
  rename_i q
  refine call1 (wtext_ct wb [2] s [] (by omega) (by simp <;> omega) (by simp)) zSp ?_
  rintro v M' ⟨rfl, rfl⟩
  repeat ((conv => whnf); (first | refine ztx ?_ | refine LNext.nilr ?_ | refine zne ?_ | refine zga ?_ | refine zxa ?_ | refine zca ?_ | refine zcb ?_ | refine zgb ?_ | refine zgd1 ?_ | refine zge ?_ | refine zgf ?_ | refine zgj ?_ | refine zgk ?_ | refine eqStr ?_ | refine neqStr ?_ | refine eqSlNil ?_ | refine capSlice ?_ | refine zgm ?_ | refine zgn ?_ | refine zgo ?_ | refine zba ?_ | refine zbb ?_ | refine zbc ?_ | refine zbd ?_ | refine zbe ?_ | refine zbf ?_ | refine zia ?_ | refine zib ?_ | refine zic ?_ | refine zid1 ?_ | refine zif1 ?_ | refine zig ?_ | refine zih ?_ | refine lint_u8_mod ?_ | refine zua ?_ | refine zgs ?_ | refine LRes.mk ?_ | refine LIn.step ?_ | refine zdr ?_ | refine zna (fun _ => ?_) | refine znb (fun _ => ?_) | refine znc (fun _ => ?_) | refine newSlice0 (fun _ => ?_)))
  rename_i g
  have hl1 : (txtB s).length = (seven s.size).length + s.size := by unfold txtB; rw [List.length_append]; rfl
  refine call1 (wnum_ct wb ([2] ++ txtB s) (some ⟨g, 0, none⟩) 1 [e] [pt g (.cells #[.int .i64 e] 2)] (RdH.pt (enc := encN) (fun _ => rfl) (by rfl)) (by intro n hn; simp at hn; omega) (by simp <;> omega) (by simp)) zSp ?_
  rintro v M' ⟨rfl, rfl⟩
  repeat ((conv => whnf); (first | refine ztx ?_ | refine LNext.nilr ?_ | refine zne ?_ | refine zga ?_ | refine zxa ?_ | refine zca ?_ | refine zcb ?_ | refine zgb ?_ | refine zgd1 ?_ | refine zge ?_ | refine zgf ?_ | refine zgj ?_ | refine zgk ?_ | refine eqStr ?_ | refine neqStr ?_ | refine eqSlNil ?_ | refine capSlice ?_ | refine zgm ?_ | refine zgn ?_ | refine zgo ?_ | refine zba ?_ | refine zbb ?_ | refine zbc ?_ | refine zbd ?_ | refine zbe ?_ | refine zbf ?_ | refine zia ?_ | refine zib ?_ | refine zic ?_ | refine zid1 ?_ | refine zif1 ?_ | refine zig ?_ | refine zih ?_ | refine lint_u8_mod ?_ | refine zua ?_ | refine zgs ?_ | refine LRes.mk ?_ | refine LIn.step ?_ | refine zdr ?_ | refine zna (fun _ => ?_) | refine znb (fun _ => ?_) | refine znc (fun _ => ?_) | refine newSlice0 (fun _ => ?_)))
  have hs3 : sevs [e] = seven e := by simp [sevs]
  refine call1 (wnum_ct wb ([2] ++ txtB s ++ sevs [e]) (some ⟨q, 2, none⟩) 4 [a, b, c, d] [pt q (.cells #[.string s, .int .i64 e, .int .i64 a, .int .i64 b, .int .i64 c, .int .i64 d] 72)] (RdH.ptOff (enc := encN) (fun _ => rfl) (by rfl)) (by intro n hn; simp at hn; omega) (by rw [hs3]; simp <;> omega) (by simp)) zSp ?_
  rintro v M' ⟨rfl, rfl⟩
  have hbb : ([2] ++ txtB s ++ sevs [e] ++ sevs [a, b, c, d] : Bs) = 2 :: (txtB s ++ (seven e ++ sevs [a, b, c, d])) := by rw [hs3]; simp
  rw [hbb]
  repeat ((conv => whnf); (first | refine ztx ?_ | refine LNext.nilr ?_ | refine zne ?_ | refine zga ?_ | refine zxa ?_ | refine zca ?_ | refine zcb ?_ | refine zgb ?_ | refine zgd1 ?_ | refine zge ?_ | refine zgf ?_ | refine zgj ?_ | refine zgk ?_ | refine eqStr ?_ | refine neqStr ?_ | refine eqSlNil ?_ | refine capSlice ?_ | refine zgm ?_ | refine zgn ?_ | refine zgo ?_ | refine zba ?_ | refine zbb ?_ | refine zbc ?_ | refine zbd ?_ | refine zbe ?_ | refine zbf ?_ | refine zia ?_ | refine zib ?_ | refine zic ?_ | refine zid1 ?_ | refine zif1 ?_ | refine zig ?_ | refine zih ?_ | refine lint_u8_mod ?_ | refine zua ?_ | refine zgs ?_ | refine LRes.mk ?_ | refine LIn.step ?_ | refine zdr ?_ | refine zna (fun _ => ?_) | refine znb (fun _ => ?_) | refine znc (fun _ => ?_) | refine newSlice0 (fun _ => ?_)))
  refine call1 (BBytes_ct wb (2 :: (txtB s ++ (seven e ++ sevs [a, b, c, d]))) (by simp)) zSp ?_
  rintro v M' ⟨a', cap, rfl, rfl⟩
  repeat ((conv => whnf); (first | refine ztx ?_ | refine LNext.nilr ?_ | refine zne ?_ | refine zga ?_ | refine zxa ?_ | refine zca ?_ | refine zcb ?_ | refine zgb ?_ | refine zgd1 ?_ | refine zge ?_ | refine zgf ?_ | refine zgj ?_ | refine zgk ?_ | refine eqStr ?_ | refine neqStr ?_ | refine eqSlNil ?_ | refine capSlice ?_ | refine zgm ?_ | refine zgn ?_ | refine zgo ?_ | refine zba ?_ | refine zbb ?_ | refine zbc ?_ | refine zbd ?_ | refine zbe ?_ | refine zbf ?_ | refine zia ?_ | refine zib ?_ | refine zic ?_ | refine zid1 ?_ | refine zif1 ?_ | refine zig ?_ | refine zih ?_ | refine lint_u8_mod ?_ | refine zua ?_ | refine zgs ?_ | refine LRes.mk ?_ | refine LIn.step ?_ | refine zdr ?_ | refine zna (fun _ => ?_) | refine znb (fun _ => ?_) | refine znc (fun _ => ?_) | refine newSlice0 (fun _ => ?_)))
  show Fin _ _ _; exact Fin.of (BR a' (2 :: (txtB s ++ (seven e ++ sevs [a, b, c, d])) : Bs).length cap (2 :: (txtB s ++ (seven e ++ sevs [a, b, c, d]))) :: M) zEn ⟨a', cap, rfl, rfl⟩
theorem JoKind_ct (M : List As) (v0 v1 v2 v3 v4 v5 : Value) : Ctr Tryd.prog 99 #[.agg #[v0, v1, v2, v3, v4, v5]] M (fun v M' => v = .int .i64 1 ∧ M' = M) := by
  refine ctr_of (Γ := tab) (vs := [_]) fn99 rfl ?_
  repeat ((conv => whnf); (first | refine ztx ?_ | refine LNext.nilr ?_ | refine zne ?_ | refine zga ?_ | refine zxa ?_ | refine zca ?_ | refine zcb ?_ | refine zgb ?_ | refine zgd1 ?_ | refine zge ?_ | refine zgf ?_ | refine zgj ?_ | refine zgk ?_ | refine eqStr ?_ | refine neqStr ?_ | refine eqSlNil ?_ | refine capSlice ?_ | refine zgm ?_ | refine zgn ?_ | refine zgo ?_ | refine zba ?_ | refine zbb ?_ | refine zbc ?_ | refine zbd ?_ | refine zbe ?_ | refine zbf ?_ | refine zia ?_ | refine zib ?_ | refine zic ?_ | refine zid1 ?_ | refine zif1 ?_ | refine zig ?_ | refine zih ?_ | refine lint_u8_mod ?_ | refine zua ?_ | refine zgs ?_ | refine LRes.mk ?_ | refine LIn.step ?_ | refine zdr ?_ | refine zna (fun _ => ?_) | refine znb (fun _ => ?_) | refine znc (fun _ => ?_) | refine newSlice0 (fun _ => ?_)))
  show Fin _ _ _; exact Fin.of M zEn ⟨rfl, rfl⟩
theorem EncodeJoined_ct (M : List As) (s : ByteArray) (e a b c d : Nat) (h : nameR s = true) (h1 : 1 ≤ e) (h2 : e ≤ 1000) (ha : a ≤ 1099511627776) (hb : b ≤ 1099511627776) (hc : c ≤ 1099511627776) (hd : d ≤ 1099511627776) :
    Ctr Tryd.prog 20 #[.iface 70 (.agg #[.string s, .int .i64 e, .int .i64 a, .int .i64 b, .int .i64 c, .int .i64 d])] M (fun v M' => ∃ a' cap, v = .tuple #[.slice a' (1 :: (txtB s ++ (seven e ++ sevs [a, b, c, d])) : Bs).length cap, .int .i64 0] ∧ M' = BR a' (1 :: (txtB s ++ (seven e ++ sevs [a, b, c, d])) : Bs).length cap (1 :: (txtB s ++ (seven e ++ sevs [a, b, c, d]))) :: M) := by
  have hsz := nameR_size h
  have hs1 := seven_len (n := s.size) (by omega)
  have hs2 := seven_len (n := e) (by omega)
  have hfm : (nameR s && decide (1 ≤ (e : Int)) && decide ((e : Int) ≤ 1000) && vecR ((a : Int), (b : Int), (c : Int), (d : Int))) = true := by simp [h, vecR, v1R]; omega
  refine ctr_of (Γ := tab) (vs := [_]) fn20 rfl ?_
  repeat ((conv => whnf); (first | refine ztx ?_ | refine LNext.nilr ?_ | refine zne ?_ | refine zga ?_ | refine zxa ?_ | refine zca ?_ | refine zcb ?_ | refine zgb ?_ | refine zgd1 ?_ | refine zge ?_ | refine zgf ?_ | refine zgj ?_ | refine zgk ?_ | refine eqStr ?_ | refine neqStr ?_ | refine eqSlNil ?_ | refine capSlice ?_ | refine zgm ?_ | refine zgn ?_ | refine zgo ?_ | refine zba ?_ | refine zbb ?_ | refine zbc ?_ | refine zbd ?_ | refine zbe ?_ | refine zbf ?_ | refine zia ?_ | refine zib ?_ | refine zic ?_ | refine zid1 ?_ | refine zif1 ?_ | refine zig ?_ | refine zih ?_ | refine lint_u8_mod ?_ | refine zua ?_ | refine zgs ?_ | refine LRes.mk ?_ | refine LIn.step ?_ | refine zdr ?_ | refine zna (fun _ => ?_) | refine znb (fun _ => ?_) | refine znc (fun _ => ?_) | refine newSlice0 (fun _ => ?_)))
  refine call0 (FormedJoined_ct _ s e ((a : Int), (b : Int), (c : Int), (d : Int)) (by omega)) ?_
  rintro v rfl
  rw [hfm]
  repeat ((conv => whnf); (first | refine ztx ?_ | refine LNext.nilr ?_ | refine zne ?_ | refine zga ?_ | refine zxa ?_ | refine zca ?_ | refine zcb ?_ | refine zgb ?_ | refine zgd1 ?_ | refine zge ?_ | refine zgf ?_ | refine zgj ?_ | refine zgk ?_ | refine eqStr ?_ | refine neqStr ?_ | refine eqSlNil ?_ | refine capSlice ?_ | refine zgm ?_ | refine zgn ?_ | refine zgo ?_ | refine zba ?_ | refine zbb ?_ | refine zbc ?_ | refine zbd ?_ | refine zbe ?_ | refine zbf ?_ | refine zia ?_ | refine zib ?_ | refine zic ?_ | refine zid1 ?_ | refine zif1 ?_ | refine zig ?_ | refine zih ?_ | refine lint_u8_mod ?_ | refine zua ?_ | refine zgs ?_ | refine LRes.mk ?_ | refine LIn.step ?_ | refine zdr ?_ | refine zna (fun _ => ?_) | refine znb (fun _ => ?_) | refine znc (fun _ => ?_) | refine newSlice0 (fun _ => ?_)))
  refine invVal (f := 99) (by kernel_rfl) ?_
  refine call0 (JoKind_ct _ (.string s) (.int .i64 e) (.int .i64 a) (.int .i64 b) (.int .i64 c) (.int .i64 d)) ?_
  rintro v rfl
  repeat ((conv => whnf); (first | refine ztx ?_ | refine LNext.nilr ?_ | refine zne ?_ | refine zga ?_ | refine zxa ?_ | refine zca ?_ | refine zcb ?_ | refine zgb ?_ | refine zgd1 ?_ | refine zge ?_ | refine zgf ?_ | refine zgj ?_ | refine zgk ?_ | refine eqStr ?_ | refine neqStr ?_ | refine eqSlNil ?_ | refine capSlice ?_ | refine zgm ?_ | refine zgn ?_ | refine zgo ?_ | refine zba ?_ | refine zbb ?_ | refine zbc ?_ | refine zbd ?_ | refine zbe ?_ | refine zbf ?_ | refine zia ?_ | refine zib ?_ | refine zic ?_ | refine zid1 ?_ | refine zif1 ?_ | refine zig ?_ | refine zih ?_ | refine lint_u8_mod ?_ | refine zua ?_ | refine zgs ?_ | refine LRes.mk ?_ | refine LIn.step ?_ | refine zdr ?_ | refine zna (fun _ => ?_) | refine znb (fun _ => ?_) | refine znc (fun _ => ?_) | refine newSlice0 (fun _ => ?_)))
  rename_i wb
  refine call1 ((WByte_ct wb [] 1 (by decide)).weaken bf_new (fun _ _ h => h)) zSp ?_
  rintro v M' ⟨rfl, rfl⟩
  rw [List.nil_append]
  repeat ((conv => whnf); (first | refine ztx ?_ | refine LNext.nilr ?_ | refine zne ?_ | refine zga ?_ | refine zxa ?_ | refine zca ?_ | refine zcb ?_ | refine zgb ?_ | refine zgd1 ?_ | refine zge ?_ | refine zgf ?_ | refine zgj ?_ | refine zgk ?_ | refine eqStr ?_ | refine neqStr ?_ | refine eqSlNil ?_ | refine capSlice ?_ | refine zgm ?_ | refine zgn ?_ | refine zgo ?_ | refine zba ?_ | refine zbb ?_ | refine zbc ?_ | refine zbd ?_ | refine zbe ?_ | refine zbf ?_ | refine zia ?_ | refine zib ?_ | refine zic ?_ | refine zid1 ?_ | refine zif1 ?_ | refine zig ?_ | refine zih ?_ | refine lint_u8_mod ?_ | refine zua ?_ | refine zgs ?_ | refine LRes.mk ?_ | refine LIn.step ?_ | refine zdr ?_ | refine zna (fun _ => ?_) | refine znb (fun _ => ?_) | refine znc (fun _ => ?_) | refine newSlice0 (fun _ => ?_)))
  repeat ((first | refine taYes ?_ | refine taNo ?_); repeat ((conv => whnf); (first | refine ztx ?_ | refine LNext.nilr ?_ | refine zne ?_ | refine zga ?_ | refine zxa ?_ | refine zca ?_ | refine zcb ?_ | refine zgb ?_ | refine zgd1 ?_ | refine zge ?_ | refine zgf ?_ | refine zgj ?_ | refine zgk ?_ | refine eqStr ?_ | refine neqStr ?_ | refine eqSlNil ?_ | refine capSlice ?_ | refine zgm ?_ | refine zgn ?_ | refine zgo ?_ | refine zba ?_ | refine zbb ?_ | refine zbc ?_ | refine zbd ?_ | refine zbe ?_ | refine zbf ?_ | refine zia ?_ | refine zib ?_ | refine zic ?_ | refine zid1 ?_ | refine zif1 ?_ | refine zig ?_ | refine zih ?_ | refine lint_u8_mod ?_ | refine zua ?_ | refine zgs ?_ | refine LRes.mk ?_ | refine LIn.step ?_ | refine zdr ?_ | refine zna (fun _ => ?_) | refine znb (fun _ => ?_) | refine znc (fun _ => ?_) | refine newSlice0 (fun _ => ?_))))
  rename_i q
  refine call1 (wtext_ct wb [1] s [] (by omega) (by simp <;> omega) (by simp)) zSp ?_
  rintro v M' ⟨rfl, rfl⟩
  repeat ((conv => whnf); (first | refine ztx ?_ | refine LNext.nilr ?_ | refine zne ?_ | refine zga ?_ | refine zxa ?_ | refine zca ?_ | refine zcb ?_ | refine zgb ?_ | refine zgd1 ?_ | refine zge ?_ | refine zgf ?_ | refine zgj ?_ | refine zgk ?_ | refine eqStr ?_ | refine neqStr ?_ | refine eqSlNil ?_ | refine capSlice ?_ | refine zgm ?_ | refine zgn ?_ | refine zgo ?_ | refine zba ?_ | refine zbb ?_ | refine zbc ?_ | refine zbd ?_ | refine zbe ?_ | refine zbf ?_ | refine zia ?_ | refine zib ?_ | refine zic ?_ | refine zid1 ?_ | refine zif1 ?_ | refine zig ?_ | refine zih ?_ | refine lint_u8_mod ?_ | refine zua ?_ | refine zgs ?_ | refine LRes.mk ?_ | refine LIn.step ?_ | refine zdr ?_ | refine zna (fun _ => ?_) | refine znb (fun _ => ?_) | refine znc (fun _ => ?_) | refine newSlice0 (fun _ => ?_)))
  rename_i g
  have hl1 : (txtB s).length = (seven s.size).length + s.size := by unfold txtB; rw [List.length_append]; rfl
  refine call1 (wnum_ct wb ([1] ++ txtB s) (some ⟨g, 0, none⟩) 1 [e] [pt g (.cells #[.int .i64 e] 2)] (RdH.pt (enc := encN) (fun _ => rfl) (by rfl)) (by intro n hn; simp at hn; omega) (by simp <;> omega) (by simp)) zSp ?_
  rintro v M' ⟨rfl, rfl⟩
  repeat ((conv => whnf); (first | refine ztx ?_ | refine LNext.nilr ?_ | refine zne ?_ | refine zga ?_ | refine zxa ?_ | refine zca ?_ | refine zcb ?_ | refine zgb ?_ | refine zgd1 ?_ | refine zge ?_ | refine zgf ?_ | refine zgj ?_ | refine zgk ?_ | refine eqStr ?_ | refine neqStr ?_ | refine eqSlNil ?_ | refine capSlice ?_ | refine zgm ?_ | refine zgn ?_ | refine zgo ?_ | refine zba ?_ | refine zbb ?_ | refine zbc ?_ | refine zbd ?_ | refine zbe ?_ | refine zbf ?_ | refine zia ?_ | refine zib ?_ | refine zic ?_ | refine zid1 ?_ | refine zif1 ?_ | refine zig ?_ | refine zih ?_ | refine lint_u8_mod ?_ | refine zua ?_ | refine zgs ?_ | refine LRes.mk ?_ | refine LIn.step ?_ | refine zdr ?_ | refine zna (fun _ => ?_) | refine znb (fun _ => ?_) | refine znc (fun _ => ?_) | refine newSlice0 (fun _ => ?_)))
  have hs3 : sevs [e] = seven e := by simp [sevs]
  refine call1 (wnum_ct wb ([1] ++ txtB s ++ sevs [e]) (some ⟨q, 2, none⟩) 4 [a, b, c, d] [pt q (.cells #[.string s, .int .i64 e, .int .i64 a, .int .i64 b, .int .i64 c, .int .i64 d] 70)] (RdH.ptOff (enc := encN) (fun _ => rfl) (by rfl)) (by intro n hn; simp at hn; omega) (by rw [hs3]; simp <;> omega) (by simp)) zSp ?_
  rintro v M' ⟨rfl, rfl⟩
  have hbb : ([1] ++ txtB s ++ sevs [e] ++ sevs [a, b, c, d] : Bs) = 1 :: (txtB s ++ (seven e ++ sevs [a, b, c, d])) := by rw [hs3]; simp
  rw [hbb]
  repeat ((conv => whnf); (first | refine ztx ?_ | refine LNext.nilr ?_ | refine zne ?_ | refine zga ?_ | refine zxa ?_ | refine zca ?_ | refine zcb ?_ | refine zgb ?_ | refine zgd1 ?_ | refine zge ?_ | refine zgf ?_ | refine zgj ?_ | refine zgk ?_ | refine eqStr ?_ | refine neqStr ?_ | refine eqSlNil ?_ | refine capSlice ?_ | refine zgm ?_ | refine zgn ?_ | refine zgo ?_ | refine zba ?_ | refine zbb ?_ | refine zbc ?_ | refine zbd ?_ | refine zbe ?_ | refine zbf ?_ | refine zia ?_ | refine zib ?_ | refine zic ?_ | refine zid1 ?_ | refine zif1 ?_ | refine zig ?_ | refine zih ?_ | refine lint_u8_mod ?_ | refine zua ?_ | refine zgs ?_ | refine LRes.mk ?_ | refine LIn.step ?_ | refine zdr ?_ | refine zna (fun _ => ?_) | refine znb (fun _ => ?_) | refine znc (fun _ => ?_) | refine newSlice0 (fun _ => ?_)))
  refine call1 (BBytes_ct wb (1 :: (txtB s ++ (seven e ++ sevs [a, b, c, d]))) (by simp)) zSp ?_
  rintro v M' ⟨a', cap, rfl, rfl⟩
  repeat ((conv => whnf); (first | refine ztx ?_ | refine LNext.nilr ?_ | refine zne ?_ | refine zga ?_ | refine zxa ?_ | refine zca ?_ | refine zcb ?_ | refine zgb ?_ | refine zgd1 ?_ | refine zge ?_ | refine zgf ?_ | refine zgj ?_ | refine zgk ?_ | refine eqStr ?_ | refine neqStr ?_ | refine eqSlNil ?_ | refine capSlice ?_ | refine zgm ?_ | refine zgn ?_ | refine zgo ?_ | refine zba ?_ | refine zbb ?_ | refine zbc ?_ | refine zbd ?_ | refine zbe ?_ | refine zbf ?_ | refine zia ?_ | refine zib ?_ | refine zic ?_ | refine zid1 ?_ | refine zif1 ?_ | refine zig ?_ | refine zih ?_ | refine lint_u8_mod ?_ | refine zua ?_ | refine zgs ?_ | refine LRes.mk ?_ | refine LIn.step ?_ | refine zdr ?_ | refine zna (fun _ => ?_) | refine znb (fun _ => ?_) | refine znc (fun _ => ?_) | refine newSlice0 (fun _ => ?_)))
  show Fin _ _ _; exact Fin.of (BR a' (1 :: (txtB s ++ (seven e ++ sevs [a, b, c, d])) : Bs).length cap (1 :: (txtB s ++ (seven e ++ sevs [a, b, c, d]))) :: M) zEn ⟨a', cap, rfl, rfl⟩
end Go.Proofs.YtjmfnakplmmpnaaDoor

namespace Go.Proofs.YtjmfnakplmmpnaaDoor
open Go.Sl
set_option linter.unusedVariables false
set_option linter.unusedSimpArgs false
set_option maxRecDepth 100000
set_option maxHeartbeats 1000000
def txts (l : List ByteArray) : Bs := l.flatMap txtB
theorem txts_snoc (l : List ByteArray) (s : ByteArray) : txts (l ++ [s]) = txts l ++ txtB s := by unfold txts; rw [List.flatMap_append]; simp
theorem txtB_len {s : ByteArray} (h : s.size ≤ 64) : (txtB s).length ≤ 73 := by
  have := seven_len (n := s.size) (by omega)
  have e : (txtB s).length = (seven s.size).length + s.size := by unfold txtB; rw [List.length_append]; rfl
  omega
theorem txts_len : ∀ {l : List ByteArray}, (∀ s ∈ l, s.size ≤ 64) → (txts l).length ≤ 73 * l.length
  | [], _ => Nat.le_refl _
  | s :: l, h => by
    have h1 := txts_len (l := l) (fun x hx => h x (List.mem_cons_of_mem _ hx))
    have h2 := txtB_len (h s (List.mem_cons_self ..))
    unfold txts at h1 ⊢
    rw [List.flatMap_cons, List.length_append, List.length_cons]; omega
theorem PlKind_ct (M : List As) (v0 v1 : Value) : Ctr Tryd.prog 103 #[.agg #[v0, v1]] M (fun v M' => v = .int .i64 7 ∧ M' = M) := by
  refine ctr_of (Γ := tab) (vs := [_]) fn103 rfl ?_
  repeat ((conv => whnf); (first | refine ztx ?_ | refine LNext.nilr ?_ | refine zne ?_ | refine zga ?_ | refine zxa ?_ | refine zca ?_ | refine zcb ?_ | refine zgb ?_ | refine zgd1 ?_ | refine zge ?_ | refine zgf ?_ | refine zgj ?_ | refine zgk ?_ | refine eqStr ?_ | refine neqStr ?_ | refine eqSlNil ?_ | refine capSlice ?_ | refine zgm ?_ | refine zgn ?_ | refine zgo ?_ | refine zba ?_ | refine zbb ?_ | refine zbc ?_ | refine zbd ?_ | refine zbe ?_ | refine zbf ?_ | refine zia ?_ | refine zib ?_ | refine zic ?_ | refine zid1 ?_ | refine zif1 ?_ | refine zig ?_ | refine zih ?_ | refine lint_u8_mod ?_ | refine zua ?_ | refine zgs ?_ | refine LRes.mk ?_ | refine LIn.step ?_ | refine zdr ?_ | refine zna (fun _ => ?_) | refine znb (fun _ => ?_) | refine znc (fun _ => ?_) | refine newSlice0 (fun _ => ?_)))
  show Fin _ _ _; exact Fin.of M zEn ⟨rfl, rfl⟩
theorem EncodePlaced_ct (M : List As) (k : Nat) (a : Option Addr) (cap : Nat) (l : List ByteArray) (h1 : 1 ≤ k) (h2 : k ≤ 100) (hr : RdH M a 1 encW l) (h3 : 1 ≤ l.length) (h4 : l.length ≤ 6) (hn : l.all nameR = true) :
    Ctr Tryd.prog 20 #[.iface 77 (.agg #[.int .i64 k, .slice a l.length cap])] M (fun v M' => ∃ a' cap', v = .tuple #[.slice a' (7 :: (seven k ++ (seven l.length ++ txts l)) : Bs).length cap', .int .i64 0] ∧ M' = BR a' (7 :: (seven k ++ (seven l.length ++ txts l)) : Bs).length cap' (7 :: (seven k ++ (seven l.length ++ txts l))) :: M) := by
  have hna : ∀ s ∈ l, nameR s = true := List.all_eq_true.1 hn
  have hsz : ∀ s ∈ l, s.size ≤ 64 := fun s hs => (nameR_size (hna s hs)).2
  have hs1 := seven_len (n := k) (by omega)
  have hs2 := seven_len (n := l.length) (by omega)
  have hfm : (idR (k : Int) && decide (1 ≤ l.length) && decide (l.length ≤ 6) && l.all nameR) = true := by simp only [Bool.and_eq_true, decide_eq_true_eq]; exact ⟨⟨⟨by simp [idR]; omega, h3⟩, h4⟩, hn⟩
  refine ctr_of (Γ := tab) (vs := [_]) fn20 rfl ?_
  repeat ((conv => whnf); (first | refine ztx ?_ | refine LNext.nilr ?_ | refine zne ?_ | refine zga ?_ | refine zxa ?_ | refine zca ?_ | refine zcb ?_ | refine zgb ?_ | refine zgd1 ?_ | refine zge ?_ | refine zgf ?_ | refine zgj ?_ | refine zgk ?_ | refine eqStr ?_ | refine neqStr ?_ | refine eqSlNil ?_ | refine capSlice ?_ | refine zgm ?_ | refine zgn ?_ | refine zgo ?_ | refine zba ?_ | refine zbb ?_ | refine zbc ?_ | refine zbd ?_ | refine zbe ?_ | refine zbf ?_ | refine zia ?_ | refine zib ?_ | refine zic ?_ | refine zid1 ?_ | refine zif1 ?_ | refine zig ?_ | refine zih ?_ | refine lint_u8_mod ?_ | refine zua ?_ | refine zgs ?_ | refine LRes.mk ?_ | refine LIn.step ?_ | refine zdr ?_ | refine zna (fun _ => ?_) | refine znb (fun _ => ?_) | refine znc (fun _ => ?_) | refine newSlice0 (fun _ => ?_)))
  refine call0 (FormedPlaced_ct _ k a cap l hr (by omega) (fun s hs => by have := hsz s hs; omega)) ?_
  rintro v rfl
  rw [hfm]
  repeat ((conv => whnf); (first | refine ztx ?_ | refine LNext.nilr ?_ | refine zne ?_ | refine zga ?_ | refine zxa ?_ | refine zca ?_ | refine zcb ?_ | refine zgb ?_ | refine zgd1 ?_ | refine zge ?_ | refine zgf ?_ | refine zgj ?_ | refine zgk ?_ | refine eqStr ?_ | refine neqStr ?_ | refine eqSlNil ?_ | refine capSlice ?_ | refine zgm ?_ | refine zgn ?_ | refine zgo ?_ | refine zba ?_ | refine zbb ?_ | refine zbc ?_ | refine zbd ?_ | refine zbe ?_ | refine zbf ?_ | refine zia ?_ | refine zib ?_ | refine zic ?_ | refine zid1 ?_ | refine zif1 ?_ | refine zig ?_ | refine zih ?_ | refine lint_u8_mod ?_ | refine zua ?_ | refine zgs ?_ | refine LRes.mk ?_ | refine LIn.step ?_ | refine zdr ?_ | refine zna (fun _ => ?_) | refine znb (fun _ => ?_) | refine znc (fun _ => ?_) | refine newSlice0 (fun _ => ?_)))
  refine invVal (f := 103) (by kernel_rfl) ?_
  refine call0 (PlKind_ct _ (.int .i64 k) (.slice a l.length cap)) ?_
  rintro v rfl
  repeat ((conv => whnf); (first | refine ztx ?_ | refine LNext.nilr ?_ | refine zne ?_ | refine zga ?_ | refine zxa ?_ | refine zca ?_ | refine zcb ?_ | refine zgb ?_ | refine zgd1 ?_ | refine zge ?_ | refine zgf ?_ | refine zgj ?_ | refine zgk ?_ | refine eqStr ?_ | refine neqStr ?_ | refine eqSlNil ?_ | refine capSlice ?_ | refine zgm ?_ | refine zgn ?_ | refine zgo ?_ | refine zba ?_ | refine zbb ?_ | refine zbc ?_ | refine zbd ?_ | refine zbe ?_ | refine zbf ?_ | refine zia ?_ | refine zib ?_ | refine zic ?_ | refine zid1 ?_ | refine zif1 ?_ | refine zig ?_ | refine zih ?_ | refine lint_u8_mod ?_ | refine zua ?_ | refine zgs ?_ | refine LRes.mk ?_ | refine LIn.step ?_ | refine zdr ?_ | refine zna (fun _ => ?_) | refine znb (fun _ => ?_) | refine znc (fun _ => ?_) | refine newSlice0 (fun _ => ?_)))
  rename_i wb
  refine call1 ((WByte_ct wb [] 7 (by decide)).weaken bf_new (fun _ _ h => h)) zSp ?_
  rintro v M' ⟨rfl, rfl⟩
  rw [List.nil_append]
  repeat ((conv => whnf); (first | refine ztx ?_ | refine LNext.nilr ?_ | refine zne ?_ | refine zga ?_ | refine zxa ?_ | refine zca ?_ | refine zcb ?_ | refine zgb ?_ | refine zgd1 ?_ | refine zge ?_ | refine zgf ?_ | refine zgj ?_ | refine zgk ?_ | refine eqStr ?_ | refine neqStr ?_ | refine eqSlNil ?_ | refine capSlice ?_ | refine zgm ?_ | refine zgn ?_ | refine zgo ?_ | refine zba ?_ | refine zbb ?_ | refine zbc ?_ | refine zbd ?_ | refine zbe ?_ | refine zbf ?_ | refine zia ?_ | refine zib ?_ | refine zic ?_ | refine zid1 ?_ | refine zif1 ?_ | refine zig ?_ | refine zih ?_ | refine lint_u8_mod ?_ | refine zua ?_ | refine zgs ?_ | refine LRes.mk ?_ | refine LIn.step ?_ | refine zdr ?_ | refine zna (fun _ => ?_) | refine znb (fun _ => ?_) | refine znc (fun _ => ?_) | refine newSlice0 (fun _ => ?_)))
  repeat ((first | refine taYes ?_ | refine taNo ?_); repeat ((conv => whnf); (first | refine ztx ?_ | refine LNext.nilr ?_ | refine zne ?_ | refine zga ?_ | refine zxa ?_ | refine zca ?_ | refine zcb ?_ | refine zgb ?_ | refine zgd1 ?_ | refine zge ?_ | refine zgf ?_ | refine zgj ?_ | refine zgk ?_ | refine eqStr ?_ | refine neqStr ?_ | refine eqSlNil ?_ | refine capSlice ?_ | refine zgm ?_ | refine zgn ?_ | refine zgo ?_ | refine zba ?_ | refine zbb ?_ | refine zbc ?_ | refine zbd ?_ | refine zbe ?_ | refine zbf ?_ | refine zia ?_ | refine zib ?_ | refine zic ?_ | refine zid1 ?_ | refine zif1 ?_ | refine zig ?_ | refine zih ?_ | refine lint_u8_mod ?_ | refine zua ?_ | refine zgs ?_ | refine LRes.mk ?_ | refine LIn.step ?_ | refine zdr ?_ | refine zna (fun _ => ?_) | refine znb (fun _ => ?_) | refine znc (fun _ => ?_) | refine newSlice0 (fun _ => ?_))))
  rename_i q g
  refine call1 (wnum_ct wb [7] (some ⟨g, 0, none⟩) 2 [k, l.length] [pt g (.cells #[.int .i64 k, .int .i64 l.length] 2)] (RdH.pt (enc := encN) (fun _ => rfl) (by rfl)) (by intro n hn; simp at hn; omega) (by simp <;> omega) (by simp)) zSp ?_
  rintro v M' ⟨rfl, rfl⟩
  have hb0 : ([7] ++ sevs [k, l.length] : Bs) = 7 :: (seven k ++ seven l.length) := by simp [sevs]
  rw [hb0]
  repeat ((conv => whnf); (first | refine ztx ?_ | refine LNext.nilr ?_ | refine zne ?_ | refine zga ?_ | refine zxa ?_ | refine zca ?_ | refine zcb ?_ | refine zgb ?_ | refine zgd1 ?_ | refine zge ?_ | refine zgf ?_ | refine zgj ?_ | refine zgk ?_ | refine eqStr ?_ | refine neqStr ?_ | refine eqSlNil ?_ | refine capSlice ?_ | refine zgm ?_ | refine zgn ?_ | refine zgo ?_ | refine zba ?_ | refine zbb ?_ | refine zbc ?_ | refine zbd ?_ | refine zbe ?_ | refine zbf ?_ | refine zia ?_ | refine zib ?_ | refine zic ?_ | refine zid1 ?_ | refine zif1 ?_ | refine zig ?_ | refine zih ?_ | refine lint_u8_mod ?_ | refine zua ?_ | refine zgs ?_ | refine LRes.mk ?_ | refine LIn.step ?_ | refine zdr ?_ | refine zna (fun _ => ?_) | refine znb (fun _ => ?_) | refine znc (fun _ => ?_) | refine newSlice0 (fun _ => ?_)))
  refine LLoop.invN (fun i : Nat => [(4, .pointer (some ⟨wb, 0, none⟩)), (132, .slice a l.length cap), (133, .int .i64 l.length), (134, .int .i64 i)]) (fun i => Bf wb (7 :: (seven k ++ seven l.length) ++ txts (l.take i)) :: M) (fun i => i ≤ l.length) (fun i => l.length - i) 0 (Nat.zero_le _) zSu (by rw [List.take_zero]; show Ent _ (Bf wb (7 :: (seven k ++ seven l.length) ++ []) :: M); rw [List.append_nil]; exact zEn) ?_
  intro i hi
  by_cases p1 : i < l.length
  · refine LNext.rd (a := a) (xs := l) (sz := 1) (enc := encW) hr.there (fun rx => ?_)
    obtain ⟨g2, o, rfl, lz⟩ := rx.get p1
    have hm := gd_mem p1
    have hz := nameR_size (hna _ hm)
    have htl : (l.take i).length = i := by rw [List.length_take]; omega
    have hts := txts_len (l := l.take i) (fun s hs => hsz s (List.mem_of_mem_take hs))
    have htk : (7 :: (seven k ++ seven l.length) ++ txts (l.take (i + 1)) : Bs) = 7 :: (seven k ++ seven l.length) ++ txts (l.take i) ++ txtB (gd l i) := by rw [gd_take p1, txts_snoc, List.append_assoc]
    refine LNext.go tab ?_
    repeat ((conv => whnf); (first | refine ztx ?_ | refine LNext.nilr ?_ | refine zne ?_ | refine zga ?_ | refine zxa ?_ | refine zca ?_ | refine zcb ?_ | refine zgb ?_ | refine zgd1 ?_ | refine zge ?_ | refine zgf ?_ | refine zgj ?_ | refine zgk ?_ | refine eqStr ?_ | refine neqStr ?_ | refine eqSlNil ?_ | refine capSlice ?_ | refine zgm ?_ | refine zgn ?_ | refine zgo ?_ | refine zba ?_ | refine zbb ?_ | refine zbc ?_ | refine zbd ?_ | refine zbe ?_ | refine zbf ?_ | refine zia ?_ | refine zib ?_ | refine zic ?_ | refine zid1 ?_ | refine zif1 ?_ | refine zig ?_ | refine zih ?_ | refine lint_u8_mod ?_ | refine zua ?_ | refine zgs ?_ | refine LRes.mk ?_ | refine LIn.step ?_ | refine zdr ?_ | refine zna (fun _ => ?_) | refine znb (fun _ => ?_) | refine znc (fun _ => ?_) | refine newSlice0 (fun _ => ?_)))
    refine call1 (wtext_ct wb (7 :: (seven k ++ seven l.length) ++ txts (l.take i)) (gd l i) [] (by omega) (by simp only [List.length_append, List.length_cons]; omega) (by simp)) zSp ?_
    rintro v M' ⟨rfl, rfl⟩
    repeat ((conv => whnf); (first | refine ztx ?_ | refine LNext.nilr ?_ | refine zne ?_ | refine zga ?_ | refine zxa ?_ | refine zca ?_ | refine zcb ?_ | refine zgb ?_ | refine zgd1 ?_ | refine zge ?_ | refine zgf ?_ | refine zgj ?_ | refine zgk ?_ | refine eqStr ?_ | refine neqStr ?_ | refine eqSlNil ?_ | refine capSlice ?_ | refine zgm ?_ | refine zgn ?_ | refine zgo ?_ | refine zba ?_ | refine zbb ?_ | refine zbc ?_ | refine zbd ?_ | refine zbe ?_ | refine zbf ?_ | refine zia ?_ | refine zib ?_ | refine zic ?_ | refine zid1 ?_ | refine zif1 ?_ | refine zig ?_ | refine zih ?_ | refine lint_u8_mod ?_ | refine zua ?_ | refine zgs ?_ | refine LRes.mk ?_ | refine LIn.step ?_ | refine zdr ?_ | refine zna (fun _ => ?_) | refine znb (fun _ => ?_) | refine znc (fun _ => ?_) | refine newSlice0 (fun _ => ?_)))
    rw [← htk]
    exact ⟨i + 1, p1, by omega, zSu, zEn⟩
  · have hil : l.take i = l := List.take_of_length_le (by omega)
    rw [hil]
    have hbb : (7 :: (seven k ++ seven l.length) ++ txts l : Bs) = 7 :: (seven k ++ (seven l.length ++ txts l)) := by simp
    rw [hbb]
    refine LNext.go tab ?_
    repeat ((conv => whnf); (first | refine ztx ?_ | refine LNext.nilr ?_ | refine zne ?_ | refine zga ?_ | refine zxa ?_ | refine zca ?_ | refine zcb ?_ | refine zgb ?_ | refine zgd1 ?_ | refine zge ?_ | refine zgf ?_ | refine zgj ?_ | refine zgk ?_ | refine eqStr ?_ | refine neqStr ?_ | refine eqSlNil ?_ | refine capSlice ?_ | refine zgm ?_ | refine zgn ?_ | refine zgo ?_ | refine zba ?_ | refine zbb ?_ | refine zbc ?_ | refine zbd ?_ | refine zbe ?_ | refine zbf ?_ | refine zia ?_ | refine zib ?_ | refine zic ?_ | refine zid1 ?_ | refine zif1 ?_ | refine zig ?_ | refine zih ?_ | refine lint_u8_mod ?_ | refine zua ?_ | refine zgs ?_ | refine LRes.mk ?_ | refine LIn.step ?_ | refine zdr ?_ | refine zna (fun _ => ?_) | refine znb (fun _ => ?_) | refine znc (fun _ => ?_) | refine newSlice0 (fun _ => ?_)))
    refine call1 (BBytes_ct wb (7 :: (seven k ++ (seven l.length ++ txts l))) (by simp)) zSp ?_
    rintro v M' ⟨a', cap', rfl, rfl⟩
    repeat ((conv => whnf); (first | refine ztx ?_ | refine LNext.nilr ?_ | refine zne ?_ | refine zga ?_ | refine zxa ?_ | refine zca ?_ | refine zcb ?_ | refine zgb ?_ | refine zgd1 ?_ | refine zge ?_ | refine zgf ?_ | refine zgj ?_ | refine zgk ?_ | refine eqStr ?_ | refine neqStr ?_ | refine eqSlNil ?_ | refine capSlice ?_ | refine zgm ?_ | refine zgn ?_ | refine zgo ?_ | refine zba ?_ | refine zbb ?_ | refine zbc ?_ | refine zbd ?_ | refine zbe ?_ | refine zbf ?_ | refine zia ?_ | refine zib ?_ | refine zic ?_ | refine zid1 ?_ | refine zif1 ?_ | refine zig ?_ | refine zih ?_ | refine lint_u8_mod ?_ | refine zua ?_ | refine zgs ?_ | refine LRes.mk ?_ | refine LIn.step ?_ | refine zdr ?_ | refine zna (fun _ => ?_) | refine znb (fun _ => ?_) | refine znc (fun _ => ?_) | refine newSlice0 (fun _ => ?_)))
    show Fin _ _ _; exact Fin.of (BR a' (7 :: (seven k ++ (seven l.length ++ txts l)) : Bs).length cap' (7 :: (seven k ++ (seven l.length ++ txts l))) :: M) zEn ⟨a', cap', rfl, rfl⟩
end Go.Proofs.YtjmfnakplmmpnaaDoor

namespace Go.Proofs.YtjmfnakplmmpnaaDoor
open Go.Sl
set_option linter.unusedVariables false
set_option linter.unusedSimpArgs false
set_option maxRecDepth 100000
set_option maxHeartbeats 1000000
theorem rd_nat {M : List As} {a : Option Addr} {xs : List Int} (l : RdH M a 1 Go.Proofs.YtjmfnakplmmpnaaDoor.encI xs) (h : ∀ x ∈ xs, 0 ≤ x) : RdH M a 1 encN (xs.map Int.toNat) := ⟨fun k s => (l.h k s).imp (fun e => by rw [e]; rfl) (fun ⟨b, o, e, f⟩ => ⟨b, o, e, fun i x hx j v hj => by
  rw [List.getElem?_map] at hx
  cases hq : xs[i]? with
  | none => rw [hq] at hx; cases hx
  | some y =>
    rw [hq] at hx
    injection hx with hx
    have h0 := h y (List.mem_of_getElem? hq)
    have e2 : encN y.toNat = Go.Proofs.YtjmfnakplmmpnaaDoor.encI y := by unfold encN Go.Proofs.YtjmfnakplmmpnaaDoor.encI; rw [Int.toNat_of_nonneg h0]
    rw [← hx, e2] at hj
    exact f i y hq j v hj⟩)⟩
theorem SuKind_ct (M : List As) (j : JV) : Ctr Tryd.prog 98 #[.agg (encJ j).toArray] M (fun v M' => v = .int .i64 5 ∧ M' = M) := by
  refine ctr_of (Γ := tab) (vs := [_]) fn98 rfl ?_
  repeat ((conv => whnf); (first | refine ztx ?_ | refine LNext.nilr ?_ | refine zne ?_ | refine zga ?_ | refine zxa ?_ | refine zca ?_ | refine zcb ?_ | refine zgb ?_ | refine zgd1 ?_ | refine zge ?_ | refine zgf ?_ | refine zgj ?_ | refine zgk ?_ | refine eqStr ?_ | refine neqStr ?_ | refine eqSlNil ?_ | refine capSlice ?_ | refine zgm ?_ | refine zgn ?_ | refine zgo ?_ | refine zba ?_ | refine zbb ?_ | refine zbc ?_ | refine zbd ?_ | refine zbe ?_ | refine zbf ?_ | refine zia ?_ | refine zib ?_ | refine zic ?_ | refine zid1 ?_ | refine zif1 ?_ | refine zig ?_ | refine zih ?_ | refine lint_u8_mod ?_ | refine zua ?_ | refine zgs ?_ | refine LRes.mk ?_ | refine LIn.step ?_ | refine zdr ?_ | refine zna (fun _ => ?_) | refine znb (fun _ => ?_) | refine znc (fun _ => ?_) | refine newSlice0 (fun _ => ?_)))
  show Fin _ _ _; exact Fin.of M zEn ⟨rfl, rfl⟩
theorem vl : ∀ l : List V4, (l.flatMap vnat).length = 4 * l.length
  | [] => rfl
  | v :: l => by rw [List.flatMap_cons, List.length_append, vl l, List.length_cons]; show 4 + _ = _; omega
theorem vecR_b {v : V4} (h : vecR v = true) : (0 ≤ v.1 ∧ v.1 ≤ 1099511627776) ∧ (0 ≤ v.2.1 ∧ v.2.1 ≤ 1099511627776) ∧ (0 ≤ v.2.2.1 ∧ v.2.2.1 ≤ 1099511627776) ∧ (0 ≤ v.2.2.2 ∧ v.2.2.2 ≤ 1099511627776) := by
  simp only [vecR, v1R, Bool.and_eq_true, decide_eq_true_eq] at h
  exact ⟨h.1.1.1, h.1.1.2, h.1.2, h.2⟩
theorem vnat_lt {v : V4} (h : vecR v = true) : ∀ n ∈ vnat v, n < 9223372036854775808 := by
  have := vecR_b h
  intro n hn
  simp only [vnat, List.mem_cons, List.not_mem_nil, or_false] at hn
  omega
def jobB (k : Nat) (tenant : ByteArray) (prio run : Nat) (pxs : List Int) (txs : List V4) : Bs := [5] ++ sevs [k] ++ txtB tenant ++ sevs [prio, run, pxs.length] ++ sevs (pxs.map Int.toNat) ++ sevs [txs.length]
theorem EncodeSubmitted_ct (M : List As) (k prio run : Nat) (tenant : ByteArray) (pa ta na da : Option Addr) (pcap tcap ncap dcap : Nat) (pxs : List Int) (txs : List V4) (nxs dxs : List ByteArray) (st att sta : Int)
    (hr : RdJ M ⟨k, tenant, prio, run, ⟨pa, pcap, pxs⟩, ⟨ta, tcap, txs⟩, st, att, ⟨na, ncap, nxs⟩, sta, ⟨da, dcap, dxs⟩⟩) (hj : jobR ⟨k, tenant, prio, run, ⟨pa, pcap, pxs⟩, ⟨ta, tcap, txs⟩, st, att, ⟨na, ncap, nxs⟩, sta, ⟨da, dcap, dxs⟩⟩ = true)
    (hk : k ≤ 100) (ht : nameR tenant = true) (hp : prio ≤ 100) (hrun : run ≤ 1000) (hpl : pxs.length ≤ 4) (htl : txs.length ≤ 6) (hpx : ∀ x ∈ pxs, 0 ≤ x ∧ x ≤ 100) (htv : ∀ v ∈ txs, vecR v = true) :
    Ctr Tryd.prog 20 #[.iface 67 (.agg (encJ ⟨k, tenant, prio, run, ⟨pa, pcap, pxs⟩, ⟨ta, tcap, txs⟩, st, att, ⟨na, ncap, nxs⟩, sta, ⟨da, dcap, dxs⟩⟩).toArray)] M (fun v M' => ∃ a' cap', v = .tuple #[.slice a' (jobB k tenant prio run pxs txs ++ sevs (txs.flatMap vnat)).length cap', .int .i64 0] ∧ M' = BR a' (jobB k tenant prio run pxs txs ++ sevs (txs.flatMap vnat)).length cap' (jobB k tenant prio run pxs txs ++ sevs (txs.flatMap vnat)) :: M) := by
  have hsz := nameR_size ht
  have hs1 := seven_len (n := tenant.size) (by omega)
  have hl1 : (txtB tenant).length ≤ 73 := txtB_len hsz.2
  have hs2 := sevs_len (l := [k]) (by intro n hn; simp at hn; omega)
  have hs3 := sevs_len (l := [prio, run, pxs.length]) (by intro n hn; simp at hn; omega)
  have hpn : ∀ n ∈ pxs.map Int.toNat, n < 9223372036854775808 := by
    intro n hn
    obtain ⟨x, hx, rfl⟩ := List.mem_map.1 hn
    have := hpx x hx
    omega
  have hs4 := sevs_len hpn
  have hml : (pxs.map Int.toNat).length = pxs.length := List.length_map ..
  have hs5 := sevs_len (l := [txs.length]) (by intro n hn; simp at hn; omega)
  simp only [List.length_cons, List.length_nil] at hs2 hs3 hs5
  have hfs := FormedSubmitted_ct M ⟨k, tenant, prio, run, ⟨pa, pcap, pxs⟩, ⟨ta, tcap, txs⟩, st, att, ⟨na, ncap, nxs⟩, sta, ⟨da, dcap, dxs⟩⟩ hr (by show tenant.size ≤ _; omega)
  rw [hj] at hfs
  have hkd := fun M => SuKind_ct M ⟨k, tenant, prio, run, ⟨pa, pcap, pxs⟩, ⟨ta, tcap, txs⟩, st, att, ⟨na, ncap, nxs⟩, sta, ⟨da, dcap, dxs⟩⟩
  have hrp : RdH M pa 1 encN (pxs.map Int.toNat) := rd_nat hr.par (fun x hx => (hpx x hx).1)
  refine ctr_of (Γ := tab) (vs := [_]) fn20 rfl ?_
  repeat ((conv => whnf); (first | refine ztx ?_ | refine LNext.nilr ?_ | refine zne ?_ | refine zga ?_ | refine zxa ?_ | refine zca ?_ | refine zcb ?_ | refine zgb ?_ | refine zgd1 ?_ | refine zge ?_ | refine zgf ?_ | refine zgj ?_ | refine zgk ?_ | refine eqStr ?_ | refine neqStr ?_ | refine eqSlNil ?_ | refine capSlice ?_ | refine zgm ?_ | refine zgn ?_ | refine zgo ?_ | refine zba ?_ | refine zbb ?_ | refine zbc ?_ | refine zbd ?_ | refine zbe ?_ | refine zbf ?_ | refine zia ?_ | refine zib ?_ | refine zic ?_ | refine zid1 ?_ | refine zif1 ?_ | refine zig ?_ | refine zih ?_ | refine lint_u8_mod ?_ | refine zua ?_ | refine zgs ?_ | refine LRes.mk ?_ | refine LIn.step ?_ | refine zdr ?_ | refine zna (fun _ => ?_) | refine znb (fun _ => ?_) | refine znc (fun _ => ?_) | refine newSlice0 (fun _ => ?_)))
  refine call0 hfs ?_
  rintro v rfl
  repeat ((conv => whnf); (first | refine ztx ?_ | refine LNext.nilr ?_ | refine zne ?_ | refine zga ?_ | refine zxa ?_ | refine zca ?_ | refine zcb ?_ | refine zgb ?_ | refine zgd1 ?_ | refine zge ?_ | refine zgf ?_ | refine zgj ?_ | refine zgk ?_ | refine eqStr ?_ | refine neqStr ?_ | refine eqSlNil ?_ | refine capSlice ?_ | refine zgm ?_ | refine zgn ?_ | refine zgo ?_ | refine zba ?_ | refine zbb ?_ | refine zbc ?_ | refine zbd ?_ | refine zbe ?_ | refine zbf ?_ | refine zia ?_ | refine zib ?_ | refine zic ?_ | refine zid1 ?_ | refine zif1 ?_ | refine zig ?_ | refine zih ?_ | refine lint_u8_mod ?_ | refine zua ?_ | refine zgs ?_ | refine LRes.mk ?_ | refine LIn.step ?_ | refine zdr ?_ | refine zna (fun _ => ?_) | refine znb (fun _ => ?_) | refine znc (fun _ => ?_) | refine newSlice0 (fun _ => ?_)))
  refine invVal (f := 98) (by kernel_rfl) ?_
  refine call0 (hkd _) ?_
  rintro v rfl
  dsimp only [encJ]
  repeat ((conv => whnf); (first | refine ztx ?_ | refine LNext.nilr ?_ | refine zne ?_ | refine zga ?_ | refine zxa ?_ | refine zca ?_ | refine zcb ?_ | refine zgb ?_ | refine zgd1 ?_ | refine zge ?_ | refine zgf ?_ | refine zgj ?_ | refine zgk ?_ | refine eqStr ?_ | refine neqStr ?_ | refine eqSlNil ?_ | refine capSlice ?_ | refine zgm ?_ | refine zgn ?_ | refine zgo ?_ | refine zba ?_ | refine zbb ?_ | refine zbc ?_ | refine zbd ?_ | refine zbe ?_ | refine zbf ?_ | refine zia ?_ | refine zib ?_ | refine zic ?_ | refine zid1 ?_ | refine zif1 ?_ | refine zig ?_ | refine zih ?_ | refine lint_u8_mod ?_ | refine zua ?_ | refine zgs ?_ | refine LRes.mk ?_ | refine LIn.step ?_ | refine zdr ?_ | refine zna (fun _ => ?_) | refine znb (fun _ => ?_) | refine znc (fun _ => ?_) | refine newSlice0 (fun _ => ?_)))
  rename_i wb
  refine call1 ((WByte_ct wb [] 5 (by decide)).weaken bf_new (fun _ _ h => h)) zSp ?_
  rintro v M' ⟨rfl, rfl⟩
  rw [List.nil_append]
  repeat ((conv => whnf); (first | refine ztx ?_ | refine LNext.nilr ?_ | refine zne ?_ | refine zga ?_ | refine zxa ?_ | refine zca ?_ | refine zcb ?_ | refine zgb ?_ | refine zgd1 ?_ | refine zge ?_ | refine zgf ?_ | refine zgj ?_ | refine zgk ?_ | refine eqStr ?_ | refine neqStr ?_ | refine eqSlNil ?_ | refine capSlice ?_ | refine zgm ?_ | refine zgn ?_ | refine zgo ?_ | refine zba ?_ | refine zbb ?_ | refine zbc ?_ | refine zbd ?_ | refine zbe ?_ | refine zbf ?_ | refine zia ?_ | refine zib ?_ | refine zic ?_ | refine zid1 ?_ | refine zif1 ?_ | refine zig ?_ | refine zih ?_ | refine lint_u8_mod ?_ | refine zua ?_ | refine zgs ?_ | refine LRes.mk ?_ | refine LIn.step ?_ | refine zdr ?_ | refine zna (fun _ => ?_) | refine znb (fun _ => ?_) | refine znc (fun _ => ?_) | refine newSlice0 (fun _ => ?_)))
  repeat ((first | refine taYes ?_ | refine taNo ?_); repeat ((conv => whnf); (first | refine ztx ?_ | refine LNext.nilr ?_ | refine zne ?_ | refine zga ?_ | refine zxa ?_ | refine zca ?_ | refine zcb ?_ | refine zgb ?_ | refine zgd1 ?_ | refine zge ?_ | refine zgf ?_ | refine zgj ?_ | refine zgk ?_ | refine eqStr ?_ | refine neqStr ?_ | refine eqSlNil ?_ | refine capSlice ?_ | refine zgm ?_ | refine zgn ?_ | refine zgo ?_ | refine zba ?_ | refine zbb ?_ | refine zbc ?_ | refine zbd ?_ | refine zbe ?_ | refine zbf ?_ | refine zia ?_ | refine zib ?_ | refine zic ?_ | refine zid1 ?_ | refine zif1 ?_ | refine zig ?_ | refine zih ?_ | refine lint_u8_mod ?_ | refine zua ?_ | refine zgs ?_ | refine LRes.mk ?_ | refine LIn.step ?_ | refine zdr ?_ | refine zna (fun _ => ?_) | refine znb (fun _ => ?_) | refine znc (fun _ => ?_) | refine newSlice0 (fun _ => ?_))))
  rename_i q g
  refine call1 (wnum_ct wb [5] (some ⟨g, 0, none⟩) 1 [k] [pt g (.cells #[.int .i64 k] 2)] (RdH.pt (enc := encN) (fun _ => rfl) (by rfl)) (by intro n hn; simp at hn; omega) (by simp <;> omega) (by simp)) zSp ?_
  rintro v M' ⟨rfl, rfl⟩
  repeat ((conv => whnf); (first | refine ztx ?_ | refine LNext.nilr ?_ | refine zne ?_ | refine zga ?_ | refine zxa ?_ | refine zca ?_ | refine zcb ?_ | refine zgb ?_ | refine zgd1 ?_ | refine zge ?_ | refine zgf ?_ | refine zgj ?_ | refine zgk ?_ | refine eqStr ?_ | refine neqStr ?_ | refine eqSlNil ?_ | refine capSlice ?_ | refine zgm ?_ | refine zgn ?_ | refine zgo ?_ | refine zba ?_ | refine zbb ?_ | refine zbc ?_ | refine zbd ?_ | refine zbe ?_ | refine zbf ?_ | refine zia ?_ | refine zib ?_ | refine zic ?_ | refine zid1 ?_ | refine zif1 ?_ | refine zig ?_ | refine zih ?_ | refine lint_u8_mod ?_ | refine zua ?_ | refine zgs ?_ | refine LRes.mk ?_ | refine LIn.step ?_ | refine zdr ?_ | refine zna (fun _ => ?_) | refine znb (fun _ => ?_) | refine znc (fun _ => ?_) | refine newSlice0 (fun _ => ?_)))
  refine call1 (wtext_ct wb ([5] ++ sevs [k]) tenant [] (by omega) (by simp only [List.length_append, List.length_cons, List.length_nil]; omega) (by simp)) zSp ?_
  rintro v M' ⟨rfl, rfl⟩
  repeat ((conv => whnf); (first | refine ztx ?_ | refine LNext.nilr ?_ | refine zne ?_ | refine zga ?_ | refine zxa ?_ | refine zca ?_ | refine zcb ?_ | refine zgb ?_ | refine zgd1 ?_ | refine zge ?_ | refine zgf ?_ | refine zgj ?_ | refine zgk ?_ | refine eqStr ?_ | refine neqStr ?_ | refine eqSlNil ?_ | refine capSlice ?_ | refine zgm ?_ | refine zgn ?_ | refine zgo ?_ | refine zba ?_ | refine zbb ?_ | refine zbc ?_ | refine zbd ?_ | refine zbe ?_ | refine zbf ?_ | refine zia ?_ | refine zib ?_ | refine zic ?_ | refine zid1 ?_ | refine zif1 ?_ | refine zig ?_ | refine zih ?_ | refine lint_u8_mod ?_ | refine zua ?_ | refine zgs ?_ | refine LRes.mk ?_ | refine LIn.step ?_ | refine zdr ?_ | refine zna (fun _ => ?_) | refine znb (fun _ => ?_) | refine znc (fun _ => ?_) | refine newSlice0 (fun _ => ?_)))
  rename_i g2
  refine call1 (wnum_ct wb ([5] ++ sevs [k] ++ txtB tenant) (some ⟨g2, 0, none⟩) 3 [prio, run, pxs.length] [pt g2 (.cells #[.int .i64 prio, .int .i64 run, .int .i64 pxs.length] 2)] (RdH.pt (enc := encN) (fun _ => rfl) (by rfl)) (by intro n hn; simp at hn; omega) (by simp only [List.length_append, List.length_cons, List.length_nil]; omega) (by simp)) zSp ?_
  rintro v M' ⟨rfl, rfl⟩
  repeat ((conv => whnf); (first | refine ztx ?_ | refine LNext.nilr ?_ | refine zne ?_ | refine zga ?_ | refine zxa ?_ | refine zca ?_ | refine zcb ?_ | refine zgb ?_ | refine zgd1 ?_ | refine zge ?_ | refine zgf ?_ | refine zgj ?_ | refine zgk ?_ | refine eqStr ?_ | refine neqStr ?_ | refine eqSlNil ?_ | refine capSlice ?_ | refine zgm ?_ | refine zgn ?_ | refine zgo ?_ | refine zba ?_ | refine zbb ?_ | refine zbc ?_ | refine zbd ?_ | refine zbe ?_ | refine zbf ?_ | refine zia ?_ | refine zib ?_ | refine zic ?_ | refine zid1 ?_ | refine zif1 ?_ | refine zig ?_ | refine zih ?_ | refine lint_u8_mod ?_ | refine zua ?_ | refine zgs ?_ | refine LRes.mk ?_ | refine LIn.step ?_ | refine zdr ?_ | refine zna (fun _ => ?_) | refine znb (fun _ => ?_) | refine znc (fun _ => ?_) | refine newSlice0 (fun _ => ?_)))
  have hwp := fun M (h : RdH M pa 1 encN (pxs.map Int.toNat)) => wnum_ct wb ([5] ++ sevs [k] ++ txtB tenant ++ sevs [prio, run, pxs.length]) pa pcap (pxs.map Int.toNat) M h hpn (by simp only [List.length_append, List.length_cons, List.length_nil]; omega) (by simp)
  rw [hml] at hwp
  refine call1 (hwp M hrp) zSp ?_
  rintro v M' ⟨rfl, hM'⟩
  subst hM'
  repeat ((conv => whnf); (first | refine ztx ?_ | refine LNext.nilr ?_ | refine zne ?_ | refine zga ?_ | refine zxa ?_ | refine zca ?_ | refine zcb ?_ | refine zgb ?_ | refine zgd1 ?_ | refine zge ?_ | refine zgf ?_ | refine zgj ?_ | refine zgk ?_ | refine eqStr ?_ | refine neqStr ?_ | refine eqSlNil ?_ | refine capSlice ?_ | refine zgm ?_ | refine zgn ?_ | refine zgo ?_ | refine zba ?_ | refine zbb ?_ | refine zbc ?_ | refine zbd ?_ | refine zbe ?_ | refine zbf ?_ | refine zia ?_ | refine zib ?_ | refine zic ?_ | refine zid1 ?_ | refine zif1 ?_ | refine zig ?_ | refine zih ?_ | refine lint_u8_mod ?_ | refine zua ?_ | refine zgs ?_ | refine LRes.mk ?_ | refine LIn.step ?_ | refine zdr ?_ | refine zna (fun _ => ?_) | refine znb (fun _ => ?_) | refine znc (fun _ => ?_) | refine newSlice0 (fun _ => ?_)))
  rename_i g3
  refine call1 (wnum_ct wb ([5] ++ sevs [k] ++ txtB tenant ++ sevs [prio, run, pxs.length] ++ sevs (pxs.map Int.toNat)) (some ⟨g3, 0, none⟩) 1 [txs.length] [pt g3 (.cells #[.int .i64 txs.length] 2)] (RdH.pt (enc := encN) (fun _ => rfl) (by rfl)) (by intro n hn; simp at hn; omega) (by simp only [List.length_append, List.length_cons, List.length_nil]; omega) (by simp)) zSp ?_
  rintro v M' ⟨rfl, rfl⟩
  rw [show [5] ++ sevs [k] ++ txtB tenant ++ sevs [prio, run, pxs.length] ++ sevs (pxs.map Int.toNat) ++ sevs [txs.length] = jobB k tenant prio run pxs txs from rfl]
  have hjl : (jobB k tenant prio run pxs txs).length ≤ 200 := by unfold jobB; simp only [List.length_append, List.length_cons, List.length_nil]; omega
  have hjn : jobB k tenant prio run pxs txs ≠ [] := by unfold jobB; simp
  generalize jobB k tenant prio run pxs txs = J at hjl hjn ⊢
  repeat ((conv => whnf); (first | refine ztx ?_ | refine LNext.nilr ?_ | refine zne ?_ | refine zga ?_ | refine zxa ?_ | refine zca ?_ | refine zcb ?_ | refine zgb ?_ | refine zgd1 ?_ | refine zge ?_ | refine zgf ?_ | refine zgj ?_ | refine zgk ?_ | refine eqStr ?_ | refine neqStr ?_ | refine eqSlNil ?_ | refine capSlice ?_ | refine zgm ?_ | refine zgn ?_ | refine zgo ?_ | refine zba ?_ | refine zbb ?_ | refine zbc ?_ | refine zbd ?_ | refine zbe ?_ | refine zbf ?_ | refine zia ?_ | refine zib ?_ | refine zic ?_ | refine zid1 ?_ | refine zif1 ?_ | refine zig ?_ | refine zih ?_ | refine lint_u8_mod ?_ | refine zua ?_ | refine zgs ?_ | refine LRes.mk ?_ | refine LIn.step ?_ | refine zdr ?_ | refine zna (fun _ => ?_) | refine znb (fun _ => ?_) | refine znc (fun _ => ?_) | refine newSlice0 (fun _ => ?_)))
  refine LLoop.invN (fun i : Nat => [(4, .pointer (some ⟨wb, 0, none⟩)), (105, .slice ta txs.length tcap), (106, .int .i64 txs.length), (107, .int .i64 i)]) (fun i => Bf wb (J ++ sevs ((txs.take i).flatMap vnat)) :: M) (fun i => i ≤ txs.length) (fun i => txs.length - i) 0 (Nat.zero_le _) zSu (by rw [List.take_zero]; show Ent _ (Bf wb (J ++ []) :: M); rw [List.append_nil]; exact zEn) ?_
  intro i hi
  by_cases p1 : i < txs.length
  · refine LNext.rd (a := ta) (xs := txs) (sz := 4) (enc := encV4) hr.tasks.there (fun rx => ?_)
    obtain ⟨g4, o, rfl, lz⟩ := rx.get p1
    have hm := htv _ (gd_mem p1)
    have htl2 : (txs.take i).length = i := by rw [List.length_take]; omega
    have htk : J ++ sevs ((txs.take (i + 1)).flatMap vnat) = J ++ sevs ((txs.take i).flatMap vnat) ++ sevs (vnat (gd txs i)) := by
      rw [gd_take p1, List.flatMap_append, show sevs ((txs.take i).flatMap vnat ++ [gd txs i].flatMap vnat) = sevs ((txs.take i).flatMap vnat) ++ sevs ([gd txs i].flatMap vnat) from by unfold sevs; rw [List.flatMap_append], List.append_assoc]
      simp
    refine LNext.go tab ?_
    repeat ((conv => whnf); (first | refine ztx ?_ | refine LNext.nilr ?_ | refine zne ?_ | refine zga ?_ | refine zxa ?_ | refine zca ?_ | refine zcb ?_ | refine zgb ?_ | refine zgd1 ?_ | refine zge ?_ | refine zgf ?_ | refine zgj ?_ | refine zgk ?_ | refine eqStr ?_ | refine neqStr ?_ | refine eqSlNil ?_ | refine capSlice ?_ | refine zgm ?_ | refine zgn ?_ | refine zgo ?_ | refine zba ?_ | refine zbb ?_ | refine zbc ?_ | refine zbd ?_ | refine zbe ?_ | refine zbf ?_ | refine zia ?_ | refine zib ?_ | refine zic ?_ | refine zid1 ?_ | refine zif1 ?_ | refine zig ?_ | refine zih ?_ | refine lint_u8_mod ?_ | refine zua ?_ | refine zgs ?_ | refine LRes.mk ?_ | refine LIn.step ?_ | refine zdr ?_ | refine zna (fun _ => ?_) | refine znb (fun _ => ?_) | refine znc (fun _ => ?_) | refine newSlice0 (fun _ => ?_)))
    rename_i g5
    have hv := vecR_b hm
    have hvm : ∀ n ∈ vnat (gd txs i), n < 9223372036854775808 := vnat_lt hm
    have hvl := vl (txs.take i)
    have hvs := sevs_len (l := (txs.take i).flatMap vnat) (fun n hn => by
      obtain ⟨w, hw, hn⟩ := List.mem_flatMap.1 hn
      exact vnat_lt (htv w (List.mem_of_mem_take hw)) n hn)
    refine call1 (wnum_ct wb (J ++ sevs ((txs.take i).flatMap vnat)) (some ⟨g5, 0, none⟩) 4 (vnat (gd txs i)) [pt g5 (.cells #[.int .i64 (gd txs i).1, .int .i64 (gd txs i).2.1, .int .i64 (gd txs i).2.2.1, .int .i64 (gd txs i).2.2.2] 23)] (RdH.pt (enc := encN) (fun _ => rfl) (by simp [vnat, encN]; omega)) hvm (by rw [List.length_append]; show _ + 9 * 4 ≤ _; omega) (by simp [hjn])) zSp ?_
    rintro v M' ⟨rfl, rfl⟩
    repeat ((conv => whnf); (first | refine ztx ?_ | refine LNext.nilr ?_ | refine zne ?_ | refine zga ?_ | refine zxa ?_ | refine zca ?_ | refine zcb ?_ | refine zgb ?_ | refine zgd1 ?_ | refine zge ?_ | refine zgf ?_ | refine zgj ?_ | refine zgk ?_ | refine eqStr ?_ | refine neqStr ?_ | refine eqSlNil ?_ | refine capSlice ?_ | refine zgm ?_ | refine zgn ?_ | refine zgo ?_ | refine zba ?_ | refine zbb ?_ | refine zbc ?_ | refine zbd ?_ | refine zbe ?_ | refine zbf ?_ | refine zia ?_ | refine zib ?_ | refine zic ?_ | refine zid1 ?_ | refine zif1 ?_ | refine zig ?_ | refine zih ?_ | refine lint_u8_mod ?_ | refine zua ?_ | refine zgs ?_ | refine LRes.mk ?_ | refine LIn.step ?_ | refine zdr ?_ | refine zna (fun _ => ?_) | refine znb (fun _ => ?_) | refine znc (fun _ => ?_) | refine newSlice0 (fun _ => ?_)))
    rw [← htk]
    exact ⟨i + 1, p1, by omega, zSu, zEn⟩
  · have hil : txs.take i = txs := List.take_of_length_le (by omega)
    rw [hil]
    refine LNext.go tab ?_
    repeat ((conv => whnf); (first | refine ztx ?_ | refine LNext.nilr ?_ | refine zne ?_ | refine zga ?_ | refine zxa ?_ | refine zca ?_ | refine zcb ?_ | refine zgb ?_ | refine zgd1 ?_ | refine zge ?_ | refine zgf ?_ | refine zgj ?_ | refine zgk ?_ | refine eqStr ?_ | refine neqStr ?_ | refine eqSlNil ?_ | refine capSlice ?_ | refine zgm ?_ | refine zgn ?_ | refine zgo ?_ | refine zba ?_ | refine zbb ?_ | refine zbc ?_ | refine zbd ?_ | refine zbe ?_ | refine zbf ?_ | refine zia ?_ | refine zib ?_ | refine zic ?_ | refine zid1 ?_ | refine zif1 ?_ | refine zig ?_ | refine zih ?_ | refine lint_u8_mod ?_ | refine zua ?_ | refine zgs ?_ | refine LRes.mk ?_ | refine LIn.step ?_ | refine zdr ?_ | refine zna (fun _ => ?_) | refine znb (fun _ => ?_) | refine znc (fun _ => ?_) | refine newSlice0 (fun _ => ?_)))
    refine call1 (BBytes_ct wb (J ++ sevs (txs.flatMap vnat)) (by simp [hjn])) zSp ?_
    rintro v M' ⟨a', cap', rfl, rfl⟩
    repeat ((conv => whnf); (first | refine ztx ?_ | refine LNext.nilr ?_ | refine zne ?_ | refine zga ?_ | refine zxa ?_ | refine zca ?_ | refine zcb ?_ | refine zgb ?_ | refine zgd1 ?_ | refine zge ?_ | refine zgf ?_ | refine zgj ?_ | refine zgk ?_ | refine eqStr ?_ | refine neqStr ?_ | refine eqSlNil ?_ | refine capSlice ?_ | refine zgm ?_ | refine zgn ?_ | refine zgo ?_ | refine zba ?_ | refine zbb ?_ | refine zbc ?_ | refine zbd ?_ | refine zbe ?_ | refine zbf ?_ | refine zia ?_ | refine zib ?_ | refine zic ?_ | refine zid1 ?_ | refine zif1 ?_ | refine zig ?_ | refine zih ?_ | refine lint_u8_mod ?_ | refine zua ?_ | refine zgs ?_ | refine LRes.mk ?_ | refine LIn.step ?_ | refine zdr ?_ | refine zna (fun _ => ?_) | refine znb (fun _ => ?_) | refine znc (fun _ => ?_) | refine newSlice0 (fun _ => ?_)))
    show Fin _ _ _; exact Fin.of (BR a' (J ++ sevs (txs.flatMap vnat)).length cap' (J ++ sevs (txs.flatMap vnat)) :: M) zEn ⟨a', cap', rfl, rfl⟩
end Go.Proofs.YtjmfnakplmmpnaaDoor

namespace Go.Proofs.YtjmfnakplmmpnaaDoor
open Go.Sl
set_option linter.unusedVariables false
set_option linter.unusedSimpArgs false
set_option maxRecDepth 100000
set_option maxHeartbeats 1000000
end Go.Proofs.YtjmfnakplmmpnaaDoor

namespace Go.Proofs.YtjmfnakplmmpnaaDoor
open Go.Sl
set_option linter.unusedVariables false
set_option linter.unusedSimpArgs false
set_option maxRecDepth 100000
set_option maxHeartbeats 1000000
inductive Rec where
  | joined (s : ByteArray) (w : Int) (q : V4)
  | up (s : ByteArray) (e : Int) (v : V4)
  | beat (s : ByteArray)
  | down (s : ByteArray)
  | sub (j : JV)
  | rel (n : Int)
  | placed (n : Int) (l : SlV ByteArray)
  | evi (n : Int)
  | part (n : Int) (s : ByteArray)
  | ended (n st : Int)
  | tick
  | none
def recV : Rec → Value
  | .joined s w q => .iface 70 (.agg #[.string s, .int .i64 w, .int .i64 q.1, .int .i64 q.2.1, .int .i64 q.2.2.1, .int .i64 q.2.2.2])
  | .up s e v => .iface 72 (.agg #[.string s, .int .i64 e, .int .i64 v.1, .int .i64 v.2.1, .int .i64 v.2.2.1, .int .i64 v.2.2.2])
  | .beat s => .iface 63 (.agg #[.string s])
  | .down s => .iface 73 (.agg #[.string s])
  | .sub j => .iface 67 (.agg (encJ j).toArray)
  | .rel n => .iface 75 (.agg #[.int .i64 n])
  | .placed n l => .iface 77 (.agg #[.int .i64 n, .slice l.a l.xs.length l.cap])
  | .evi n => .iface 78 (.agg #[.int .i64 n])
  | .part n s => .iface 80 (.agg #[.int .i64 n, .string s])
  | .ended n st => .iface 82 (.agg #[.int .i64 n, .int .i64 st])
  | .tick => .iface 65 (.agg #[])
  | .none => .nilIface
abbrev zP : PV := ⟨0, ⟨#[]⟩, 0, (0, 0, 0, 0), ⟨#[]⟩, 0, (0, 0, 0, 0), zJ, 0, ⟨none, 0, []⟩, 0⟩
def recP : Rec → PV
  | .joined s w q => { zP with kind := 1, tname := s, weight := w, quota := q }
  | .up s e v => { zP with kind := 2, node := s, epoch := e, vec := v }
  | .beat s => { zP with kind := 3, node := s }
  | .down s => { zP with kind := 4, node := s }
  | .sub j => { zP with kind := 5, job := j }
  | .rel n => { zP with kind := 6, id := n }
  | .placed n l => { zP with kind := 7, id := n, nodes := l }
  | .evi n => { zP with kind := 8, id := n }
  | .part n s => { zP with kind := 9, id := n, node := s }
  | .ended n st => { zP with kind := 10, id := n, state := st }
  | .tick => { zP with kind := 11 }
  | .none => zP
def recF : Rec → Bool
  | .joined s w q => nameR s && decide (1 ≤ w) && decide (w ≤ 1000) && vecR q
  | .up s e v => nameR s && decide (1 ≤ e) && decide (e < 2147483648) && vecR v
  | .beat s => nameR s
  | .down s => nameR s
  | .sub j => jobR j
  | .rel n => idR n
  | .placed n l => idR n && decide (1 ≤ l.xs.length) && decide (l.xs.length ≤ 6) && l.xs.all nameR
  | .evi n => idR n
  | .part n s => idR n && nameR s
  | .ended n st => idR n && decide (4 ≤ st) && decide (st ≤ 6)
  | .tick => true
  | .none => false
def recB : Rec → Bs
  | .joined s w q => 1 :: (txtB s ++ (seven w.toNat ++ sevs (vnat q)))
  | .up s e v => 2 :: (txtB s ++ (seven e.toNat ++ sevs (vnat v)))
  | .beat s => 3 :: txtB s
  | .down s => 4 :: txtB s
  | .sub j => jobB j.id.toNat j.tenant j.prio.toNat j.run.toNat j.par.xs j.tasks.xs ++ sevs (j.tasks.xs.flatMap vnat)
  | .rel n => 6 :: seven n.toNat
  | .placed n l => 7 :: (seven n.toNat ++ (seven l.xs.length ++ txts l.xs))
  | .evi n => 8 :: seven n.toNat
  | .part n s => 9 :: (seven n.toNat ++ txtB s)
  | .ended n st => 10 :: (seven n.toNat ++ seven st.toNat)
  | .tick => [11]
  | .none => []
def RdR (M : List As) : Rec → Prop
  | .joined s _ _ => s.size ≤ 140737488355328
  | .up s _ _ => s.size ≤ 140737488355328
  | .beat s => s.size ≤ 140737488355328
  | .down s => s.size ≤ 140737488355328
  | .sub j => RdJ M j ∧ j.tenant.size ≤ 140737488355328
  | .placed _ l => RdH M l.a 1 encW l.xs ∧ l.xs.length ≤ 9223372036854775807 ∧ ∀ s ∈ l.xs, s.size ≤ 140737488355328
  | .part _ s => s.size ≤ 140737488355328
  | _ => True
theorem RdR.there {M : List As} {y : As} : ∀ {r : Rec}, RdR M r → RdR (y :: M) r
  | .joined .., h => h
  | .up .., h => h
  | .beat .., h => h
  | .down .., h => h
  | .sub .., h => ⟨h.1.there, h.2⟩
  | .rel .., h => h
  | .placed .., h => ⟨h.1.there, h.2⟩
  | .evi .., h => h
  | .part .., h => h
  | .ended .., h => h
  | .tick, h => h
  | .none, h => h
theorem Formed_ct (M : List As) (r : Rec) (h : RdR M r) : Ctr Tryd.prog 22 #[recV r] M (fun v M' => v = .bool (recF r) ∧ M' = M) := by
  cases r with
  | joined s w q => exact FormedJoined_ct M s w q (by have h : s.size ≤ _ := h; omega)
  | up s e v => exact FormedUp_ct M s e v (by have h : s.size ≤ _ := h; omega)
  | beat s => exact FormedBeat_ct M s (by have h : s.size ≤ _ := h; omega)
  | down s => exact FormedDown_ct M s (by have h : s.size ≤ _ := h; omega)
  | sub j => exact FormedSubmitted_ct M j h.1 (by have h := h.2; omega)
  | rel n => exact FormedReleased_ct M n
  | placed n l => exact FormedPlaced_ct M n l.a l.cap l.xs h.1 h.2.1 (fun s hs => by have h := h.2.2 s hs; omega)
  | evi n => exact FormedEvicted_ct M n
  | part n s => exact FormedPart_ct M n s (by have h : s.size ≤ _ := h; omega)
  | ended n st => exact FormedEnded_ct M n st
  | tick => exact FormedTicked_ct M
  | none => exact FormedNil_ct M
theorem Ctr.frm {P : Program} {f : FuncId} {args : Array Value} {L : List As} {R : Value → List As → Prop} (h : Ctr P f args L R) (X : List As) : Ctr P f args (L ++ X) (fun v M' => ∃ N, R v N ∧ M' = N ++ X) :=
  ⟨h.1, fun F w s => (h.2 (X ++ F) w (s.ent Ent.assoc)).mono fun e w' ⟨v, N, he, hr, hs, hn⟩ => ⟨v, N ++ X, he, ⟨N, hr, rfl⟩, hs.ent Ent.assoc', hn⟩⟩
def encR (r : Rec) : Bs × Int := if recF r = true then (recB r, 0) else ([], 4)
def EncAns (M : List As) (r : Rec) (v : Value) (M' : List As) : Prop := ∃ a cap, v = .tuple #[.slice a (encR r).1.length cap, .int .i64 (encR r).2] ∧ M' = BR a (encR r).1.length cap (encR r).1 :: M
theorem enc_yes {M : List As} {r : Rec} {f : FuncId} {args : Array Value} (hf : recF r = true) {b : Bs} (e : b = recB r) (h : Ctr Tryd.prog f args M (fun v M' => ∃ a cap, v = .tuple #[.slice a b.length cap, .int .i64 0] ∧ M' = BR a b.length cap b :: M)) : Ctr Tryd.prog f args M (EncAns M r) := by
  subst e
  have he : encR r = (recB r, 0) := if_pos hf
  refine h.weaken (Ent.refl M) ?_
  rintro v M' ⟨a, cap, rfl, rfl⟩
  unfold EncAns
  rw [he]
  exact ⟨a, cap, rfl, rfl⟩
theorem enc_no {M : List As} {r : Rec} {f : FuncId} {args : Array Value} (hf : recF r = false) (h : Ctr Tryd.prog f args M (fun v M' => v = .tuple #[.slice none 0 0, .int .i64 4] ∧ M' = M)) : Ctr Tryd.prog f args M (EncAns M r) := by
  have he : encR r = ([], 4) := if_neg (by rw [hf]; simp)
  refine ⟨h.1, fun F w s => (h.2 F w s).mono ?_⟩
  rintro e w' ⟨v, M', he', ⟨rfl, rfl⟩, hs, hn⟩
  refine ⟨_, BR none 0 0 [] :: M', he', ?_, hs.ent (Ent.app ent_e0 (Ent.refl F)), hn⟩
  unfold EncAns
  rw [he]
  exact ⟨none, 0, rfl, rfl⟩
theorem vecR_nat {v : V4} (h : vecR v = true) : ∃ a b c d : Nat, v = ((a : Int), (b : Int), (c : Int), (d : Int)) ∧ a ≤ 1099511627776 ∧ b ≤ 1099511627776 ∧ c ≤ 1099511627776 ∧ d ≤ 1099511627776 := by
  obtain ⟨x, y, z, w⟩ := v
  have := vecR_b h
  dsimp only at this
  exact ⟨x.toNat, y.toNat, z.toNat, w.toNat, by simp only [Prod.mk.injEq]; omega, by omega, by omega, by omega, by omega⟩
theorem par1R_b {id : Int} {l : List Int} (h : parR id l = true) : ∀ x ∈ l, 0 ≤ x ∧ x ≤ 100 := by
  intro x hx
  obtain ⟨i, hi, rfl⟩ := List.mem_iff_getElem.1 hx
  unfold parR at h
  have := List.all_eq_true.1 h i (List.mem_range.2 hi)
  unfold par1R at this
  simp only [Bool.and_eq_true] at this
  have h2 := this.1.1
  rw [gd_eq hi] at h2
  simp only [idR, Bool.and_eq_true, decide_eq_true_eq] at h2
  omega
theorem Encode_ct (M : List As) (r : Rec) (h : RdR M r) : Ctr Tryd.prog 20 #[recV r] M (EncAns M r) := by
  cases hf : recF r with
  | false => exact enc_no hf (EncodeNo_ct M _ (by rw [← hf]; exact Formed_ct M r h))
  | true =>
  cases r with
  | joined s w q =>
    have hf' := hf
    simp only [recF, Bool.and_eq_true, decide_eq_true_eq] at hf
    obtain ⟨⟨⟨h1, h2⟩, h3⟩, h4⟩ := hf
    obtain ⟨a, b, c, d, rfl, ha, hb, hc, hd⟩ := vecR_nat h4
    obtain ⟨k, rfl⟩ := Int.eq_ofNat_of_zero_le (by omega : 0 ≤ w)
    exact enc_yes hf' (by simp [recB, vnat]) (EncodeJoined_ct M s k a b c d h1 (by omega) (by omega) ha hb hc hd)
  | up s e v =>
    have hf' := hf
    simp only [recF, Bool.and_eq_true, decide_eq_true_eq] at hf
    obtain ⟨⟨⟨h1, h2⟩, h3⟩, h4⟩ := hf
    obtain ⟨a, b, c, d, rfl, ha, hb, hc, hd⟩ := vecR_nat h4
    obtain ⟨k, rfl⟩ := Int.eq_ofNat_of_zero_le (by omega : 0 ≤ e)
    exact enc_yes hf' (by simp [recB, vnat]) (EncodeUp_ct M s k a b c d h1 (by omega) (by omega) ha hb hc hd)
  | beat s =>
    have h1 := nameR_size hf
    refine enc_yes hf (b := 3 :: txtB s) rfl ((Ctr.frm (EncodeBeat_ct s hf (by omega) (by omega)) M).weaken (by rw [List.nil_append]; exact Ent.refl M) ?_)
    rintro v M' ⟨N, ⟨a, cap, rfl, rfl⟩, rfl⟩
    exact ⟨a, cap, rfl, rfl⟩
  | down s => exact enc_yes hf rfl (EncodeDown_ct M s hf)
  | sub j =>
    have hf' := hf
    obtain ⟨id, tenant, prio, run, ⟨pa, pcap, pxs⟩, ⟨ta, tcap, txs⟩, state, att, ⟨na, ncap, nxs⟩, start, ⟨da, dcap, dxs⟩⟩ := j
    have hj : jobR ⟨id, tenant, prio, run, ⟨pa, pcap, pxs⟩, ⟨ta, tcap, txs⟩, state, att, ⟨na, ncap, nxs⟩, start, ⟨da, dcap, dxs⟩⟩ = true := hf
    have hj' := hj
    simp only [jobR, Bool.and_eq_true, decide_eq_true_eq] at hj'
    obtain ⟨⟨⟨⟨⟨⟨⟨⟨⟨⟨⟨⟨⟨⟨c1, c2⟩, c3⟩, c4⟩, c5⟩, c6⟩, c7⟩, c8⟩, c9⟩, c10⟩, c11⟩, c12⟩, c13⟩, c14⟩, c15⟩ := hj'
    obtain ⟨k, rfl, k1, k2⟩ := idR_nat c1
    obtain ⟨p, rfl⟩ := Int.eq_ofNat_of_zero_le c3
    obtain ⟨u, rfl⟩ := Int.eq_ofNat_of_zero_le (by omega : 0 ≤ run)
    exact enc_yes hf' (by simp [recB]) (EncodeSubmitted_ct M k p u tenant pa ta na da pcap tcap ncap dcap pxs txs nxs dxs state att start h.1 hj k2 c2 (by omega) (by omega) c7 c9 (par1R_b c10) (fun v hv => List.all_eq_true.1 c11 v hv))
  | rel n =>
    obtain ⟨k, rfl, k1, k2⟩ := idR_nat hf
    exact enc_yes hf (by simp [recB]) (EncodeReleased_ct M k k1 k2)
  | placed n l =>
    have hf' := hf
    simp only [recF, Bool.and_eq_true, decide_eq_true_eq] at hf
    obtain ⟨⟨⟨h1, h2⟩, h3⟩, h4⟩ := hf
    obtain ⟨k, rfl, k1, k2⟩ := idR_nat h1
    exact enc_yes hf' (by simp [recB]) (EncodePlaced_ct M k l.a l.cap l.xs k1 k2 h.1 h2 h3 h4)
  | evi n =>
    obtain ⟨k, rfl, k1, k2⟩ := idR_nat hf
    exact enc_yes hf (by simp [recB]) (EncodeEvicted_ct M k k1 k2)
  | part n s =>
    have hf' := hf
    simp only [recF, Bool.and_eq_true, decide_eq_true_eq] at hf
    obtain ⟨k, rfl, k1, k2⟩ := idR_nat hf.1
    exact enc_yes hf' (by simp [recB]) (EncodePart_ct M k s k1 k2 hf.2)
  | ended n st =>
    have hf' := hf
    simp only [recF, Bool.and_eq_true, decide_eq_true_eq] at hf
    obtain ⟨⟨h1, h2⟩, h3⟩ := hf
    obtain ⟨k, rfl, k1, k2⟩ := idR_nat h1
    obtain ⟨u, rfl⟩ := Int.eq_ofNat_of_zero_le (by omega : 0 ≤ st)
    exact enc_yes hf' (by simp [recB]) (EncodeEnded_ct M k u k1 k2 (by omega) (by omega))
  | tick => exact enc_yes rfl rfl (EncodeTicked_ct M)
  | none => cases hf
end Go.Proofs.YtjmfnakplmmpnaaDoor

namespace Go.Proofs.YtjmfnakplmmpnaaDoor
open Go.Sl
set_option linter.unusedVariables false
set_option linter.unusedSimpArgs false
set_option maxRecDepth 100000
abbrev PS := Bs × Bool
theorem rdGo_le : ∀ (l : Bs) (i n : Nat), (rdGo i n l).2 ≤ i + l.length
  | [], i, n => Nat.zero_le _
  | x :: l, i, n => by
    unfold rdGo
    split
    · exact Nat.zero_le _
    · split
      · show i + 1 ≤ i + (l.length + 1); omega
      · have := rdGo_le l (i + 1) (n + x.toNat % 128 * 128 ^ i)
        rw [List.length_cons]; omega
theorem rdS_le (b : Bs) : (rdS b).2 ≤ b.length := by have := rdGo_le b 0 0; unfold rdS; omega
def numP (s : PS) : Nat × PS := if (rdS s.1).2 = 0 ∨ 4611686018427387904 < (rdS s.1).1 then (0, (s.1, true)) else ((rdS s.1).1, (s.1.drop (rdS s.1).2, s.2))
def txtP (s : PS) : ByteArray × PS := if (numP s).2.1.length < (numP s).1 then (⟨#[]⟩, ((numP s).2.1, true)) else (⟨((numP s).2.1.take (numP s).1).toArray⟩, ((numP s).2.1.drop (numP s).1, (numP s).2.2))
def vecP (s : PS) : V4 × PS :=
  let a := numP s
  let b := numP a.2
  let c := numP b.2
  let d := numP c.2
  (((a.1 : Int), (b.1 : Int), (c.1 : Int), (d.1 : Int)), d.2)
def cntP (s : PS) : Nat × PS := if 64 < (numP s).1 then (0, ((numP s).2.1, true)) else numP s
def manyP {α : Type} (f : PS → α × PS) : Nat → PS → List α × PS
  | 0, s => ([], s)
  | k + 1, s => ((f s).1 :: (manyP f k (f s).2).1, (manyP f k (f s).2).2)
def numI (s : PS) : Int × PS := (((numP s).1 : Int), (numP s).2)
def jobP (s : PS) : JV × PS :=
  let a := numP s
  let b := txtP a.2
  let c := numP b.2
  let d := numP c.2
  let e := cntP d.2
  let f := manyP numI e.1 e.2
  let g := cntP f.2
  let h := manyP vecP g.1 g.2
  (⟨a.1, b.1, c.1, d.1, ⟨none, 0, f.1⟩, ⟨none, 0, h.1⟩, 0, 0, ⟨none, 0, []⟩, 0, ⟨none, 0, []⟩⟩, h.2)
def recPs (kind : Nat) (s : PS) : Rec × PS :=
  if kind = 1 then (let a := txtP s; let b := numP a.2; let c := vecP b.2; (.joined a.1 b.1 c.1, c.2))
  else if kind = 2 then (let a := txtP s; let b := numP a.2; let c := vecP b.2; (.up a.1 b.1 c.1, c.2))
  else if kind = 3 then (.beat (txtP s).1, (txtP s).2)
  else if kind = 4 then (.down (txtP s).1, (txtP s).2)
  else if kind = 5 then (.sub (jobP s).1, (jobP s).2)
  else if kind = 6 then (.rel (numP s).1, (numP s).2)
  else if kind = 7 then (let a := numP s; let b := cntP a.2; let c := manyP txtP b.1 b.2; (.placed a.1 ⟨none, 0, c.1⟩, c.2))
  else if kind = 8 then (.evi (numP s).1, (numP s).2)
  else if kind = 9 then (let a := numP s; let b := txtP a.2; (.part a.1 b.1, b.2))
  else if kind = 10 then (let a := numP s; let b := numP a.2; (.ended a.1 b.1, b.2))
  else if kind = 11 then (.tick, s)
  else (.none, s)
def nfS {α : Type} (l : SlV α) : SlV α := ⟨none, 0, l.xs⟩
def nfJ (j : JV) : JV := { j with par := nfS j.par, tasks := nfS j.tasks, nodes := nfS j.nodes, don := nfS j.don }
def nf : Rec → Rec
  | .sub j => .sub (nfJ j)
  | .placed n l => .placed n (nfS l)
  | r => r
theorem numP_seven {n : Nat} (h : n ≤ 4611686018427387904) (r : Bs) (bad : Bool) : numP (seven n ++ r, bad) = (n, (r, bad)) := by
  have hl := seven_len (n := n) (by omega)
  unfold numP
  dsimp only
  rw [rdS_seven n r (by omega)]
  dsimp only
  rw [if_neg (by omega), List.drop_left]
theorem txtP_txt {s : ByteArray} (h : s.size ≤ 4611686018427387904) (r : Bs) (bad : Bool) : txtP (txtB s ++ r, bad) = (s, (r, bad)) := by
  have hl : s.data.toList.length = s.size := by rw [Array.length_toList]; rfl
  unfold txtP txtB
  rw [List.append_assoc, numP_seven h]
  dsimp only
  rw [if_neg (by rw [List.length_append]; omega), ← hl, List.take_left, List.drop_left]
theorem cntP_seven {n : Nat} (h : n ≤ 64) (r : Bs) (bad : Bool) : cntP (seven n ++ r, bad) = (n, (r, bad)) := by
  unfold cntP
  rw [numP_seven (by omega), if_neg (by show ¬ 64 < n; omega)]
theorem vecP_b {v : V4} (h : vecR v = true) (r : Bs) (bad : Bool) : vecP (sevs (vnat v) ++ r, bad) = (v, (r, bad)) := by
  obtain ⟨a, b, c, d, rfl, ha, hb, hc, hd⟩ := vecR_nat h
  have e : sevs (vnat ((a : Int), (b : Int), (c : Int), (d : Int))) ++ r = seven a ++ (seven b ++ (seven c ++ (seven d ++ r))) := by simp [sevs, vnat]
  unfold vecP
  rw [e]
  simp only [numP_seven (n := a) (by omega), numP_seven (n := b) (by omega), numP_seven (n := c) (by omega), numP_seven (n := d) (by omega)]
theorem nums_b : ∀ {l : List Int}, (∀ x ∈ l, 0 ≤ x ∧ x ≤ 100) → ∀ (r : Bs) (bad : Bool), manyP numI l.length (sevs (l.map Int.toNat) ++ r, bad) = (l, (r, bad))
  | [], _, r, bad => rfl
  | x :: l, h, r, bad => by
    have hx := h x (List.mem_cons_self ..)
    have ih := nums_b (l := l) (fun y hy => h y (List.mem_cons_of_mem _ hy)) r bad
    have e : sevs ((x :: l).map Int.toNat) ++ r = seven x.toNat ++ (sevs (l.map Int.toNat) ++ r) := by simp [sevs]
    rw [e, List.length_cons]
    unfold manyP
    have e2 : numI (seven x.toNat ++ (sevs (l.map Int.toNat) ++ r), bad) = (x, (sevs (l.map Int.toNat) ++ r, bad)) := by
      unfold numI
      rw [numP_seven (by omega)]
      simp only [Prod.mk.injEq, and_true]
      omega
    rw [e2]
    dsimp only
    rw [ih]
theorem vecs_b : ∀ {l : List V4}, (∀ x ∈ l, vecR x = true) → ∀ (r : Bs) (bad : Bool), manyP vecP l.length (sevs (l.flatMap vnat) ++ r, bad) = (l, (r, bad))
  | [], _, r, bad => rfl
  | x :: l, h, r, bad => by
    have ih := vecs_b (l := l) (fun y hy => h y (List.mem_cons_of_mem _ hy)) r bad
    have e : sevs ((x :: l).flatMap vnat) ++ r = sevs (vnat x) ++ (sevs (l.flatMap vnat) ++ r) := by simp [sevs]
    rw [e, List.length_cons]
    unfold manyP
    rw [vecP_b (h x (List.mem_cons_self ..))]
    dsimp only
    rw [ih]
theorem txts_b : ∀ {l : List ByteArray}, (∀ x ∈ l, x.size ≤ 64) → ∀ (r : Bs) (bad : Bool), manyP txtP l.length (txts l ++ r, bad) = (l, (r, bad))
  | [], _, r, bad => rfl
  | x :: l, h, r, bad => by
    have ih := txts_b (l := l) (fun y hy => h y (List.mem_cons_of_mem _ hy)) r bad
    have hx := h x (List.mem_cons_self ..)
    have e : txts (x :: l) ++ r = txtB x ++ (txts l ++ r) := by simp [txts]
    rw [e, List.length_cons]
    unfold manyP
    rw [txtP_txt (by omega)]
    dsimp only
    rw [ih]
def recK : Rec → Nat
  | .joined .. => 1
  | .up .. => 2
  | .beat .. => 3
  | .down .. => 4
  | .sub .. => 5
  | .rel .. => 6
  | .placed .. => 7
  | .evi .. => 8
  | .part .. => 9
  | .ended .. => 10
  | .tick => 11
  | .none => 0
def recT (r : Rec) : Bs := (recB r).drop 1
theorem recB_cons {r : Rec} (h : recF r = true) : recB r = UInt8.ofNat (recK r) :: recT r := by
  unfold recT
  cases r <;> first | rfl | (cases h) | (simp [recB, jobB, recK]; done)
theorem rec_back {r : Rec} (h : recF r = true) (bad : Bool) : recPs (recK r) (recT r, bad) = (nf r, ([], bad)) := by
  have hb := recB_cons h
  have ht : ∀ t, recB r = UInt8.ofNat (recK r) :: t → recT r = t := fun t e => by rw [hb] at e; exact (List.cons.inj e).2
  cases r with
  | joined s w q =>
    simp only [recF, Bool.and_eq_true, decide_eq_true_eq] at h
    obtain ⟨⟨⟨h1, h2⟩, h3⟩, h4⟩ := h
    have hs := nameR_size h1
    obtain ⟨k, rfl⟩ := Int.eq_ofNat_of_zero_le (by omega : 0 ≤ w)
    have e := ht (txtB s ++ (seven k ++ (sevs (vnat q) ++ []))) (by simp [recB, recK])
    rw [e]
    show recPs 1 _ = _
    unfold recPs
    rw [if_pos rfl]
    simp only [txtP_txt (s := s) (by omega), numP_seven (n := k) (by omega), vecP_b h4]
    rfl
  | up s e v =>
    simp only [recF, Bool.and_eq_true, decide_eq_true_eq] at h
    obtain ⟨⟨⟨h1, h2⟩, h3⟩, h4⟩ := h
    have hs := nameR_size h1
    obtain ⟨k, rfl⟩ := Int.eq_ofNat_of_zero_le (by omega : 0 ≤ e)
    have e := ht (txtB s ++ (seven k ++ (sevs (vnat v) ++ []))) (by simp [recB, recK])
    rw [e]
    show recPs 2 _ = _
    unfold recPs
    rw [if_neg (by decide), if_pos rfl]
    simp only [txtP_txt (s := s) (by omega), numP_seven (n := k) (by omega), vecP_b h4]
    rfl
  | beat s =>
    have hs := nameR_size h
    have e := ht (txtB s ++ []) (by simp [recB, recK])
    rw [e]
    show recPs 3 _ = _
    unfold recPs
    rw [if_neg (by decide), if_neg (by decide), if_pos rfl, txtP_txt (s := s) (by omega)]
    rfl
  | down s =>
    have hs := nameR_size h
    have e := ht (txtB s ++ []) (by simp [recB, recK])
    rw [e]
    show recPs 4 _ = _
    unfold recPs
    rw [if_neg (by decide), if_neg (by decide), if_neg (by decide), if_pos rfl, txtP_txt (s := s) (by omega)]
    rfl
  | sub j =>
    obtain ⟨id, tenant, prio, run, ⟨pa, pcap, pxs⟩, ⟨ta, tcap, txs⟩, state, att, ⟨na, ncap, nxs⟩, start, ⟨da, dcap, dxs⟩⟩ := j
    have hj : jobR ⟨id, tenant, prio, run, ⟨pa, pcap, pxs⟩, ⟨ta, tcap, txs⟩, state, att, ⟨na, ncap, nxs⟩, start, ⟨da, dcap, dxs⟩⟩ = true := h
    simp only [jobR, Bool.and_eq_true, decide_eq_true_eq] at hj
    obtain ⟨⟨⟨⟨⟨⟨⟨⟨⟨⟨⟨⟨⟨⟨c1, c2⟩, c3⟩, c4⟩, c5⟩, c6⟩, c7⟩, c8⟩, c9⟩, c10⟩, c11⟩, c12⟩, c13⟩, c14⟩, c15⟩ := hj
    have hs := nameR_size c2
    obtain ⟨k, rfl, k1, k2⟩ := idR_nat c1
    obtain ⟨p, rfl⟩ := Int.eq_ofNat_of_zero_le c3
    obtain ⟨u, rfl⟩ := Int.eq_ofNat_of_zero_le (by omega : 0 ≤ run)
    have hn : nxs = [] := List.eq_nil_of_length_eq_zero (by omega)
    have hd : dxs = [] := List.eq_nil_of_length_eq_zero (by omega)
    subst hn; subst hd; subst c12; subst c13; subst c14
    have e := ht (seven k ++ (txtB tenant ++ (seven p ++ (seven u ++ (seven pxs.length ++ (sevs (pxs.map Int.toNat) ++ (seven txs.length ++ (sevs (txs.flatMap vnat) ++ [])))))))) (by simp [recB, recK, jobB, sevs])
    rw [e]
    show recPs 5 _ = _
    unfold recPs
    rw [if_neg (by decide), if_neg (by decide), if_neg (by decide), if_neg (by decide), if_pos rfl]
    have hjp : ∀ bs bad, bs = seven k ++ (txtB tenant ++ (seven p ++ (seven u ++ (seven pxs.length ++ (sevs (pxs.map Int.toNat) ++ (seven txs.length ++ (sevs (txs.flatMap vnat) ++ []))))))) → jobP (bs, bad) = (⟨k, tenant, p, u, ⟨none, 0, pxs⟩, ⟨none, 0, txs⟩, 0, 0, ⟨none, 0, []⟩, 0, ⟨none, 0, []⟩⟩, ([], bad)) := fun bs bad e => by
      rw [e]
      unfold jobP
      simp only [numP_seven (n := k) (by omega), txtP_txt (s := tenant) (by omega), numP_seven (n := p) (by omega), numP_seven (n := u) (by omega), cntP_seven (n := pxs.length) (by omega), nums_b (par1R_b c10), cntP_seven (n := txs.length) (by omega), vecs_b (fun v hv => List.all_eq_true.1 c11 v hv)]
    rw [hjp _ _ rfl]
    rfl
  | rel n =>
    obtain ⟨k, rfl, k1, k2⟩ := idR_nat h
    have e := ht (seven k ++ []) (by simp [recB, recK])
    rw [e]
    show recPs 6 _ = _
    unfold recPs
    rw [if_neg (by decide), if_neg (by decide), if_neg (by decide), if_neg (by decide), if_neg (by decide), if_pos rfl, numP_seven (n := k) (by omega)]
    rfl
  | placed n l =>
    obtain ⟨a, cap, l⟩ := l
    simp only [recF, Bool.and_eq_true, decide_eq_true_eq] at h
    obtain ⟨⟨⟨h1, h2⟩, h3⟩, h4⟩ := h
    obtain ⟨k, rfl, k1, k2⟩ := idR_nat h1
    have e := ht (seven k ++ (seven l.length ++ (txts l ++ []))) (by simp [recB, recK])
    rw [e]
    show recPs 7 _ = _
    unfold recPs
    rw [if_neg (by decide), if_neg (by decide), if_neg (by decide), if_neg (by decide), if_neg (by decide), if_neg (by decide), if_pos rfl]
    simp only [numP_seven (n := k) (by omega), cntP_seven (n := l.length) (by omega), txts_b (fun s hs => (nameR_size (List.all_eq_true.1 h4 s hs)).2)]
    rfl
  | evi n =>
    obtain ⟨k, rfl, k1, k2⟩ := idR_nat h
    have e := ht (seven k ++ []) (by simp [recB, recK])
    rw [e]
    show recPs 8 _ = _
    unfold recPs
    rw [if_neg (by decide), if_neg (by decide), if_neg (by decide), if_neg (by decide), if_neg (by decide), if_neg (by decide), if_neg (by decide), if_pos rfl, numP_seven (n := k) (by omega)]
    rfl
  | part n s =>
    simp only [recF, Bool.and_eq_true, decide_eq_true_eq] at h
    obtain ⟨k, rfl, k1, k2⟩ := idR_nat h.1
    have hs := nameR_size h.2
    have e := ht (seven k ++ (txtB s ++ [])) (by simp [recB, recK])
    rw [e]
    show recPs 9 _ = _
    unfold recPs
    rw [if_neg (by decide), if_neg (by decide), if_neg (by decide), if_neg (by decide), if_neg (by decide), if_neg (by decide), if_neg (by decide), if_neg (by decide), if_pos rfl]
    simp only [numP_seven (n := k) (by omega), txtP_txt (s := s) (by omega)]
    rfl
  | ended n st =>
    simp only [recF, Bool.and_eq_true, decide_eq_true_eq] at h
    obtain ⟨⟨h1, h2⟩, h3⟩ := h
    obtain ⟨k, rfl, k1, k2⟩ := idR_nat h1
    obtain ⟨u, rfl⟩ := Int.eq_ofNat_of_zero_le (by omega : 0 ≤ st)
    have e := ht (seven k ++ (seven u ++ [])) (by simp [recB, recK])
    rw [e]
    show recPs 10 _ = _
    unfold recPs
    rw [if_neg (by decide), if_neg (by decide), if_neg (by decide), if_neg (by decide), if_neg (by decide), if_neg (by decide), if_neg (by decide), if_neg (by decide), if_neg (by decide), if_pos rfl]
    simp only [numP_seven (n := k) (by omega), numP_seven (n := u) (by omega)]
    rfl
  | tick => rfl
  | none => cases h
end Go.Proofs.YtjmfnakplmmpnaaDoor

namespace Go.Proofs.YtjmfnakplmmpnaaDoor
open Go.Sl
set_option linter.unusedVariables false
set_option linter.unusedSimpArgs false
set_option maxRecDepth 100000
def rnGo : Nat → Nat → Bs → Nat × Nat × Bool
  | _, _, [] => (0, 0, true)
  | k, n, x :: l => if 7 ≤ k then (0, 0, true) else if x.toNat < 128 then (n + x.toNat * 128 ^ k, 1, decide (x.toNat = 0) && decide (0 < k)) else ((rnGo (k + 1) (n + x.toNat % 128 * 128 ^ k) l).1, (rnGo (k + 1) (n + x.toNat % 128 * 128 ^ k) l).2.1 + 1, (rnGo (k + 1) (n + x.toNat % 128 * 128 ^ k) l).2.2)
theorem rnGo_le : ∀ (l : Bs) (k n : Nat), (rnGo k n l).2.1 ≤ l.length
  | [], k, n => Nat.le_refl _
  | x :: l, k, n => by
    unfold rnGo
    split
    · exact Nat.zero_le _
    · split
      · show 1 ≤ l.length + 1; omega
      · have := rnGo_le l (k + 1) (n + x.toNat % 128 * 128 ^ k)
        rw [List.length_cons]; show _ + 1 ≤ _ + 1; omega
theorem rnGo_lt : ∀ (l : Bs) (k n : Nat), n < 128 ^ k → (rnGo k n l).1 < 562949953421312
  | [], k, n, h => by show 0 < _; decide
  | x :: l, k, n, h => by
    unfold rnGo
    split
    · show 0 < _; decide
    · rename_i hk
      have hk' : k ≤ 6 := by omega
      have hx : x.toNat < 256 := UInt8.toNat_lt x
      have e1 : 128 ^ (k + 1) = 128 ^ k * 128 := Nat.pow_succ ..
      have e2 : 128 ^ (k + 1) ≤ 128 ^ 7 := Nat.pow_le_pow_right (by decide) (by omega)
      have e3 : (128 : Nat) ^ 7 = 562949953421312 := by decide
      split
      · rename_i hlt
        have : x.toNat * 128 ^ k ≤ 127 * 128 ^ k := Nat.mul_le_mul_right _ (by omega)
        show n + x.toNat * 128 ^ k < _
        omega
      · have h2 : x.toNat % 128 * 128 ^ k ≤ 127 * 128 ^ k := Nat.mul_le_mul_right _ (by omega)
        exact rnGo_lt l (k + 1) _ (by omega)
theorem rnGo_sound : ∀ (l : Bs) (k acc : Nat), (rnGo k acc l).2.2 = false → ∃ m, (rnGo k acc l).1 = acc + m * 128 ^ k ∧ l = seven m ++ l.drop (rnGo k acc l).2.1 ∧ (seven m).length = (rnGo k acc l).2.1 ∧ (0 < k → 0 < m)
  | [], k, acc, h => by cases h
  | x :: l, k, acc, h => by
    unfold rnGo at h ⊢
    split at h
    · cases h
    · rename_i hk
      rw [if_neg hk]
      split at h
      · rename_i hlt
        rw [if_pos hlt]
        refine ⟨x.toNat, rfl, ?_, ?_, ?_⟩
        · rw [seven_lt hlt, show UInt8.ofNat x.toNat = x by simp]; rfl
        · rw [seven_lt hlt]; rfl
        · intro h0
          simp only [Bool.and_eq_false_iff, decide_eq_false_iff_not] at h
          omega
      · rename_i hge
        rw [if_neg hge]
        obtain ⟨m, h1, h2, h3, h4⟩ := rnGo_sound l (k + 1) _ h
        have hm := h4 (by omega)
        have hx : x.toNat < 256 := UInt8.toNat_lt x
        have hq : ¬ (x.toNat % 128 + m * 128) < 128 := by omega
        have d1 : (x.toNat % 128 + m * 128) % 128 = x.toNat % 128 := by omega
        have d2 : (x.toNat % 128 + m * 128) / 128 = m := by omega
        have hs : seven (x.toNat % 128 + m * 128) = x :: seven m := by
          rw [seven_ge hq, d1, d2, show x.toNat % 128 + 128 = x.toNat by omega]
          simp
        refine ⟨x.toNat % 128 + m * 128, ?_, ?_, ?_, fun _ => by omega⟩
        · show (rnGo (k + 1) _ l).1 = _
          rw [h1, Nat.pow_succ, Nat.add_mul, Nat.add_assoc, Nat.mul_assoc m 128, Nat.mul_comm 128 (128 ^ k)]
        · rw [hs]
          show x :: l = x :: seven m ++ l.drop _
          rw [List.cons_append, ← h2]
        · rw [hs, List.length_cons, h3]
theorem rnGo_seven (r : Bs) : ∀ (n k acc : Nat), n * 128 ^ k < 562949953421312 → k ≤ 6 → (0 < k → 0 < n) → rnGo k acc (seven n ++ r) = (acc + n * 128 ^ k, (seven n).length, false) := by
  intro n
  induction n using Nat.strongRecOn with
  | _ n ih =>
    intro k acc h hk h0
    by_cases h1 : n < 128
    · rw [seven_lt h1]
      simp only [List.cons_append, List.nil_append, rnGo, List.length_singleton]
      rw [u8_ofNat (by omega), if_neg (by omega), if_pos h1]
      congr 2
      simp only [Bool.and_eq_false_iff, decide_eq_false_iff_not]
      by_cases q : 0 < k
      · have := h0 q; left; omega
      · right; exact q
    · rw [seven_ge h1]
      simp only [List.cons_append, rnGo, List.length_cons]
      rw [u8_ofNat (by omega), if_neg (by omega), if_neg (by omega)]
      have e1 : 128 ^ (k + 1) = 128 ^ k * 128 := Nat.pow_succ ..
      have e2 : n / 128 * 128 ^ (k + 1) ≤ n * 128 ^ k := by
        rw [e1, ← Nat.mul_assoc, Nat.mul_right_comm]
        exact Nat.mul_le_mul_right _ (Nat.div_mul_le_self n 128)
      have e3 : 1 ≤ n / 128 := by omega
      have e4 : 128 ^ (k + 1) ≤ n / 128 * 128 ^ (k + 1) := Nat.le_mul_of_pos_left _ e3
      have hk' : k + 1 ≤ 6 := by
        rcases Nat.lt_or_ge 6 (k + 1) with q | q
        · have : k = 6 := by omega
          subst this
          have e5 : (128 : Nat) ^ (6 + 1) = 562949953421312 := by decide
          omega
        · exact q
      rw [ih (n / 128) (by omega) (k + 1) _ (by omega) hk' (by omega)]
      have e6 : (n % 128 + 128) % 128 = n % 128 := by omega
      rw [e6]
      have e7 : n % 128 * 128 ^ k + n / 128 * 128 ^ (k + 1) = n * 128 ^ k := by
        rw [e1, ← Nat.mul_assoc, Nat.mul_right_comm, ← Nat.add_mul]
        congr 1
        omega
      dsimp only
      rw [Nat.add_assoc, e7]
abbrev QS := Nat × Bool
def rNumP (b : Bs) (s : QS) : Nat × QS := ((rnGo 0 0 (b.drop s.1)).1, (s.1 + (rnGo 0 0 (b.drop s.1)).2.1, s.2 || (rnGo 0 0 (b.drop s.1)).2.2))
def rTxtP (b : Bs) (s : QS) : ByteArray × QS := if (rNumP b s).2.2 = true ∨ b.length - (rNumP b s).2.1 < (rNumP b s).1 then (⟨#[]⟩, ((rNumP b s).2.1, true)) else (⟨((b.drop (rNumP b s).2.1).take (rNumP b s).1).toArray⟩, ((rNumP b s).2.1 + (rNumP b s).1, (rNumP b s).2.2))
def rVecP (b : Bs) (s : QS) : V4 × QS :=
  let x := rNumP b s
  let y := rNumP b x.2
  let z := rNumP b y.2
  let w := rNumP b z.2
  (((x.1 : Int), (y.1 : Int), (z.1 : Int), (w.1 : Int)), w.2)
def rManyP {α : Type} (f : QS → α × QS) : Nat → QS → List α × QS
  | 0, s => ([], s)
  | k + 1, s => if s.2 = true then ([], s) else ((f s).1 :: (rManyP f k (f s).2).1, (rManyP f k (f s).2).2)
def rNumI (b : Bs) (s : QS) : Int × QS := (((rNumP b s).1 : Int), (rNumP b s).2)
def rJobP (b : Bs) (s : QS) : JV × QS :=
  let x := rNumP b s
  let y := rTxtP b x.2
  let z := rNumP b y.2
  let w := rNumP b z.2
  let e := rNumP b w.2
  let f := rManyP (rNumI b) (min e.1 10) e.2
  let g := rNumP b f.2
  let h := rManyP (rVecP b) (min g.1 10) g.2
  (⟨x.1, y.1, z.1, w.1, ⟨none, 0, f.1⟩, ⟨none, 0, h.1⟩, 0, 0, ⟨none, 0, []⟩, 0, ⟨none, 0, []⟩⟩, h.2)
def rRecP (b : Bs) (kind : Nat) (s : QS) : Rec × QS :=
  if kind = 1 then (let x := rTxtP b s; let y := rNumP b x.2; let z := rVecP b y.2; (.joined x.1 y.1 z.1, z.2))
  else if kind = 2 then (let x := rTxtP b s; let y := rNumP b x.2; let z := rVecP b y.2; (.up x.1 y.1 z.1, z.2))
  else if kind = 3 then (.beat (rTxtP b s).1, (rTxtP b s).2)
  else if kind = 4 then (.down (rTxtP b s).1, (rTxtP b s).2)
  else if kind = 5 then (.sub (rJobP b s).1, (rJobP b s).2)
  else if kind = 6 then (.rel (rNumP b s).1, (rNumP b s).2)
  else if kind = 7 then (let x := rNumP b s; let y := rNumP b x.2; let z := rManyP (rTxtP b) (min y.1 10) y.2; (.placed x.1 ⟨none, 0, z.1⟩, z.2))
  else if kind = 8 then (.evi (rNumP b s).1, (rNumP b s).2)
  else if kind = 9 then (let x := rNumP b s; let y := rTxtP b x.2; (.part x.1 y.1, y.2))
  else if kind = 10 then (let x := rNumP b s; let y := rNumP b x.2; (.ended x.1 y.1, y.2))
  else if kind = 11 then (.tick, s)
  else (.none, s)
theorem rNumP_in {b : Bs} {s : QS} (h : s.1 ≤ b.length) : (rNumP b s).2.1 ≤ b.length := by
  have := rnGo_le (b.drop s.1) 0 0
  rw [List.length_drop] at this
  show s.1 + _ ≤ _
  omega
theorem rNumP_lt (b : Bs) (s : QS) : (rNumP b s).1 < 562949953421312 := rnGo_lt _ 0 0 (by decide)
theorem rTxtP_in {b : Bs} {s : QS} (h : s.1 ≤ b.length) : (rTxtP b s).2.1 ≤ b.length := by
  have := rNumP_in h
  unfold rTxtP
  split
  · exact this
  · rename_i q
    show (rNumP b s).2.1 + _ ≤ _
    omega
structure Ate (b : Bs) (s s' : QS) (x : Bs) : Prop where
  ok : s'.2 = false → s.2 = false ∧ b.drop s.1 = x ++ b.drop s'.1
theorem Ate.trans {b : Bs} {s s' s'' : QS} {x y : Bs} (h : Ate b s s' x) (h' : Ate b s' s'' y) : Ate b s s'' (x ++ y) := ⟨fun q => by
  obtain ⟨q1, e1⟩ := h'.ok q
  obtain ⟨q2, e2⟩ := h.ok q1
  exact ⟨q2, by rw [e2, e1, List.append_assoc]⟩⟩
theorem Ate.nil {b : Bs} {s : QS} : Ate b s s [] := ⟨fun q => ⟨q, rfl⟩⟩
theorem ate_num (b : Bs) (s : QS) : Ate b s (rNumP b s).2 (seven (rNumP b s).1) := ⟨fun q => by
  simp only [rNumP, Bool.or_eq_false_iff] at q
  obtain ⟨m, h1, h2, h3, _⟩ := rnGo_sound (b.drop s.1) 0 0 q.2
  refine ⟨q.1, ?_⟩
  have hm : (rNumP b s).1 = m := by show (rnGo 0 0 (b.drop s.1)).1 = m; rw [h1]; simp
  rw [hm]
  show b.drop s.1 = seven m ++ b.drop (s.1 + (rnGo 0 0 (b.drop s.1)).2.1)
  rw [← List.drop_drop]
  exact h2⟩
theorem ate_txt (b : Bs) (s : QS) : Ate b s (rTxtP b s).2 (txtB (rTxtP b s).1) := by
  have hn := ate_num b s
  unfold rTxtP
  split
  · exact ⟨fun q => by cases q⟩
  · rename_i z
    have hz : ¬ (b.length - (rNumP b s).2.1 < (rNumP b s).1) := fun e => z (Or.inr e)
    generalize rNumP b s = q at *
    obtain ⟨n, i, bad⟩ := q
    dsimp only at hn hz ⊢
    refine ⟨fun q => ?_⟩
    obtain ⟨h1, h2⟩ := hn.ok q
    refine ⟨h1, ?_⟩
    rw [h2]
    have hl : ((b.drop i).take n).length = n := by rw [List.length_take, List.length_drop]; omega
    have e : txtB ⟨((b.drop i).take n).toArray⟩ = seven n ++ (b.drop i).take n := by
      unfold txtB
      rw [show (⟨((b.drop i).take n).toArray⟩ : ByteArray).size = n from by show ((b.drop i).take n).toArray.size = n; rw [List.size_toArray, hl]]
    rw [e, List.append_assoc]
    show _ = seven n ++ ((b.drop i).take n ++ b.drop (i + n))
    rw [← List.drop_drop, List.take_append_drop]
theorem ate_vec (b : Bs) (s : QS) : Ate b s (rVecP b s).2 (sevs (vnat (rVecP b s).1)) := by
  have e : sevs (vnat (rVecP b s).1) = seven (rNumP b s).1 ++ seven (rNumP b (rNumP b s).2).1 ++ seven (rNumP b (rNumP b (rNumP b s).2).2).1 ++ seven (rNumP b (rNumP b (rNumP b (rNumP b s).2).2).2).1 := by simp [rVecP, vnat, sevs]
  rw [e]
  exact (((ate_num b s).trans (ate_num b _)).trans (ate_num b _)).trans (ate_num b _)
theorem ate_many {α : Type} {b : Bs} {f : QS → α × QS} {e : α → Bs} (h : ∀ s, Ate b s (f s).2 (e (f s).1)) : ∀ (k : Nat) (s : QS), Ate b s (rManyP f k s).2 ((rManyP f k s).1.flatMap e) ∧ ((rManyP f k s).2.2 = false → (rManyP f k s).1.length = k)
  | 0, s => ⟨Ate.nil, fun _ => rfl⟩
  | k + 1, s => by
    unfold rManyP
    split
    · rename_i q
      exact ⟨⟨fun q2 => by rw [q] at q2; cases q2⟩, fun q2 => by rw [q] at q2; cases q2⟩
    · obtain ⟨h1, h2⟩ := ate_many h k (f s).2
      refine ⟨?_, fun q => ?_⟩
      · rw [List.flatMap_cons]
        exact (h s).trans h1
      · rw [List.length_cons, h2 q]
theorem rec_sound {b : Bs} {kind : Nat} {t : Bs} (hb : b = UInt8.ofNat kind :: t) (hr : (rRecP b kind (1, false)).2 = (b.length, false)) (hf : recF (rRecP b kind (1, false)).1 = true) : b = recB (rRecP b kind (1, false)).1 := by
  have key : ∀ (s' : QS) (x : Bs), Ate b (1, false) s' x → s' = (b.length, false) → b = UInt8.ofNat kind :: x := fun s' x h e => by
    subst e
    obtain ⟨_, h2⟩ := h.ok rfl
    rw [List.drop_length, List.append_nil] at h2
    rw [hb] at h2 ⊢
    rw [← h2]
    rfl
  unfold rRecP at hr hf ⊢
  split at hr
  · rename_i k; subst k
    rw [if_pos rfl] at hf ⊢
    refine (key _ _ (((ate_txt b _).trans (ate_num b _)).trans (ate_vec b _)) hr).trans ?_
    simp [recB]
  rename_i k1
  rw [if_neg k1] at hf ⊢
  split at hr
  · rename_i k; subst k
    rw [if_pos rfl] at hf ⊢
    refine (key _ _ (((ate_txt b _).trans (ate_num b _)).trans (ate_vec b _)) hr).trans ?_
    simp [recB]
  rename_i k2
  rw [if_neg k2] at hf ⊢
  split at hr
  · rename_i k; subst k
    rw [if_pos rfl] at hf ⊢
    exact key _ _ (ate_txt b _) hr
  rename_i k3
  rw [if_neg k3] at hf ⊢
  split at hr
  · rename_i k; subst k
    rw [if_pos rfl] at hf ⊢
    exact key _ _ (ate_txt b _) hr
  rename_i k4
  rw [if_neg k4] at hf ⊢
  split at hr
  · rename_i k; subst k
    rw [if_pos rfl] at hf ⊢
    have hj : jobR (rJobP b (1, false)).1 = true := hf
    simp only [jobR, Bool.and_eq_true, decide_eq_true_eq] at hj
    obtain ⟨⟨⟨⟨⟨⟨⟨⟨⟨⟨⟨⟨⟨⟨c1, c2⟩, c3⟩, c4⟩, c5⟩, c6⟩, c7⟩, c8⟩, c9⟩, c10⟩, c11⟩, c12⟩, c13⟩, c14⟩, c15⟩ := hj
    have a1 := ate_num b (1, false)
    unfold rJobP at hr c7 c8 c9 ⊢
    dsimp only at hr c7 c8 c9 ⊢
    generalize rNumP b (1, false) = q1 at *
    have a2 := a1.trans (ate_txt b q1.2)
    generalize rTxtP b q1.2 = q2 at *
    have a3 := a2.trans (ate_num b q2.2)
    generalize rNumP b q2.2 = q3 at *
    have a4 := a3.trans (ate_num b q3.2)
    generalize rNumP b q3.2 = q4 at *
    have a5 := a4.trans (ate_num b q4.2)
    generalize rNumP b q4.2 = q5 at *
    obtain ⟨m1, m2⟩ := ate_many (b := b) (f := rNumI b) (e := fun x => seven x.toNat) (fun s => by have := ate_num b s; unfold rNumI; simpa using this) (min q5.1 10) q5.2
    have a6 := a5.trans m1
    generalize rManyP (rNumI b) (min q5.1 10) q5.2 = q6 at *
    have a7 := a6.trans (ate_num b q6.2)
    have a70 := ate_num b q6.2
    generalize rNumP b q6.2 = q7 at *
    obtain ⟨n1, n2⟩ := ate_many (b := b) (f := rVecP b) (e := fun v => sevs (vnat v)) (ate_vec b) (min q7.1 10) q7.2
    have a8 := a7.trans n1
    generalize rManyP (rVecP b) (min q7.1 10) q7.2 = q8 at *
    have b8 : q8.2.2 = false := by rw [hr]
    have b7 := (n1.ok b8).1
    have b6 := (a70.ok b7).1
    have l6 := m2 b6
    have l8 := n2 b8
    have e5 : q5.1 = q6.1.length := by omega
    have e7 : q7.1 = q8.1.length := by omega
    refine (key _ _ a8 hr).trans ?_
    rw [e5, e7]
    have ev : sevs (q8.1.flatMap vnat) = q8.1.flatMap (fun v => sevs (vnat v)) := by
      unfold sevs
      rw [List.flatMap_assoc]
    have ep : sevs (q6.1.map Int.toNat) = q6.1.flatMap (fun x => seven x.toNat) := by
      unfold sevs
      rw [List.flatMap_map]
    simp [recB, jobB, ev, ep]
    simp [sevs]
  rename_i k5
  rw [if_neg k5] at hf ⊢
  split at hr
  · rename_i k; subst k
    rw [if_pos rfl] at hf ⊢
    exact key _ _ (ate_num b _) hr
  rename_i k6
  rw [if_neg k6] at hf ⊢
  split at hr
  · rename_i k; subst k
    rw [if_pos rfl] at hf ⊢
    simp only [recF, Bool.and_eq_true, decide_eq_true_eq] at hf
    obtain ⟨⟨⟨c1, c2⟩, c3⟩, c4⟩ := hf
    dsimp only at hr c2 c3 ⊢
    have a1 := ate_num b (1, false)
    generalize rNumP b (1, false) = q1 at *
    have a2 := a1.trans (ate_num b q1.2)
    generalize rNumP b q1.2 = q2 at *
    obtain ⟨m1, m2⟩ := ate_many (b := b) (f := rTxtP b) (e := txtB) (ate_txt b) (min q2.1 10) q2.2
    have a3 := a2.trans m1
    generalize rManyP (rTxtP b) (min q2.1 10) q2.2 = q3 at *
    have b3 : q3.2.2 = false := by rw [hr]
    have l3 := m2 b3
    have e2 : q2.1 = q3.1.length := by omega
    refine (key _ _ a3 hr).trans ?_
    rw [e2]
    simp [recB, txts]
  rename_i k7
  rw [if_neg k7] at hf ⊢
  split at hr
  · rename_i k; subst k
    rw [if_pos rfl] at hf ⊢
    exact key _ _ (ate_num b _) hr
  rename_i k8
  rw [if_neg k8] at hf ⊢
  split at hr
  · rename_i k; subst k
    rw [if_pos rfl] at hf ⊢
    exact key _ _ ((ate_num b _).trans (ate_txt b _)) hr
  rename_i k9
  rw [if_neg k9] at hf ⊢
  split at hr
  · rename_i k; subst k
    rw [if_pos rfl] at hf ⊢
    exact key _ _ ((ate_num b _).trans (ate_num b _)) hr
  rename_i k10
  rw [if_neg k10] at hf ⊢
  split at hr
  · rename_i k; subst k
    rw [if_pos rfl] at hf ⊢
    exact key _ _ Ate.nil hr
  rename_i k11
  rw [if_neg k11] at hf
  cases hf
end Go.Proofs.YtjmfnakplmmpnaaDoor

namespace Go.Proofs.YtjmfnakplmmpnaaDoor
open Go.Sl
set_option linter.unusedVariables false
set_option linter.unusedSimpArgs false
set_option maxRecDepth 100000
structure At (b : Bs) (i : Nat) (l : Bs) : Prop where
  le : i ≤ b.length
  eq : b.drop i = l
theorem At.step {b : Bs} {i : Nat} {x l : Bs} (h : At b i (x ++ l)) : At b (i + x.length) l := by
  have h1 := congrArg List.length h.eq
  rw [List.length_drop, List.length_append] at h1
  have h0 := h.le
  refine ⟨by omega, ?_⟩
  rw [← List.drop_drop, h.eq, List.drop_left]
theorem At.fin {b : Bs} {i : Nat} (h : At b i []) : i = b.length := by
  have h1 := congrArg List.length h.eq
  rw [List.length_drop] at h1
  have h0 := h.le
  simp at h1
  omega
theorem at_num {b : Bs} {i n : Nat} {l : Bs} (bad : Bool) (h : At b i (seven n ++ l)) (hn : n < 562949953421312) : ∃ i', rNumP b (i, bad) = (n, (i', bad)) ∧ At b i' l := by
  refine ⟨i + (seven n).length, ?_, h.step⟩
  unfold rNumP
  dsimp only
  rw [h.eq, rnGo_seven l n 0 0 (by omega) (by decide) (by omega)]
  simp
theorem at_txt {b : Bs} {i : Nat} {s : ByteArray} {l : Bs} (bad : Bool) (h : At b i (txtB s ++ l)) (hn : s.size < 562949953421312) (hb : bad = false) : ∃ i', rTxtP b (i, bad) = (s, (i', bad)) ∧ At b i' l := by
  have hl : s.data.toList.length = s.size := by rw [Array.length_toList]; rfl
  unfold txtB at h
  rw [List.append_assoc] at h
  obtain ⟨i1, e1, h1⟩ := at_num bad h hn
  refine ⟨i1 + s.data.toList.length, ?_, h1.step⟩
  have h2 := congrArg List.length h1.eq
  rw [List.length_drop, List.length_append] at h2
  unfold rTxtP
  rw [e1]
  dsimp only
  rw [if_neg (by rw [hb]; simp; omega), h1.eq, ← hl, List.take_left]
theorem at_vec {b : Bs} {i : Nat} {v : V4} {l : Bs} (bad : Bool) (h : At b i (sevs (vnat v) ++ l)) (hv : vecR v = true) : ∃ i', rVecP b (i, bad) = (v, (i', bad)) ∧ At b i' l := by
  obtain ⟨a, c, d, e, rfl, ha, hc, hd, he⟩ := vecR_nat hv
  have e0 : sevs (vnat ((a : Int), (c : Int), (d : Int), (e : Int))) ++ l = seven a ++ (seven c ++ (seven d ++ (seven e ++ l))) := by simp [sevs, vnat]
  rw [e0] at h
  obtain ⟨i1, e1, h1⟩ := at_num bad h (by omega)
  obtain ⟨i2, e2, h2⟩ := at_num bad h1 (by omega)
  obtain ⟨i3, e3, h3⟩ := at_num bad h2 (by omega)
  obtain ⟨i4, e4, h4⟩ := at_num bad h3 (by omega)
  refine ⟨i4, ?_, h4⟩
  unfold rVecP
  simp only [e1, e2, e3, e4]
theorem at_many {α : Type} {b : Bs} {f : QS → α × QS} {e : α → Bs} : ∀ {xs : List α} (h : ∀ x ∈ xs, ∀ i l, At b i (e x ++ l) → ∃ i', f (i, false) = (x, (i', false)) ∧ At b i' l) {i : Nat} {l : Bs}, At b i (xs.flatMap e ++ l) → ∃ i', rManyP f xs.length (i, false) = (xs, (i', false)) ∧ At b i' l
  | [], h, i, l, ha => ⟨i, rfl, ha⟩
  | x :: xs, h, i, l, ha => by
    rw [List.flatMap_cons, List.append_assoc] at ha
    obtain ⟨i1, e1, h1⟩ := h x (List.mem_cons_self ..) i _ ha
    obtain ⟨i2, e2, h2⟩ := at_many (xs := xs) (fun y hy => h y (List.mem_cons_of_mem _ hy)) h1
    refine ⟨i2, ?_, h2⟩
    rw [List.length_cons]
    unfold rManyP
    rw [if_neg (by simp), e1]
    dsimp only
    rw [e2]
theorem rRec_back {r : Rec} (h : recF r = true) : rRecP (recB r) (recK r) (1, false) = (nf r, ((recB r).length, false)) := by
  have hb := recB_cons h
  have ht : ∀ t, recB r = UInt8.ofNat (recK r) :: t → At (recB r) 1 t := fun t e => ⟨by rw [e]; show 1 ≤ t.length + 1; omega, by rw [e]; rfl⟩
  cases r with
  | joined s w q =>
    simp only [recF, Bool.and_eq_true, decide_eq_true_eq] at h
    obtain ⟨⟨⟨h1, h2⟩, h3⟩, h4⟩ := h
    have hs := nameR_size h1
    obtain ⟨k, rfl⟩ := Int.eq_ofNat_of_zero_le (by omega : 0 ≤ w)
    have a0 := ht (txtB s ++ (seven k ++ (sevs (vnat q) ++ []))) (by simp [recB, recK])
    generalize recB (.joined s k q) = b at a0 ⊢
    obtain ⟨i1, e1, a1⟩ := at_txt false a0 (by omega) rfl
    obtain ⟨i2, e2, a2⟩ := at_num false a1 (by omega)
    obtain ⟨i3, e3, a3⟩ := at_vec false a2 h4
    rw [← a3.fin]
    show rRecP b 1 _ = _
    unfold rRecP
    rw [if_pos rfl]
    simp only [e1, e2, e3]
    rfl
  | up s e v =>
    simp only [recF, Bool.and_eq_true, decide_eq_true_eq] at h
    obtain ⟨⟨⟨h1, h2⟩, h3⟩, h4⟩ := h
    have hs := nameR_size h1
    obtain ⟨k, rfl⟩ := Int.eq_ofNat_of_zero_le (by omega : 0 ≤ e)
    have a0 := ht (txtB s ++ (seven k ++ (sevs (vnat v) ++ []))) (by simp [recB, recK])
    generalize recB (.up s k v) = b at a0 ⊢
    obtain ⟨i1, e1, a1⟩ := at_txt false a0 (by omega) rfl
    obtain ⟨i2, e2, a2⟩ := at_num false a1 (by omega)
    obtain ⟨i3, e3, a3⟩ := at_vec false a2 h4
    rw [← a3.fin]
    show rRecP b 2 _ = _
    unfold rRecP
    rw [if_neg (by decide), if_pos rfl]
    simp only [e1, e2, e3]
    rfl
  | beat s =>
    have hs := nameR_size h
    have a0 := ht (txtB s ++ []) (by simp [recB, recK])
    generalize recB (.beat s) = b at a0 ⊢
    obtain ⟨i1, e1, a1⟩ := at_txt false a0 (by omega) rfl
    rw [← a1.fin]
    show rRecP b 3 _ = _
    unfold rRecP
    rw [if_neg (by decide), if_neg (by decide), if_pos rfl, e1]
    rfl
  | down s =>
    have hs := nameR_size h
    have a0 := ht (txtB s ++ []) (by simp [recB, recK])
    generalize recB (.down s) = b at a0 ⊢
    obtain ⟨i1, e1, a1⟩ := at_txt false a0 (by omega) rfl
    rw [← a1.fin]
    show rRecP b 4 _ = _
    unfold rRecP
    rw [if_neg (by decide), if_neg (by decide), if_neg (by decide), if_pos rfl, e1]
    rfl
  | sub j =>
    obtain ⟨id, tenant, prio, run, ⟨pa, pcap, pxs⟩, ⟨ta, tcap, txs⟩, state, att, ⟨na, ncap, nxs⟩, start, ⟨da, dcap, dxs⟩⟩ := j
    have hj : jobR ⟨id, tenant, prio, run, ⟨pa, pcap, pxs⟩, ⟨ta, tcap, txs⟩, state, att, ⟨na, ncap, nxs⟩, start, ⟨da, dcap, dxs⟩⟩ = true := h
    simp only [jobR, Bool.and_eq_true, decide_eq_true_eq] at hj
    obtain ⟨⟨⟨⟨⟨⟨⟨⟨⟨⟨⟨⟨⟨⟨c1, c2⟩, c3⟩, c4⟩, c5⟩, c6⟩, c7⟩, c8⟩, c9⟩, c10⟩, c11⟩, c12⟩, c13⟩, c14⟩, c15⟩ := hj
    have hs := nameR_size c2
    obtain ⟨k, rfl, k1, k2⟩ := idR_nat c1
    obtain ⟨p, rfl⟩ := Int.eq_ofNat_of_zero_le c3
    obtain ⟨u, rfl⟩ := Int.eq_ofNat_of_zero_le (by omega : 0 ≤ run)
    have hn : nxs = [] := List.eq_nil_of_length_eq_zero (by omega)
    have hd : dxs = [] := List.eq_nil_of_length_eq_zero (by omega)
    subst hn; subst hd; subst c12; subst c13; subst c14
    have hpx := par1R_b c10
    have ev : sevs (txs.flatMap vnat) = txs.flatMap (fun v => sevs (vnat v)) := by
      unfold sevs
      rw [List.flatMap_assoc]
    have ep : sevs (pxs.map Int.toNat) = pxs.flatMap (fun x => seven x.toNat) := by
      unfold sevs
      rw [List.flatMap_map]
    have a0 := ht (seven k ++ (txtB tenant ++ (seven p ++ (seven u ++ (seven pxs.length ++ (pxs.flatMap (fun x => seven x.toNat) ++ (seven txs.length ++ (txs.flatMap (fun v => sevs (vnat v)) ++ [])))))))) (by rw [← ev, ← ep]; simp [recB, recK, jobB, sevs])
    generalize recB (.sub ⟨k, tenant, p, u, ⟨pa, pcap, pxs⟩, ⟨ta, tcap, txs⟩, 0, 0, ⟨na, ncap, []⟩, 0, ⟨da, dcap, []⟩⟩) = b at a0 ⊢
    obtain ⟨i1, e1, a1⟩ := at_num false a0 (by omega)
    obtain ⟨i2, e2, a2⟩ := at_txt false a1 (by omega) rfl
    obtain ⟨i3, e3, a3⟩ := at_num false a2 (by omega)
    obtain ⟨i4, e4, a4⟩ := at_num false a3 (by omega)
    obtain ⟨i5, e5, a5⟩ := at_num false a4 (by omega)
    obtain ⟨i6, e6, a6⟩ := at_many (f := rNumI b) (xs := pxs) (fun x hx i l ha => by
      obtain ⟨i', e', a'⟩ := at_num false ha (by have := hpx x hx; omega)
      refine ⟨i', ?_, a'⟩
      unfold rNumI
      rw [e']
      have := hpx x hx
      simp only [Prod.mk.injEq, and_true]
      omega) a5
    obtain ⟨i7, e7, a7⟩ := at_num false a6 (by omega)
    obtain ⟨i8, e8, a8⟩ := at_many (f := rVecP b) (xs := txs) (fun v hv i l ha => at_vec false ha (List.all_eq_true.1 c11 v hv)) a7
    rw [← a8.fin]
    show rRecP b 5 _ = _
    unfold rRecP
    rw [if_neg (by decide), if_neg (by decide), if_neg (by decide), if_neg (by decide), if_pos rfl]
    have m1 : min pxs.length 10 = pxs.length := by omega
    have m2 : min txs.length 10 = txs.length := by omega
    have hjp : rJobP b (1, false) = (⟨k, tenant, p, u, ⟨none, 0, pxs⟩, ⟨none, 0, txs⟩, 0, 0, ⟨none, 0, []⟩, 0, ⟨none, 0, []⟩⟩, (i8, false)) := by
      unfold rJobP
      simp only [e1, e2, e3, e4, e5, m1, e6, e7, m2, e8]
    rw [hjp]
    rfl
  | rel n =>
    obtain ⟨k, rfl, k1, k2⟩ := idR_nat h
    have a0 := ht (seven k ++ []) (by simp [recB, recK])
    generalize recB (.rel k) = b at a0 ⊢
    obtain ⟨i1, e1, a1⟩ := at_num false a0 (by omega)
    rw [← a1.fin]
    show rRecP b 6 _ = _
    unfold rRecP
    rw [if_neg (by decide), if_neg (by decide), if_neg (by decide), if_neg (by decide), if_neg (by decide), if_pos rfl, e1]
    rfl
  | placed n l =>
    obtain ⟨a, cap, l⟩ := l
    simp only [recF, Bool.and_eq_true, decide_eq_true_eq] at h
    obtain ⟨⟨⟨h1, h2⟩, h3⟩, h4⟩ := h
    obtain ⟨k, rfl, k1, k2⟩ := idR_nat h1
    have a0 := ht (seven k ++ (seven l.length ++ (l.flatMap txtB ++ []))) (by simp [recB, recK, txts])
    generalize recB (.placed k ⟨a, cap, l⟩) = b at a0 ⊢
    obtain ⟨i1, e1, a1⟩ := at_num false a0 (by omega)
    obtain ⟨i2, e2, a2⟩ := at_num false a1 (by omega)
    obtain ⟨i3, e3, a3⟩ := at_many (f := rTxtP b) (xs := l) (fun s hs i r ha => at_txt false ha (by have := (nameR_size (List.all_eq_true.1 h4 s hs)).2; omega) rfl) a2
    rw [← a3.fin]
    show rRecP b 7 _ = _
    unfold rRecP
    rw [if_neg (by decide), if_neg (by decide), if_neg (by decide), if_neg (by decide), if_neg (by decide), if_neg (by decide), if_pos rfl]
    have m1 : min l.length 10 = l.length := by omega
    simp only [e1, e2, m1, e3]
    rfl
  | evi n =>
    obtain ⟨k, rfl, k1, k2⟩ := idR_nat h
    have a0 := ht (seven k ++ []) (by simp [recB, recK])
    generalize recB (.evi k) = b at a0 ⊢
    obtain ⟨i1, e1, a1⟩ := at_num false a0 (by omega)
    rw [← a1.fin]
    show rRecP b 8 _ = _
    unfold rRecP
    rw [if_neg (by decide), if_neg (by decide), if_neg (by decide), if_neg (by decide), if_neg (by decide), if_neg (by decide), if_neg (by decide), if_pos rfl, e1]
    rfl
  | part n s =>
    simp only [recF, Bool.and_eq_true, decide_eq_true_eq] at h
    obtain ⟨k, rfl, k1, k2⟩ := idR_nat h.1
    have hs := nameR_size h.2
    have a0 := ht (seven k ++ (txtB s ++ [])) (by simp [recB, recK])
    generalize recB (.part k s) = b at a0 ⊢
    obtain ⟨i1, e1, a1⟩ := at_num false a0 (by omega)
    obtain ⟨i2, e2, a2⟩ := at_txt false a1 (by omega) rfl
    rw [← a2.fin]
    show rRecP b 9 _ = _
    unfold rRecP
    rw [if_neg (by decide), if_neg (by decide), if_neg (by decide), if_neg (by decide), if_neg (by decide), if_neg (by decide), if_neg (by decide), if_neg (by decide), if_pos rfl]
    simp only [e1, e2]
    rfl
  | ended n st =>
    simp only [recF, Bool.and_eq_true, decide_eq_true_eq] at h
    obtain ⟨⟨h1, h2⟩, h3⟩ := h
    obtain ⟨k, rfl, k1, k2⟩ := idR_nat h1
    obtain ⟨u, rfl⟩ := Int.eq_ofNat_of_zero_le (by omega : 0 ≤ st)
    have a0 := ht (seven k ++ (seven u ++ [])) (by simp [recB, recK])
    generalize recB (.ended k u) = b at a0 ⊢
    obtain ⟨i1, e1, a1⟩ := at_num false a0 (by omega)
    obtain ⟨i2, e2, a2⟩ := at_num false a1 (by omega)
    rw [← a2.fin]
    show rRecP b 10 _ = _
    unfold rRecP
    rw [if_neg (by decide), if_neg (by decide), if_neg (by decide), if_neg (by decide), if_neg (by decide), if_neg (by decide), if_neg (by decide), if_neg (by decide), if_neg (by decide), if_pos rfl]
    simp only [e1, e2]
    rfl
  | tick => rfl
  | none => cases h
end Go.Proofs.YtjmfnakplmmpnaaDoor
