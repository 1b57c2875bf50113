import Derived.Test.YtjmfnakplmmpnaaDoorXAV
namespace Go.Proofs.YtjmfnakplmmpnaaDoor
open Go.Sl
set_option linter.unusedVariables false
set_option linter.unusedSimpArgs false
set_option maxRecDepth 100000
set_option maxHeartbeats 1000000
theorem FormedTicked_ct (M : List As) : Ctr Tryd.prog 22 #[.iface 65 (.agg #[])] M (fun v M' => v = .bool true ∧ M' = M) := by
  refine ctr_of (Γ := tab) (vs := [_]) fn22 rfl ?_
  repeat ((conv => whnf); (first | refine ztx ?_ | refine LNext.nilr ?_ | refine zne ?_ | refine zga ?_ | refine zxa ?_ | refine zca ?_ | refine zcb ?_ | refine zgb ?_ | refine zgd1 ?_ | refine zge ?_ | refine zgf ?_ | refine zgj ?_ | refine zgk ?_ | refine eqStr ?_ | refine neqStr ?_ | refine eqSlNil ?_ | refine capSlice ?_ | refine zgm ?_ | refine zgn ?_ | refine zgo ?_ | refine zba ?_ | refine zbb ?_ | refine zbc ?_ | refine zbd ?_ | refine zbe ?_ | refine zbf ?_ | refine zia ?_ | refine zib ?_ | refine zic ?_ | refine zid1 ?_ | refine zif1 ?_ | refine zig ?_ | refine zih ?_ | refine lint_u8_mod ?_ | refine zua ?_ | refine zgs ?_ | refine LRes.mk ?_ | refine LIn.step ?_ | refine zdr ?_ | refine zna (fun _ => ?_) | refine znb (fun _ => ?_) | refine znc (fun _ => ?_) | refine newSlice0 (fun _ => ?_)))
  repeat ((first | refine taYes ?_ | refine taNo ?_); repeat ((conv => whnf); (first | refine ztx ?_ | refine LNext.nilr ?_ | refine zne ?_ | refine zga ?_ | refine zxa ?_ | refine zca ?_ | refine zcb ?_ | refine zgb ?_ | refine zgd1 ?_ | refine zge ?_ | refine zgf ?_ | refine zgj ?_ | refine zgk ?_ | refine eqStr ?_ | refine neqStr ?_ | refine eqSlNil ?_ | refine capSlice ?_ | refine zgm ?_ | refine zgn ?_ | refine zgo ?_ | refine zba ?_ | refine zbb ?_ | refine zbc ?_ | refine zbd ?_ | refine zbe ?_ | refine zbf ?_ | refine zia ?_ | refine zib ?_ | refine zic ?_ | refine zid1 ?_ | refine zif1 ?_ | refine zig ?_ | refine zih ?_ | refine lint_u8_mod ?_ | refine zua ?_ | refine zgs ?_ | refine LRes.mk ?_ | refine LIn.step ?_ | refine zdr ?_ | refine zna (fun _ => ?_) | refine znb (fun _ => ?_) | refine znc (fun _ => ?_) | refine newSlice0 (fun _ => ?_))))
  show Fin _ _ _; exact Fin.of M zEn ⟨rfl, rfl⟩
theorem FormedBeat_ct (M : List As) (s : ByteArray) (hs : s.size ≤ 9223372036854775806) : Ctr Tryd.prog 22 #[.iface 63 (.agg #[.string s])] M (fun v M' => v = .bool (nameR s) ∧ M' = M) := by
  refine ctr_of (Γ := tab) (vs := [_]) fn22 rfl ?_
  repeat ((conv => whnf); (first | refine ztx ?_ | refine LNext.nilr ?_ | refine zne ?_ | refine zga ?_ | refine zxa ?_ | refine zca ?_ | refine zcb ?_ | refine zgb ?_ | refine zgd1 ?_ | refine zge ?_ | refine zgf ?_ | refine zgj ?_ | refine zgk ?_ | refine eqStr ?_ | refine neqStr ?_ | refine eqSlNil ?_ | refine capSlice ?_ | refine zgm ?_ | refine zgn ?_ | refine zgo ?_ | refine zba ?_ | refine zbb ?_ | refine zbc ?_ | refine zbd ?_ | refine zbe ?_ | refine zbf ?_ | refine zia ?_ | refine zib ?_ | refine zic ?_ | refine zid1 ?_ | refine zif1 ?_ | refine zig ?_ | refine zih ?_ | refine lint_u8_mod ?_ | refine zua ?_ | refine zgs ?_ | refine LRes.mk ?_ | refine LIn.step ?_ | refine zdr ?_ | refine zna (fun _ => ?_) | refine znb (fun _ => ?_) | refine znc (fun _ => ?_) | refine newSlice0 (fun _ => ?_)))
  repeat ((first | refine taYes ?_ | refine taNo ?_); repeat ((conv => whnf); (first | refine ztx ?_ | refine LNext.nilr ?_ | refine zne ?_ | refine zga ?_ | refine zxa ?_ | refine zca ?_ | refine zcb ?_ | refine zgb ?_ | refine zgd1 ?_ | refine zge ?_ | refine zgf ?_ | refine zgj ?_ | refine zgk ?_ | refine eqStr ?_ | refine neqStr ?_ | refine eqSlNil ?_ | refine capSlice ?_ | refine zgm ?_ | refine zgn ?_ | refine zgo ?_ | refine zba ?_ | refine zbb ?_ | refine zbc ?_ | refine zbd ?_ | refine zbe ?_ | refine zbf ?_ | refine zia ?_ | refine zib ?_ | refine zic ?_ | refine zid1 ?_ | refine zif1 ?_ | refine zig ?_ | refine zih ?_ | refine lint_u8_mod ?_ | refine zua ?_ | refine zgs ?_ | refine LRes.mk ?_ | refine LIn.step ?_ | refine zdr ?_ | refine zna (fun _ => ?_) | refine znb (fun _ => ?_) | refine znc (fun _ => ?_) | refine newSlice0 (fun _ => ?_))))
  refine call0 (names_ct _ _ 1 [s] (RdH.pt (enc := encW) (fun _ => rfl) (by rfl)) (by simp) (by intro x hx; rw [List.mem_singleton] at hx; subst hx; exact hs)) ?_
  rintro v rfl
  rw [show [s].all nameR = nameR s by simp]
  repeat ((conv => whnf); (first | refine ztx ?_ | refine LNext.nilr ?_ | refine zne ?_ | refine zga ?_ | refine zxa ?_ | refine zca ?_ | refine zcb ?_ | refine zgb ?_ | refine zgd1 ?_ | refine zge ?_ | refine zgf ?_ | refine zgj ?_ | refine zgk ?_ | refine eqStr ?_ | refine neqStr ?_ | refine eqSlNil ?_ | refine capSlice ?_ | refine zgm ?_ | refine zgn ?_ | refine zgo ?_ | refine zba ?_ | refine zbb ?_ | refine zbc ?_ | refine zbd ?_ | refine zbe ?_ | refine zbf ?_ | refine zia ?_ | refine zib ?_ | refine zic ?_ | refine zid1 ?_ | refine zif1 ?_ | refine zig ?_ | refine zih ?_ | refine lint_u8_mod ?_ | refine zua ?_ | refine zgs ?_ | refine LRes.mk ?_ | refine LIn.step ?_ | refine zdr ?_ | refine zna (fun _ => ?_) | refine znb (fun _ => ?_) | refine znc (fun _ => ?_) | refine newSlice0 (fun _ => ?_)))
  show Fin _ _ _; exact Fin.of M zEn ⟨rfl, rfl⟩
theorem BKind_ct (M : List As) (v0 : Value) : Ctr Tryd.prog 96 #[.agg #[v0]] M (fun v M' => v = .int .i64 3 ∧ M' = M) := by
  refine ctr_of (Γ := tab) (vs := [_]) fn96 rfl ?_
  repeat ((conv => whnf); (first | refine ztx ?_ | refine LNext.nilr ?_ | refine zne ?_ | refine zga ?_ | refine zxa ?_ | refine zca ?_ | refine zcb ?_ | refine zgb ?_ | refine zgd1 ?_ | refine zge ?_ | refine zgf ?_ | refine zgj ?_ | refine zgk ?_ | refine eqStr ?_ | refine neqStr ?_ | refine eqSlNil ?_ | refine capSlice ?_ | refine zgm ?_ | refine zgn ?_ | refine zgo ?_ | refine zba ?_ | refine zbb ?_ | refine zbc ?_ | refine zbd ?_ | refine zbe ?_ | refine zbf ?_ | refine zia ?_ | refine zib ?_ | refine zic ?_ | refine zid1 ?_ | refine zif1 ?_ | refine zig ?_ | refine zih ?_ | refine lint_u8_mod ?_ | refine zua ?_ | refine zgs ?_ | refine LRes.mk ?_ | refine LIn.step ?_ | refine zdr ?_ | refine zna (fun _ => ?_) | refine znb (fun _ => ?_) | refine znc (fun _ => ?_) | refine newSlice0 (fun _ => ?_)))
  show Fin _ _ _; exact Fin.of M zEn ⟨rfl, rfl⟩
theorem bf_new {wb : Nat} : Ent [pt wb (.cells #[.slice none 0 0, .int .i64 0, .int .i8 0] 97)] [Bf wb []] := by
  refine Ent.trans ?_ (Bf.shut (M := []) (bs := []) (a := none) (cap := 0) (lr := 0))
  exact Ent.trans (ent_e0 (E := 5) (sz := 1) (enc := encU)) (Ent.perm (List.Perm.swap _ _ _))
theorem EncodeBeat_ct (s : ByteArray) (h : nameR s = true) (h0 : 0 < s.size) (hs : s.size ≤ 1000) : Ctr Tryd.prog 20 #[.iface 63 (.agg #[.string s])] [] (fun v M' => ∃ a cap, v = .tuple #[.slice a (3 :: txtB s).length cap, .int .i64 0] ∧ M' = [BR a (3 :: txtB s).length cap (3 :: txtB s)]) := by
  refine ctr_of (Γ := tab) (vs := [_]) fn20 rfl ?_
  repeat ((conv => whnf); (first | refine ztx ?_ | refine LNext.nilr ?_ | refine zne ?_ | refine zga ?_ | refine zxa ?_ | refine zca ?_ | refine zcb ?_ | refine zgb ?_ | refine zgd1 ?_ | refine zge ?_ | refine zgf ?_ | refine zgj ?_ | refine zgk ?_ | refine eqStr ?_ | refine neqStr ?_ | refine eqSlNil ?_ | refine capSlice ?_ | refine zgm ?_ | refine zgn ?_ | refine zgo ?_ | refine zba ?_ | refine zbb ?_ | refine zbc ?_ | refine zbd ?_ | refine zbe ?_ | refine zbf ?_ | refine zia ?_ | refine zib ?_ | refine zic ?_ | refine zid1 ?_ | refine zif1 ?_ | refine zig ?_ | refine zih ?_ | refine lint_u8_mod ?_ | refine zua ?_ | refine zgs ?_ | refine LRes.mk ?_ | refine LIn.step ?_ | refine zdr ?_ | refine zna (fun _ => ?_) | refine znb (fun _ => ?_) | refine znc (fun _ => ?_) | refine newSlice0 (fun _ => ?_)))
  refine call0 (FormedBeat_ct _ s (by omega)) ?_
  rintro v rfl
  rw [h]
  repeat ((conv => whnf); (first | refine ztx ?_ | refine LNext.nilr ?_ | refine zne ?_ | refine zga ?_ | refine zxa ?_ | refine zca ?_ | refine zcb ?_ | refine zgb ?_ | refine zgd1 ?_ | refine zge ?_ | refine zgf ?_ | refine zgj ?_ | refine zgk ?_ | refine eqStr ?_ | refine neqStr ?_ | refine eqSlNil ?_ | refine capSlice ?_ | refine zgm ?_ | refine zgn ?_ | refine zgo ?_ | refine zba ?_ | refine zbb ?_ | refine zbc ?_ | refine zbd ?_ | refine zbe ?_ | refine zbf ?_ | refine zia ?_ | refine zib ?_ | refine zic ?_ | refine zid1 ?_ | refine zif1 ?_ | refine zig ?_ | refine zih ?_ | refine lint_u8_mod ?_ | refine zua ?_ | refine zgs ?_ | refine LRes.mk ?_ | refine LIn.step ?_ | refine zdr ?_ | refine zna (fun _ => ?_) | refine znb (fun _ => ?_) | refine znc (fun _ => ?_) | refine newSlice0 (fun _ => ?_)))
  refine invVal (f := 96) (by kernel_rfl) ?_
  refine call0 (BKind_ct _ (.string s)) ?_
  rintro v rfl
  repeat ((conv => whnf); (first | refine ztx ?_ | refine LNext.nilr ?_ | refine zne ?_ | refine zga ?_ | refine zxa ?_ | refine zca ?_ | refine zcb ?_ | refine zgb ?_ | refine zgd1 ?_ | refine zge ?_ | refine zgf ?_ | refine zgj ?_ | refine zgk ?_ | refine eqStr ?_ | refine neqStr ?_ | refine eqSlNil ?_ | refine capSlice ?_ | refine zgm ?_ | refine zgn ?_ | refine zgo ?_ | refine zba ?_ | refine zbb ?_ | refine zbc ?_ | refine zbd ?_ | refine zbe ?_ | refine zbf ?_ | refine zia ?_ | refine zib ?_ | refine zic ?_ | refine zid1 ?_ | refine zif1 ?_ | refine zig ?_ | refine zih ?_ | refine lint_u8_mod ?_ | refine zua ?_ | refine zgs ?_ | refine LRes.mk ?_ | refine LIn.step ?_ | refine zdr ?_ | refine zna (fun _ => ?_) | refine znb (fun _ => ?_) | refine znc (fun _ => ?_) | refine newSlice0 (fun _ => ?_)))
  rename_i wb
  refine call1 ((WByte_ct wb [] 3 (by decide)).weaken bf_new (fun _ _ h => h)) zSp ?_
  rintro v M' ⟨rfl, rfl⟩
  rw [List.nil_append]
  repeat ((conv => whnf); (first | refine ztx ?_ | refine LNext.nilr ?_ | refine zne ?_ | refine zga ?_ | refine zxa ?_ | refine zca ?_ | refine zcb ?_ | refine zgb ?_ | refine zgd1 ?_ | refine zge ?_ | refine zgf ?_ | refine zgj ?_ | refine zgk ?_ | refine eqStr ?_ | refine neqStr ?_ | refine eqSlNil ?_ | refine capSlice ?_ | refine zgm ?_ | refine zgn ?_ | refine zgo ?_ | refine zba ?_ | refine zbb ?_ | refine zbc ?_ | refine zbd ?_ | refine zbe ?_ | refine zbf ?_ | refine zia ?_ | refine zib ?_ | refine zic ?_ | refine zid1 ?_ | refine zif1 ?_ | refine zig ?_ | refine zih ?_ | refine lint_u8_mod ?_ | refine zua ?_ | refine zgs ?_ | refine LRes.mk ?_ | refine LIn.step ?_ | refine zdr ?_ | refine zna (fun _ => ?_) | refine znb (fun _ => ?_) | refine znc (fun _ => ?_) | refine newSlice0 (fun _ => ?_)))
  repeat ((first | refine taYes ?_ | refine taNo ?_); repeat ((conv => whnf); (first | refine ztx ?_ | refine LNext.nilr ?_ | refine zne ?_ | refine zga ?_ | refine zxa ?_ | refine zca ?_ | refine zcb ?_ | refine zgb ?_ | refine zgd1 ?_ | refine zge ?_ | refine zgf ?_ | refine zgj ?_ | refine zgk ?_ | refine eqStr ?_ | refine neqStr ?_ | refine eqSlNil ?_ | refine capSlice ?_ | refine zgm ?_ | refine zgn ?_ | refine zgo ?_ | refine zba ?_ | refine zbb ?_ | refine zbc ?_ | refine zbd ?_ | refine zbe ?_ | refine zbf ?_ | refine zia ?_ | refine zib ?_ | refine zic ?_ | refine zid1 ?_ | refine zif1 ?_ | refine zig ?_ | refine zih ?_ | refine lint_u8_mod ?_ | refine zua ?_ | refine zgs ?_ | refine LRes.mk ?_ | refine LIn.step ?_ | refine zdr ?_ | refine zna (fun _ => ?_) | refine znb (fun _ => ?_) | refine znc (fun _ => ?_) | refine newSlice0 (fun _ => ?_))))
  refine call1 (wtext_ct wb [3] s [] h0 (by simp; omega) (by simp)) zSp ?_
  rintro v M' ⟨rfl, rfl⟩
  repeat ((conv => whnf); (first | refine ztx ?_ | refine LNext.nilr ?_ | refine zne ?_ | refine zga ?_ | refine zxa ?_ | refine zca ?_ | refine zcb ?_ | refine zgb ?_ | refine zgd1 ?_ | refine zge ?_ | refine zgf ?_ | refine zgj ?_ | refine zgk ?_ | refine eqStr ?_ | refine neqStr ?_ | refine eqSlNil ?_ | refine capSlice ?_ | refine zgm ?_ | refine zgn ?_ | refine zgo ?_ | refine zba ?_ | refine zbb ?_ | refine zbc ?_ | refine zbd ?_ | refine zbe ?_ | refine zbf ?_ | refine zia ?_ | refine zib ?_ | refine zic ?_ | refine zid1 ?_ | refine zif1 ?_ | refine zig ?_ | refine zih ?_ | refine lint_u8_mod ?_ | refine zua ?_ | refine zgs ?_ | refine LRes.mk ?_ | refine LIn.step ?_ | refine zdr ?_ | refine zna (fun _ => ?_) | refine znb (fun _ => ?_) | refine znc (fun _ => ?_) | refine newSlice0 (fun _ => ?_)))
  refine call1 (BBytes_ct wb (3 :: txtB s) (by simp)) zSp ?_
  rintro v M' ⟨a, cap, rfl, rfl⟩
  repeat ((conv => whnf); (first | refine ztx ?_ | refine LNext.nilr ?_ | refine zne ?_ | refine zga ?_ | refine zxa ?_ | refine zca ?_ | refine zcb ?_ | refine zgb ?_ | refine zgd1 ?_ | refine zge ?_ | refine zgf ?_ | refine zgj ?_ | refine zgk ?_ | refine eqStr ?_ | refine neqStr ?_ | refine eqSlNil ?_ | refine capSlice ?_ | refine zgm ?_ | refine zgn ?_ | refine zgo ?_ | refine zba ?_ | refine zbb ?_ | refine zbc ?_ | refine zbd ?_ | refine zbe ?_ | refine zbf ?_ | refine zia ?_ | refine zib ?_ | refine zic ?_ | refine zid1 ?_ | refine zif1 ?_ | refine zig ?_ | refine zih ?_ | refine lint_u8_mod ?_ | refine zua ?_ | refine zgs ?_ | refine LRes.mk ?_ | refine LIn.step ?_ | refine zdr ?_ | refine zna (fun _ => ?_) | refine znb (fun _ => ?_) | refine znc (fun _ => ?_) | refine newSlice0 (fun _ => ?_)))
  show Fin _ _ _; exact Fin.of [BR a (3 :: txtB s).length cap (3 :: txtB s)] zEn ⟨a, cap, rfl, rfl⟩
def strA : ByteArray := ⟨#[97]⟩
theorem nameA : nameR strA = true := by
  have h0 : nmC strA 1 = some 0 := nmC_end (by decide)
  have h1 : nmC strA 0 = some 1 := by
    rw [nmC_step (by decide), show (Utf8.decode strA 0) = (97, 1) by decide +kernel]
    rw [if_pos (by decide)]
    show Option.map _ (nmC strA 1) = _
    rw [h0]
    rfl
  unfold nameR
  rw [h1]
  decide
theorem awake_ct : Ctr Tryd.prog 10 #[] [] (fun v M' => v = .bool true ∧ M' = []) := by
  refine ctr_of (Γ := tab) (vs := []) fn10 rfl ?_
  repeat ((conv => whnf); (first | refine ztx ?_ | refine LNext.nilr ?_ | refine zne ?_ | refine zga ?_ | refine zxa ?_ | refine zca ?_ | refine zcb ?_ | refine zgb ?_ | refine zgd1 ?_ | refine zge ?_ | refine zgf ?_ | refine zgj ?_ | refine zgk ?_ | refine eqStr ?_ | refine neqStr ?_ | refine eqSlNil ?_ | refine capSlice ?_ | refine zgm ?_ | refine zgn ?_ | refine zgo ?_ | refine zba ?_ | refine zbb ?_ | refine zbc ?_ | refine zbd ?_ | refine zbe ?_ | refine zbf ?_ | refine zia ?_ | refine zib ?_ | refine zic ?_ | refine zid1 ?_ | refine zif1 ?_ | refine zig ?_ | refine zih ?_ | refine lint_u8_mod ?_ | refine zua ?_ | refine zgs ?_ | refine LRes.mk ?_ | refine LIn.step ?_ | refine zdr ?_ | refine zna (fun _ => ?_) | refine znb (fun _ => ?_) | refine znc (fun _ => ?_) | refine newSlice0 (fun _ => ?_)))
  refine mkIface ?_
  repeat ((conv => whnf); (first | refine ztx ?_ | refine LNext.nilr ?_ | refine zne ?_ | refine zga ?_ | refine zxa ?_ | refine zca ?_ | refine zcb ?_ | refine zgb ?_ | refine zgd1 ?_ | refine zge ?_ | refine zgf ?_ | refine zgj ?_ | refine zgk ?_ | refine eqStr ?_ | refine neqStr ?_ | refine eqSlNil ?_ | refine capSlice ?_ | refine zgm ?_ | refine zgn ?_ | refine zgo ?_ | refine zba ?_ | refine zbb ?_ | refine zbc ?_ | refine zbd ?_ | refine zbe ?_ | refine zbf ?_ | refine zia ?_ | refine zib ?_ | refine zic ?_ | refine zid1 ?_ | refine zif1 ?_ | refine zig ?_ | refine zih ?_ | refine lint_u8_mod ?_ | refine zua ?_ | refine zgs ?_ | refine LRes.mk ?_ | refine LIn.step ?_ | refine zdr ?_ | refine zna (fun _ => ?_) | refine znb (fun _ => ?_) | refine znc (fun _ => ?_) | refine newSlice0 (fun _ => ?_)))
  refine call1 (EncodeBeat_ct strA nameA (by decide) (by decide)) zSp ?_
  rintro v M' ⟨a, cap, rfl, rfl⟩
  have hb : (3 :: txtB strA : Bs) = [3, 1, 97] := by unfold txtB; rw [show strA.size = 1 by rfl, seven_lt (by decide)]; rfl
  rw [hb]
  repeat ((conv => whnf); (first | refine ztx ?_ | refine LNext.nilr ?_ | refine zne ?_ | refine zga ?_ | refine zxa ?_ | refine zca ?_ | refine zcb ?_ | refine zgb ?_ | refine zgd1 ?_ | refine zge ?_ | refine zgf ?_ | refine zgj ?_ | refine zgk ?_ | refine eqStr ?_ | refine neqStr ?_ | refine eqSlNil ?_ | refine capSlice ?_ | refine zgm ?_ | refine zgn ?_ | refine zgo ?_ | refine zba ?_ | refine zbb ?_ | refine zbc ?_ | refine zbd ?_ | refine zbe ?_ | refine zbf ?_ | refine zia ?_ | refine zib ?_ | refine zic ?_ | refine zid1 ?_ | refine zif1 ?_ | refine zig ?_ | refine zih ?_ | refine lint_u8_mod ?_ | refine zua ?_ | refine zgs ?_ | refine LRes.mk ?_ | refine LIn.step ?_ | refine zdr ?_ | refine zna (fun _ => ?_) | refine znb (fun _ => ?_) | refine znc (fun _ => ?_) | refine newSlice0 (fun _ => ?_)))
  refine call0 (SameBytes_ct _ a _ cap 3 [3, 1, 97] [3, 1, 97] zRd (RdH.pt (enc := encU) (fun _ => rfl) (by rfl)) (by decide) (by decide)) ?_
  rintro v rfl
  rw [show (decide (([3, 1, 97] : Bs) = [3, 1, 97])) = true by decide]
  repeat ((conv => whnf); (first | refine ztx ?_ | refine LNext.nilr ?_ | refine zne ?_ | refine zga ?_ | refine zxa ?_ | refine zca ?_ | refine zcb ?_ | refine zgb ?_ | refine zgd1 ?_ | refine zge ?_ | refine zgf ?_ | refine zgj ?_ | refine zgk ?_ | refine eqStr ?_ | refine neqStr ?_ | refine eqSlNil ?_ | refine capSlice ?_ | refine zgm ?_ | refine zgn ?_ | refine zgo ?_ | refine zba ?_ | refine zbb ?_ | refine zbc ?_ | refine zbd ?_ | refine zbe ?_ | refine zbf ?_ | refine zia ?_ | refine zib ?_ | refine zic ?_ | refine zid1 ?_ | refine zif1 ?_ | refine zig ?_ | refine zih ?_ | refine lint_u8_mod ?_ | refine zua ?_ | refine zgs ?_ | refine LRes.mk ?_ | refine LIn.step ?_ | refine zdr ?_ | refine zna (fun _ => ?_) | refine znb (fun _ => ?_) | refine znc (fun _ => ?_) | refine newSlice0 (fun _ => ?_)))
  refine mkIface ?_
  repeat ((conv => whnf); (first | refine ztx ?_ | refine LNext.nilr ?_ | refine zne ?_ | refine zga ?_ | refine zxa ?_ | refine zca ?_ | refine zcb ?_ | refine zgb ?_ | refine zgd1 ?_ | refine zge ?_ | refine zgf ?_ | refine zgj ?_ | refine zgk ?_ | refine eqStr ?_ | refine neqStr ?_ | refine eqSlNil ?_ | refine capSlice ?_ | refine zgm ?_ | refine zgn ?_ | refine zgo ?_ | refine zba ?_ | refine zbb ?_ | refine zbc ?_ | refine zbd ?_ | refine zbe ?_ | refine zbf ?_ | refine zia ?_ | refine zib ?_ | refine zic ?_ | refine zid1 ?_ | refine zif1 ?_ | refine zig ?_ | refine zih ?_ | refine lint_u8_mod ?_ | refine zua ?_ | refine zgs ?_ | refine LRes.mk ?_ | refine LIn.step ?_ | refine zdr ?_ | refine zna (fun _ => ?_) | refine znb (fun _ => ?_) | refine znc (fun _ => ?_) | refine newSlice0 (fun _ => ?_)))
  (first | refine call0 (FormedTicked_ct _) ?_ | refine ext0 (FormedTicked_ct _) ?_); rintro v rfl
  repeat ((conv => whnf); (first | refine ztx ?_ | refine LNext.nilr ?_ | refine zne ?_ | refine zga ?_ | refine zxa ?_ | refine zca ?_ | refine zcb ?_ | refine zgb ?_ | refine zgd1 ?_ | refine zge ?_ | refine zgf ?_ | refine zgj ?_ | refine zgk ?_ | refine eqStr ?_ | refine neqStr ?_ | refine eqSlNil ?_ | refine capSlice ?_ | refine zgm ?_ | refine zgn ?_ | refine zgo ?_ | refine zba ?_ | refine zbb ?_ | refine zbc ?_ | refine zbd ?_ | refine zbe ?_ | refine zbf ?_ | refine zia ?_ | refine zib ?_ | refine zic ?_ | refine zid1 ?_ | refine zif1 ?_ | refine zig ?_ | refine zih ?_ | refine lint_u8_mod ?_ | refine zua ?_ | refine zgs ?_ | refine LRes.mk ?_ | refine LIn.step ?_ | refine zdr ?_ | refine zna (fun _ => ?_) | refine znb (fun _ => ?_) | refine znc (fun _ => ?_) | refine newSlice0 (fun _ => ?_)))
  show Fin _ _ _; exact Fin.of [] zEn ⟨rfl, rfl⟩
end Go.Proofs.YtjmfnakplmmpnaaDoor

namespace Go.Proofs.YtjmfnakplmmpnaaDoor
open Go.Sl
set_option linter.unusedVariables false
set_option linter.unusedSimpArgs false
set_option maxRecDepth 100000
set_option maxHeartbeats 1000000
def encI (n : Int) : List Value := [.int .i64 n]
abbrev V4 := Int × Int × Int × Int
def encV4 (v : V4) : List Value := [.int .i64 v.1, .int .i64 v.2.1, .int .i64 v.2.2.1, .int .i64 v.2.2.2]
structure JV where
  id : Int
  tenant : ByteArray
  prio : Int
  run : Int
  par : SlV Int
  tasks : SlV V4
  state : Int
  att : Int
  nodes : SlV ByteArray
  start : Int
  don : SlV ByteArray
def encJ (j : JV) : List Value := [.int .i64 j.id, .string j.tenant, .int .i64 j.prio, .int .i64 j.run, .slice j.par.a j.par.xs.length j.par.cap, .slice j.tasks.a j.tasks.xs.length j.tasks.cap, .int .i64 j.state, .int .i64 j.att, .slice j.nodes.a j.nodes.xs.length j.nodes.cap, .int .i64 j.start, .slice j.don.a j.don.xs.length j.don.cap]
structure RdJ (M : List As) (j : JV) : Prop where
  par : RdH M j.par.a 1 encI j.par.xs
  tasks : RdH M j.tasks.a 4 encV4 j.tasks.xs
  nodes : RdH M j.nodes.a 1 encW j.nodes.xs
  don : RdH M j.don.a 1 encW j.don.xs
  lp : j.par.xs.length ≤ 9223372036854775807
  lt : j.tasks.xs.length ≤ 9223372036854775807
  ln : j.nodes.xs.length ≤ 9223372036854775807
  ld : j.don.xs.length ≤ 9223372036854775807
end Go.Proofs.YtjmfnakplmmpnaaDoor

namespace Go.Proofs.YtjmfnakplmmpnaaDoor
open Go.Sl
set_option linter.unusedVariables false
set_option linter.unusedSimpArgs false
set_option maxRecDepth 100000
set_option maxHeartbeats 1000000
structure PV where
  kind : Int
  tname : ByteArray
  weight : Int
  quota : V4
  node : ByteArray
  epoch : Int
  vec : V4
  job : JV
  id : Int
  nodes : SlV ByteArray
  state : Int
def encPl (p : PV) : List Value := [.int .i64 p.kind, .string p.tname, .int .i64 p.weight, .int .i64 p.quota.1, .int .i64 p.quota.2.1, .int .i64 p.quota.2.2.1, .int .i64 p.quota.2.2.2, .string p.node, .int .i64 p.epoch, .int .i64 p.vec.1, .int .i64 p.vec.2.1, .int .i64 p.vec.2.2.1, .int .i64 p.vec.2.2.2,
  .int .i64 p.job.id, .string p.job.tenant, .int .i64 p.job.prio, .int .i64 p.job.run, .slice p.job.par.a p.job.par.xs.length p.job.par.cap, .slice p.job.tasks.a p.job.tasks.xs.length p.job.tasks.cap, .int .i64 p.job.state, .int .i64 p.job.att, .slice p.job.nodes.a p.job.nodes.xs.length p.job.nodes.cap, .int .i64 p.job.start, .slice p.job.don.a p.job.don.xs.length p.job.don.cap,
  .int .i64 p.id, .slice p.nodes.a p.nodes.xs.length p.nodes.cap, .int .i64 p.state]
abbrev zJ : JV := ⟨0, ⟨#[]⟩, 0, 0, ⟨none, 0, []⟩, ⟨none, 0, []⟩, 0, 0, ⟨none, 0, []⟩, 0, ⟨none, 0, []⟩⟩
theorem RdJ.zero {M : List As} : RdJ M zJ := ⟨.nil, .nil, .nil, .nil, by decide, by decide, by decide, by decide⟩
theorem RdJ.there {M : List As} {y : As} {j : JV} (h : RdJ M j) : RdJ (y :: M) j := ⟨h.par.there, h.tasks.there, h.nodes.there, h.don.there, h.lp, h.lt, h.ln, h.ld⟩
end Go.Proofs.YtjmfnakplmmpnaaDoor

namespace Go.Proofs.YtjmfnakplmmpnaaDoor
open Go.Sl
set_option linter.unusedVariables false
set_option linter.unusedSimpArgs false
set_option maxRecDepth 100000
set_option maxHeartbeats 1000000
def idR (n : Int) : Bool := decide (1 ≤ n) && decide (n ≤ 100)
def v1R (n : Int) : Bool := decide (0 ≤ n) && decide (n ≤ 1099511627776)
def vecR (v : V4) : Bool := v1R v.1 && v1R v.2.1 && v1R v.2.2.1 && v1R v.2.2.2
theorem wid_ct (n : Int) : Ctr Tryd.prog 47 #[.int .i64 n] [] (fun v M' => v = .bool (idR n) ∧ M' = []) := by
  refine ctr_of (Γ := tab) (vs := [_]) fn47 rfl ?_
  unfold idR
  by_cases q1 : 1 ≤ n
  · by_cases q2 : n ≤ 100
    · repeat ((conv => whnf); (first | refine ztx ?_ | refine LNext.nilr ?_ | refine zne ?_ | refine zga ?_ | refine zxa ?_ | refine zca ?_ | refine zcb ?_ | refine zgb ?_ | refine zgd1 ?_ | refine zge ?_ | refine zgf ?_ | refine zgj ?_ | refine zgk ?_ | refine eqStr ?_ | refine neqStr ?_ | refine eqSlNil ?_ | refine capSlice ?_ | refine zgm ?_ | refine zgn ?_ | refine zgo ?_ | refine zba ?_ | refine zbb ?_ | refine zbc ?_ | refine zbd ?_ | refine zbe ?_ | refine zbf ?_ | refine zia ?_ | refine zib ?_ | refine zic ?_ | refine zid1 ?_ | refine zif1 ?_ | refine zig ?_ | refine zih ?_ | refine lint_u8_mod ?_ | refine zua ?_ | refine zgs ?_ | refine LRes.mk ?_ | refine LIn.step ?_ | refine zdr ?_ | refine zna (fun _ => ?_) | refine znb (fun _ => ?_) | refine znc (fun _ => ?_) | refine newSlice0 (fun _ => ?_)))
      show Fin _ _ _; exact Fin.of [] zEn ⟨by simp [q1, q2, tupled], rfl⟩
    · repeat ((conv => whnf); (first | refine ztx ?_ | refine LNext.nilr ?_ | refine zne ?_ | refine zga ?_ | refine zxa ?_ | refine zca ?_ | refine zcb ?_ | refine zgb ?_ | refine zgd1 ?_ | refine zge ?_ | refine zgf ?_ | refine zgj ?_ | refine zgk ?_ | refine eqStr ?_ | refine neqStr ?_ | refine eqSlNil ?_ | refine capSlice ?_ | refine zgm ?_ | refine zgn ?_ | refine zgo ?_ | refine zba ?_ | refine zbb ?_ | refine zbc ?_ | refine zbd ?_ | refine zbe ?_ | refine zbf ?_ | refine zia ?_ | refine zib ?_ | refine zic ?_ | refine zid1 ?_ | refine zif1 ?_ | refine zig ?_ | refine zih ?_ | refine lint_u8_mod ?_ | refine zua ?_ | refine zgs ?_ | refine LRes.mk ?_ | refine LIn.step ?_ | refine zdr ?_ | refine zna (fun _ => ?_) | refine znb (fun _ => ?_) | refine znc (fun _ => ?_) | refine newSlice0 (fun _ => ?_)))
      show Fin _ _ _; exact Fin.of [] zEn ⟨by simp [q1, q2, tupled], rfl⟩
  · repeat ((conv => whnf); (first | refine ztx ?_ | refine LNext.nilr ?_ | refine zne ?_ | refine zga ?_ | refine zxa ?_ | refine zca ?_ | refine zcb ?_ | refine zgb ?_ | refine zgd1 ?_ | refine zge ?_ | refine zgf ?_ | refine zgj ?_ | refine zgk ?_ | refine eqStr ?_ | refine neqStr ?_ | refine eqSlNil ?_ | refine capSlice ?_ | refine zgm ?_ | refine zgn ?_ | refine zgo ?_ | refine zba ?_ | refine zbb ?_ | refine zbc ?_ | refine zbd ?_ | refine zbe ?_ | refine zbf ?_ | refine zia ?_ | refine zib ?_ | refine zic ?_ | refine zid1 ?_ | refine zif1 ?_ | refine zig ?_ | refine zih ?_ | refine lint_u8_mod ?_ | refine zua ?_ | refine zgs ?_ | refine LRes.mk ?_ | refine LIn.step ?_ | refine zdr ?_ | refine zna (fun _ => ?_) | refine znb (fun _ => ?_) | refine znc (fun _ => ?_) | refine newSlice0 (fun _ => ?_)))
    show Fin _ _ _; exact Fin.of [] zEn ⟨by simp [q1, tupled], rfl⟩
theorem rid_ct (n : Int) : Ctr Tryd.prog 52 #[.int .i64 n] [] (fun v M' => v = .bool (idR n) ∧ M' = []) := by
  refine ctr_of (Γ := tab) (vs := [_]) fn52 rfl ?_
  unfold idR
  by_cases q1 : 1 ≤ n
  · by_cases q2 : n ≤ 100
    · repeat ((conv => whnf); (first | refine ztx ?_ | refine LNext.nilr ?_ | refine zne ?_ | refine zga ?_ | refine zxa ?_ | refine zca ?_ | refine zcb ?_ | refine zgb ?_ | refine zgd1 ?_ | refine zge ?_ | refine zgf ?_ | refine zgj ?_ | refine zgk ?_ | refine eqStr ?_ | refine neqStr ?_ | refine eqSlNil ?_ | refine capSlice ?_ | refine zgm ?_ | refine zgn ?_ | refine zgo ?_ | refine zba ?_ | refine zbb ?_ | refine zbc ?_ | refine zbd ?_ | refine zbe ?_ | refine zbf ?_ | refine zia ?_ | refine zib ?_ | refine zic ?_ | refine zid1 ?_ | refine zif1 ?_ | refine zig ?_ | refine zih ?_ | refine lint_u8_mod ?_ | refine zua ?_ | refine zgs ?_ | refine LRes.mk ?_ | refine LIn.step ?_ | refine zdr ?_ | refine zna (fun _ => ?_) | refine znb (fun _ => ?_) | refine znc (fun _ => ?_) | refine newSlice0 (fun _ => ?_)))
      show Fin _ _ _; exact Fin.of [] zEn ⟨by simp [q1, q2, tupled], rfl⟩
    · repeat ((conv => whnf); (first | refine ztx ?_ | refine LNext.nilr ?_ | refine zne ?_ | refine zga ?_ | refine zxa ?_ | refine zca ?_ | refine zcb ?_ | refine zgb ?_ | refine zgd1 ?_ | refine zge ?_ | refine zgf ?_ | refine zgj ?_ | refine zgk ?_ | refine eqStr ?_ | refine neqStr ?_ | refine eqSlNil ?_ | refine capSlice ?_ | refine zgm ?_ | refine zgn ?_ | refine zgo ?_ | refine zba ?_ | refine zbb ?_ | refine zbc ?_ | refine zbd ?_ | refine zbe ?_ | refine zbf ?_ | refine zia ?_ | refine zib ?_ | refine zic ?_ | refine zid1 ?_ | refine zif1 ?_ | refine zig ?_ | refine zih ?_ | refine lint_u8_mod ?_ | refine zua ?_ | refine zgs ?_ | refine LRes.mk ?_ | refine LIn.step ?_ | refine zdr ?_ | refine zna (fun _ => ?_) | refine znb (fun _ => ?_) | refine znc (fun _ => ?_) | refine newSlice0 (fun _ => ?_)))
      show Fin _ _ _; exact Fin.of [] zEn ⟨by simp [q1, q2, tupled], rfl⟩
  · repeat ((conv => whnf); (first | refine ztx ?_ | refine LNext.nilr ?_ | refine zne ?_ | refine zga ?_ | refine zxa ?_ | refine zca ?_ | refine zcb ?_ | refine zgb ?_ | refine zgd1 ?_ | refine zge ?_ | refine zgf ?_ | refine zgj ?_ | refine zgk ?_ | refine eqStr ?_ | refine neqStr ?_ | refine eqSlNil ?_ | refine capSlice ?_ | refine zgm ?_ | refine zgn ?_ | refine zgo ?_ | refine zba ?_ | refine zbb ?_ | refine zbc ?_ | refine zbd ?_ | refine zbe ?_ | refine zbf ?_ | refine zia ?_ | refine zib ?_ | refine zic ?_ | refine zid1 ?_ | refine zif1 ?_ | refine zig ?_ | refine zih ?_ | refine lint_u8_mod ?_ | refine zua ?_ | refine zgs ?_ | refine LRes.mk ?_ | refine LIn.step ?_ | refine zdr ?_ | refine zna (fun _ => ?_) | refine znb (fun _ => ?_) | refine znc (fun _ => ?_) | refine newSlice0 (fun _ => ?_)))
    show Fin _ _ _; exact Fin.of [] zEn ⟨by simp [q1, tupled], rfl⟩
theorem VFormed_ct (v : V4) : Ctr Tryd.prog 45 #[.agg (encV4 v).toArray] [] (fun u M' => u = .bool (vecR v) ∧ M' = []) := by
  obtain ⟨a, b, c, d⟩ := v
  have key : ∀ n : Int, (n < 0 → v1R n = false) ∧ (1099511627776 < n → v1R n = false) ∧ (¬ n < 0 → ¬ 1099511627776 < n → v1R n = true) := fun n => ⟨fun h => by simp [v1R]; omega, fun h => by simp [v1R]; omega, fun h1 h2 => by simp [v1R]; omega⟩
  refine ctr_of (Γ := tab) (vs := [_]) fn45 rfl ?_
  unfold vecR
  by_cases la : a < 0
  · repeat (first | ((conv => whnf); (first | refine ztx ?_ | refine LNext.nilr ?_ | refine zne ?_ | refine zga ?_ | refine zxa ?_ | refine zca ?_ | refine zcb ?_ | refine zgb ?_ | refine zgd1 ?_ | refine zge ?_ | refine zgf ?_ | refine zgj ?_ | refine zgk ?_ | refine eqStr ?_ | refine neqStr ?_ | refine eqSlNil ?_ | refine capSlice ?_ | refine zgm ?_ | refine zgn ?_ | refine zgo ?_ | refine zba ?_ | refine zbb ?_ | refine zbc ?_ | refine zbd ?_ | refine zbe ?_ | refine zbf ?_ | refine zia ?_ | refine zib ?_ | refine zic ?_ | refine zid1 ?_ | refine zif1 ?_ | refine zig ?_ | refine zih ?_ | refine lint_u8_mod ?_ | refine zua ?_ | refine zgs ?_ | refine LRes.mk ?_ | refine LIn.step ?_ | refine zdr ?_ | refine zna (fun _ => ?_) | refine znb (fun _ => ?_) | refine znc (fun _ => ?_) | refine newSlice0 (fun _ => ?_))) | (show LLoop _ _ _ _ _ _; refine LLoop.unroll (Γ := tab) ?_))
    show Fin _ _ _; exact Fin.of [] zEn ⟨by simp [(key a).1 la], rfl⟩
  · by_cases ma : 1099511627776 < a
    · repeat (first | ((conv => whnf); (first | refine ztx ?_ | refine LNext.nilr ?_ | refine zne ?_ | refine zga ?_ | refine zxa ?_ | refine zca ?_ | refine zcb ?_ | refine zgb ?_ | refine zgd1 ?_ | refine zge ?_ | refine zgf ?_ | refine zgj ?_ | refine zgk ?_ | refine eqStr ?_ | refine neqStr ?_ | refine eqSlNil ?_ | refine capSlice ?_ | refine zgm ?_ | refine zgn ?_ | refine zgo ?_ | refine zba ?_ | refine zbb ?_ | refine zbc ?_ | refine zbd ?_ | refine zbe ?_ | refine zbf ?_ | refine zia ?_ | refine zib ?_ | refine zic ?_ | refine zid1 ?_ | refine zif1 ?_ | refine zig ?_ | refine zih ?_ | refine lint_u8_mod ?_ | refine zua ?_ | refine zgs ?_ | refine LRes.mk ?_ | refine LIn.step ?_ | refine zdr ?_ | refine zna (fun _ => ?_) | refine znb (fun _ => ?_) | refine znc (fun _ => ?_) | refine newSlice0 (fun _ => ?_))) | (show LLoop _ _ _ _ _ _; refine LLoop.unroll (Γ := tab) ?_))
      show Fin _ _ _; exact Fin.of [] zEn ⟨by simp [(key a).2.1 ma], rfl⟩
    · by_cases lb : b < 0
      · repeat (first | ((conv => whnf); (first | refine ztx ?_ | refine LNext.nilr ?_ | refine zne ?_ | refine zga ?_ | refine zxa ?_ | refine zca ?_ | refine zcb ?_ | refine zgb ?_ | refine zgd1 ?_ | refine zge ?_ | refine zgf ?_ | refine zgj ?_ | refine zgk ?_ | refine eqStr ?_ | refine neqStr ?_ | refine eqSlNil ?_ | refine capSlice ?_ | refine zgm ?_ | refine zgn ?_ | refine zgo ?_ | refine zba ?_ | refine zbb ?_ | refine zbc ?_ | refine zbd ?_ | refine zbe ?_ | refine zbf ?_ | refine zia ?_ | refine zib ?_ | refine zic ?_ | refine zid1 ?_ | refine zif1 ?_ | refine zig ?_ | refine zih ?_ | refine lint_u8_mod ?_ | refine zua ?_ | refine zgs ?_ | refine LRes.mk ?_ | refine LIn.step ?_ | refine zdr ?_ | refine zna (fun _ => ?_) | refine znb (fun _ => ?_) | refine znc (fun _ => ?_) | refine newSlice0 (fun _ => ?_))) | (show LLoop _ _ _ _ _ _; refine LLoop.unroll (Γ := tab) ?_))
        show Fin _ _ _; exact Fin.of [] zEn ⟨by simp [(key b).1 lb, (key a).2.2 la ma], rfl⟩
      · by_cases mb : 1099511627776 < b
        · repeat (first | ((conv => whnf); (first | refine ztx ?_ | refine LNext.nilr ?_ | refine zne ?_ | refine zga ?_ | refine zxa ?_ | refine zca ?_ | refine zcb ?_ | refine zgb ?_ | refine zgd1 ?_ | refine zge ?_ | refine zgf ?_ | refine zgj ?_ | refine zgk ?_ | refine eqStr ?_ | refine neqStr ?_ | refine eqSlNil ?_ | refine capSlice ?_ | refine zgm ?_ | refine zgn ?_ | refine zgo ?_ | refine zba ?_ | refine zbb ?_ | refine zbc ?_ | refine zbd ?_ | refine zbe ?_ | refine zbf ?_ | refine zia ?_ | refine zib ?_ | refine zic ?_ | refine zid1 ?_ | refine zif1 ?_ | refine zig ?_ | refine zih ?_ | refine lint_u8_mod ?_ | refine zua ?_ | refine zgs ?_ | refine LRes.mk ?_ | refine LIn.step ?_ | refine zdr ?_ | refine zna (fun _ => ?_) | refine znb (fun _ => ?_) | refine znc (fun _ => ?_) | refine newSlice0 (fun _ => ?_))) | (show LLoop _ _ _ _ _ _; refine LLoop.unroll (Γ := tab) ?_))
          show Fin _ _ _; exact Fin.of [] zEn ⟨by simp [(key b).2.1 mb, (key a).2.2 la ma], rfl⟩
        · by_cases lc : c < 0
          · repeat (first | ((conv => whnf); (first | refine ztx ?_ | refine LNext.nilr ?_ | refine zne ?_ | refine zga ?_ | refine zxa ?_ | refine zca ?_ | refine zcb ?_ | refine zgb ?_ | refine zgd1 ?_ | refine zge ?_ | refine zgf ?_ | refine zgj ?_ | refine zgk ?_ | refine eqStr ?_ | refine neqStr ?_ | refine eqSlNil ?_ | refine capSlice ?_ | refine zgm ?_ | refine zgn ?_ | refine zgo ?_ | refine zba ?_ | refine zbb ?_ | refine zbc ?_ | refine zbd ?_ | refine zbe ?_ | refine zbf ?_ | refine zia ?_ | refine zib ?_ | refine zic ?_ | refine zid1 ?_ | refine zif1 ?_ | refine zig ?_ | refine zih ?_ | refine lint_u8_mod ?_ | refine zua ?_ | refine zgs ?_ | refine LRes.mk ?_ | refine LIn.step ?_ | refine zdr ?_ | refine zna (fun _ => ?_) | refine znb (fun _ => ?_) | refine znc (fun _ => ?_) | refine newSlice0 (fun _ => ?_))) | (show LLoop _ _ _ _ _ _; refine LLoop.unroll (Γ := tab) ?_))
            show Fin _ _ _; exact Fin.of [] zEn ⟨by simp [(key c).1 lc, (key a).2.2 la ma, (key b).2.2 lb mb], rfl⟩
          · by_cases mc : 1099511627776 < c
            · repeat (first | ((conv => whnf); (first | refine ztx ?_ | refine LNext.nilr ?_ | refine zne ?_ | refine zga ?_ | refine zxa ?_ | refine zca ?_ | refine zcb ?_ | refine zgb ?_ | refine zgd1 ?_ | refine zge ?_ | refine zgf ?_ | refine zgj ?_ | refine zgk ?_ | refine eqStr ?_ | refine neqStr ?_ | refine eqSlNil ?_ | refine capSlice ?_ | refine zgm ?_ | refine zgn ?_ | refine zgo ?_ | refine zba ?_ | refine zbb ?_ | refine zbc ?_ | refine zbd ?_ | refine zbe ?_ | refine zbf ?_ | refine zia ?_ | refine zib ?_ | refine zic ?_ | refine zid1 ?_ | refine zif1 ?_ | refine zig ?_ | refine zih ?_ | refine lint_u8_mod ?_ | refine zua ?_ | refine zgs ?_ | refine LRes.mk ?_ | refine LIn.step ?_ | refine zdr ?_ | refine zna (fun _ => ?_) | refine znb (fun _ => ?_) | refine znc (fun _ => ?_) | refine newSlice0 (fun _ => ?_))) | (show LLoop _ _ _ _ _ _; refine LLoop.unroll (Γ := tab) ?_))
              show Fin _ _ _; exact Fin.of [] zEn ⟨by simp [(key c).2.1 mc, (key a).2.2 la ma, (key b).2.2 lb mb], rfl⟩
            · by_cases ld : d < 0
              · repeat (first | ((conv => whnf); (first | refine ztx ?_ | refine LNext.nilr ?_ | refine zne ?_ | refine zga ?_ | refine zxa ?_ | refine zca ?_ | refine zcb ?_ | refine zgb ?_ | refine zgd1 ?_ | refine zge ?_ | refine zgf ?_ | refine zgj ?_ | refine zgk ?_ | refine eqStr ?_ | refine neqStr ?_ | refine eqSlNil ?_ | refine capSlice ?_ | refine zgm ?_ | refine zgn ?_ | refine zgo ?_ | refine zba ?_ | refine zbb ?_ | refine zbc ?_ | refine zbd ?_ | refine zbe ?_ | refine zbf ?_ | refine zia ?_ | refine zib ?_ | refine zic ?_ | refine zid1 ?_ | refine zif1 ?_ | refine zig ?_ | refine zih ?_ | refine lint_u8_mod ?_ | refine zua ?_ | refine zgs ?_ | refine LRes.mk ?_ | refine LIn.step ?_ | refine zdr ?_ | refine zna (fun _ => ?_) | refine znb (fun _ => ?_) | refine znc (fun _ => ?_) | refine newSlice0 (fun _ => ?_))) | (show LLoop _ _ _ _ _ _; refine LLoop.unroll (Γ := tab) ?_))
                show Fin _ _ _; exact Fin.of [] zEn ⟨by simp [(key d).1 ld, (key a).2.2 la ma, (key b).2.2 lb mb, (key c).2.2 lc mc], rfl⟩
              · by_cases md : 1099511627776 < d
                · repeat (first | ((conv => whnf); (first | refine ztx ?_ | refine LNext.nilr ?_ | refine zne ?_ | refine zga ?_ | refine zxa ?_ | refine zca ?_ | refine zcb ?_ | refine zgb ?_ | refine zgd1 ?_ | refine zge ?_ | refine zgf ?_ | refine zgj ?_ | refine zgk ?_ | refine eqStr ?_ | refine neqStr ?_ | refine eqSlNil ?_ | refine capSlice ?_ | refine zgm ?_ | refine zgn ?_ | refine zgo ?_ | refine zba ?_ | refine zbb ?_ | refine zbc ?_ | refine zbd ?_ | refine zbe ?_ | refine zbf ?_ | refine zia ?_ | refine zib ?_ | refine zic ?_ | refine zid1 ?_ | refine zif1 ?_ | refine zig ?_ | refine zih ?_ | refine lint_u8_mod ?_ | refine zua ?_ | refine zgs ?_ | refine LRes.mk ?_ | refine LIn.step ?_ | refine zdr ?_ | refine zna (fun _ => ?_) | refine znb (fun _ => ?_) | refine znc (fun _ => ?_) | refine newSlice0 (fun _ => ?_))) | (show LLoop _ _ _ _ _ _; refine LLoop.unroll (Γ := tab) ?_))
                  show Fin _ _ _; exact Fin.of [] zEn ⟨by simp [(key d).2.1 md, (key a).2.2 la ma, (key b).2.2 lb mb, (key c).2.2 lc mc], rfl⟩
                · repeat (first | ((conv => whnf); (first | refine ztx ?_ | refine LNext.nilr ?_ | refine zne ?_ | refine zga ?_ | refine zxa ?_ | refine zca ?_ | refine zcb ?_ | refine zgb ?_ | refine zgd1 ?_ | refine zge ?_ | refine zgf ?_ | refine zgj ?_ | refine zgk ?_ | refine eqStr ?_ | refine neqStr ?_ | refine eqSlNil ?_ | refine capSlice ?_ | refine zgm ?_ | refine zgn ?_ | refine zgo ?_ | refine zba ?_ | refine zbb ?_ | refine zbc ?_ | refine zbd ?_ | refine zbe ?_ | refine zbf ?_ | refine zia ?_ | refine zib ?_ | refine zic ?_ | refine zid1 ?_ | refine zif1 ?_ | refine zig ?_ | refine zih ?_ | refine lint_u8_mod ?_ | refine zua ?_ | refine zgs ?_ | refine LRes.mk ?_ | refine LIn.step ?_ | refine zdr ?_ | refine zna (fun _ => ?_) | refine znb (fun _ => ?_) | refine znc (fun _ => ?_) | refine newSlice0 (fun _ => ?_))) | (show LLoop _ _ _ _ _ _; refine LLoop.unroll (Γ := tab) ?_))
                  show Fin _ _ _; exact Fin.of [] zEn ⟨by simp [(key a).2.2 la ma, (key b).2.2 lb mb, (key c).2.2 lc mc, (key d).2.2 ld md], rfl⟩
theorem rVFormed_ct (v : V4) : Ctr Tryd.prog 50 #[.agg (encV4 v).toArray] [] (fun u M' => u = .bool (vecR v) ∧ M' = []) := by
  obtain ⟨a, b, c, d⟩ := v
  have key : ∀ n : Int, (n < 0 → v1R n = false) ∧ (1099511627776 < n → v1R n = false) ∧ (¬ n < 0 → ¬ 1099511627776 < n → v1R n = true) := fun n => ⟨fun h => by simp [v1R]; omega, fun h => by simp [v1R]; omega, fun h1 h2 => by simp [v1R]; omega⟩
  refine ctr_of (Γ := tab) (vs := [_]) fn50 rfl ?_
  unfold vecR
  by_cases la : a < 0
  · repeat (first | ((conv => whnf); (first | refine ztx ?_ | refine LNext.nilr ?_ | refine zne ?_ | refine zga ?_ | refine zxa ?_ | refine zca ?_ | refine zcb ?_ | refine zgb ?_ | refine zgd1 ?_ | refine zge ?_ | refine zgf ?_ | refine zgj ?_ | refine zgk ?_ | refine eqStr ?_ | refine neqStr ?_ | refine eqSlNil ?_ | refine capSlice ?_ | refine zgm ?_ | refine zgn ?_ | refine zgo ?_ | refine zba ?_ | refine zbb ?_ | refine zbc ?_ | refine zbd ?_ | refine zbe ?_ | refine zbf ?_ | refine zia ?_ | refine zib ?_ | refine zic ?_ | refine zid1 ?_ | refine zif1 ?_ | refine zig ?_ | refine zih ?_ | refine lint_u8_mod ?_ | refine zua ?_ | refine zgs ?_ | refine LRes.mk ?_ | refine LIn.step ?_ | refine zdr ?_ | refine zna (fun _ => ?_) | refine znb (fun _ => ?_) | refine znc (fun _ => ?_) | refine newSlice0 (fun _ => ?_))) | (show LLoop _ _ _ _ _ _; refine LLoop.unroll (Γ := tab) ?_))
    show Fin _ _ _; exact Fin.of [] zEn ⟨by simp [(key a).1 la], rfl⟩
  · by_cases ma : 1099511627776 < a
    · repeat (first | ((conv => whnf); (first | refine ztx ?_ | refine LNext.nilr ?_ | refine zne ?_ | refine zga ?_ | refine zxa ?_ | refine zca ?_ | refine zcb ?_ | refine zgb ?_ | refine zgd1 ?_ | refine zge ?_ | refine zgf ?_ | refine zgj ?_ | refine zgk ?_ | refine eqStr ?_ | refine neqStr ?_ | refine eqSlNil ?_ | refine capSlice ?_ | refine zgm ?_ | refine zgn ?_ | refine zgo ?_ | refine zba ?_ | refine zbb ?_ | refine zbc ?_ | refine zbd ?_ | refine zbe ?_ | refine zbf ?_ | refine zia ?_ | refine zib ?_ | refine zic ?_ | refine zid1 ?_ | refine zif1 ?_ | refine zig ?_ | refine zih ?_ | refine lint_u8_mod ?_ | refine zua ?_ | refine zgs ?_ | refine LRes.mk ?_ | refine LIn.step ?_ | refine zdr ?_ | refine zna (fun _ => ?_) | refine znb (fun _ => ?_) | refine znc (fun _ => ?_) | refine newSlice0 (fun _ => ?_))) | (show LLoop _ _ _ _ _ _; refine LLoop.unroll (Γ := tab) ?_))
      show Fin _ _ _; exact Fin.of [] zEn ⟨by simp [(key a).2.1 ma], rfl⟩
    · by_cases lb : b < 0
      · repeat (first | ((conv => whnf); (first | refine ztx ?_ | refine LNext.nilr ?_ | refine zne ?_ | refine zga ?_ | refine zxa ?_ | refine zca ?_ | refine zcb ?_ | refine zgb ?_ | refine zgd1 ?_ | refine zge ?_ | refine zgf ?_ | refine zgj ?_ | refine zgk ?_ | refine eqStr ?_ | refine neqStr ?_ | refine eqSlNil ?_ | refine capSlice ?_ | refine zgm ?_ | refine zgn ?_ | refine zgo ?_ | refine zba ?_ | refine zbb ?_ | refine zbc ?_ | refine zbd ?_ | refine zbe ?_ | refine zbf ?_ | refine zia ?_ | refine zib ?_ | refine zic ?_ | refine zid1 ?_ | refine zif1 ?_ | refine zig ?_ | refine zih ?_ | refine lint_u8_mod ?_ | refine zua ?_ | refine zgs ?_ | refine LRes.mk ?_ | refine LIn.step ?_ | refine zdr ?_ | refine zna (fun _ => ?_) | refine znb (fun _ => ?_) | refine znc (fun _ => ?_) | refine newSlice0 (fun _ => ?_))) | (show LLoop _ _ _ _ _ _; refine LLoop.unroll (Γ := tab) ?_))
        show Fin _ _ _; exact Fin.of [] zEn ⟨by simp [(key b).1 lb, (key a).2.2 la ma], rfl⟩
      · by_cases mb : 1099511627776 < b
        · repeat (first | ((conv => whnf); (first | refine ztx ?_ | refine LNext.nilr ?_ | refine zne ?_ | refine zga ?_ | refine zxa ?_ | refine zca ?_ | refine zcb ?_ | refine zgb ?_ | refine zgd1 ?_ | refine zge ?_ | refine zgf ?_ | refine zgj ?_ | refine zgk ?_ | refine eqStr ?_ | refine neqStr ?_ | refine eqSlNil ?_ | refine capSlice ?_ | refine zgm ?_ | refine zgn ?_ | refine zgo ?_ | refine zba ?_ | refine zbb ?_ | refine zbc ?_ | refine zbd ?_ | refine zbe ?_ | refine zbf ?_ | refine zia ?_ | refine zib ?_ | refine zic ?_ | refine zid1 ?_ | refine zif1 ?_ | refine zig ?_ | refine zih ?_ | refine lint_u8_mod ?_ | refine zua ?_ | refine zgs ?_ | refine LRes.mk ?_ | refine LIn.step ?_ | refine zdr ?_ | refine zna (fun _ => ?_) | refine znb (fun _ => ?_) | refine znc (fun _ => ?_) | refine newSlice0 (fun _ => ?_))) | (show LLoop _ _ _ _ _ _; refine LLoop.unroll (Γ := tab) ?_))
          show Fin _ _ _; exact Fin.of [] zEn ⟨by simp [(key b).2.1 mb, (key a).2.2 la ma], rfl⟩
        · by_cases lc : c < 0
          · repeat (first | ((conv => whnf); (first | refine ztx ?_ | refine LNext.nilr ?_ | refine zne ?_ | refine zga ?_ | refine zxa ?_ | refine zca ?_ | refine zcb ?_ | refine zgb ?_ | refine zgd1 ?_ | refine zge ?_ | refine zgf ?_ | refine zgj ?_ | refine zgk ?_ | refine eqStr ?_ | refine neqStr ?_ | refine eqSlNil ?_ | refine capSlice ?_ | refine zgm ?_ | refine zgn ?_ | refine zgo ?_ | refine zba ?_ | refine zbb ?_ | refine zbc ?_ | refine zbd ?_ | refine zbe ?_ | refine zbf ?_ | refine zia ?_ | refine zib ?_ | refine zic ?_ | refine zid1 ?_ | refine zif1 ?_ | refine zig ?_ | refine zih ?_ | refine lint_u8_mod ?_ | refine zua ?_ | refine zgs ?_ | refine LRes.mk ?_ | refine LIn.step ?_ | refine zdr ?_ | refine zna (fun _ => ?_) | refine znb (fun _ => ?_) | refine znc (fun _ => ?_) | refine newSlice0 (fun _ => ?_))) | (show LLoop _ _ _ _ _ _; refine LLoop.unroll (Γ := tab) ?_))
            show Fin _ _ _; exact Fin.of [] zEn ⟨by simp [(key c).1 lc, (key a).2.2 la ma, (key b).2.2 lb mb], rfl⟩
          · by_cases mc : 1099511627776 < c
            · repeat (first | ((conv => whnf); (first | refine ztx ?_ | refine LNext.nilr ?_ | refine zne ?_ | refine zga ?_ | refine zxa ?_ | refine zca ?_ | refine zcb ?_ | refine zgb ?_ | refine zgd1 ?_ | refine zge ?_ | refine zgf ?_ | refine zgj ?_ | refine zgk ?_ | refine eqStr ?_ | refine neqStr ?_ | refine eqSlNil ?_ | refine capSlice ?_ | refine zgm ?_ | refine zgn ?_ | refine zgo ?_ | refine zba ?_ | refine zbb ?_ | refine zbc ?_ | refine zbd ?_ | refine zbe ?_ | refine zbf ?_ | refine zia ?_ | refine zib ?_ | refine zic ?_ | refine zid1 ?_ | refine zif1 ?_ | refine zig ?_ | refine zih ?_ | refine lint_u8_mod ?_ | refine zua ?_ | refine zgs ?_ | refine LRes.mk ?_ | refine LIn.step ?_ | refine zdr ?_ | refine zna (fun _ => ?_) | refine znb (fun _ => ?_) | refine znc (fun _ => ?_) | refine newSlice0 (fun _ => ?_))) | (show LLoop _ _ _ _ _ _; refine LLoop.unroll (Γ := tab) ?_))
              show Fin _ _ _; exact Fin.of [] zEn ⟨by simp [(key c).2.1 mc, (key a).2.2 la ma, (key b).2.2 lb mb], rfl⟩
            · by_cases ld : d < 0
              · repeat (first | ((conv => whnf); (first | refine ztx ?_ | refine LNext.nilr ?_ | refine zne ?_ | refine zga ?_ | refine zxa ?_ | refine zca ?_ | refine zcb ?_ | refine zgb ?_ | refine zgd1 ?_ | refine zge ?_ | refine zgf ?_ | refine zgj ?_ | refine zgk ?_ | refine eqStr ?_ | refine neqStr ?_ | refine eqSlNil ?_ | refine capSlice ?_ | refine zgm ?_ | refine zgn ?_ | refine zgo ?_ | refine zba ?_ | refine zbb ?_ | refine zbc ?_ | refine zbd ?_ | refine zbe ?_ | refine zbf ?_ | refine zia ?_ | refine zib ?_ | refine zic ?_ | refine zid1 ?_ | refine zif1 ?_ | refine zig ?_ | refine zih ?_ | refine lint_u8_mod ?_ | refine zua ?_ | refine zgs ?_ | refine LRes.mk ?_ | refine LIn.step ?_ | refine zdr ?_ | refine zna (fun _ => ?_) | refine znb (fun _ => ?_) | refine znc (fun _ => ?_) | refine newSlice0 (fun _ => ?_))) | (show LLoop _ _ _ _ _ _; refine LLoop.unroll (Γ := tab) ?_))
                show Fin _ _ _; exact Fin.of [] zEn ⟨by simp [(key d).1 ld, (key a).2.2 la ma, (key b).2.2 lb mb, (key c).2.2 lc mc], rfl⟩
              · by_cases md : 1099511627776 < d
                · repeat (first | ((conv => whnf); (first | refine ztx ?_ | refine LNext.nilr ?_ | refine zne ?_ | refine zga ?_ | refine zxa ?_ | refine zca ?_ | refine zcb ?_ | refine zgb ?_ | refine zgd1 ?_ | refine zge ?_ | refine zgf ?_ | refine zgj ?_ | refine zgk ?_ | refine eqStr ?_ | refine neqStr ?_ | refine eqSlNil ?_ | refine capSlice ?_ | refine zgm ?_ | refine zgn ?_ | refine zgo ?_ | refine zba ?_ | refine zbb ?_ | refine zbc ?_ | refine zbd ?_ | refine zbe ?_ | refine zbf ?_ | refine zia ?_ | refine zib ?_ | refine zic ?_ | refine zid1 ?_ | refine zif1 ?_ | refine zig ?_ | refine zih ?_ | refine lint_u8_mod ?_ | refine zua ?_ | refine zgs ?_ | refine LRes.mk ?_ | refine LIn.step ?_ | refine zdr ?_ | refine zna (fun _ => ?_) | refine znb (fun _ => ?_) | refine znc (fun _ => ?_) | refine newSlice0 (fun _ => ?_))) | (show LLoop _ _ _ _ _ _; refine LLoop.unroll (Γ := tab) ?_))
                  show Fin _ _ _; exact Fin.of [] zEn ⟨by simp [(key d).2.1 md, (key a).2.2 la ma, (key b).2.2 lb mb, (key c).2.2 lc mc], rfl⟩
                · repeat (first | ((conv => whnf); (first | refine ztx ?_ | refine LNext.nilr ?_ | refine zne ?_ | refine zga ?_ | refine zxa ?_ | refine zca ?_ | refine zcb ?_ | refine zgb ?_ | refine zgd1 ?_ | refine zge ?_ | refine zgf ?_ | refine zgj ?_ | refine zgk ?_ | refine eqStr ?_ | refine neqStr ?_ | refine eqSlNil ?_ | refine capSlice ?_ | refine zgm ?_ | refine zgn ?_ | refine zgo ?_ | refine zba ?_ | refine zbb ?_ | refine zbc ?_ | refine zbd ?_ | refine zbe ?_ | refine zbf ?_ | refine zia ?_ | refine zib ?_ | refine zic ?_ | refine zid1 ?_ | refine zif1 ?_ | refine zig ?_ | refine zih ?_ | refine lint_u8_mod ?_ | refine zua ?_ | refine zgs ?_ | refine LRes.mk ?_ | refine LIn.step ?_ | refine zdr ?_ | refine zna (fun _ => ?_) | refine znb (fun _ => ?_) | refine znc (fun _ => ?_) | refine newSlice0 (fun _ => ?_))) | (show LLoop _ _ _ _ _ _; refine LLoop.unroll (Γ := tab) ?_))
                  show Fin _ _ _; exact Fin.of [] zEn ⟨by simp [(key a).2.2 la ma, (key b).2.2 lb mb, (key c).2.2 lc mc, (key d).2.2 ld md], rfl⟩
end Go.Proofs.YtjmfnakplmmpnaaDoor

namespace Go.Proofs.YtjmfnakplmmpnaaDoor
open Go.Sl
set_option linter.unusedVariables false
set_option linter.unusedSimpArgs false
set_option maxRecDepth 100000
set_option maxHeartbeats 1000000
def par1R (id : Int) (l : List Int) (i : Nat) : Bool := idR (gd l i) && !decide (gd l i = id) && (decide (i = 0) || decide (gd l (i - 1) < gd l i))
def parR (id : Int) (l : List Int) : Bool := (List.range l.length).all (par1R id l)
def jobR (j : JV) : Bool := idR j.id && nameR j.tenant && decide (0 ≤ j.prio) && decide (j.prio ≤ 100) && decide (1 ≤ j.run) && decide (j.run ≤ 1000) && decide (j.par.xs.length ≤ 4) && decide (1 ≤ j.tasks.xs.length) && decide (j.tasks.xs.length ≤ 6) && parR j.id j.par.xs && j.tasks.xs.all vecR && decide (j.state = 0) && decide (j.att = 0) && decide (j.start = 0) && decide (j.nodes.xs.length + j.don.xs.length = 0)
theorem par_bad {id : Int} {l : List Int} {i : Nat} (h : i < l.length) (hb : par1R id l i = false) : parR id l = false := by
  unfold parR
  rw [List.all_eq_false]
  exact ⟨i, List.mem_range.2 h, by rw [hb]; simp⟩
theorem par_good {id : Int} {l : List Int} (h : ∀ i, i < l.length → par1R id l i = true) : parR id l = true := by
  unfold parR
  rw [List.all_eq_true]
  exact fun i hi => h i (List.mem_range.1 hi)
theorem wjob_ct (M : List As) (j : JV) (h : RdJ M j) (hs : j.tenant.size ≤ 9223372036854775806) : Ctr Tryd.prog 46 #[.agg (encJ j).toArray] M (fun v M' => v = .bool (jobR j) ∧ M' = M) := by
  obtain ⟨id, tenant, prio, run, ⟨pa, pcap, pxs⟩, ⟨ta, tcap, txs⟩, state, att, ⟨na, ncap, nxs⟩, start, ⟨da, dcap, dxs⟩⟩ := j
  obtain ⟨hp, ht, hn, hd, lp, lt, ln, ld⟩ := h
  dsimp only at hp ht hn hd lp lt ln ld hs
  dsimp only [encJ]
  refine ctr_of (Γ := tab) (vs := [_]) fn46 rfl ?_
  repeat ((conv => whnf); (first | refine ztx ?_ | refine LNext.nilr ?_ | refine zne ?_ | refine zga ?_ | refine zxa ?_ | refine zca ?_ | refine zcb ?_ | refine zgb ?_ | refine zgd1 ?_ | refine zge ?_ | refine zgf ?_ | refine zgj ?_ | refine zgk ?_ | refine eqStr ?_ | refine neqStr ?_ | refine eqSlNil ?_ | refine capSlice ?_ | refine zgm ?_ | refine zgn ?_ | refine zgo ?_ | refine zba ?_ | refine zbb ?_ | refine zbc ?_ | refine zbd ?_ | refine zbe ?_ | refine zbf ?_ | refine zia ?_ | refine zib ?_ | refine zic ?_ | refine zid1 ?_ | refine zif1 ?_ | refine zig ?_ | refine zih ?_ | refine lint_u8_mod ?_ | refine zua ?_ | refine zgs ?_ | refine LRes.mk ?_ | refine LIn.step ?_ | refine zdr ?_ | refine zna (fun _ => ?_) | refine znb (fun _ => ?_) | refine znc (fun _ => ?_) | refine newSlice0 (fun _ => ?_)))
  rename_i B
  (first | refine call2 (wid_ct id) zSq ?_ | refine ext2 (wid_ct id) zSq ?_)
  rintro v rfl
  cases q1 : idR id with
  | false =>
    repeat ((conv => whnf); (first | refine ztx ?_ | refine LNext.nilr ?_ | refine zne ?_ | refine zga ?_ | refine zxa ?_ | refine zca ?_ | refine zcb ?_ | refine zgb ?_ | refine zgd1 ?_ | refine zge ?_ | refine zgf ?_ | refine zgj ?_ | refine zgk ?_ | refine eqStr ?_ | refine neqStr ?_ | refine eqSlNil ?_ | refine capSlice ?_ | refine zgm ?_ | refine zgn ?_ | refine zgo ?_ | refine zba ?_ | refine zbb ?_ | refine zbc ?_ | refine zbd ?_ | refine zbe ?_ | refine zbf ?_ | refine zia ?_ | refine zib ?_ | refine zic ?_ | refine zid1 ?_ | refine zif1 ?_ | refine zig ?_ | refine zih ?_ | refine lint_u8_mod ?_ | refine zua ?_ | refine zgs ?_ | refine LRes.mk ?_ | refine LIn.step ?_ | refine zdr ?_ | refine zna (fun _ => ?_) | refine znb (fun _ => ?_) | refine znc (fun _ => ?_) | refine newSlice0 (fun _ => ?_)))
    show Fin _ _ _; exact Fin.of M zEn ⟨by simp [jobR, q1], rfl⟩
  | true =>
  repeat ((conv => whnf); (first | refine ztx ?_ | refine LNext.nilr ?_ | refine zne ?_ | refine zga ?_ | refine zxa ?_ | refine zca ?_ | refine zcb ?_ | refine zgb ?_ | refine zgd1 ?_ | refine zge ?_ | refine zgf ?_ | refine zgj ?_ | refine zgk ?_ | refine eqStr ?_ | refine neqStr ?_ | refine eqSlNil ?_ | refine capSlice ?_ | refine zgm ?_ | refine zgn ?_ | refine zgo ?_ | refine zba ?_ | refine zbb ?_ | refine zbc ?_ | refine zbd ?_ | refine zbe ?_ | refine zbf ?_ | refine zia ?_ | refine zib ?_ | refine zic ?_ | refine zid1 ?_ | refine zif1 ?_ | refine zig ?_ | refine zih ?_ | refine lint_u8_mod ?_ | refine zua ?_ | refine zgs ?_ | refine LRes.mk ?_ | refine LIn.step ?_ | refine zdr ?_ | refine zna (fun _ => ?_) | refine znb (fun _ => ?_) | refine znc (fun _ => ?_) | refine newSlice0 (fun _ => ?_)))
  (first | refine call2 (Name_ct tenant hs) zSq ?_ | refine ext2 (Name_ct tenant hs) zSq ?_)
  rintro v rfl
  cases q2 : nameR tenant with
  | false =>
    repeat ((conv => whnf); (first | refine ztx ?_ | refine LNext.nilr ?_ | refine zne ?_ | refine zga ?_ | refine zxa ?_ | refine zca ?_ | refine zcb ?_ | refine zgb ?_ | refine zgd1 ?_ | refine zge ?_ | refine zgf ?_ | refine zgj ?_ | refine zgk ?_ | refine eqStr ?_ | refine neqStr ?_ | refine eqSlNil ?_ | refine capSlice ?_ | refine zgm ?_ | refine zgn ?_ | refine zgo ?_ | refine zba ?_ | refine zbb ?_ | refine zbc ?_ | refine zbd ?_ | refine zbe ?_ | refine zbf ?_ | refine zia ?_ | refine zib ?_ | refine zic ?_ | refine zid1 ?_ | refine zif1 ?_ | refine zig ?_ | refine zih ?_ | refine lint_u8_mod ?_ | refine zua ?_ | refine zgs ?_ | refine LRes.mk ?_ | refine LIn.step ?_ | refine zdr ?_ | refine zna (fun _ => ?_) | refine znb (fun _ => ?_) | refine znc (fun _ => ?_) | refine newSlice0 (fun _ => ?_)))
    show Fin _ _ _; exact Fin.of M zEn ⟨by simp [jobR, q2], rfl⟩
  | true =>
  by_cases q3 : prio < 0
  · repeat ((conv => whnf); (first | refine ztx ?_ | refine LNext.nilr ?_ | refine zne ?_ | refine zga ?_ | refine zxa ?_ | refine zca ?_ | refine zcb ?_ | refine zgb ?_ | refine zgd1 ?_ | refine zge ?_ | refine zgf ?_ | refine zgj ?_ | refine zgk ?_ | refine eqStr ?_ | refine neqStr ?_ | refine eqSlNil ?_ | refine capSlice ?_ | refine zgm ?_ | refine zgn ?_ | refine zgo ?_ | refine zba ?_ | refine zbb ?_ | refine zbc ?_ | refine zbd ?_ | refine zbe ?_ | refine zbf ?_ | refine zia ?_ | refine zib ?_ | refine zic ?_ | refine zid1 ?_ | refine zif1 ?_ | refine zig ?_ | refine zih ?_ | refine lint_u8_mod ?_ | refine zua ?_ | refine zgs ?_ | refine LRes.mk ?_ | refine LIn.step ?_ | refine zdr ?_ | refine zna (fun _ => ?_) | refine znb (fun _ => ?_) | refine znc (fun _ => ?_) | refine newSlice0 (fun _ => ?_)))
    show Fin _ _ _; exact Fin.of M zEn ⟨by simp [jobR, show ¬ 0 ≤ prio by omega], rfl⟩
  by_cases q4 : 100 < prio
  · repeat ((conv => whnf); (first | refine ztx ?_ | refine LNext.nilr ?_ | refine zne ?_ | refine zga ?_ | refine zxa ?_ | refine zca ?_ | refine zcb ?_ | refine zgb ?_ | refine zgd1 ?_ | refine zge ?_ | refine zgf ?_ | refine zgj ?_ | refine zgk ?_ | refine eqStr ?_ | refine neqStr ?_ | refine eqSlNil ?_ | refine capSlice ?_ | refine zgm ?_ | refine zgn ?_ | refine zgo ?_ | refine zba ?_ | refine zbb ?_ | refine zbc ?_ | refine zbd ?_ | refine zbe ?_ | refine zbf ?_ | refine zia ?_ | refine zib ?_ | refine zic ?_ | refine zid1 ?_ | refine zif1 ?_ | refine zig ?_ | refine zih ?_ | refine lint_u8_mod ?_ | refine zua ?_ | refine zgs ?_ | refine LRes.mk ?_ | refine LIn.step ?_ | refine zdr ?_ | refine zna (fun _ => ?_) | refine znb (fun _ => ?_) | refine znc (fun _ => ?_) | refine newSlice0 (fun _ => ?_)))
    show Fin _ _ _; exact Fin.of M zEn ⟨by simp [jobR, show ¬ prio ≤ 100 by omega], rfl⟩
  by_cases q5 : run < 1
  · repeat ((conv => whnf); (first | refine ztx ?_ | refine LNext.nilr ?_ | refine zne ?_ | refine zga ?_ | refine zxa ?_ | refine zca ?_ | refine zcb ?_ | refine zgb ?_ | refine zgd1 ?_ | refine zge ?_ | refine zgf ?_ | refine zgj ?_ | refine zgk ?_ | refine eqStr ?_ | refine neqStr ?_ | refine eqSlNil ?_ | refine capSlice ?_ | refine zgm ?_ | refine zgn ?_ | refine zgo ?_ | refine zba ?_ | refine zbb ?_ | refine zbc ?_ | refine zbd ?_ | refine zbe ?_ | refine zbf ?_ | refine zia ?_ | refine zib ?_ | refine zic ?_ | refine zid1 ?_ | refine zif1 ?_ | refine zig ?_ | refine zih ?_ | refine lint_u8_mod ?_ | refine zua ?_ | refine zgs ?_ | refine LRes.mk ?_ | refine LIn.step ?_ | refine zdr ?_ | refine zna (fun _ => ?_) | refine znb (fun _ => ?_) | refine znc (fun _ => ?_) | refine newSlice0 (fun _ => ?_)))
    show Fin _ _ _; exact Fin.of M zEn ⟨by simp [jobR, show ¬ 1 ≤ run by omega], rfl⟩
  by_cases q6 : 1000 < run
  · repeat ((conv => whnf); (first | refine ztx ?_ | refine LNext.nilr ?_ | refine zne ?_ | refine zga ?_ | refine zxa ?_ | refine zca ?_ | refine zcb ?_ | refine zgb ?_ | refine zgd1 ?_ | refine zge ?_ | refine zgf ?_ | refine zgj ?_ | refine zgk ?_ | refine eqStr ?_ | refine neqStr ?_ | refine eqSlNil ?_ | refine capSlice ?_ | refine zgm ?_ | refine zgn ?_ | refine zgo ?_ | refine zba ?_ | refine zbb ?_ | refine zbc ?_ | refine zbd ?_ | refine zbe ?_ | refine zbf ?_ | refine zia ?_ | refine zib ?_ | refine zic ?_ | refine zid1 ?_ | refine zif1 ?_ | refine zig ?_ | refine zih ?_ | refine lint_u8_mod ?_ | refine zua ?_ | refine zgs ?_ | refine LRes.mk ?_ | refine LIn.step ?_ | refine zdr ?_ | refine zna (fun _ => ?_) | refine znb (fun _ => ?_) | refine znc (fun _ => ?_) | refine newSlice0 (fun _ => ?_)))
    show Fin _ _ _; exact Fin.of M zEn ⟨by simp [jobR, show ¬ run ≤ 1000 by omega], rfl⟩
  by_cases q7 : 4 < pxs.length
  · repeat ((conv => whnf); (first | refine ztx ?_ | refine LNext.nilr ?_ | refine zne ?_ | refine zga ?_ | refine zxa ?_ | refine zca ?_ | refine zcb ?_ | refine zgb ?_ | refine zgd1 ?_ | refine zge ?_ | refine zgf ?_ | refine zgj ?_ | refine zgk ?_ | refine eqStr ?_ | refine neqStr ?_ | refine eqSlNil ?_ | refine capSlice ?_ | refine zgm ?_ | refine zgn ?_ | refine zgo ?_ | refine zba ?_ | refine zbb ?_ | refine zbc ?_ | refine zbd ?_ | refine zbe ?_ | refine zbf ?_ | refine zia ?_ | refine zib ?_ | refine zic ?_ | refine zid1 ?_ | refine zif1 ?_ | refine zig ?_ | refine zih ?_ | refine lint_u8_mod ?_ | refine zua ?_ | refine zgs ?_ | refine LRes.mk ?_ | refine LIn.step ?_ | refine zdr ?_ | refine zna (fun _ => ?_) | refine znb (fun _ => ?_) | refine znc (fun _ => ?_) | refine newSlice0 (fun _ => ?_)))
    show Fin _ _ _; exact Fin.of M zEn ⟨by simp [jobR, show ¬ pxs.length ≤ 4 by omega], rfl⟩
  by_cases q8 : txs.length < 1
  · repeat ((conv => whnf); (first | refine ztx ?_ | refine LNext.nilr ?_ | refine zne ?_ | refine zga ?_ | refine zxa ?_ | refine zca ?_ | refine zcb ?_ | refine zgb ?_ | refine zgd1 ?_ | refine zge ?_ | refine zgf ?_ | refine zgj ?_ | refine zgk ?_ | refine eqStr ?_ | refine neqStr ?_ | refine eqSlNil ?_ | refine capSlice ?_ | refine zgm ?_ | refine zgn ?_ | refine zgo ?_ | refine zba ?_ | refine zbb ?_ | refine zbc ?_ | refine zbd ?_ | refine zbe ?_ | refine zbf ?_ | refine zia ?_ | refine zib ?_ | refine zic ?_ | refine zid1 ?_ | refine zif1 ?_ | refine zig ?_ | refine zih ?_ | refine lint_u8_mod ?_ | refine zua ?_ | refine zgs ?_ | refine LRes.mk ?_ | refine LIn.step ?_ | refine zdr ?_ | refine zna (fun _ => ?_) | refine znb (fun _ => ?_) | refine znc (fun _ => ?_) | refine newSlice0 (fun _ => ?_)))
    show Fin _ _ _; exact Fin.of M zEn ⟨by simp [jobR, show ¬ 1 ≤ txs.length by omega], rfl⟩
  by_cases q9 : 6 < txs.length
  · repeat ((conv => whnf); (first | refine ztx ?_ | refine LNext.nilr ?_ | refine zne ?_ | refine zga ?_ | refine zxa ?_ | refine zca ?_ | refine zcb ?_ | refine zgb ?_ | refine zgd1 ?_ | refine zge ?_ | refine zgf ?_ | refine zgj ?_ | refine zgk ?_ | refine eqStr ?_ | refine neqStr ?_ | refine eqSlNil ?_ | refine capSlice ?_ | refine zgm ?_ | refine zgn ?_ | refine zgo ?_ | refine zba ?_ | refine zbb ?_ | refine zbc ?_ | refine zbd ?_ | refine zbe ?_ | refine zbf ?_ | refine zia ?_ | refine zib ?_ | refine zic ?_ | refine zid1 ?_ | refine zif1 ?_ | refine zig ?_ | refine zih ?_ | refine lint_u8_mod ?_ | refine zua ?_ | refine zgs ?_ | refine LRes.mk ?_ | refine LIn.step ?_ | refine zdr ?_ | refine zna (fun _ => ?_) | refine znb (fun _ => ?_) | refine znc (fun _ => ?_) | refine newSlice0 (fun _ => ?_)))
    show Fin _ _ _; exact Fin.of M zEn ⟨by simp [jobR, show ¬ txs.length ≤ 6 by omega], rfl⟩
  repeat ((conv => whnf); (first | refine ztx ?_ | refine LNext.nilr ?_ | refine zne ?_ | refine zga ?_ | refine zxa ?_ | refine zca ?_ | refine zcb ?_ | refine zgb ?_ | refine zgd1 ?_ | refine zge ?_ | refine zgf ?_ | refine zgj ?_ | refine zgk ?_ | refine eqStr ?_ | refine neqStr ?_ | refine eqSlNil ?_ | refine capSlice ?_ | refine zgm ?_ | refine zgn ?_ | refine zgo ?_ | refine zba ?_ | refine zbb ?_ | refine zbc ?_ | refine zbd ?_ | refine zbe ?_ | refine zbf ?_ | refine zia ?_ | refine zib ?_ | refine zic ?_ | refine zid1 ?_ | refine zif1 ?_ | refine zig ?_ | refine zih ?_ | refine lint_u8_mod ?_ | refine zua ?_ | refine zgs ?_ | refine LRes.mk ?_ | refine LIn.step ?_ | refine zdr ?_ | refine zna (fun _ => ?_) | refine znb (fun _ => ?_) | refine znc (fun _ => ?_) | refine newSlice0 (fun _ => ?_)))
  refine LLoop.invN (fun i : Nat => [(1, .pointer (some ⟨B, 0, none⟩)), (54, .slice pa pxs.length pcap), (55, .int .i64 pxs.length), (56, .int .i64 i)]) (fun _ => pt B (.cells #[.int .i64 id, .string tenant, .int .i64 prio, .int .i64 run, .slice pa pxs.length pcap, .slice ta txs.length tcap, .int .i64 state, .int .i64 att, .slice na nxs.length ncap, .int .i64 start, .slice da dxs.length dcap] 30) :: M) (fun i => i ≤ pxs.length ∧ ∀ k, k < i → par1R id pxs k = true) (fun i => pxs.length - i) 0 ⟨Nat.zero_le _, fun k hk => absurd hk (Nat.not_lt_zero _)⟩ zSu zEn ?_
  rintro i ⟨hi, hg⟩
  by_cases h1 : i < pxs.length
  · refine LNext.rd (a := pa) (xs := pxs) (sz := 1) (enc := encI) hp.there (fun rx => ?_)
    obtain ⟨g, o, rfl, lz⟩ := rx.get h1
    have hrx := hp.there (y := pt B (.cells #[.int .i64 id, .string tenant, .int .i64 prio, .int .i64 run, .slice (some ⟨g, o, none⟩) pxs.length pcap, .slice ta txs.length tcap, .int .i64 state, .int .i64 att, .slice na nxs.length ncap, .int .i64 start, .slice da dxs.length dcap] 30))
    refine LNext.go tab ?_
    repeat ((conv => whnf); (first | refine ztx ?_ | refine LNext.nilr ?_ | refine zne ?_ | refine zga ?_ | refine zxa ?_ | refine zca ?_ | refine zcb ?_ | refine zgb ?_ | refine zgd1 ?_ | refine zge ?_ | refine zgf ?_ | refine zgj ?_ | refine zgk ?_ | refine eqStr ?_ | refine neqStr ?_ | refine eqSlNil ?_ | refine capSlice ?_ | refine zgm ?_ | refine zgn ?_ | refine zgo ?_ | refine zba ?_ | refine zbb ?_ | refine zbc ?_ | refine zbd ?_ | refine zbe ?_ | refine zbf ?_ | refine zia ?_ | refine zib ?_ | refine zic ?_ | refine zid1 ?_ | refine zif1 ?_ | refine zig ?_ | refine zih ?_ | refine lint_u8_mod ?_ | refine zua ?_ | refine zgs ?_ | refine LRes.mk ?_ | refine LIn.step ?_ | refine zdr ?_ | refine zna (fun _ => ?_) | refine znb (fun _ => ?_) | refine znc (fun _ => ?_) | refine newSlice0 (fun _ => ?_)))
    (first | refine call2 (wid_ct (gd pxs i)) zSq ?_ | refine ext2 (wid_ct (gd pxs i)) zSq ?_)
    rintro v rfl
    cases r1 : idR (gd pxs i) with
    | false =>
      have hb : par1R id pxs i = false := by simp [par1R, r1]
      repeat ((conv => whnf); (first | refine ztx ?_ | refine LNext.nilr ?_ | refine zne ?_ | refine zga ?_ | refine zxa ?_ | refine zca ?_ | refine zcb ?_ | refine zgb ?_ | refine zgd1 ?_ | refine zge ?_ | refine zgf ?_ | refine zgj ?_ | refine zgk ?_ | refine eqStr ?_ | refine neqStr ?_ | refine eqSlNil ?_ | refine capSlice ?_ | refine zgm ?_ | refine zgn ?_ | refine zgo ?_ | refine zba ?_ | refine zbb ?_ | refine zbc ?_ | refine zbd ?_ | refine zbe ?_ | refine zbf ?_ | refine zia ?_ | refine zib ?_ | refine zic ?_ | refine zid1 ?_ | refine zif1 ?_ | refine zig ?_ | refine zih ?_ | refine lint_u8_mod ?_ | refine zua ?_ | refine zgs ?_ | refine LRes.mk ?_ | refine LIn.step ?_ | refine zdr ?_ | refine zna (fun _ => ?_) | refine znb (fun _ => ?_) | refine znc (fun _ => ?_) | refine newSlice0 (fun _ => ?_)))
      show Fin _ _ _; exact Fin.of M zEn ⟨by simp [jobR, par_bad h1 hb], rfl⟩
    | true =>
    by_cases r2 : gd pxs i = id
    · have hb : par1R id pxs i = false := by simp [par1R, r2]
      repeat ((conv => whnf); (first | refine ztx ?_ | refine LNext.nilr ?_ | refine zne ?_ | refine zga ?_ | refine zxa ?_ | refine zca ?_ | refine zcb ?_ | refine zgb ?_ | refine zgd1 ?_ | refine zge ?_ | refine zgf ?_ | refine zgj ?_ | refine zgk ?_ | refine eqStr ?_ | refine neqStr ?_ | refine eqSlNil ?_ | refine capSlice ?_ | refine zgm ?_ | refine zgn ?_ | refine zgo ?_ | refine zba ?_ | refine zbb ?_ | refine zbc ?_ | refine zbd ?_ | refine zbe ?_ | refine zbf ?_ | refine zia ?_ | refine zib ?_ | refine zic ?_ | refine zid1 ?_ | refine zif1 ?_ | refine zig ?_ | refine zih ?_ | refine lint_u8_mod ?_ | refine zua ?_ | refine zgs ?_ | refine LRes.mk ?_ | refine LIn.step ?_ | refine zdr ?_ | refine zna (fun _ => ?_) | refine znb (fun _ => ?_) | refine znc (fun _ => ?_) | refine newSlice0 (fun _ => ?_)))
      show Fin _ _ _; exact Fin.of M zEn ⟨by simp [jobR, par_bad h1 hb], rfl⟩
    by_cases r3 : i = 0
    · have hb : par1R id pxs i = true := by rw [r3] at r1 r2 ⊢; simp [par1R, r1, r2]
      repeat ((conv => whnf); (first | refine ztx ?_ | refine LNext.nilr ?_ | refine zne ?_ | refine zga ?_ | refine zxa ?_ | refine zca ?_ | refine zcb ?_ | refine zgb ?_ | refine zgd1 ?_ | refine zge ?_ | refine zgf ?_ | refine zgj ?_ | refine zgk ?_ | refine eqStr ?_ | refine neqStr ?_ | refine eqSlNil ?_ | refine capSlice ?_ | refine zgm ?_ | refine zgn ?_ | refine zgo ?_ | refine zba ?_ | refine zbb ?_ | refine zbc ?_ | refine zbd ?_ | refine zbe ?_ | refine zbf ?_ | refine zia ?_ | refine zib ?_ | refine zic ?_ | refine zid1 ?_ | refine zif1 ?_ | refine zig ?_ | refine zih ?_ | refine lint_u8_mod ?_ | refine zua ?_ | refine zgs ?_ | refine LRes.mk ?_ | refine LIn.step ?_ | refine zdr ?_ | refine zna (fun _ => ?_) | refine znb (fun _ => ?_) | refine znc (fun _ => ?_) | refine newSlice0 (fun _ => ?_)))
      exact ⟨i + 1, ⟨h1, fun k hk => by
        rcases Nat.lt_succ_iff_lt_or_eq.1 hk with hk | hk
        · exact hg k hk
        · rw [hk]; exact hb⟩, by omega, zSu, zEn⟩
    by_cases r4 : gd pxs (i - 1) < gd pxs i
    · have hb : par1R id pxs i = true := by simp [par1R, r1, r2, r4]
      repeat ((conv => whnf); (first | refine ztx ?_ | refine LNext.nilr ?_ | refine zne ?_ | refine zga ?_ | refine zxa ?_ | refine zca ?_ | refine zcb ?_ | refine zgb ?_ | refine zgd1 ?_ | refine zge ?_ | refine zgf ?_ | refine zgj ?_ | refine zgk ?_ | refine eqStr ?_ | refine neqStr ?_ | refine eqSlNil ?_ | refine capSlice ?_ | refine zgm ?_ | refine zgn ?_ | refine zgo ?_ | refine zba ?_ | refine zbb ?_ | refine zbc ?_ | refine zbd ?_ | refine zbe ?_ | refine zbf ?_ | refine zia ?_ | refine zib ?_ | refine zic ?_ | refine zid1 ?_ | refine zif1 ?_ | refine zig ?_ | refine zih ?_ | refine lint_u8_mod ?_ | refine zua ?_ | refine zgs ?_ | refine LRes.mk ?_ | refine LIn.step ?_ | refine zdr ?_ | refine zna (fun _ => ?_) | refine znb (fun _ => ?_) | refine znc (fun _ => ?_) | refine newSlice0 (fun _ => ?_)))
      exact ⟨i + 1, ⟨h1, fun k hk => by
        rcases Nat.lt_succ_iff_lt_or_eq.1 hk with hk | hk
        · exact hg k hk
        · rw [hk]; exact hb⟩, by omega, zSu, zEn⟩
    · have hb : par1R id pxs i = false := by simp [par1R, r3, r4]
      repeat ((conv => whnf); (first | refine ztx ?_ | refine LNext.nilr ?_ | refine zne ?_ | refine zga ?_ | refine zxa ?_ | refine zca ?_ | refine zcb ?_ | refine zgb ?_ | refine zgd1 ?_ | refine zge ?_ | refine zgf ?_ | refine zgj ?_ | refine zgk ?_ | refine eqStr ?_ | refine neqStr ?_ | refine eqSlNil ?_ | refine capSlice ?_ | refine zgm ?_ | refine zgn ?_ | refine zgo ?_ | refine zba ?_ | refine zbb ?_ | refine zbc ?_ | refine zbd ?_ | refine zbe ?_ | refine zbf ?_ | refine zia ?_ | refine zib ?_ | refine zic ?_ | refine zid1 ?_ | refine zif1 ?_ | refine zig ?_ | refine zih ?_ | refine lint_u8_mod ?_ | refine zua ?_ | refine zgs ?_ | refine LRes.mk ?_ | refine LIn.step ?_ | refine zdr ?_ | refine zna (fun _ => ?_) | refine znb (fun _ => ?_) | refine znc (fun _ => ?_) | refine newSlice0 (fun _ => ?_)))
      show Fin _ _ _; exact Fin.of M zEn ⟨by simp [jobR, par_bad h1 hb], rfl⟩
  · refine LNext.go tab ?_
    repeat ((conv => whnf); (first | refine ztx ?_ | refine LNext.nilr ?_ | refine zne ?_ | refine zga ?_ | refine zxa ?_ | refine zca ?_ | refine zcb ?_ | refine zgb ?_ | refine zgd1 ?_ | refine zge ?_ | refine zgf ?_ | refine zgj ?_ | refine zgk ?_ | refine eqStr ?_ | refine neqStr ?_ | refine eqSlNil ?_ | refine capSlice ?_ | refine zgm ?_ | refine zgn ?_ | refine zgo ?_ | refine zba ?_ | refine zbb ?_ | refine zbc ?_ | refine zbd ?_ | refine zbe ?_ | refine zbf ?_ | refine zia ?_ | refine zib ?_ | refine zic ?_ | refine zid1 ?_ | refine zif1 ?_ | refine zig ?_ | refine zih ?_ | refine lint_u8_mod ?_ | refine zua ?_ | refine zgs ?_ | refine LRes.mk ?_ | refine LIn.step ?_ | refine zdr ?_ | refine zna (fun _ => ?_) | refine znb (fun _ => ?_) | refine znc (fun _ => ?_) | refine newSlice0 (fun _ => ?_)))
    have hpr : parR id pxs = true := par_good (fun k hk => hg k (by omega))
    refine LLoop.invN (fun i : Nat => [(1, .pointer (some ⟨B, 0, none⟩)), (86, .slice ta txs.length tcap), (87, .int .i64 txs.length), (88, .int .i64 i)]) (fun _ => pt B (.cells #[.int .i64 id, .string tenant, .int .i64 prio, .int .i64 run, .slice pa pxs.length pcap, .slice ta txs.length tcap, .int .i64 state, .int .i64 att, .slice na nxs.length ncap, .int .i64 start, .slice da dxs.length dcap] 30) :: M) (fun i => i ≤ txs.length ∧ (txs.take i).all vecR = true) (fun i => txs.length - i) 0 ⟨Nat.zero_le _, by simp⟩ zSu zEn ?_
    rintro k ⟨hk, hall⟩
    by_cases h2 : k < txs.length
    · refine LNext.rd (a := ta) (xs := txs) (sz := 4) (enc := encV4) ht.there (fun rx => ?_)
      obtain ⟨g, o, rfl, lz⟩ := rx.get h2
      have hrx := ht.there (y := pt B (.cells #[.int .i64 id, .string tenant, .int .i64 prio, .int .i64 run, .slice pa pxs.length pcap, .slice (some ⟨g, o, none⟩) txs.length tcap, .int .i64 state, .int .i64 att, .slice na nxs.length ncap, .int .i64 start, .slice da dxs.length dcap] 30))
      refine LNext.go tab ?_
      repeat ((conv => whnf); (first | refine ztx ?_ | refine LNext.nilr ?_ | refine zne ?_ | refine zga ?_ | refine zxa ?_ | refine zca ?_ | refine zcb ?_ | refine zgb ?_ | refine zgd1 ?_ | refine zge ?_ | refine zgf ?_ | refine zgj ?_ | refine zgk ?_ | refine eqStr ?_ | refine neqStr ?_ | refine eqSlNil ?_ | refine capSlice ?_ | refine zgm ?_ | refine zgn ?_ | refine zgo ?_ | refine zba ?_ | refine zbb ?_ | refine zbc ?_ | refine zbd ?_ | refine zbe ?_ | refine zbf ?_ | refine zia ?_ | refine zib ?_ | refine zic ?_ | refine zid1 ?_ | refine zif1 ?_ | refine zig ?_ | refine zih ?_ | refine lint_u8_mod ?_ | refine zua ?_ | refine zgs ?_ | refine LRes.mk ?_ | refine LIn.step ?_ | refine zdr ?_ | refine zna (fun _ => ?_) | refine znb (fun _ => ?_) | refine znc (fun _ => ?_) | refine newSlice0 (fun _ => ?_)))
      (first | refine call2 (VFormed_ct (gd txs k)) zSq ?_ | refine ext2 (VFormed_ct (gd txs k)) zSq ?_)
      rintro v rfl
      cases r1 : vecR (gd txs k) with
      | false =>
        have hb : txs.all vecR = false := by
          rw [List.all_eq_false]
          exact ⟨_, gd_mem h2, by rw [r1]; simp⟩
        repeat ((conv => whnf); (first | refine ztx ?_ | refine LNext.nilr ?_ | refine zne ?_ | refine zga ?_ | refine zxa ?_ | refine zca ?_ | refine zcb ?_ | refine zgb ?_ | refine zgd1 ?_ | refine zge ?_ | refine zgf ?_ | refine zgj ?_ | refine zgk ?_ | refine eqStr ?_ | refine neqStr ?_ | refine eqSlNil ?_ | refine capSlice ?_ | refine zgm ?_ | refine zgn ?_ | refine zgo ?_ | refine zba ?_ | refine zbb ?_ | refine zbc ?_ | refine zbd ?_ | refine zbe ?_ | refine zbf ?_ | refine zia ?_ | refine zib ?_ | refine zic ?_ | refine zid1 ?_ | refine zif1 ?_ | refine zig ?_ | refine zih ?_ | refine lint_u8_mod ?_ | refine zua ?_ | refine zgs ?_ | refine LRes.mk ?_ | refine LIn.step ?_ | refine zdr ?_ | refine zna (fun _ => ?_) | refine znb (fun _ => ?_) | refine znc (fun _ => ?_) | refine newSlice0 (fun _ => ?_)))
        show Fin _ _ _; exact Fin.of M zEn ⟨by simp [jobR, hb], rfl⟩
      | true =>
        repeat ((conv => whnf); (first | refine ztx ?_ | refine LNext.nilr ?_ | refine zne ?_ | refine zga ?_ | refine zxa ?_ | refine zca ?_ | refine zcb ?_ | refine zgb ?_ | refine zgd1 ?_ | refine zge ?_ | refine zgf ?_ | refine zgj ?_ | refine zgk ?_ | refine eqStr ?_ | refine neqStr ?_ | refine eqSlNil ?_ | refine capSlice ?_ | refine zgm ?_ | refine zgn ?_ | refine zgo ?_ | refine zba ?_ | refine zbb ?_ | refine zbc ?_ | refine zbd ?_ | refine zbe ?_ | refine zbf ?_ | refine zia ?_ | refine zib ?_ | refine zic ?_ | refine zid1 ?_ | refine zif1 ?_ | refine zig ?_ | refine zih ?_ | refine lint_u8_mod ?_ | refine zua ?_ | refine zgs ?_ | refine LRes.mk ?_ | refine LIn.step ?_ | refine zdr ?_ | refine zna (fun _ => ?_) | refine znb (fun _ => ?_) | refine znc (fun _ => ?_) | refine newSlice0 (fun _ => ?_)))
        exact ⟨k + 1, ⟨h2, by rw [gd_take h2, List.all_append, hall]; simp [r1]⟩, by omega, zSu, zEn⟩
    · have htk : txs.take k = txs := List.take_of_length_le (by omega)
      rw [htk] at hall
      refine LNext.go tab ?_
      by_cases s1 : state = 0
      · by_cases s2 : att = 0
        · by_cases s3 : start = 0
          · have q3' : 0 ≤ prio := by omega
            have q4' : prio ≤ 100 := by omega
            have q5' : 1 ≤ run := by omega
            have q6' : run ≤ 1000 := by omega
            have q7' : pxs.length ≤ 4 := by omega
            have q8' : 1 ≤ txs.length := by omega
            have q9' : txs.length ≤ 6 := by omega
            have hjr : jobR ⟨id, tenant, prio, run, ⟨pa, pcap, pxs⟩, ⟨ta, tcap, txs⟩, state, att, ⟨na, ncap, nxs⟩, start, ⟨da, dcap, dxs⟩⟩ = decide (nxs.length + dxs.length = 0) := by
              unfold jobR
              dsimp only
              rw [q1, q2, hpr, hall, decide_eq_true q3', decide_eq_true q4', decide_eq_true q5', decide_eq_true q6', decide_eq_true q7', decide_eq_true q8', decide_eq_true q9', decide_eq_true s1, decide_eq_true s2, decide_eq_true s3]
              rfl
            rw [hjr]
            have hw : ∀ m : Int, IntKind.i64.wrap ((nxs.length : Int) + (dxs.length : Int)) = m → (m = 0 ↔ nxs.length + dxs.length = 0) := fun m hm => by
              rw [IntKind.wrap_i64] at hm
              omega
            repeat ((conv => whnf); (first | refine ztx ?_ | refine LNext.nilr ?_ | refine zne ?_ | refine zga ?_ | refine zxa ?_ | refine zca ?_ | refine zcb ?_ | refine zgb ?_ | refine zgd1 ?_ | refine zge ?_ | refine zgf ?_ | refine zgj ?_ | refine zgk ?_ | refine eqStr ?_ | refine neqStr ?_ | refine eqSlNil ?_ | refine capSlice ?_ | refine zgm ?_ | refine zgn ?_ | refine zgo ?_ | refine zba ?_ | refine zbb ?_ | refine zbc ?_ | refine zbd ?_ | refine zbe ?_ | refine zbf ?_ | refine zia ?_ | refine zib ?_ | refine zic ?_ | refine zid1 ?_ | refine zif1 ?_ | refine zig ?_ | refine zih ?_ | refine lint_u8_mod ?_ | refine zua ?_ | refine zgs ?_ | refine LRes.mk ?_ | refine LIn.step ?_ | refine zdr ?_ | refine zna (fun _ => ?_) | refine znb (fun _ => ?_) | refine znc (fun _ => ?_) | refine newSlice0 (fun _ => ?_)))
            refine lint_any ?_
            generalize IntKind.i64.wrap ((nxs.length : Int) + (dxs.length : Int)) = m at hw ⊢
            have hw := hw m rfl
            by_cases e : nxs.length + dxs.length = 0
            · have hm := hw.2 e
              rw [decide_eq_true e]
              repeat ((conv => whnf); (first | refine ztx ?_ | refine LNext.nilr ?_ | refine zne ?_ | refine zga ?_ | refine zxa ?_ | refine zca ?_ | refine zcb ?_ | refine zgb ?_ | refine zgd1 ?_ | refine zge ?_ | refine zgf ?_ | refine zgj ?_ | refine zgk ?_ | refine eqStr ?_ | refine neqStr ?_ | refine eqSlNil ?_ | refine capSlice ?_ | refine zgm ?_ | refine zgn ?_ | refine zgo ?_ | refine zba ?_ | refine zbb ?_ | refine zbc ?_ | refine zbd ?_ | refine zbe ?_ | refine zbf ?_ | refine zia ?_ | refine zib ?_ | refine zic ?_ | refine zid1 ?_ | refine zif1 ?_ | refine zig ?_ | refine zih ?_ | refine lint_u8_mod ?_ | refine zua ?_ | refine zgs ?_ | refine LRes.mk ?_ | refine LIn.step ?_ | refine zdr ?_ | refine zna (fun _ => ?_) | refine znb (fun _ => ?_) | refine znc (fun _ => ?_) | refine newSlice0 (fun _ => ?_)))
              show Fin _ _ _; exact Fin.of M zEn ⟨by simp [hm, tupled], rfl⟩
            · have hm : m ≠ 0 := fun q => e (hw.1 q)
              rw [decide_eq_false e]
              repeat ((conv => whnf); (first | refine ztx ?_ | refine LNext.nilr ?_ | refine zne ?_ | refine zga ?_ | refine zxa ?_ | refine zca ?_ | refine zcb ?_ | refine zgb ?_ | refine zgd1 ?_ | refine zge ?_ | refine zgf ?_ | refine zgj ?_ | refine zgk ?_ | refine eqStr ?_ | refine neqStr ?_ | refine eqSlNil ?_ | refine capSlice ?_ | refine zgm ?_ | refine zgn ?_ | refine zgo ?_ | refine zba ?_ | refine zbb ?_ | refine zbc ?_ | refine zbd ?_ | refine zbe ?_ | refine zbf ?_ | refine zia ?_ | refine zib ?_ | refine zic ?_ | refine zid1 ?_ | refine zif1 ?_ | refine zig ?_ | refine zih ?_ | refine lint_u8_mod ?_ | refine zua ?_ | refine zgs ?_ | refine LRes.mk ?_ | refine LIn.step ?_ | refine zdr ?_ | refine zna (fun _ => ?_) | refine znb (fun _ => ?_) | refine znc (fun _ => ?_) | refine newSlice0 (fun _ => ?_)))
              show Fin _ _ _; exact Fin.of M zEn ⟨by simp [hm, tupled], rfl⟩
          · repeat ((conv => whnf); (first | refine ztx ?_ | refine LNext.nilr ?_ | refine zne ?_ | refine zga ?_ | refine zxa ?_ | refine zca ?_ | refine zcb ?_ | refine zgb ?_ | refine zgd1 ?_ | refine zge ?_ | refine zgf ?_ | refine zgj ?_ | refine zgk ?_ | refine eqStr ?_ | refine neqStr ?_ | refine eqSlNil ?_ | refine capSlice ?_ | refine zgm ?_ | refine zgn ?_ | refine zgo ?_ | refine zba ?_ | refine zbb ?_ | refine zbc ?_ | refine zbd ?_ | refine zbe ?_ | refine zbf ?_ | refine zia ?_ | refine zib ?_ | refine zic ?_ | refine zid1 ?_ | refine zif1 ?_ | refine zig ?_ | refine zih ?_ | refine lint_u8_mod ?_ | refine zua ?_ | refine zgs ?_ | refine LRes.mk ?_ | refine LIn.step ?_ | refine zdr ?_ | refine zna (fun _ => ?_) | refine znb (fun _ => ?_) | refine znc (fun _ => ?_) | refine newSlice0 (fun _ => ?_)))
            show Fin _ _ _; exact Fin.of M zEn ⟨by simp [jobR, s3], rfl⟩
        · repeat ((conv => whnf); (first | refine ztx ?_ | refine LNext.nilr ?_ | refine zne ?_ | refine zga ?_ | refine zxa ?_ | refine zca ?_ | refine zcb ?_ | refine zgb ?_ | refine zgd1 ?_ | refine zge ?_ | refine zgf ?_ | refine zgj ?_ | refine zgk ?_ | refine eqStr ?_ | refine neqStr ?_ | refine eqSlNil ?_ | refine capSlice ?_ | refine zgm ?_ | refine zgn ?_ | refine zgo ?_ | refine zba ?_ | refine zbb ?_ | refine zbc ?_ | refine zbd ?_ | refine zbe ?_ | refine zbf ?_ | refine zia ?_ | refine zib ?_ | refine zic ?_ | refine zid1 ?_ | refine zif1 ?_ | refine zig ?_ | refine zih ?_ | refine lint_u8_mod ?_ | refine zua ?_ | refine zgs ?_ | refine LRes.mk ?_ | refine LIn.step ?_ | refine zdr ?_ | refine zna (fun _ => ?_) | refine znb (fun _ => ?_) | refine znc (fun _ => ?_) | refine newSlice0 (fun _ => ?_)))
          show Fin _ _ _; exact Fin.of M zEn ⟨by simp [jobR, s2], rfl⟩
      · repeat ((conv => whnf); (first | refine ztx ?_ | refine LNext.nilr ?_ | refine zne ?_ | refine zga ?_ | refine zxa ?_ | refine zca ?_ | refine zcb ?_ | refine zgb ?_ | refine zgd1 ?_ | refine zge ?_ | refine zgf ?_ | refine zgj ?_ | refine zgk ?_ | refine eqStr ?_ | refine neqStr ?_ | refine eqSlNil ?_ | refine capSlice ?_ | refine zgm ?_ | refine zgn ?_ | refine zgo ?_ | refine zba ?_ | refine zbb ?_ | refine zbc ?_ | refine zbd ?_ | refine zbe ?_ | refine zbf ?_ | refine zia ?_ | refine zib ?_ | refine zic ?_ | refine zid1 ?_ | refine zif1 ?_ | refine zig ?_ | refine zih ?_ | refine lint_u8_mod ?_ | refine zua ?_ | refine zgs ?_ | refine LRes.mk ?_ | refine LIn.step ?_ | refine zdr ?_ | refine zna (fun _ => ?_) | refine znb (fun _ => ?_) | refine znc (fun _ => ?_) | refine newSlice0 (fun _ => ?_)))
        show Fin _ _ _; exact Fin.of M zEn ⟨by simp [jobR, s1], rfl⟩
end Go.Proofs.YtjmfnakplmmpnaaDoor
