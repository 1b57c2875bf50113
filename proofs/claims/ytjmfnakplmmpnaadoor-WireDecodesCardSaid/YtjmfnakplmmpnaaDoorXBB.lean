import Derived.Test.YtjmfnakplmmpnaaDoorXBA
namespace Go.Proofs.YtjmfnakplmmpnaaDoor
open Go.Sl
set_option linter.unusedVariables false
set_option linter.unusedSimpArgs false
set_option maxRecDepth 100000
set_option maxHeartbeats 1000000
abbrev kc (J : Nat) (n1 : Nat) (pa : Option Addr) (pn pc : Nat) : As := Sl.pt J (.cells #[.int .i64 n1, .slice pa pn pc] 77 (0, 0))
theorem placed_ct (M : List As) (rb : Nat) (a : Option Addr) (cap : Nat) (bs : Bs) (bad : Bool) (h : RS M a cap bs) :
    Ctr Tryd.prog 69 #[.pointer (some ⟨rb, 0, none⟩)] (rc rb a cap bs bad :: M) (fun v M' => ∃ a' cap' pa pc, ∃ n : Nat, ∃ xs : List ByteArray, v = .agg #[.int .i64 n, .slice pa xs.length pc] ∧ n = (numP (bs, bad)).1 ∧ xs = (manyP txtP (cntP (numP (bs, bad)).2).1 (cntP (numP (bs, bad)).2).2).1 ∧ RS M a' cap' (manyP txtP (cntP (numP (bs, bad)).2).1 (cntP (numP (bs, bad)).2).2).2.1 ∧ xs.length ≤ 64 ∧ (∀ s ∈ xs, s.size ≤ 140737488355328) ∧
      M' = rc rb a' cap' (manyP txtP (cntP (numP (bs, bad)).2).1 (cntP (numP (bs, bad)).2).2).2.1 (manyP txtP (cntP (numP (bs, bad)).2).1 (cntP (numP (bs, bad)).2).2).2.2 :: ERow 9 1 encW pa xs.length pc xs :: M) := by
  refine ctr_of (Γ := tab) (vs := [_]) fn69 rfl ?_
  repeat ((conv => whnf); (first | refine ztx ?_ | refine LNext.nilr ?_ | refine zne ?_ | refine zga ?_ | refine zxa ?_ | refine zca ?_ | refine zcb ?_ | refine zgb ?_ | refine zgd1 ?_ | refine zge ?_ | refine zgf ?_ | refine zgj ?_ | refine zgk ?_ | refine eqStr ?_ | refine neqStr ?_ | refine eqSlNil ?_ | refine capSlice ?_ | refine zgm ?_ | refine zgn ?_ | refine zgo ?_ | refine zba ?_ | refine zbb ?_ | refine zbc ?_ | refine zbd ?_ | refine zbe ?_ | refine zbf ?_ | refine zia ?_ | refine zib ?_ | refine zic ?_ | refine zid1 ?_ | refine zif1 ?_ | refine zig ?_ | refine zih ?_ | refine lint_u8_mod ?_ | refine zua ?_ | refine zgs ?_ | refine LRes.mk ?_ | refine LIn.step ?_ | refine zdr ?_ | refine zna (fun _ => ?_) | refine znb (fun _ => ?_) | refine znc (fun _ => ?_) | refine newSlice0 (fun _ => ?_)))
  refine call1 (num_ct M rb a cap bs bad h) zSp ?_
  rintro v M' ⟨a1, c1, rfl, h1, hM⟩
  subst hM
  generalize numP (bs, bad) = q at *
  obtain ⟨n1, b1, d1⟩ := q
  dsimp only at h1 ⊢
  repeat ((conv => whnf); (first | refine ztx ?_ | refine LNext.nilr ?_ | refine zne ?_ | refine zga ?_ | refine zxa ?_ | refine zca ?_ | refine zcb ?_ | refine zgb ?_ | refine zgd1 ?_ | refine zge ?_ | refine zgf ?_ | refine zgj ?_ | refine zgk ?_ | refine eqStr ?_ | refine neqStr ?_ | refine eqSlNil ?_ | refine capSlice ?_ | refine zgm ?_ | refine zgn ?_ | refine zgo ?_ | refine zba ?_ | refine zbb ?_ | refine zbc ?_ | refine zbd ?_ | refine zbe ?_ | refine zbf ?_ | refine zia ?_ | refine zib ?_ | refine zic ?_ | refine zid1 ?_ | refine zif1 ?_ | refine zig ?_ | refine zih ?_ | refine lint_u8_mod ?_ | refine zua ?_ | refine zgs ?_ | refine LRes.mk ?_ | refine LIn.step ?_ | refine zdr ?_ | refine zna (fun _ => ?_) | refine znb (fun _ => ?_) | refine znc (fun _ => ?_) | refine newSlice0 (fun _ => ?_)))
  refine call1 (cnt_ct M rb a1 c1 b1 d1 h1) zSp ?_
  rintro v M' ⟨a5, c5, rfl, h5, hM⟩
  subst hM
  have hk := cntP_le (b1, d1)
  generalize cntP (b1, d1) = q at *
  obtain ⟨k, b5, d5⟩ := q
  dsimp only at h5 hk ⊢
  repeat ((conv => whnf); (first | refine ztx ?_ | refine LNext.nilr ?_ | refine zne ?_ | refine zga ?_ | refine zxa ?_ | refine zca ?_ | refine zcb ?_ | refine zgb ?_ | refine zgd1 ?_ | refine zge ?_ | refine zgf ?_ | refine zgj ?_ | refine zgk ?_ | refine eqStr ?_ | refine neqStr ?_ | refine eqSlNil ?_ | refine capSlice ?_ | refine zgm ?_ | refine zgn ?_ | refine zgo ?_ | refine zba ?_ | refine zbb ?_ | refine zbc ?_ | refine zbd ?_ | refine zbe ?_ | refine zbf ?_ | refine zia ?_ | refine zib ?_ | refine zic ?_ | refine zid1 ?_ | refine zif1 ?_ | refine zig ?_ | refine zih ?_ | refine lint_u8_mod ?_ | refine zua ?_ | refine zgs ?_ | refine LRes.mk ?_ | refine LIn.step ?_ | refine zdr ?_ | refine zna (fun _ => ?_) | refine znb (fun _ => ?_) | refine znc (fun _ => ?_) | refine newSlice0 (fun _ => ?_)))
  rename_i R J
  refine LLoop.invN (fun x : LI ByteArray => [(0, .pointer (some ⟨rb, 0, none⟩)), (2, .pointer (some ⟨R, 0, none⟩)), (3, .pointer (some ⟨J, 0, none⟩)), (8, .int .i64 k), (9, .int .i64 x.1)])
    (fun x => rc rb x.2.1.1 x.2.1.2 x.2.2.1.1 x.2.2.1.2 :: kc J n1 x.2.2.2.1.1 x.2.2.2.2.length x.2.2.2.1.2 :: Sl.pt R (.cells #[.int .i64 0, .slice none 0 0] 77 (0, 0)) :: ERow 9 1 encW x.2.2.2.1.1 x.2.2.2.2.length x.2.2.2.1.2 x.2.2.2.2 :: M)
    (fun x => x.1 ≤ k ∧ RS M x.2.1.1 x.2.1.2 x.2.2.1.1 ∧ x.2.2.2.2.length = x.1 ∧ (∀ s ∈ x.2.2.2.2, s.size ≤ 140737488355328) ∧ manyP txtP k (b5, d5) = (x.2.2.2.2 ++ (manyP txtP (k - x.1) x.2.2.1).1, (manyP txtP (k - x.1) x.2.2.1).2))
    (fun x => k - x.1) (0, (a5, c5), (b5, d5), (none, 0), []) ⟨Nat.zero_le _, h5, rfl, (by intro s hs; cases hs), rfl⟩ zSu (Ent.trans (ent_e0 (E := 9) (sz := 1) (enc := encW)) zEn) ?_
  rintro ⟨i, ⟨a6, c6⟩, ⟨b6, d6⟩, ⟨pa, pc⟩, xs⟩ ⟨hi, h6, hx, hz, hm⟩
  dsimp only at hi h6 hx hz hm ⊢
  by_cases p1 : i < k
  · have hst := many_step p1 hm
    refine LNext.go tab ?_
    repeat ((conv => whnf); (first | refine ztx ?_ | refine LNext.nilr ?_ | refine zne ?_ | refine zga ?_ | refine zxa ?_ | refine zca ?_ | refine zcb ?_ | refine zgb ?_ | refine zgd1 ?_ | refine zge ?_ | refine zgf ?_ | refine zgj ?_ | refine zgk ?_ | refine eqStr ?_ | refine neqStr ?_ | refine eqSlNil ?_ | refine capSlice ?_ | refine zgm ?_ | refine zgn ?_ | refine zgo ?_ | refine zba ?_ | refine zbb ?_ | refine zbc ?_ | refine zbd ?_ | refine zbe ?_ | refine zbf ?_ | refine zia ?_ | refine zib ?_ | refine zic ?_ | refine zid1 ?_ | refine zif1 ?_ | refine zig ?_ | refine zih ?_ | refine lint_u8_mod ?_ | refine zua ?_ | refine zgs ?_ | refine LRes.mk ?_ | refine LIn.step ?_ | refine zna (fun _ => ?_) | refine znb (fun _ => ?_) | refine znc (fun _ => ?_) | refine newSlice0 (fun _ => ?_)))
    refine LDraw.parts [Sl.pt J _] (by decide +kernel) zSp ?_
    repeat ((conv => whnf); (first | refine ztx ?_ | refine LNext.nilr ?_ | refine zne ?_ | refine zga ?_ | refine zxa ?_ | refine zca ?_ | refine zcb ?_ | refine zgb ?_ | refine zgd1 ?_ | refine zge ?_ | refine zgf ?_ | refine zgj ?_ | refine zgk ?_ | refine eqStr ?_ | refine neqStr ?_ | refine eqSlNil ?_ | refine capSlice ?_ | refine zgm ?_ | refine zgn ?_ | refine zgo ?_ | refine zba ?_ | refine zbb ?_ | refine zbc ?_ | refine zbd ?_ | refine zbe ?_ | refine zbf ?_ | refine zia ?_ | refine zib ?_ | refine zic ?_ | refine zid1 ?_ | refine zif1 ?_ | refine zig ?_ | refine zih ?_ | refine lint_u8_mod ?_ | refine zua ?_ | refine zgs ?_ | refine LRes.mk ?_ | refine LIn.step ?_ | refine zdr ?_ | refine zna (fun _ => ?_) | refine znb (fun _ => ?_) | refine znc (fun _ => ?_) | refine newSlice0 (fun _ => ?_)))
    refine call1 (text_ct M rb a6 c6 b6 d6 h6) zSp ?_
    rintro v M' ⟨a7, c7, rfl, h7, hz7, hM⟩
    subst hM
    generalize txtP (b6, d6) = q at *
    obtain ⟨s7, b7, d7⟩ := q
    dsimp only at h7 hz7 hst ⊢
    repeat ((conv => whnf); (first | refine ztx ?_ | refine LNext.nilr ?_ | refine zne ?_ | refine zga ?_ | refine zxa ?_ | refine zca ?_ | refine zcb ?_ | refine zgb ?_ | refine zgd1 ?_ | refine zge ?_ | refine zgf ?_ | refine zgj ?_ | refine zgk ?_ | refine eqStr ?_ | refine neqStr ?_ | refine eqSlNil ?_ | refine capSlice ?_ | refine zgm ?_ | refine zgn ?_ | refine zgo ?_ | refine zba ?_ | refine zbb ?_ | refine zbc ?_ | refine zbd ?_ | refine zbe ?_ | refine zbf ?_ | refine zia ?_ | refine zib ?_ | refine zic ?_ | refine zid1 ?_ | refine zif1 ?_ | refine zig ?_ | refine zih ?_ | refine lint_u8_mod ?_ | refine zua ?_ | refine zgs ?_ | refine LRes.mk ?_ | refine LIn.step ?_ | refine zdr ?_ | refine zna (fun _ => ?_) | refine znb (fun _ => ?_) | refine znc (fun _ => ?_) | refine newSlice0 (fun _ => ?_)))
    refine appendE tab (enc := encW) (xs := xs) ([s7]) zTk (by intro _; rfl) rfl rfl rfl rfl rfl zCs (by intro x hx; simp at hx; subst hx; rfl) (by simp only [maxLen]; omega) (by omega) (by omega) (fun g c => ?_)
    rw [show xs.length + 1 = (xs ++ [s7]).length by simp]
    repeat ((conv => whnf); (first | refine ztx ?_ | refine LNext.nilr ?_ | refine zne ?_ | refine zga ?_ | refine zxa ?_ | refine zca ?_ | refine zcb ?_ | refine zgb ?_ | refine zgd1 ?_ | refine zge ?_ | refine zgf ?_ | refine zgj ?_ | refine zgk ?_ | refine eqStr ?_ | refine neqStr ?_ | refine eqSlNil ?_ | refine capSlice ?_ | refine zgm ?_ | refine zgn ?_ | refine zgo ?_ | refine zba ?_ | refine zbb ?_ | refine zbc ?_ | refine zbd ?_ | refine zbe ?_ | refine zbf ?_ | refine zia ?_ | refine zib ?_ | refine zic ?_ | refine zid1 ?_ | refine zif1 ?_ | refine zig ?_ | refine zih ?_ | refine lint_u8_mod ?_ | refine zua ?_ | refine zgs ?_ | refine LRes.mk ?_ | refine LIn.step ?_ | refine zdr ?_ | refine zna (fun _ => ?_) | refine znb (fun _ => ?_) | refine znc (fun _ => ?_) | refine newSlice0 (fun _ => ?_)))
    exact ⟨(i + 1, (a7, c7), (b7, d7), (some ⟨g, 0, none⟩, c), xs ++ [s7]), ⟨p1, h7, by show (xs ++ [s7]).length = i + 1; simp [hx], by
      intro s hs
      rcases List.mem_append.1 hs with hs | hs
      · exact hz s hs
      · rw [List.mem_singleton] at hs; rw [hs]; exact hz7, hst⟩, by show k - (i + 1) < k - i; omega, zSu, zEn⟩
  have he := many_end p1 hm
  rw [he]
  clear hm he
  dsimp only
  refine LNext.go tab ?_
  repeat ((conv => whnf); (first | refine ztx ?_ | refine LNext.nilr ?_ | refine zne ?_ | refine zga ?_ | refine zxa ?_ | refine zca ?_ | refine zcb ?_ | refine zgb ?_ | refine zgd1 ?_ | refine zge ?_ | refine zgf ?_ | refine zgj ?_ | refine zgk ?_ | refine eqStr ?_ | refine neqStr ?_ | refine eqSlNil ?_ | refine capSlice ?_ | refine zgm ?_ | refine zgn ?_ | refine zgo ?_ | refine zba ?_ | refine zbb ?_ | refine zbc ?_ | refine zbd ?_ | refine zbe ?_ | refine zbf ?_ | refine zia ?_ | refine zib ?_ | refine zic ?_ | refine zid1 ?_ | refine zif1 ?_ | refine zig ?_ | refine zih ?_ | refine lint_u8_mod ?_ | refine zua ?_ | refine zgs ?_ | refine LRes.mk ?_ | refine LIn.step ?_ | refine zdr ?_ | refine zna (fun _ => ?_) | refine znb (fun _ => ?_) | refine znc (fun _ => ?_) | refine newSlice0 (fun _ => ?_)))
  show Fin _ _ _; exact Fin.of (rc rb a6 c6 b6 d6 :: ERow 9 1 encW pa xs.length pc xs :: M) zEn ⟨a6, c6, pa, pc, n1, xs, rfl, rfl, rfl, h6, by omega, hz, rfl⟩
def RecAns (M : List As) (rb kind : Nat) (s : PS) (v : Value) (M' : List As) : Prop := ∃ a' cap' r X, v = recV r ∧ nf r = (recPs kind s).1 ∧ RS M a' cap' (recPs kind s).2.1 ∧ RdR X r ∧ M' = rc rb a' cap' (recPs kind s).2.1 (recPs kind s).2.2 :: (X ++ M)
theorem rec1_ct (M : List As) (rb : Nat) (a : Option Addr) (cap : Nat) (bs : Bs) (bad : Bool) (h : RS M a cap bs) :
    Ctr Tryd.prog 54 #[.pointer (some ⟨rb, 0, none⟩), .int .u8 1] (rc rb a cap bs bad :: M) (RecAns M rb 1 (bs, bad)) := by
  have hr : recPs 1 (bs, bad) = (.joined (txtP (bs, bad)).1 (((numP (txtP (bs, bad)).2).1 : Nat) : Int) (vecP (numP (txtP (bs, bad)).2).2).1, (vecP (numP (txtP (bs, bad)).2).2).2) := by unfold recPs; rw [if_pos rfl]
  unfold RecAns
  rw [hr]
  clear hr
  refine ctr_of (Γ := tab) (vs := [_, _]) fn54 rfl ?_
  repeat ((conv => whnf); (first | refine ztx ?_ | refine LNext.nilr ?_ | refine zne ?_ | refine zga ?_ | refine zxa ?_ | refine zca ?_ | refine zcb ?_ | refine zgb ?_ | refine zgd1 ?_ | refine zge ?_ | refine zgf ?_ | refine zgj ?_ | refine zgk ?_ | refine eqStr ?_ | refine neqStr ?_ | refine eqSlNil ?_ | refine capSlice ?_ | refine zgm ?_ | refine zgn ?_ | refine zgo ?_ | refine zba ?_ | refine zbb ?_ | refine zbc ?_ | refine zbd ?_ | refine zbe ?_ | refine zbf ?_ | refine zia ?_ | refine zib ?_ | refine zic ?_ | refine zid1 ?_ | refine zif1 ?_ | refine zig ?_ | refine zih ?_ | refine lint_u8_mod ?_ | refine zua ?_ | refine zgs ?_ | refine LRes.mk ?_ | refine LIn.step ?_ | refine zdr ?_ | refine zna (fun _ => ?_) | refine znb (fun _ => ?_) | refine znc (fun _ => ?_) | refine newSlice0 (fun _ => ?_)))
  refine call1 (text_ct M rb a cap bs bad h) zSp ?_
  rintro v M' ⟨a1, c1, rfl, h1, hz, hM⟩
  subst hM
  generalize txtP (bs, bad) = q at *
  obtain ⟨x1, b1, d1⟩ := q
  dsimp only at h1 hz ⊢
  repeat ((conv => whnf); (first | refine ztx ?_ | refine LNext.nilr ?_ | refine zne ?_ | refine zga ?_ | refine zxa ?_ | refine zca ?_ | refine zcb ?_ | refine zgb ?_ | refine zgd1 ?_ | refine zge ?_ | refine zgf ?_ | refine zgj ?_ | refine zgk ?_ | refine eqStr ?_ | refine neqStr ?_ | refine eqSlNil ?_ | refine capSlice ?_ | refine zgm ?_ | refine zgn ?_ | refine zgo ?_ | refine zba ?_ | refine zbb ?_ | refine zbc ?_ | refine zbd ?_ | refine zbe ?_ | refine zbf ?_ | refine zia ?_ | refine zib ?_ | refine zic ?_ | refine zid1 ?_ | refine zif1 ?_ | refine zig ?_ | refine zih ?_ | refine lint_u8_mod ?_ | refine zua ?_ | refine zgs ?_ | refine LRes.mk ?_ | refine LIn.step ?_ | refine zdr ?_ | refine zna (fun _ => ?_) | refine znb (fun _ => ?_) | refine znc (fun _ => ?_) | refine newSlice0 (fun _ => ?_)))
  refine call1 (num_ct M rb a1 c1 b1 d1 h1) zSp ?_
  rintro v M' ⟨a2, c2, rfl, h2, hM⟩
  subst hM
  generalize numP (b1, d1) = q at *
  obtain ⟨x2, b2, d2⟩ := q
  dsimp only at h2 ⊢
  repeat ((conv => whnf); (first | refine ztx ?_ | refine LNext.nilr ?_ | refine zne ?_ | refine zga ?_ | refine zxa ?_ | refine zca ?_ | refine zcb ?_ | refine zgb ?_ | refine zgd1 ?_ | refine zge ?_ | refine zgf ?_ | refine zgj ?_ | refine zgk ?_ | refine eqStr ?_ | refine neqStr ?_ | refine eqSlNil ?_ | refine capSlice ?_ | refine zgm ?_ | refine zgn ?_ | refine zgo ?_ | refine zba ?_ | refine zbb ?_ | refine zbc ?_ | refine zbd ?_ | refine zbe ?_ | refine zbf ?_ | refine zia ?_ | refine zib ?_ | refine zic ?_ | refine zid1 ?_ | refine zif1 ?_ | refine zig ?_ | refine zih ?_ | refine lint_u8_mod ?_ | refine zua ?_ | refine zgs ?_ | refine LRes.mk ?_ | refine LIn.step ?_ | refine zdr ?_ | refine zna (fun _ => ?_) | refine znb (fun _ => ?_) | refine znc (fun _ => ?_) | refine newSlice0 (fun _ => ?_)))
  refine call1 (vec_ct M rb a2 c2 b2 d2 h2) zSp ?_
  rintro v M' ⟨a3, c3, rfl, h3, hM⟩
  subst hM
  generalize vecP (b2, d2) = q at *
  obtain ⟨x3, b3, d3⟩ := q
  dsimp only at h3 ⊢
  repeat ((conv => whnf); (first | refine ztx ?_ | refine LNext.nilr ?_ | refine zne ?_ | refine zga ?_ | refine zxa ?_ | refine zca ?_ | refine zcb ?_ | refine zgb ?_ | refine zgd1 ?_ | refine zge ?_ | refine zgf ?_ | refine zgj ?_ | refine zgk ?_ | refine eqStr ?_ | refine neqStr ?_ | refine eqSlNil ?_ | refine capSlice ?_ | refine zgm ?_ | refine zgn ?_ | refine zgo ?_ | refine zba ?_ | refine zbb ?_ | refine zbc ?_ | refine zbd ?_ | refine zbe ?_ | refine zbf ?_ | refine zia ?_ | refine zib ?_ | refine zic ?_ | refine zid1 ?_ | refine zif1 ?_ | refine zig ?_ | refine zih ?_ | refine lint_u8_mod ?_ | refine zua ?_ | refine zgs ?_ | refine LRes.mk ?_ | refine LIn.step ?_ | refine zdr ?_ | refine zna (fun _ => ?_) | refine znb (fun _ => ?_) | refine znc (fun _ => ?_) | refine newSlice0 (fun _ => ?_)))
  refine mkIface ?_
  repeat ((conv => whnf); (first | refine ztx ?_ | refine LNext.nilr ?_ | refine zne ?_ | refine zga ?_ | refine zxa ?_ | refine zca ?_ | refine zcb ?_ | refine zgb ?_ | refine zgd1 ?_ | refine zge ?_ | refine zgf ?_ | refine zgj ?_ | refine zgk ?_ | refine eqStr ?_ | refine neqStr ?_ | refine eqSlNil ?_ | refine capSlice ?_ | refine zgm ?_ | refine zgn ?_ | refine zgo ?_ | refine zba ?_ | refine zbb ?_ | refine zbc ?_ | refine zbd ?_ | refine zbe ?_ | refine zbf ?_ | refine zia ?_ | refine zib ?_ | refine zic ?_ | refine zid1 ?_ | refine zif1 ?_ | refine zig ?_ | refine zih ?_ | refine lint_u8_mod ?_ | refine zua ?_ | refine zgs ?_ | refine LRes.mk ?_ | refine LIn.step ?_ | refine zdr ?_ | refine zna (fun _ => ?_) | refine znb (fun _ => ?_) | refine znc (fun _ => ?_) | refine newSlice0 (fun _ => ?_)))
  show Fin _ _ _; exact Fin.of _ (Ent.refl _) ⟨a3, c3, .joined x1 (x2 : Int) x3, [], rfl, rfl, h3, hz, rfl⟩
theorem rec2_ct (M : List As) (rb : Nat) (a : Option Addr) (cap : Nat) (bs : Bs) (bad : Bool) (h : RS M a cap bs) :
    Ctr Tryd.prog 54 #[.pointer (some ⟨rb, 0, none⟩), .int .u8 2] (rc rb a cap bs bad :: M) (RecAns M rb 2 (bs, bad)) := by
  have hr : recPs 2 (bs, bad) = (.up (txtP (bs, bad)).1 (((numP (txtP (bs, bad)).2).1 : Nat) : Int) (vecP (numP (txtP (bs, bad)).2).2).1, (vecP (numP (txtP (bs, bad)).2).2).2) := by unfold recPs; rw [if_neg (by decide)]; rw [if_pos rfl]
  unfold RecAns
  rw [hr]
  clear hr
  refine ctr_of (Γ := tab) (vs := [_, _]) fn54 rfl ?_
  repeat ((conv => whnf); (first | refine ztx ?_ | refine LNext.nilr ?_ | refine zne ?_ | refine zga ?_ | refine zxa ?_ | refine zca ?_ | refine zcb ?_ | refine zgb ?_ | refine zgd1 ?_ | refine zge ?_ | refine zgf ?_ | refine zgj ?_ | refine zgk ?_ | refine eqStr ?_ | refine neqStr ?_ | refine eqSlNil ?_ | refine capSlice ?_ | refine zgm ?_ | refine zgn ?_ | refine zgo ?_ | refine zba ?_ | refine zbb ?_ | refine zbc ?_ | refine zbd ?_ | refine zbe ?_ | refine zbf ?_ | refine zia ?_ | refine zib ?_ | refine zic ?_ | refine zid1 ?_ | refine zif1 ?_ | refine zig ?_ | refine zih ?_ | refine lint_u8_mod ?_ | refine zua ?_ | refine zgs ?_ | refine LRes.mk ?_ | refine LIn.step ?_ | refine zdr ?_ | refine zna (fun _ => ?_) | refine znb (fun _ => ?_) | refine znc (fun _ => ?_) | refine newSlice0 (fun _ => ?_)))
  refine call1 (text_ct M rb a cap bs bad h) zSp ?_
  rintro v M' ⟨a1, c1, rfl, h1, hz, hM⟩
  subst hM
  generalize txtP (bs, bad) = q at *
  obtain ⟨x1, b1, d1⟩ := q
  dsimp only at h1 hz ⊢
  repeat ((conv => whnf); (first | refine ztx ?_ | refine LNext.nilr ?_ | refine zne ?_ | refine zga ?_ | refine zxa ?_ | refine zca ?_ | refine zcb ?_ | refine zgb ?_ | refine zgd1 ?_ | refine zge ?_ | refine zgf ?_ | refine zgj ?_ | refine zgk ?_ | refine eqStr ?_ | refine neqStr ?_ | refine eqSlNil ?_ | refine capSlice ?_ | refine zgm ?_ | refine zgn ?_ | refine zgo ?_ | refine zba ?_ | refine zbb ?_ | refine zbc ?_ | refine zbd ?_ | refine zbe ?_ | refine zbf ?_ | refine zia ?_ | refine zib ?_ | refine zic ?_ | refine zid1 ?_ | refine zif1 ?_ | refine zig ?_ | refine zih ?_ | refine lint_u8_mod ?_ | refine zua ?_ | refine zgs ?_ | refine LRes.mk ?_ | refine LIn.step ?_ | refine zdr ?_ | refine zna (fun _ => ?_) | refine znb (fun _ => ?_) | refine znc (fun _ => ?_) | refine newSlice0 (fun _ => ?_)))
  refine call1 (num_ct M rb a1 c1 b1 d1 h1) zSp ?_
  rintro v M' ⟨a2, c2, rfl, h2, hM⟩
  subst hM
  generalize numP (b1, d1) = q at *
  obtain ⟨x2, b2, d2⟩ := q
  dsimp only at h2 ⊢
  repeat ((conv => whnf); (first | refine ztx ?_ | refine LNext.nilr ?_ | refine zne ?_ | refine zga ?_ | refine zxa ?_ | refine zca ?_ | refine zcb ?_ | refine zgb ?_ | refine zgd1 ?_ | refine zge ?_ | refine zgf ?_ | refine zgj ?_ | refine zgk ?_ | refine eqStr ?_ | refine neqStr ?_ | refine eqSlNil ?_ | refine capSlice ?_ | refine zgm ?_ | refine zgn ?_ | refine zgo ?_ | refine zba ?_ | refine zbb ?_ | refine zbc ?_ | refine zbd ?_ | refine zbe ?_ | refine zbf ?_ | refine zia ?_ | refine zib ?_ | refine zic ?_ | refine zid1 ?_ | refine zif1 ?_ | refine zig ?_ | refine zih ?_ | refine lint_u8_mod ?_ | refine zua ?_ | refine zgs ?_ | refine LRes.mk ?_ | refine LIn.step ?_ | refine zdr ?_ | refine zna (fun _ => ?_) | refine znb (fun _ => ?_) | refine znc (fun _ => ?_) | refine newSlice0 (fun _ => ?_)))
  refine call1 (vec_ct M rb a2 c2 b2 d2 h2) zSp ?_
  rintro v M' ⟨a3, c3, rfl, h3, hM⟩
  subst hM
  generalize vecP (b2, d2) = q at *
  obtain ⟨x3, b3, d3⟩ := q
  dsimp only at h3 ⊢
  repeat ((conv => whnf); (first | refine ztx ?_ | refine LNext.nilr ?_ | refine zne ?_ | refine zga ?_ | refine zxa ?_ | refine zca ?_ | refine zcb ?_ | refine zgb ?_ | refine zgd1 ?_ | refine zge ?_ | refine zgf ?_ | refine zgj ?_ | refine zgk ?_ | refine eqStr ?_ | refine neqStr ?_ | refine eqSlNil ?_ | refine capSlice ?_ | refine zgm ?_ | refine zgn ?_ | refine zgo ?_ | refine zba ?_ | refine zbb ?_ | refine zbc ?_ | refine zbd ?_ | refine zbe ?_ | refine zbf ?_ | refine zia ?_ | refine zib ?_ | refine zic ?_ | refine zid1 ?_ | refine zif1 ?_ | refine zig ?_ | refine zih ?_ | refine lint_u8_mod ?_ | refine zua ?_ | refine zgs ?_ | refine LRes.mk ?_ | refine LIn.step ?_ | refine zdr ?_ | refine zna (fun _ => ?_) | refine znb (fun _ => ?_) | refine znc (fun _ => ?_) | refine newSlice0 (fun _ => ?_)))
  refine mkIface ?_
  repeat ((conv => whnf); (first | refine ztx ?_ | refine LNext.nilr ?_ | refine zne ?_ | refine zga ?_ | refine zxa ?_ | refine zca ?_ | refine zcb ?_ | refine zgb ?_ | refine zgd1 ?_ | refine zge ?_ | refine zgf ?_ | refine zgj ?_ | refine zgk ?_ | refine eqStr ?_ | refine neqStr ?_ | refine eqSlNil ?_ | refine capSlice ?_ | refine zgm ?_ | refine zgn ?_ | refine zgo ?_ | refine zba ?_ | refine zbb ?_ | refine zbc ?_ | refine zbd ?_ | refine zbe ?_ | refine zbf ?_ | refine zia ?_ | refine zib ?_ | refine zic ?_ | refine zid1 ?_ | refine zif1 ?_ | refine zig ?_ | refine zih ?_ | refine lint_u8_mod ?_ | refine zua ?_ | refine zgs ?_ | refine LRes.mk ?_ | refine LIn.step ?_ | refine zdr ?_ | refine zna (fun _ => ?_) | refine znb (fun _ => ?_) | refine znc (fun _ => ?_) | refine newSlice0 (fun _ => ?_)))
  show Fin _ _ _; exact Fin.of _ (Ent.refl _) ⟨a3, c3, .up x1 (x2 : Int) x3, [], rfl, rfl, h3, hz, rfl⟩
theorem rec3_ct (M : List As) (rb : Nat) (a : Option Addr) (cap : Nat) (bs : Bs) (bad : Bool) (h : RS M a cap bs) :
    Ctr Tryd.prog 54 #[.pointer (some ⟨rb, 0, none⟩), .int .u8 3] (rc rb a cap bs bad :: M) (RecAns M rb 3 (bs, bad)) := by
  have hr : recPs 3 (bs, bad) = (.beat (txtP (bs, bad)).1, (txtP (bs, bad)).2) := by unfold recPs; rw [if_neg (by decide)]; rw [if_neg (by decide)]; rw [if_pos rfl]
  unfold RecAns
  rw [hr]
  clear hr
  refine ctr_of (Γ := tab) (vs := [_, _]) fn54 rfl ?_
  repeat ((conv => whnf); (first | refine ztx ?_ | refine LNext.nilr ?_ | refine zne ?_ | refine zga ?_ | refine zxa ?_ | refine zca ?_ | refine zcb ?_ | refine zgb ?_ | refine zgd1 ?_ | refine zge ?_ | refine zgf ?_ | refine zgj ?_ | refine zgk ?_ | refine eqStr ?_ | refine neqStr ?_ | refine eqSlNil ?_ | refine capSlice ?_ | refine zgm ?_ | refine zgn ?_ | refine zgo ?_ | refine zba ?_ | refine zbb ?_ | refine zbc ?_ | refine zbd ?_ | refine zbe ?_ | refine zbf ?_ | refine zia ?_ | refine zib ?_ | refine zic ?_ | refine zid1 ?_ | refine zif1 ?_ | refine zig ?_ | refine zih ?_ | refine lint_u8_mod ?_ | refine zua ?_ | refine zgs ?_ | refine LRes.mk ?_ | refine LIn.step ?_ | refine zdr ?_ | refine zna (fun _ => ?_) | refine znb (fun _ => ?_) | refine znc (fun _ => ?_) | refine newSlice0 (fun _ => ?_)))
  refine call1 (text_ct M rb a cap bs bad h) zSp ?_
  rintro v M' ⟨a1, c1, rfl, h1, hz, hM⟩
  subst hM
  generalize txtP (bs, bad) = q at *
  obtain ⟨x1, b1, d1⟩ := q
  dsimp only at h1 hz ⊢
  repeat ((conv => whnf); (first | refine ztx ?_ | refine LNext.nilr ?_ | refine zne ?_ | refine zga ?_ | refine zxa ?_ | refine zca ?_ | refine zcb ?_ | refine zgb ?_ | refine zgd1 ?_ | refine zge ?_ | refine zgf ?_ | refine zgj ?_ | refine zgk ?_ | refine eqStr ?_ | refine neqStr ?_ | refine eqSlNil ?_ | refine capSlice ?_ | refine zgm ?_ | refine zgn ?_ | refine zgo ?_ | refine zba ?_ | refine zbb ?_ | refine zbc ?_ | refine zbd ?_ | refine zbe ?_ | refine zbf ?_ | refine zia ?_ | refine zib ?_ | refine zic ?_ | refine zid1 ?_ | refine zif1 ?_ | refine zig ?_ | refine zih ?_ | refine lint_u8_mod ?_ | refine zua ?_ | refine zgs ?_ | refine LRes.mk ?_ | refine LIn.step ?_ | refine zdr ?_ | refine zna (fun _ => ?_) | refine znb (fun _ => ?_) | refine znc (fun _ => ?_) | refine newSlice0 (fun _ => ?_)))
  refine mkIface ?_
  repeat ((conv => whnf); (first | refine ztx ?_ | refine LNext.nilr ?_ | refine zne ?_ | refine zga ?_ | refine zxa ?_ | refine zca ?_ | refine zcb ?_ | refine zgb ?_ | refine zgd1 ?_ | refine zge ?_ | refine zgf ?_ | refine zgj ?_ | refine zgk ?_ | refine eqStr ?_ | refine neqStr ?_ | refine eqSlNil ?_ | refine capSlice ?_ | refine zgm ?_ | refine zgn ?_ | refine zgo ?_ | refine zba ?_ | refine zbb ?_ | refine zbc ?_ | refine zbd ?_ | refine zbe ?_ | refine zbf ?_ | refine zia ?_ | refine zib ?_ | refine zic ?_ | refine zid1 ?_ | refine zif1 ?_ | refine zig ?_ | refine zih ?_ | refine lint_u8_mod ?_ | refine zua ?_ | refine zgs ?_ | refine LRes.mk ?_ | refine LIn.step ?_ | refine zdr ?_ | refine zna (fun _ => ?_) | refine znb (fun _ => ?_) | refine znc (fun _ => ?_) | refine newSlice0 (fun _ => ?_)))
  show Fin _ _ _; exact Fin.of _ (Ent.refl _) ⟨a1, c1, .beat x1, [], rfl, rfl, h1, hz, rfl⟩
theorem rec4_ct (M : List As) (rb : Nat) (a : Option Addr) (cap : Nat) (bs : Bs) (bad : Bool) (h : RS M a cap bs) :
    Ctr Tryd.prog 54 #[.pointer (some ⟨rb, 0, none⟩), .int .u8 4] (rc rb a cap bs bad :: M) (RecAns M rb 4 (bs, bad)) := by
  have hr : recPs 4 (bs, bad) = (.down (txtP (bs, bad)).1, (txtP (bs, bad)).2) := by unfold recPs; rw [if_neg (by decide)]; rw [if_neg (by decide)]; rw [if_neg (by decide)]; rw [if_pos rfl]
  unfold RecAns
  rw [hr]
  clear hr
  refine ctr_of (Γ := tab) (vs := [_, _]) fn54 rfl ?_
  repeat ((conv => whnf); (first | refine ztx ?_ | refine LNext.nilr ?_ | refine zne ?_ | refine zga ?_ | refine zxa ?_ | refine zca ?_ | refine zcb ?_ | refine zgb ?_ | refine zgd1 ?_ | refine zge ?_ | refine zgf ?_ | refine zgj ?_ | refine zgk ?_ | refine eqStr ?_ | refine neqStr ?_ | refine eqSlNil ?_ | refine capSlice ?_ | refine zgm ?_ | refine zgn ?_ | refine zgo ?_ | refine zba ?_ | refine zbb ?_ | refine zbc ?_ | refine zbd ?_ | refine zbe ?_ | refine zbf ?_ | refine zia ?_ | refine zib ?_ | refine zic ?_ | refine zid1 ?_ | refine zif1 ?_ | refine zig ?_ | refine zih ?_ | refine lint_u8_mod ?_ | refine zua ?_ | refine zgs ?_ | refine LRes.mk ?_ | refine LIn.step ?_ | refine zdr ?_ | refine zna (fun _ => ?_) | refine znb (fun _ => ?_) | refine znc (fun _ => ?_) | refine newSlice0 (fun _ => ?_)))
  refine call1 (text_ct M rb a cap bs bad h) zSp ?_
  rintro v M' ⟨a1, c1, rfl, h1, hz, hM⟩
  subst hM
  generalize txtP (bs, bad) = q at *
  obtain ⟨x1, b1, d1⟩ := q
  dsimp only at h1 hz ⊢
  repeat ((conv => whnf); (first | refine ztx ?_ | refine LNext.nilr ?_ | refine zne ?_ | refine zga ?_ | refine zxa ?_ | refine zca ?_ | refine zcb ?_ | refine zgb ?_ | refine zgd1 ?_ | refine zge ?_ | refine zgf ?_ | refine zgj ?_ | refine zgk ?_ | refine eqStr ?_ | refine neqStr ?_ | refine eqSlNil ?_ | refine capSlice ?_ | refine zgm ?_ | refine zgn ?_ | refine zgo ?_ | refine zba ?_ | refine zbb ?_ | refine zbc ?_ | refine zbd ?_ | refine zbe ?_ | refine zbf ?_ | refine zia ?_ | refine zib ?_ | refine zic ?_ | refine zid1 ?_ | refine zif1 ?_ | refine zig ?_ | refine zih ?_ | refine lint_u8_mod ?_ | refine zua ?_ | refine zgs ?_ | refine LRes.mk ?_ | refine LIn.step ?_ | refine zdr ?_ | refine zna (fun _ => ?_) | refine znb (fun _ => ?_) | refine znc (fun _ => ?_) | refine newSlice0 (fun _ => ?_)))
  refine mkIface ?_
  repeat ((conv => whnf); (first | refine ztx ?_ | refine LNext.nilr ?_ | refine zne ?_ | refine zga ?_ | refine zxa ?_ | refine zca ?_ | refine zcb ?_ | refine zgb ?_ | refine zgd1 ?_ | refine zge ?_ | refine zgf ?_ | refine zgj ?_ | refine zgk ?_ | refine eqStr ?_ | refine neqStr ?_ | refine eqSlNil ?_ | refine capSlice ?_ | refine zgm ?_ | refine zgn ?_ | refine zgo ?_ | refine zba ?_ | refine zbb ?_ | refine zbc ?_ | refine zbd ?_ | refine zbe ?_ | refine zbf ?_ | refine zia ?_ | refine zib ?_ | refine zic ?_ | refine zid1 ?_ | refine zif1 ?_ | refine zig ?_ | refine zih ?_ | refine lint_u8_mod ?_ | refine zua ?_ | refine zgs ?_ | refine LRes.mk ?_ | refine LIn.step ?_ | refine zdr ?_ | refine zna (fun _ => ?_) | refine znb (fun _ => ?_) | refine znc (fun _ => ?_) | refine newSlice0 (fun _ => ?_)))
  show Fin _ _ _; exact Fin.of _ (Ent.refl _) ⟨a1, c1, .down x1, [], rfl, rfl, h1, hz, rfl⟩
theorem rec6_ct (M : List As) (rb : Nat) (a : Option Addr) (cap : Nat) (bs : Bs) (bad : Bool) (h : RS M a cap bs) :
    Ctr Tryd.prog 54 #[.pointer (some ⟨rb, 0, none⟩), .int .u8 6] (rc rb a cap bs bad :: M) (RecAns M rb 6 (bs, bad)) := by
  have hr : recPs 6 (bs, bad) = (.rel (((numP (bs, bad)).1 : Nat) : Int), (numP (bs, bad)).2) := by unfold recPs; rw [if_neg (by decide)]; rw [if_neg (by decide)]; rw [if_neg (by decide)]; rw [if_neg (by decide)]; rw [if_neg (by decide)]; rw [if_pos rfl]
  unfold RecAns
  rw [hr]
  clear hr
  refine ctr_of (Γ := tab) (vs := [_, _]) fn54 rfl ?_
  repeat ((conv => whnf); (first | refine ztx ?_ | refine LNext.nilr ?_ | refine zne ?_ | refine zga ?_ | refine zxa ?_ | refine zca ?_ | refine zcb ?_ | refine zgb ?_ | refine zgd1 ?_ | refine zge ?_ | refine zgf ?_ | refine zgj ?_ | refine zgk ?_ | refine eqStr ?_ | refine neqStr ?_ | refine eqSlNil ?_ | refine capSlice ?_ | refine zgm ?_ | refine zgn ?_ | refine zgo ?_ | refine zba ?_ | refine zbb ?_ | refine zbc ?_ | refine zbd ?_ | refine zbe ?_ | refine zbf ?_ | refine zia ?_ | refine zib ?_ | refine zic ?_ | refine zid1 ?_ | refine zif1 ?_ | refine zig ?_ | refine zih ?_ | refine lint_u8_mod ?_ | refine zua ?_ | refine zgs ?_ | refine LRes.mk ?_ | refine LIn.step ?_ | refine zdr ?_ | refine zna (fun _ => ?_) | refine znb (fun _ => ?_) | refine znc (fun _ => ?_) | refine newSlice0 (fun _ => ?_)))
  refine call1 (num_ct M rb a cap bs bad h) zSp ?_
  rintro v M' ⟨a1, c1, rfl, h1, hM⟩
  subst hM
  generalize numP (bs, bad) = q at *
  obtain ⟨x1, b1, d1⟩ := q
  dsimp only at h1 ⊢
  repeat ((conv => whnf); (first | refine ztx ?_ | refine LNext.nilr ?_ | refine zne ?_ | refine zga ?_ | refine zxa ?_ | refine zca ?_ | refine zcb ?_ | refine zgb ?_ | refine zgd1 ?_ | refine zge ?_ | refine zgf ?_ | refine zgj ?_ | refine zgk ?_ | refine eqStr ?_ | refine neqStr ?_ | refine eqSlNil ?_ | refine capSlice ?_ | refine zgm ?_ | refine zgn ?_ | refine zgo ?_ | refine zba ?_ | refine zbb ?_ | refine zbc ?_ | refine zbd ?_ | refine zbe ?_ | refine zbf ?_ | refine zia ?_ | refine zib ?_ | refine zic ?_ | refine zid1 ?_ | refine zif1 ?_ | refine zig ?_ | refine zih ?_ | refine lint_u8_mod ?_ | refine zua ?_ | refine zgs ?_ | refine LRes.mk ?_ | refine LIn.step ?_ | refine zdr ?_ | refine zna (fun _ => ?_) | refine znb (fun _ => ?_) | refine znc (fun _ => ?_) | refine newSlice0 (fun _ => ?_)))
  refine mkIface ?_
  repeat ((conv => whnf); (first | refine ztx ?_ | refine LNext.nilr ?_ | refine zne ?_ | refine zga ?_ | refine zxa ?_ | refine zca ?_ | refine zcb ?_ | refine zgb ?_ | refine zgd1 ?_ | refine zge ?_ | refine zgf ?_ | refine zgj ?_ | refine zgk ?_ | refine eqStr ?_ | refine neqStr ?_ | refine eqSlNil ?_ | refine capSlice ?_ | refine zgm ?_ | refine zgn ?_ | refine zgo ?_ | refine zba ?_ | refine zbb ?_ | refine zbc ?_ | refine zbd ?_ | refine zbe ?_ | refine zbf ?_ | refine zia ?_ | refine zib ?_ | refine zic ?_ | refine zid1 ?_ | refine zif1 ?_ | refine zig ?_ | refine zih ?_ | refine lint_u8_mod ?_ | refine zua ?_ | refine zgs ?_ | refine LRes.mk ?_ | refine LIn.step ?_ | refine zdr ?_ | refine zna (fun _ => ?_) | refine znb (fun _ => ?_) | refine znc (fun _ => ?_) | refine newSlice0 (fun _ => ?_)))
  show Fin _ _ _; exact Fin.of _ (Ent.refl _) ⟨a1, c1, .rel (x1 : Int), [], rfl, rfl, h1, trivial, rfl⟩
theorem rec8_ct (M : List As) (rb : Nat) (a : Option Addr) (cap : Nat) (bs : Bs) (bad : Bool) (h : RS M a cap bs) :
    Ctr Tryd.prog 54 #[.pointer (some ⟨rb, 0, none⟩), .int .u8 8] (rc rb a cap bs bad :: M) (RecAns M rb 8 (bs, bad)) := by
  have hr : recPs 8 (bs, bad) = (.evi (((numP (bs, bad)).1 : Nat) : Int), (numP (bs, bad)).2) := by unfold recPs; rw [if_neg (by decide)]; rw [if_neg (by decide)]; rw [if_neg (by decide)]; rw [if_neg (by decide)]; rw [if_neg (by decide)]; rw [if_neg (by decide)]; rw [if_neg (by decide)]; rw [if_pos rfl]
  unfold RecAns
  rw [hr]
  clear hr
  refine ctr_of (Γ := tab) (vs := [_, _]) fn54 rfl ?_
  repeat ((conv => whnf); (first | refine ztx ?_ | refine LNext.nilr ?_ | refine zne ?_ | refine zga ?_ | refine zxa ?_ | refine zca ?_ | refine zcb ?_ | refine zgb ?_ | refine zgd1 ?_ | refine zge ?_ | refine zgf ?_ | refine zgj ?_ | refine zgk ?_ | refine eqStr ?_ | refine neqStr ?_ | refine eqSlNil ?_ | refine capSlice ?_ | refine zgm ?_ | refine zgn ?_ | refine zgo ?_ | refine zba ?_ | refine zbb ?_ | refine zbc ?_ | refine zbd ?_ | refine zbe ?_ | refine zbf ?_ | refine zia ?_ | refine zib ?_ | refine zic ?_ | refine zid1 ?_ | refine zif1 ?_ | refine zig ?_ | refine zih ?_ | refine lint_u8_mod ?_ | refine zua ?_ | refine zgs ?_ | refine LRes.mk ?_ | refine LIn.step ?_ | refine zdr ?_ | refine zna (fun _ => ?_) | refine znb (fun _ => ?_) | refine znc (fun _ => ?_) | refine newSlice0 (fun _ => ?_)))
  refine call1 (num_ct M rb a cap bs bad h) zSp ?_
  rintro v M' ⟨a1, c1, rfl, h1, hM⟩
  subst hM
  generalize numP (bs, bad) = q at *
  obtain ⟨x1, b1, d1⟩ := q
  dsimp only at h1 ⊢
  repeat ((conv => whnf); (first | refine ztx ?_ | refine LNext.nilr ?_ | refine zne ?_ | refine zga ?_ | refine zxa ?_ | refine zca ?_ | refine zcb ?_ | refine zgb ?_ | refine zgd1 ?_ | refine zge ?_ | refine zgf ?_ | refine zgj ?_ | refine zgk ?_ | refine eqStr ?_ | refine neqStr ?_ | refine eqSlNil ?_ | refine capSlice ?_ | refine zgm ?_ | refine zgn ?_ | refine zgo ?_ | refine zba ?_ | refine zbb ?_ | refine zbc ?_ | refine zbd ?_ | refine zbe ?_ | refine zbf ?_ | refine zia ?_ | refine zib ?_ | refine zic ?_ | refine zid1 ?_ | refine zif1 ?_ | refine zig ?_ | refine zih ?_ | refine lint_u8_mod ?_ | refine zua ?_ | refine zgs ?_ | refine LRes.mk ?_ | refine LIn.step ?_ | refine zdr ?_ | refine zna (fun _ => ?_) | refine znb (fun _ => ?_) | refine znc (fun _ => ?_) | refine newSlice0 (fun _ => ?_)))
  refine mkIface ?_
  repeat ((conv => whnf); (first | refine ztx ?_ | refine LNext.nilr ?_ | refine zne ?_ | refine zga ?_ | refine zxa ?_ | refine zca ?_ | refine zcb ?_ | refine zgb ?_ | refine zgd1 ?_ | refine zge ?_ | refine zgf ?_ | refine zgj ?_ | refine zgk ?_ | refine eqStr ?_ | refine neqStr ?_ | refine eqSlNil ?_ | refine capSlice ?_ | refine zgm ?_ | refine zgn ?_ | refine zgo ?_ | refine zba ?_ | refine zbb ?_ | refine zbc ?_ | refine zbd ?_ | refine zbe ?_ | refine zbf ?_ | refine zia ?_ | refine zib ?_ | refine zic ?_ | refine zid1 ?_ | refine zif1 ?_ | refine zig ?_ | refine zih ?_ | refine lint_u8_mod ?_ | refine zua ?_ | refine zgs ?_ | refine LRes.mk ?_ | refine LIn.step ?_ | refine zdr ?_ | refine zna (fun _ => ?_) | refine znb (fun _ => ?_) | refine znc (fun _ => ?_) | refine newSlice0 (fun _ => ?_)))
  show Fin _ _ _; exact Fin.of _ (Ent.refl _) ⟨a1, c1, .evi (x1 : Int), [], rfl, rfl, h1, trivial, rfl⟩
theorem rec9_ct (M : List As) (rb : Nat) (a : Option Addr) (cap : Nat) (bs : Bs) (bad : Bool) (h : RS M a cap bs) :
    Ctr Tryd.prog 54 #[.pointer (some ⟨rb, 0, none⟩), .int .u8 9] (rc rb a cap bs bad :: M) (RecAns M rb 9 (bs, bad)) := by
  have hr : recPs 9 (bs, bad) = (.part (((numP (bs, bad)).1 : Nat) : Int) (txtP (numP (bs, bad)).2).1, (txtP (numP (bs, bad)).2).2) := by unfold recPs; rw [if_neg (by decide)]; rw [if_neg (by decide)]; rw [if_neg (by decide)]; rw [if_neg (by decide)]; rw [if_neg (by decide)]; rw [if_neg (by decide)]; rw [if_neg (by decide)]; rw [if_neg (by decide)]; rw [if_pos rfl]
  unfold RecAns
  rw [hr]
  clear hr
  refine ctr_of (Γ := tab) (vs := [_, _]) fn54 rfl ?_
  repeat ((conv => whnf); (first | refine ztx ?_ | refine LNext.nilr ?_ | refine zne ?_ | refine zga ?_ | refine zxa ?_ | refine zca ?_ | refine zcb ?_ | refine zgb ?_ | refine zgd1 ?_ | refine zge ?_ | refine zgf ?_ | refine zgj ?_ | refine zgk ?_ | refine eqStr ?_ | refine neqStr ?_ | refine eqSlNil ?_ | refine capSlice ?_ | refine zgm ?_ | refine zgn ?_ | refine zgo ?_ | refine zba ?_ | refine zbb ?_ | refine zbc ?_ | refine zbd ?_ | refine zbe ?_ | refine zbf ?_ | refine zia ?_ | refine zib ?_ | refine zic ?_ | refine zid1 ?_ | refine zif1 ?_ | refine zig ?_ | refine zih ?_ | refine lint_u8_mod ?_ | refine zua ?_ | refine zgs ?_ | refine LRes.mk ?_ | refine LIn.step ?_ | refine zdr ?_ | refine zna (fun _ => ?_) | refine znb (fun _ => ?_) | refine znc (fun _ => ?_) | refine newSlice0 (fun _ => ?_)))
  refine call1 (num_ct M rb a cap bs bad h) zSp ?_
  rintro v M' ⟨a1, c1, rfl, h1, hM⟩
  subst hM
  generalize numP (bs, bad) = q at *
  obtain ⟨x1, b1, d1⟩ := q
  dsimp only at h1 ⊢
  repeat ((conv => whnf); (first | refine ztx ?_ | refine LNext.nilr ?_ | refine zne ?_ | refine zga ?_ | refine zxa ?_ | refine zca ?_ | refine zcb ?_ | refine zgb ?_ | refine zgd1 ?_ | refine zge ?_ | refine zgf ?_ | refine zgj ?_ | refine zgk ?_ | refine eqStr ?_ | refine neqStr ?_ | refine eqSlNil ?_ | refine capSlice ?_ | refine zgm ?_ | refine zgn ?_ | refine zgo ?_ | refine zba ?_ | refine zbb ?_ | refine zbc ?_ | refine zbd ?_ | refine zbe ?_ | refine zbf ?_ | refine zia ?_ | refine zib ?_ | refine zic ?_ | refine zid1 ?_ | refine zif1 ?_ | refine zig ?_ | refine zih ?_ | refine lint_u8_mod ?_ | refine zua ?_ | refine zgs ?_ | refine LRes.mk ?_ | refine LIn.step ?_ | refine zdr ?_ | refine zna (fun _ => ?_) | refine znb (fun _ => ?_) | refine znc (fun _ => ?_) | refine newSlice0 (fun _ => ?_)))
  refine call1 (text_ct M rb a1 c1 b1 d1 h1) zSp ?_
  rintro v M' ⟨a2, c2, rfl, h2, hz, hM⟩
  subst hM
  generalize txtP (b1, d1) = q at *
  obtain ⟨x2, b2, d2⟩ := q
  dsimp only at h2 hz ⊢
  repeat ((conv => whnf); (first | refine ztx ?_ | refine LNext.nilr ?_ | refine zne ?_ | refine zga ?_ | refine zxa ?_ | refine zca ?_ | refine zcb ?_ | refine zgb ?_ | refine zgd1 ?_ | refine zge ?_ | refine zgf ?_ | refine zgj ?_ | refine zgk ?_ | refine eqStr ?_ | refine neqStr ?_ | refine eqSlNil ?_ | refine capSlice ?_ | refine zgm ?_ | refine zgn ?_ | refine zgo ?_ | refine zba ?_ | refine zbb ?_ | refine zbc ?_ | refine zbd ?_ | refine zbe ?_ | refine zbf ?_ | refine zia ?_ | refine zib ?_ | refine zic ?_ | refine zid1 ?_ | refine zif1 ?_ | refine zig ?_ | refine zih ?_ | refine lint_u8_mod ?_ | refine zua ?_ | refine zgs ?_ | refine LRes.mk ?_ | refine LIn.step ?_ | refine zdr ?_ | refine zna (fun _ => ?_) | refine znb (fun _ => ?_) | refine znc (fun _ => ?_) | refine newSlice0 (fun _ => ?_)))
  refine mkIface ?_
  repeat ((conv => whnf); (first | refine ztx ?_ | refine LNext.nilr ?_ | refine zne ?_ | refine zga ?_ | refine zxa ?_ | refine zca ?_ | refine zcb ?_ | refine zgb ?_ | refine zgd1 ?_ | refine zge ?_ | refine zgf ?_ | refine zgj ?_ | refine zgk ?_ | refine eqStr ?_ | refine neqStr ?_ | refine eqSlNil ?_ | refine capSlice ?_ | refine zgm ?_ | refine zgn ?_ | refine zgo ?_ | refine zba ?_ | refine zbb ?_ | refine zbc ?_ | refine zbd ?_ | refine zbe ?_ | refine zbf ?_ | refine zia ?_ | refine zib ?_ | refine zic ?_ | refine zid1 ?_ | refine zif1 ?_ | refine zig ?_ | refine zih ?_ | refine lint_u8_mod ?_ | refine zua ?_ | refine zgs ?_ | refine LRes.mk ?_ | refine LIn.step ?_ | refine zdr ?_ | refine zna (fun _ => ?_) | refine znb (fun _ => ?_) | refine znc (fun _ => ?_) | refine newSlice0 (fun _ => ?_)))
  show Fin _ _ _; exact Fin.of _ (Ent.refl _) ⟨a2, c2, .part (x1 : Int) x2, [], rfl, rfl, h2, hz, rfl⟩
theorem rec10_ct (M : List As) (rb : Nat) (a : Option Addr) (cap : Nat) (bs : Bs) (bad : Bool) (h : RS M a cap bs) :
    Ctr Tryd.prog 54 #[.pointer (some ⟨rb, 0, none⟩), .int .u8 10] (rc rb a cap bs bad :: M) (RecAns M rb 10 (bs, bad)) := by
  have hr : recPs 10 (bs, bad) = (.ended (((numP (bs, bad)).1 : Nat) : Int) (((numP (numP (bs, bad)).2).1 : Nat) : Int), (numP (numP (bs, bad)).2).2) := by unfold recPs; rw [if_neg (by decide)]; rw [if_neg (by decide)]; rw [if_neg (by decide)]; rw [if_neg (by decide)]; rw [if_neg (by decide)]; rw [if_neg (by decide)]; rw [if_neg (by decide)]; rw [if_neg (by decide)]; rw [if_neg (by decide)]; rw [if_pos rfl]
  unfold RecAns
  rw [hr]
  clear hr
  refine ctr_of (Γ := tab) (vs := [_, _]) fn54 rfl ?_
  repeat ((conv => whnf); (first | refine ztx ?_ | refine LNext.nilr ?_ | refine zne ?_ | refine zga ?_ | refine zxa ?_ | refine zca ?_ | refine zcb ?_ | refine zgb ?_ | refine zgd1 ?_ | refine zge ?_ | refine zgf ?_ | refine zgj ?_ | refine zgk ?_ | refine eqStr ?_ | refine neqStr ?_ | refine eqSlNil ?_ | refine capSlice ?_ | refine zgm ?_ | refine zgn ?_ | refine zgo ?_ | refine zba ?_ | refine zbb ?_ | refine zbc ?_ | refine zbd ?_ | refine zbe ?_ | refine zbf ?_ | refine zia ?_ | refine zib ?_ | refine zic ?_ | refine zid1 ?_ | refine zif1 ?_ | refine zig ?_ | refine zih ?_ | refine lint_u8_mod ?_ | refine zua ?_ | refine zgs ?_ | refine LRes.mk ?_ | refine LIn.step ?_ | refine zdr ?_ | refine zna (fun _ => ?_) | refine znb (fun _ => ?_) | refine znc (fun _ => ?_) | refine newSlice0 (fun _ => ?_)))
  refine call1 (num_ct M rb a cap bs bad h) zSp ?_
  rintro v M' ⟨a1, c1, rfl, h1, hM⟩
  subst hM
  generalize numP (bs, bad) = q at *
  obtain ⟨x1, b1, d1⟩ := q
  dsimp only at h1 ⊢
  repeat ((conv => whnf); (first | refine ztx ?_ | refine LNext.nilr ?_ | refine zne ?_ | refine zga ?_ | refine zxa ?_ | refine zca ?_ | refine zcb ?_ | refine zgb ?_ | refine zgd1 ?_ | refine zge ?_ | refine zgf ?_ | refine zgj ?_ | refine zgk ?_ | refine eqStr ?_ | refine neqStr ?_ | refine eqSlNil ?_ | refine capSlice ?_ | refine zgm ?_ | refine zgn ?_ | refine zgo ?_ | refine zba ?_ | refine zbb ?_ | refine zbc ?_ | refine zbd ?_ | refine zbe ?_ | refine zbf ?_ | refine zia ?_ | refine zib ?_ | refine zic ?_ | refine zid1 ?_ | refine zif1 ?_ | refine zig ?_ | refine zih ?_ | refine lint_u8_mod ?_ | refine zua ?_ | refine zgs ?_ | refine LRes.mk ?_ | refine LIn.step ?_ | refine zdr ?_ | refine zna (fun _ => ?_) | refine znb (fun _ => ?_) | refine znc (fun _ => ?_) | refine newSlice0 (fun _ => ?_)))
  refine call1 (num_ct M rb a1 c1 b1 d1 h1) zSp ?_
  rintro v M' ⟨a2, c2, rfl, h2, hM⟩
  subst hM
  generalize numP (b1, d1) = q at *
  obtain ⟨x2, b2, d2⟩ := q
  dsimp only at h2 ⊢
  repeat ((conv => whnf); (first | refine ztx ?_ | refine LNext.nilr ?_ | refine zne ?_ | refine zga ?_ | refine zxa ?_ | refine zca ?_ | refine zcb ?_ | refine zgb ?_ | refine zgd1 ?_ | refine zge ?_ | refine zgf ?_ | refine zgj ?_ | refine zgk ?_ | refine eqStr ?_ | refine neqStr ?_ | refine eqSlNil ?_ | refine capSlice ?_ | refine zgm ?_ | refine zgn ?_ | refine zgo ?_ | refine zba ?_ | refine zbb ?_ | refine zbc ?_ | refine zbd ?_ | refine zbe ?_ | refine zbf ?_ | refine zia ?_ | refine zib ?_ | refine zic ?_ | refine zid1 ?_ | refine zif1 ?_ | refine zig ?_ | refine zih ?_ | refine lint_u8_mod ?_ | refine zua ?_ | refine zgs ?_ | refine LRes.mk ?_ | refine LIn.step ?_ | refine zdr ?_ | refine zna (fun _ => ?_) | refine znb (fun _ => ?_) | refine znc (fun _ => ?_) | refine newSlice0 (fun _ => ?_)))
  refine mkIface ?_
  repeat ((conv => whnf); (first | refine ztx ?_ | refine LNext.nilr ?_ | refine zne ?_ | refine zga ?_ | refine zxa ?_ | refine zca ?_ | refine zcb ?_ | refine zgb ?_ | refine zgd1 ?_ | refine zge ?_ | refine zgf ?_ | refine zgj ?_ | refine zgk ?_ | refine eqStr ?_ | refine neqStr ?_ | refine eqSlNil ?_ | refine capSlice ?_ | refine zgm ?_ | refine zgn ?_ | refine zgo ?_ | refine zba ?_ | refine zbb ?_ | refine zbc ?_ | refine zbd ?_ | refine zbe ?_ | refine zbf ?_ | refine zia ?_ | refine zib ?_ | refine zic ?_ | refine zid1 ?_ | refine zif1 ?_ | refine zig ?_ | refine zih ?_ | refine lint_u8_mod ?_ | refine zua ?_ | refine zgs ?_ | refine LRes.mk ?_ | refine LIn.step ?_ | refine zdr ?_ | refine zna (fun _ => ?_) | refine znb (fun _ => ?_) | refine znc (fun _ => ?_) | refine newSlice0 (fun _ => ?_)))
  show Fin _ _ _; exact Fin.of _ (Ent.refl _) ⟨a2, c2, .ended (x1 : Int) (x2 : Int), [], rfl, rfl, h2, trivial, rfl⟩
theorem rec11_ct (M : List As) (rb : Nat) (a : Option Addr) (cap : Nat) (bs : Bs) (bad : Bool) (h : RS M a cap bs) :
    Ctr Tryd.prog 54 #[.pointer (some ⟨rb, 0, none⟩), .int .u8 11] (rc rb a cap bs bad :: M) (RecAns M rb 11 (bs, bad)) := by
  have hr : recPs 11 (bs, bad) = (.tick , (bs, bad)) := by unfold recPs; rw [if_neg (by decide)]; rw [if_neg (by decide)]; rw [if_neg (by decide)]; rw [if_neg (by decide)]; rw [if_neg (by decide)]; rw [if_neg (by decide)]; rw [if_neg (by decide)]; rw [if_neg (by decide)]; rw [if_neg (by decide)]; rw [if_neg (by decide)]; rw [if_pos rfl]
  unfold RecAns
  rw [hr]
  clear hr
  refine ctr_of (Γ := tab) (vs := [_, _]) fn54 rfl ?_
  repeat ((conv => whnf); (first | refine ztx ?_ | refine LNext.nilr ?_ | refine zne ?_ | refine zga ?_ | refine zxa ?_ | refine zca ?_ | refine zcb ?_ | refine zgb ?_ | refine zgd1 ?_ | refine zge ?_ | refine zgf ?_ | refine zgj ?_ | refine zgk ?_ | refine eqStr ?_ | refine neqStr ?_ | refine eqSlNil ?_ | refine capSlice ?_ | refine zgm ?_ | refine zgn ?_ | refine zgo ?_ | refine zba ?_ | refine zbb ?_ | refine zbc ?_ | refine zbd ?_ | refine zbe ?_ | refine zbf ?_ | refine zia ?_ | refine zib ?_ | refine zic ?_ | refine zid1 ?_ | refine zif1 ?_ | refine zig ?_ | refine zih ?_ | refine lint_u8_mod ?_ | refine zua ?_ | refine zgs ?_ | refine LRes.mk ?_ | refine LIn.step ?_ | refine zdr ?_ | refine zna (fun _ => ?_) | refine znb (fun _ => ?_) | refine znc (fun _ => ?_) | refine newSlice0 (fun _ => ?_)))
  refine mkIface ?_
  repeat ((conv => whnf); (first | refine ztx ?_ | refine LNext.nilr ?_ | refine zne ?_ | refine zga ?_ | refine zxa ?_ | refine zca ?_ | refine zcb ?_ | refine zgb ?_ | refine zgd1 ?_ | refine zge ?_ | refine zgf ?_ | refine zgj ?_ | refine zgk ?_ | refine eqStr ?_ | refine neqStr ?_ | refine eqSlNil ?_ | refine capSlice ?_ | refine zgm ?_ | refine zgn ?_ | refine zgo ?_ | refine zba ?_ | refine zbb ?_ | refine zbc ?_ | refine zbd ?_ | refine zbe ?_ | refine zbf ?_ | refine zia ?_ | refine zib ?_ | refine zic ?_ | refine zid1 ?_ | refine zif1 ?_ | refine zig ?_ | refine zih ?_ | refine lint_u8_mod ?_ | refine zua ?_ | refine zgs ?_ | refine LRes.mk ?_ | refine LIn.step ?_ | refine zdr ?_ | refine zna (fun _ => ?_) | refine znb (fun _ => ?_) | refine znc (fun _ => ?_) | refine newSlice0 (fun _ => ?_)))
  show Fin _ _ _; exact Fin.of _ (Ent.refl _) ⟨a, cap, .tick , [], rfl, rfl, h, trivial, rfl⟩
theorem rec5_ct (M : List As) (rb : Nat) (a : Option Addr) (cap : Nat) (bs : Bs) (bad : Bool) (h : RS M a cap bs) :
    Ctr Tryd.prog 54 #[.pointer (some ⟨rb, 0, none⟩), .int .u8 5] (rc rb a cap bs bad :: M) (RecAns M rb 5 (bs, bad)) := by
  have hr : recPs 5 (bs, bad) = (.sub (jobP (bs, bad)).1, (jobP (bs, bad)).2) := by unfold recPs; rw [if_neg (by decide)]; rw [if_neg (by decide)]; rw [if_neg (by decide)]; rw [if_neg (by decide)]; rw [if_pos rfl]
  unfold RecAns
  rw [hr]
  clear hr
  refine ctr_of (Γ := tab) (vs := [_, _]) fn54 rfl ?_
  repeat ((conv => whnf); (first | refine ztx ?_ | refine LNext.nilr ?_ | refine zne ?_ | refine zga ?_ | refine zxa ?_ | refine zca ?_ | refine zcb ?_ | refine zgb ?_ | refine zgd1 ?_ | refine zge ?_ | refine zgf ?_ | refine zgj ?_ | refine zgk ?_ | refine eqStr ?_ | refine neqStr ?_ | refine eqSlNil ?_ | refine capSlice ?_ | refine zgm ?_ | refine zgn ?_ | refine zgo ?_ | refine zba ?_ | refine zbb ?_ | refine zbc ?_ | refine zbd ?_ | refine zbe ?_ | refine zbf ?_ | refine zia ?_ | refine zib ?_ | refine zic ?_ | refine zid1 ?_ | refine zif1 ?_ | refine zig ?_ | refine zih ?_ | refine lint_u8_mod ?_ | refine zua ?_ | refine zgs ?_ | refine LRes.mk ?_ | refine LIn.step ?_ | refine zdr ?_ | refine zna (fun _ => ?_) | refine znb (fun _ => ?_) | refine znc (fun _ => ?_) | refine newSlice0 (fun _ => ?_)))
  refine call1 (job_ct M rb a cap bs bad h) zSp ?_
  rintro v M' ⟨a1, c1, pa, pc, ta, tc, j, rfl, _, hj, h1, hz, hp, ht, hn, hd, lp, lt, hM⟩
  subst hM
  rw [← hj]
  clear hj
  generalize (jobP (bs, bad)).2 = q at *
  obtain ⟨b1, d1⟩ := q
  obtain ⟨id, tenant, prio, run, ⟨p1, p2, pxs⟩, ⟨t1, t2, txs⟩, st, att, nodes, sta, don⟩ := j
  dsimp only at h1 hz hp ht hn hd lp lt ⊢
  subst hn
  subst hd
  simp only [SlV.mk.injEq, and_true] at hp ht
  obtain ⟨rfl, rfl⟩ := hp
  obtain ⟨rfl, rfl⟩ := ht
  dsimp only [encJ]
  repeat ((conv => whnf); (first | refine ztx ?_ | refine LNext.nilr ?_ | refine zne ?_ | refine zga ?_ | refine zxa ?_ | refine zca ?_ | refine zcb ?_ | refine zgb ?_ | refine zgd1 ?_ | refine zge ?_ | refine zgf ?_ | refine zgj ?_ | refine zgk ?_ | refine eqStr ?_ | refine neqStr ?_ | refine eqSlNil ?_ | refine capSlice ?_ | refine zgm ?_ | refine zgn ?_ | refine zgo ?_ | refine zba ?_ | refine zbb ?_ | refine zbc ?_ | refine zbd ?_ | refine zbe ?_ | refine zbf ?_ | refine zia ?_ | refine zib ?_ | refine zic ?_ | refine zid1 ?_ | refine zif1 ?_ | refine zig ?_ | refine zih ?_ | refine lint_u8_mod ?_ | refine zua ?_ | refine zgs ?_ | refine LRes.mk ?_ | refine LIn.step ?_ | refine zdr ?_ | refine zna (fun _ => ?_) | refine znb (fun _ => ?_) | refine znc (fun _ => ?_) | refine newSlice0 (fun _ => ?_)))
  refine mkIface ?_
  repeat ((conv => whnf); (first | refine ztx ?_ | refine LNext.nilr ?_ | refine zne ?_ | refine zga ?_ | refine zxa ?_ | refine zca ?_ | refine zcb ?_ | refine zgb ?_ | refine zgd1 ?_ | refine zge ?_ | refine zgf ?_ | refine zgj ?_ | refine zgk ?_ | refine eqStr ?_ | refine neqStr ?_ | refine eqSlNil ?_ | refine capSlice ?_ | refine zgm ?_ | refine zgn ?_ | refine zgo ?_ | refine zba ?_ | refine zbb ?_ | refine zbc ?_ | refine zbd ?_ | refine zbe ?_ | refine zbf ?_ | refine zia ?_ | refine zib ?_ | refine zic ?_ | refine zid1 ?_ | refine zif1 ?_ | refine zig ?_ | refine zih ?_ | refine lint_u8_mod ?_ | refine zua ?_ | refine zgs ?_ | refine LRes.mk ?_ | refine LIn.step ?_ | refine zdr ?_ | refine zna (fun _ => ?_) | refine znb (fun _ => ?_) | refine znc (fun _ => ?_) | refine newSlice0 (fun _ => ?_)))
  show Fin _ _ _; exact Fin.of _ (Ent.refl _) ⟨a1, c1, .sub ⟨id, tenant, prio, run, ⟨p1, p2, pxs⟩, ⟨t1, t2, txs⟩, st, att, ⟨none, 0, []⟩, sta, ⟨none, 0, []⟩⟩, [ERow 2 1 Go.Proofs.YtjmfnakplmmpnaaDoor.encI p1 pxs.length p2 pxs, ERow 23 4 encV4 t1 txs.length t2 txs], rfl, rfl, h1, ⟨⟨RdH.erow (enc := Go.Proofs.YtjmfnakplmmpnaaDoor.encI) (E := 2) (n := pxs.length) (cap := p2) (fun _ => rfl), (RdH.erow (enc := encV4) (E := 23) (n := txs.length) (cap := t2) (fun _ => rfl)).there, .nil, .nil, by show pxs.length ≤ _; omega, by show txs.length ≤ _; omega, Nat.zero_le _, Nat.zero_le _⟩, hz⟩, rfl⟩
theorem rec7_ct (M : List As) (rb : Nat) (a : Option Addr) (cap : Nat) (bs : Bs) (bad : Bool) (h : RS M a cap bs) :
    Ctr Tryd.prog 54 #[.pointer (some ⟨rb, 0, none⟩), .int .u8 7] (rc rb a cap bs bad :: M) (RecAns M rb 7 (bs, bad)) := by
  have hr : recPs 7 (bs, bad) = (.placed ((numP (bs, bad)).1 : Nat) ⟨none, 0, (manyP txtP (cntP (numP (bs, bad)).2).1 (cntP (numP (bs, bad)).2).2).1⟩, (manyP txtP (cntP (numP (bs, bad)).2).1 (cntP (numP (bs, bad)).2).2).2) := by unfold recPs; rw [if_neg (by decide)]; rw [if_neg (by decide)]; rw [if_neg (by decide)]; rw [if_neg (by decide)]; rw [if_neg (by decide)]; rw [if_neg (by decide)]; rw [if_pos rfl]
  unfold RecAns
  rw [hr]
  clear hr
  refine ctr_of (Γ := tab) (vs := [_, _]) fn54 rfl ?_
  repeat ((conv => whnf); (first | refine ztx ?_ | refine LNext.nilr ?_ | refine zne ?_ | refine zga ?_ | refine zxa ?_ | refine zca ?_ | refine zcb ?_ | refine zgb ?_ | refine zgd1 ?_ | refine zge ?_ | refine zgf ?_ | refine zgj ?_ | refine zgk ?_ | refine eqStr ?_ | refine neqStr ?_ | refine eqSlNil ?_ | refine capSlice ?_ | refine zgm ?_ | refine zgn ?_ | refine zgo ?_ | refine zba ?_ | refine zbb ?_ | refine zbc ?_ | refine zbd ?_ | refine zbe ?_ | refine zbf ?_ | refine zia ?_ | refine zib ?_ | refine zic ?_ | refine zid1 ?_ | refine zif1 ?_ | refine zig ?_ | refine zih ?_ | refine lint_u8_mod ?_ | refine zua ?_ | refine zgs ?_ | refine LRes.mk ?_ | refine LIn.step ?_ | refine zdr ?_ | refine zna (fun _ => ?_) | refine znb (fun _ => ?_) | refine znc (fun _ => ?_) | refine newSlice0 (fun _ => ?_)))
  refine call1 (placed_ct M rb a cap bs bad h) zSp ?_
  rintro v M' ⟨a1, c1, pa, pc, n, xs, rfl, hn, hx, h1, hl, hz, hM⟩
  subst hM
  rw [← hn, ← hx]
  clear hn hx
  generalize (manyP txtP (cntP (numP (bs, bad)).2).1 (cntP (numP (bs, bad)).2).2).2 = q at *
  obtain ⟨b1, d1⟩ := q
  dsimp only at h1 ⊢
  repeat ((conv => whnf); (first | refine ztx ?_ | refine LNext.nilr ?_ | refine zne ?_ | refine zga ?_ | refine zxa ?_ | refine zca ?_ | refine zcb ?_ | refine zgb ?_ | refine zgd1 ?_ | refine zge ?_ | refine zgf ?_ | refine zgj ?_ | refine zgk ?_ | refine eqStr ?_ | refine neqStr ?_ | refine eqSlNil ?_ | refine capSlice ?_ | refine zgm ?_ | refine zgn ?_ | refine zgo ?_ | refine zba ?_ | refine zbb ?_ | refine zbc ?_ | refine zbd ?_ | refine zbe ?_ | refine zbf ?_ | refine zia ?_ | refine zib ?_ | refine zic ?_ | refine zid1 ?_ | refine zif1 ?_ | refine zig ?_ | refine zih ?_ | refine lint_u8_mod ?_ | refine zua ?_ | refine zgs ?_ | refine LRes.mk ?_ | refine LIn.step ?_ | refine zdr ?_ | refine zna (fun _ => ?_) | refine znb (fun _ => ?_) | refine znc (fun _ => ?_) | refine newSlice0 (fun _ => ?_)))
  refine mkIface ?_
  repeat ((conv => whnf); (first | refine ztx ?_ | refine LNext.nilr ?_ | refine zne ?_ | refine zga ?_ | refine zxa ?_ | refine zca ?_ | refine zcb ?_ | refine zgb ?_ | refine zgd1 ?_ | refine zge ?_ | refine zgf ?_ | refine zgj ?_ | refine zgk ?_ | refine eqStr ?_ | refine neqStr ?_ | refine eqSlNil ?_ | refine capSlice ?_ | refine zgm ?_ | refine zgn ?_ | refine zgo ?_ | refine zba ?_ | refine zbb ?_ | refine zbc ?_ | refine zbd ?_ | refine zbe ?_ | refine zbf ?_ | refine zia ?_ | refine zib ?_ | refine zic ?_ | refine zid1 ?_ | refine zif1 ?_ | refine zig ?_ | refine zih ?_ | refine lint_u8_mod ?_ | refine zua ?_ | refine zgs ?_ | refine LRes.mk ?_ | refine LIn.step ?_ | refine zdr ?_ | refine zna (fun _ => ?_) | refine znb (fun _ => ?_) | refine znc (fun _ => ?_) | refine newSlice0 (fun _ => ?_)))
  show Fin _ _ _; exact Fin.of _ (Ent.refl _) ⟨a1, c1, .placed n ⟨pa, pc, xs⟩, [ERow 9 1 encW pa xs.length pc xs], rfl, rfl, h1, ⟨RdH.erow (enc := encW) (E := 9) (n := xs.length) (cap := pc) (fun _ => rfl), by show xs.length ≤ _; omega, hz⟩, rfl⟩
theorem record_ct (M : List As) (rb : Nat) (a : Option Addr) (cap : Nat) (bs : Bs) (bad : Bool) (kind : Nat) (hk : kind < 256) (h : RS M a cap bs) :
    Ctr Tryd.prog 54 #[.pointer (some ⟨rb, 0, none⟩), .int .u8 kind] (rc rb a cap bs bad :: M) (RecAns M rb kind (bs, bad)) := by
  by_cases k1 : kind = 1
  · subst k1; exact rec1_ct M rb a cap bs bad h
  by_cases k2 : kind = 2
  · subst k2; exact rec2_ct M rb a cap bs bad h
  by_cases k3 : kind = 3
  · subst k3; exact rec3_ct M rb a cap bs bad h
  by_cases k4 : kind = 4
  · subst k4; exact rec4_ct M rb a cap bs bad h
  by_cases k5 : kind = 5
  · subst k5; exact rec5_ct M rb a cap bs bad h
  by_cases k6 : kind = 6
  · subst k6; exact rec6_ct M rb a cap bs bad h
  by_cases k7 : kind = 7
  · subst k7; exact rec7_ct M rb a cap bs bad h
  by_cases k8 : kind = 8
  · subst k8; exact rec8_ct M rb a cap bs bad h
  by_cases k9 : kind = 9
  · subst k9; exact rec9_ct M rb a cap bs bad h
  by_cases k10 : kind = 10
  · subst k10; exact rec10_ct M rb a cap bs bad h
  by_cases k11 : kind = 11
  · subst k11; exact rec11_ct M rb a cap bs bad h
  have hr : recPs kind (bs, bad) = (.none, (bs, bad)) := by unfold recPs; rw [if_neg k1, if_neg k2, if_neg k3, if_neg k4, if_neg k5, if_neg k6, if_neg k7, if_neg k8, if_neg k9, if_neg k10, if_neg k11]
  unfold RecAns
  rw [hr]
  refine ctr_of (Γ := tab) (vs := [_, _]) fn54 rfl ?_
  repeat ((conv => whnf); (first | refine ztx ?_ | refine LNext.nilr ?_ | refine zne ?_ | refine zga ?_ | refine zxa ?_ | refine zca ?_ | refine zcb ?_ | refine zgb ?_ | refine zgd1 ?_ | refine zge ?_ | refine zgf ?_ | refine zgj ?_ | refine zgk ?_ | refine eqStr ?_ | refine neqStr ?_ | refine eqSlNil ?_ | refine capSlice ?_ | refine zgm ?_ | refine zgn ?_ | refine zgo ?_ | refine zba ?_ | refine zbb ?_ | refine zbc ?_ | refine zbd ?_ | refine zbe ?_ | refine zbf ?_ | refine zia ?_ | refine zib ?_ | refine zic ?_ | refine zid1 ?_ | refine zif1 ?_ | refine zig ?_ | refine zih ?_ | refine lint_u8_mod ?_ | refine zua ?_ | refine zgs ?_ | refine LRes.mk ?_ | refine LIn.step ?_ | refine zdr ?_ | refine zna (fun _ => ?_) | refine znb (fun _ => ?_) | refine znc (fun _ => ?_) | refine newSlice0 (fun _ => ?_)))
  show Fin _ _ _; exact Fin.of _ (Ent.refl _) ⟨a, cap, .none, [], rfl, rfl, h, trivial, rfl⟩
end Go.Proofs.YtjmfnakplmmpnaaDoor

namespace Go.Proofs.YtjmfnakplmmpnaaDoor
open Go.Sl
set_option linter.unusedVariables false
set_option linter.unusedSimpArgs false
set_option maxRecDepth 100000
set_option maxHeartbeats 1000000
theorem nf_F (r : Rec) : recF (nf r) = recF r := by cases r <;> rfl
theorem nf_B (r : Rec) : recB (nf r) = recB r := by cases r <;> rfl
theorem RdR.app {M N : List As} : ∀ {r : Rec}, RdR M r → RdR (M ++ N) r
  | .joined .., h => h
  | .up .., h => h
  | .beat .., h => h
  | .down .., h => h
  | .sub .., h => ⟨⟨h.1.par.app, h.1.tasks.app, h.1.nodes.app, h.1.don.app, h.1.lp, h.1.lt, h.1.ln, h.1.ld⟩, h.2⟩
  | .rel .., h => h
  | .placed .., h => ⟨h.1.app, h.2⟩
  | .evi .., h => h
  | .part .., h => h
  | .ended .., h => h
  | .tick, h => h
  | .none, h => h
theorem RdR.right {M N : List As} : ∀ {r : Rec}, RdR N r → RdR (M ++ N) r
  | .joined .., h => h
  | .up .., h => h
  | .beat .., h => h
  | .down .., h => h
  | .sub .., h => ⟨⟨h.1.par.right, h.1.tasks.right, h.1.nodes.right, h.1.don.right, h.1.lp, h.1.lt, h.1.ln, h.1.ld⟩, h.2⟩
  | .rel .., h => h
  | .placed .., h => ⟨h.1.right, h.2⟩
  | .evi .., h => h
  | .part .., h => h
  | .ended .., h => h
  | .tick, h => h
  | .none, h => h
theorem recK_lt (r : Rec) : recK r < 256 := by cases r <;> simp [recK]
theorem byteEq (xs ys : Bs) : decide ((⟨xs.toArray⟩ : ByteArray) = ⟨ys.toArray⟩) = decide (xs = ys) := by
  by_cases h : xs = ys
  · subst h; simp
  · have h2 : ¬ ((⟨xs.toArray⟩ : ByteArray) = ⟨ys.toArray⟩) := fun e => h (by
      have := congrArg (fun s : ByteArray => s.data.toList) e
      simpa using this)
    rw [decide_eq_false h, decide_eq_false h2]
theorem Equal_ct (M : List As) (a b : Option Addr) (ca cb : Nat) (xs ys : Bs) (hx : RdH M a 1 encU xs) (hy : RdH M b 1 encU ys) :
    Ctr Tryd.prog 55 #[.slice a xs.length ca, .slice b ys.length cb] M (fun v M' => v = .bool (decide (xs = ys)) ∧ M' = M) := by
  refine ctr_of (Γ := tab) (vs := [_, _]) fn55 rfl ?_
  repeat ((conv => whnf); (first | refine ztx ?_ | refine LNext.nilr ?_ | refine zne ?_ | refine zga ?_ | refine zxa ?_ | refine zca ?_ | refine zcb ?_ | refine zgb ?_ | refine zgd1 ?_ | refine zge ?_ | refine zgf ?_ | refine zgj ?_ | refine zgk ?_ | refine eqStr ?_ | refine neqStr ?_ | refine eqSlNil ?_ | refine capSlice ?_ | refine zgm ?_ | refine zgn ?_ | refine zgo ?_ | refine zba ?_ | refine zbb ?_ | refine zbc ?_ | refine zbd ?_ | refine zbe ?_ | refine zbf ?_ | refine zia ?_ | refine zib ?_ | refine zic ?_ | refine zid1 ?_ | refine zif1 ?_ | refine zig ?_ | refine zih ?_ | refine lint_u8_mod ?_ | refine zua ?_ | refine zgs ?_ | refine LRes.mk ?_ | refine LIn.step ?_ | refine zdr ?_ | refine zna (fun _ => ?_) | refine znb (fun _ => ?_) | refine znc (fun _ => ?_) | refine newSlice0 (fun _ => ?_)))
  refine convBS tab hx rfl rfl rfl rfl ?_
  repeat ((conv => whnf); (first | refine ztx ?_ | refine LNext.nilr ?_ | refine zne ?_ | refine zga ?_ | refine zxa ?_ | refine zca ?_ | refine zcb ?_ | refine zgb ?_ | refine zgd1 ?_ | refine zge ?_ | refine zgf ?_ | refine zgj ?_ | refine zgk ?_ | refine eqStr ?_ | refine neqStr ?_ | refine eqSlNil ?_ | refine capSlice ?_ | refine zgm ?_ | refine zgn ?_ | refine zgo ?_ | refine zba ?_ | refine zbb ?_ | refine zbc ?_ | refine zbd ?_ | refine zbe ?_ | refine zbf ?_ | refine zia ?_ | refine zib ?_ | refine zic ?_ | refine zid1 ?_ | refine zif1 ?_ | refine zig ?_ | refine zih ?_ | refine lint_u8_mod ?_ | refine zua ?_ | refine zgs ?_ | refine LRes.mk ?_ | refine LIn.step ?_ | refine zdr ?_ | refine zna (fun _ => ?_) | refine znb (fun _ => ?_) | refine znc (fun _ => ?_) | refine newSlice0 (fun _ => ?_)))
  refine convBS tab hy rfl rfl rfl rfl ?_
  repeat ((conv => whnf); (first | refine ztx ?_ | refine LNext.nilr ?_ | refine zne ?_ | refine zga ?_ | refine zxa ?_ | refine zca ?_ | refine zcb ?_ | refine zgb ?_ | refine zgd1 ?_ | refine zge ?_ | refine zgf ?_ | refine zgj ?_ | refine zgk ?_ | refine eqStr ?_ | refine neqStr ?_ | refine eqSlNil ?_ | refine capSlice ?_ | refine zgm ?_ | refine zgn ?_ | refine zgo ?_ | refine zba ?_ | refine zbb ?_ | refine zbc ?_ | refine zbd ?_ | refine zbe ?_ | refine zbf ?_ | refine zia ?_ | refine zib ?_ | refine zic ?_ | refine zid1 ?_ | refine zif1 ?_ | refine zig ?_ | refine zih ?_ | refine lint_u8_mod ?_ | refine zua ?_ | refine zgs ?_ | refine LRes.mk ?_ | refine LIn.step ?_ | refine zdr ?_ | refine zna (fun _ => ?_) | refine znb (fun _ => ?_) | refine znc (fun _ => ?_) | refine newSlice0 (fun _ => ?_)))
  show Fin _ _ _; exact Fin.of M zEn ⟨by rw [← byteEq], rfl⟩
def DecAns (M : List As) (b : Bs) (v : Value) (M' : List As) : Prop :=
  (∃ r X, v = .tuple #[recV r, .int .i64 0] ∧ recF r = true ∧ recB r = b ∧ RdR X r ∧ M' = X ++ M ∧ ∀ r0, recF r0 = true → b = recB r0 → nf r = nf r0) ∨
  (v = .tuple #[.nilIface, .int .i64 12] ∧ M' = M ∧ ∀ r0, recF r0 = true → b ≠ recB r0)
theorem Decode_ct (M : List As) (a : Option Addr) (cap : Nat) (b : Bs) (h : RS M a cap b) : Ctr Tryd.prog 24 #[.slice a b.length cap] M (DecAns M b) := by
  refine Ctr.rd (okg fn24) h.rd (fun rx => ?_)
  have hmx := h.max
  have hle := h.le
  refine ctr_of (Γ := tab) (vs := [_]) fn24 rfl ?_
  cases hb : b with
  | nil =>
    subst hb
    repeat ((conv => whnf); (first | refine ztx ?_ | refine LNext.nilr ?_ | refine zne ?_ | refine zga ?_ | refine zxa ?_ | refine zca ?_ | refine zcb ?_ | refine zgb ?_ | refine zgd1 ?_ | refine zge ?_ | refine zgf ?_ | refine zgj ?_ | refine zgk ?_ | refine eqStr ?_ | refine neqStr ?_ | refine eqSlNil ?_ | refine capSlice ?_ | refine zgm ?_ | refine zgn ?_ | refine zgo ?_ | refine zba ?_ | refine zbb ?_ | refine zbc ?_ | refine zbd ?_ | refine zbe ?_ | refine zbf ?_ | refine zia ?_ | refine zib ?_ | refine zic ?_ | refine zid1 ?_ | refine zif1 ?_ | refine zig ?_ | refine zih ?_ | refine lint_u8_mod ?_ | refine zua ?_ | refine zgs ?_ | refine LRes.mk ?_ | refine LIn.step ?_ | refine zdr ?_ | refine zna (fun _ => ?_) | refine znb (fun _ => ?_) | refine znc (fun _ => ?_) | refine newSlice0 (fun _ => ?_)))
    show Fin _ _ _; exact Fin.of M zEn (Or.inr ⟨rfl, rfl, fun r0 h0 e => by rw [recB_cons h0] at e; cases e⟩)
  | cons x t =>
  have hlen : b.length = t.length + 1 := by rw [hb]; rfl
  have hg0 : gd b 0 = x := by rw [hb]; rfl
  have hd1 : b.drop 1 = t := by rw [hb]; rfl
  obtain ⟨g, o, rfl, lz⟩ := rx.get (i := 0) (by omega)
  have ho := h.off (k := 1) (by omega)
  rw [hd1] at ho
  rw [← hb]
  have hl1 : b.length - 1 = t.length := by omega
  repeat ((conv => whnf); (first | refine ztx ?_ | refine LNext.nilr ?_ | refine zne ?_ | refine zga ?_ | refine zxa ?_ | refine zca ?_ | refine zcb ?_ | refine zgb ?_ | refine zgd1 ?_ | refine zge ?_ | refine zgf ?_ | refine zgj ?_ | refine zgk ?_ | refine eqStr ?_ | refine neqStr ?_ | refine eqSlNil ?_ | refine capSlice ?_ | refine zgm ?_ | refine zgn ?_ | refine zgo ?_ | refine zba ?_ | refine zbb ?_ | refine zbc ?_ | refine zbd ?_ | refine zbe ?_ | refine zbf ?_ | refine zia ?_ | refine zib ?_ | refine zic ?_ | refine zid1 ?_ | refine zif1 ?_ | refine zig ?_ | refine zih ?_ | refine lint_u8_mod ?_ | refine zua ?_ | refine zgs ?_ | refine LRes.mk ?_ | refine LIn.step ?_ | refine zdr ?_ | refine zna (fun _ => ?_) | refine znb (fun _ => ?_) | refine znc (fun _ => ?_) | refine newSlice0 (fun _ => ?_)))
  refine sliceLo2 tab (lo := 1) rfl rfl (by omega) ?_
  rw [hl1]
  repeat ((conv => whnf); (first | refine ztx ?_ | refine LNext.nilr ?_ | refine zne ?_ | refine zga ?_ | refine zxa ?_ | refine zca ?_ | refine zcb ?_ | refine zgb ?_ | refine zgd1 ?_ | refine zge ?_ | refine zgf ?_ | refine zgj ?_ | refine zgk ?_ | refine eqStr ?_ | refine neqStr ?_ | refine eqSlNil ?_ | refine capSlice ?_ | refine zgm ?_ | refine zgn ?_ | refine zgo ?_ | refine zba ?_ | refine zbb ?_ | refine zbc ?_ | refine zbd ?_ | refine zbe ?_ | refine zbf ?_ | refine zia ?_ | refine zib ?_ | refine zic ?_ | refine zid1 ?_ | refine zif1 ?_ | refine zig ?_ | refine zih ?_ | refine lint_u8_mod ?_ | refine zua ?_ | refine zgs ?_ | refine LRes.mk ?_ | refine LIn.step ?_ | refine zdr ?_ | refine zna (fun _ => ?_) | refine znb (fun _ => ?_) | refine znc (fun _ => ?_) | refine newSlice0 (fun _ => ?_)))
  rename_i rb
  refine call1 (record_ct M rb (offA (some ⟨g, o, none⟩) 1 1 cap) (cap - 1) t false (gd b 0).toNat (UInt8.toNat_lt _) ho) zSp ?_
  rintro v M' ⟨a', cap', r, X, rfl, hnf, hrs, hrd, hM⟩
  subst hM
  have back : ∀ r0, recF r0 = true → b = recB r0 → recPs (gd b 0).toNat (t, false) = (nf r0, ([], false)) := fun r0 h0 e => by
    have e2 := recB_cons h0
    rw [← e, hb] at e2
    obtain ⟨e3, e4⟩ := List.cons.inj e2
    rw [hg0, e3, e4, show (UInt8.ofNat (recK r0)).toNat = recK r0 from u8_ofNat (recK_lt r0)]
    exact rec_back h0 false
  generalize recPs (gd b 0).toNat (t, false) = q at *
  obtain ⟨rp, b2, bad2⟩ := q
  dsimp only at hnf hrs ⊢
  cases bad2 with
  | true =>
    repeat ((conv => whnf); (first | refine ztx ?_ | refine LNext.nilr ?_ | refine zne ?_ | refine zga ?_ | refine zxa ?_ | refine zca ?_ | refine zcb ?_ | refine zgb ?_ | refine zgd1 ?_ | refine zge ?_ | refine zgf ?_ | refine zgj ?_ | refine zgk ?_ | refine eqStr ?_ | refine neqStr ?_ | refine eqSlNil ?_ | refine capSlice ?_ | refine zgm ?_ | refine zgn ?_ | refine zgo ?_ | refine zba ?_ | refine zbb ?_ | refine zbc ?_ | refine zbd ?_ | refine zbe ?_ | refine zbf ?_ | refine zia ?_ | refine zib ?_ | refine zic ?_ | refine zid1 ?_ | refine zif1 ?_ | refine zig ?_ | refine zih ?_ | refine lint_u8_mod ?_ | refine zua ?_ | refine zgs ?_ | refine LRes.mk ?_ | refine LIn.step ?_ | refine zdr ?_ | refine zna (fun _ => ?_) | refine znb (fun _ => ?_) | refine znc (fun _ => ?_) | refine newSlice0 (fun _ => ?_)))
    show Fin _ _ _; exact Fin.of M zEn (Or.inr ⟨rfl, rfl, fun r0 h0 e => by have := back r0 h0 e; simp at this⟩)
  | false =>
  by_cases hb2 : b2 = []
  rotate_left
  · have hl2 : 0 < b2.length := List.length_pos_iff.2 hb2
    repeat ((conv => whnf); (first | refine ztx ?_ | refine LNext.nilr ?_ | refine zne ?_ | refine zga ?_ | refine zxa ?_ | refine zca ?_ | refine zcb ?_ | refine zgb ?_ | refine zgd1 ?_ | refine zge ?_ | refine zgf ?_ | refine zgj ?_ | refine zgk ?_ | refine eqStr ?_ | refine neqStr ?_ | refine eqSlNil ?_ | refine capSlice ?_ | refine zgm ?_ | refine zgn ?_ | refine zgo ?_ | refine zba ?_ | refine zbb ?_ | refine zbc ?_ | refine zbd ?_ | refine zbe ?_ | refine zbf ?_ | refine zia ?_ | refine zib ?_ | refine zic ?_ | refine zid1 ?_ | refine zif1 ?_ | refine zig ?_ | refine zih ?_ | refine lint_u8_mod ?_ | refine zua ?_ | refine zgs ?_ | refine LRes.mk ?_ | refine LIn.step ?_ | refine zdr ?_ | refine zna (fun _ => ?_) | refine znb (fun _ => ?_) | refine znc (fun _ => ?_) | refine newSlice0 (fun _ => ?_)))
    show Fin _ _ _; exact Fin.of M zEn (Or.inr ⟨rfl, rfl, fun r0 h0 e => by have := back r0 h0 e; simp only [Prod.mk.injEq] at this; exact hb2 this.2.1⟩)
  have hl2 : b2.length = 0 := by rw [hb2]; rfl
  repeat ((conv => whnf); (first | refine ztx ?_ | refine LNext.nilr ?_ | refine zne ?_ | refine zga ?_ | refine zxa ?_ | refine zca ?_ | refine zcb ?_ | refine zgb ?_ | refine zgd1 ?_ | refine zge ?_ | refine zgf ?_ | refine zgj ?_ | refine zgk ?_ | refine eqStr ?_ | refine neqStr ?_ | refine eqSlNil ?_ | refine capSlice ?_ | refine zgm ?_ | refine zgn ?_ | refine zgo ?_ | refine zba ?_ | refine zbb ?_ | refine zbc ?_ | refine zbd ?_ | refine zbe ?_ | refine zbf ?_ | refine zia ?_ | refine zib ?_ | refine zic ?_ | refine zid1 ?_ | refine zif1 ?_ | refine zig ?_ | refine zih ?_ | refine lint_u8_mod ?_ | refine zua ?_ | refine zgs ?_ | refine LRes.mk ?_ | refine LIn.step ?_ | refine zdr ?_ | refine zna (fun _ => ?_) | refine znb (fun _ => ?_) | refine znc (fun _ => ?_) | refine newSlice0 (fun _ => ?_)))
  have hec := Encode_ct (X ++ M) r hrd.app
  refine call1 hec zSp ?_
  rintro v M' ⟨a2, cap2, rfl, hM⟩
  subst hM
  cases hf : recF r with
  | false =>
    have he : encR r = ([], 4) := if_neg (by rw [hf]; simp)
    rw [he]
    repeat ((conv => whnf); (first | refine ztx ?_ | refine LNext.nilr ?_ | refine zne ?_ | refine zga ?_ | refine zxa ?_ | refine zca ?_ | refine zcb ?_ | refine zgb ?_ | refine zgd1 ?_ | refine zge ?_ | refine zgf ?_ | refine zgj ?_ | refine zgk ?_ | refine eqStr ?_ | refine neqStr ?_ | refine eqSlNil ?_ | refine capSlice ?_ | refine zgm ?_ | refine zgn ?_ | refine zgo ?_ | refine zba ?_ | refine zbb ?_ | refine zbc ?_ | refine zbd ?_ | refine zbe ?_ | refine zbf ?_ | refine zia ?_ | refine zib ?_ | refine zic ?_ | refine zid1 ?_ | refine zif1 ?_ | refine zig ?_ | refine zih ?_ | refine lint_u8_mod ?_ | refine zua ?_ | refine zgs ?_ | refine LRes.mk ?_ | refine LIn.step ?_ | refine zdr ?_ | refine zna (fun _ => ?_) | refine znb (fun _ => ?_) | refine znc (fun _ => ?_) | refine newSlice0 (fun _ => ?_)))
    show Fin _ _ _; exact Fin.of M zEn (Or.inr ⟨rfl, rfl, fun r0 h0 e => by
      have := back r0 h0 e
      simp only [Prod.mk.injEq] at this
      have h1 : recF (nf r) = recF (nf r0) := by rw [hnf, this.1]
      rw [nf_F, nf_F, hf, h0] at h1
      cases h1⟩)
  | true =>
  have he : encR r = (recB r, 0) := if_pos hf
  rw [he]
  repeat ((conv => whnf); (first | refine ztx ?_ | refine LNext.nilr ?_ | refine zne ?_ | refine zga ?_ | refine zxa ?_ | refine zca ?_ | refine zcb ?_ | refine zgb ?_ | refine zgd1 ?_ | refine zge ?_ | refine zgf ?_ | refine zgj ?_ | refine zgk ?_ | refine eqStr ?_ | refine neqStr ?_ | refine eqSlNil ?_ | refine capSlice ?_ | refine zgm ?_ | refine zgn ?_ | refine zgo ?_ | refine zba ?_ | refine zbb ?_ | refine zbc ?_ | refine zbd ?_ | refine zbe ?_ | refine zbf ?_ | refine zia ?_ | refine zib ?_ | refine zic ?_ | refine zid1 ?_ | refine zif1 ?_ | refine zig ?_ | refine zih ?_ | refine lint_u8_mod ?_ | refine zua ?_ | refine zgs ?_ | refine LRes.mk ?_ | refine LIn.step ?_ | refine zdr ?_ | refine zna (fun _ => ?_) | refine znb (fun _ => ?_) | refine znc (fun _ => ?_) | refine newSlice0 (fun _ => ?_)))
  refine call0 ((Equal_ct (BR a2 (recB r).length cap2 (recB r) :: (X ++ M)) a2 (some ⟨g, o, none⟩) cap2 cap (recB r) b (RdH.erow (enc := encU) (fun _ => rfl)) h.rd.right.there).part zSq) ?_
  rintro v rfl
  by_cases hq : recB r = b
  rotate_left
  · rw [decide_eq_false hq]
    repeat ((conv => whnf); (first | refine ztx ?_ | refine LNext.nilr ?_ | refine zne ?_ | refine zga ?_ | refine zxa ?_ | refine zca ?_ | refine zcb ?_ | refine zgb ?_ | refine zgd1 ?_ | refine zge ?_ | refine zgf ?_ | refine zgj ?_ | refine zgk ?_ | refine eqStr ?_ | refine neqStr ?_ | refine eqSlNil ?_ | refine capSlice ?_ | refine zgm ?_ | refine zgn ?_ | refine zgo ?_ | refine zba ?_ | refine zbb ?_ | refine zbc ?_ | refine zbd ?_ | refine zbe ?_ | refine zbf ?_ | refine zia ?_ | refine zib ?_ | refine zic ?_ | refine zid1 ?_ | refine zif1 ?_ | refine zig ?_ | refine zih ?_ | refine lint_u8_mod ?_ | refine zua ?_ | refine zgs ?_ | refine LRes.mk ?_ | refine LIn.step ?_ | refine zdr ?_ | refine zna (fun _ => ?_) | refine znb (fun _ => ?_) | refine znc (fun _ => ?_) | refine newSlice0 (fun _ => ?_)))
    show Fin _ _ _; exact Fin.of M zEn (Or.inr ⟨rfl, rfl, fun r0 h0 e => by
      have := back r0 h0 e
      simp only [Prod.mk.injEq] at this
      have h1 : recB (nf r) = recB (nf r0) := by rw [hnf, this.1]
      rw [nf_B, nf_B, ← e] at h1
      exact hq h1⟩)
  rw [decide_eq_true hq]
  repeat ((conv => whnf); (first | refine ztx ?_ | refine LNext.nilr ?_ | refine zne ?_ | refine zga ?_ | refine zxa ?_ | refine zca ?_ | refine zcb ?_ | refine zgb ?_ | refine zgd1 ?_ | refine zge ?_ | refine zgf ?_ | refine zgj ?_ | refine zgk ?_ | refine eqStr ?_ | refine neqStr ?_ | refine eqSlNil ?_ | refine capSlice ?_ | refine zgm ?_ | refine zgn ?_ | refine zgo ?_ | refine zba ?_ | refine zbb ?_ | refine zbc ?_ | refine zbd ?_ | refine zbe ?_ | refine zbf ?_ | refine zia ?_ | refine zib ?_ | refine zic ?_ | refine zid1 ?_ | refine zif1 ?_ | refine zig ?_ | refine zih ?_ | refine lint_u8_mod ?_ | refine zua ?_ | refine zgs ?_ | refine LRes.mk ?_ | refine LIn.step ?_ | refine zdr ?_ | refine zna (fun _ => ?_) | refine znb (fun _ => ?_) | refine znc (fun _ => ?_) | refine newSlice0 (fun _ => ?_)))
  show Fin _ _ _; exact Fin.of (X ++ M) zEn (Or.inl ⟨r, X, rfl, hf, hq, hrd, rfl, fun r0 h0 e => by
    have := back r0 h0 e
    simp only [Prod.mk.injEq] at this
    rw [hnf, this.1]⟩)
end Go.Proofs.YtjmfnakplmmpnaaDoor

namespace Go.Proofs.YtjmfnakplmmpnaaDoor
open Go.Sl
set_option linter.unusedVariables false
set_option linter.unusedSimpArgs false
set_option maxRecDepth 100000
set_option maxHeartbeats 1000000
theorem Plainly_ct (M : List As) (r : Rec) : Ctr Tryd.prog 19 #[recV r] M (fun v M' => v = .agg (encPl (recP r)).toArray ∧ M' = M) := by
  cases r <;> dsimp only [recV]
  all_goals refine ctr_of (Γ := tab) (vs := [_]) fn19 rfl ?_
  all_goals repeat ((conv => whnf); (first | refine ztx ?_ | refine LNext.nilr ?_ | refine zne ?_ | refine zga ?_ | refine zxa ?_ | refine zca ?_ | refine zcb ?_ | refine zgb ?_ | refine zgd1 ?_ | refine zge ?_ | refine zgf ?_ | refine zgj ?_ | refine zgk ?_ | refine eqStr ?_ | refine neqStr ?_ | refine eqSlNil ?_ | refine capSlice ?_ | refine zgm ?_ | refine zgn ?_ | refine zgo ?_ | refine zba ?_ | refine zbb ?_ | refine zbc ?_ | refine zbd ?_ | refine zbe ?_ | refine zbf ?_ | refine zia ?_ | refine zib ?_ | refine zic ?_ | refine zid1 ?_ | refine zif1 ?_ | refine zig ?_ | refine zih ?_ | refine lint_u8_mod ?_ | refine zua ?_ | refine zgs ?_ | refine LRes.mk ?_ | refine LIn.step ?_ | refine zdr ?_ | refine zna (fun _ => ?_) | refine znb (fun _ => ?_) | refine znc (fun _ => ?_) | refine newSlice0 (fun _ => ?_)))
  all_goals repeat ((first | refine taYes ?_ | refine taNo ?_ | refine taNil ?_); repeat ((conv => whnf); (first | refine ztx ?_ | refine LNext.nilr ?_ | refine zne ?_ | refine zga ?_ | refine zxa ?_ | refine zca ?_ | refine zcb ?_ | refine zgb ?_ | refine zgd1 ?_ | refine zge ?_ | refine zgf ?_ | refine zgj ?_ | refine zgk ?_ | refine eqStr ?_ | refine neqStr ?_ | refine eqSlNil ?_ | refine capSlice ?_ | refine zgm ?_ | refine zgn ?_ | refine zgo ?_ | refine zba ?_ | refine zbb ?_ | refine zbc ?_ | refine zbd ?_ | refine zbe ?_ | refine zbf ?_ | refine zia ?_ | refine zib ?_ | refine zic ?_ | refine zid1 ?_ | refine zif1 ?_ | refine zig ?_ | refine zih ?_ | refine lint_u8_mod ?_ | refine zua ?_ | refine zgs ?_ | refine LRes.mk ?_ | refine LIn.step ?_ | refine zdr ?_ | refine zna (fun _ => ?_) | refine znb (fun _ => ?_) | refine znc (fun _ => ?_) | refine newSlice0 (fun _ => ?_))))
  all_goals show Fin _ _ _; exact Fin.of M zEn ⟨rfl, rfl⟩
end Go.Proofs.YtjmfnakplmmpnaaDoor

namespace Go.Proofs.YtjmfnakplmmpnaaDoor
open Go.Sl
set_option linter.unusedVariables false
set_option linter.unusedSimpArgs false
set_option maxRecDepth 100000
set_option maxHeartbeats 1000000
theorem SInts2_ct (M : List As) (a b : Option Addr) (c c' : Nat) (l : List Int) (hr : RdH M a 1 Go.Proofs.YtjmfnakplmmpnaaDoor.encI l) (hr2 : RdH M b 1 Go.Proofs.YtjmfnakplmmpnaaDoor.encI l) (hl : l.length ≤ 9223372036854775807) :
    Ctr Tryd.prog 27 #[.slice a l.length c, .slice b l.length c'] M (fun v M' => v = .bool true ∧ M' = M) := by
  refine Ctr.rd (okg fn27) hr (fun rx => ?_)
  refine Ctr.rd (okg fn27) hr2 (fun ry => ?_)
  refine ctr_of (Γ := tab) (vs := [_, _]) fn27 rfl ?_
  repeat ((conv => whnf); (first | refine ztx ?_ | refine LNext.nilr ?_ | refine zne ?_ | refine zga ?_ | refine zxa ?_ | refine zca ?_ | refine zcb ?_ | refine zgb ?_ | refine zgd1 ?_ | refine zge ?_ | refine zgf ?_ | refine zgj ?_ | refine zgk ?_ | refine eqStr ?_ | refine neqStr ?_ | refine eqSlNil ?_ | refine capSlice ?_ | refine zgm ?_ | refine zgn ?_ | refine zgo ?_ | refine zba ?_ | refine zbb ?_ | refine zbc ?_ | refine zbd ?_ | refine zbe ?_ | refine zbf ?_ | refine zia ?_ | refine zib ?_ | refine zic ?_ | refine zid1 ?_ | refine zif1 ?_ | refine zig ?_ | refine zih ?_ | refine lint_u8_mod ?_ | refine zua ?_ | refine zgs ?_ | refine LRes.mk ?_ | refine LIn.step ?_ | refine zdr ?_ | refine zna (fun _ => ?_) | refine znb (fun _ => ?_) | refine znc (fun _ => ?_) | refine newSlice0 (fun _ => ?_)))
  refine LLoop.inv (Γ := tab) (fun i : Nat => [(0, .slice a l.length c), (1, .slice b l.length c'), (5, .int .i64 i)]) (fun _ => M) (fun i => i ≤ l.length) (fun i => l.length - i) 0 (Nat.zero_le _) zSu zEn ?_
  intro i hi
  by_cases h1 : i < l.length
  · obtain ⟨g, o, rfl, lz⟩ := rx.get h1
    obtain ⟨g', o', rfl, lz'⟩ := ry.get h1
    repeat ((conv => whnf); (first | refine ztx ?_ | refine LNext.nilr ?_ | refine zne ?_ | refine zga ?_ | refine zxa ?_ | refine zca ?_ | refine zcb ?_ | refine zgb ?_ | refine zgd1 ?_ | refine zge ?_ | refine zgf ?_ | refine zgj ?_ | refine zgk ?_ | refine eqStr ?_ | refine neqStr ?_ | refine eqSlNil ?_ | refine capSlice ?_ | refine zgm ?_ | refine zgn ?_ | refine zgo ?_ | refine zba ?_ | refine zbb ?_ | refine zbc ?_ | refine zbd ?_ | refine zbe ?_ | refine zbf ?_ | refine zia ?_ | refine zib ?_ | refine zic ?_ | refine zid1 ?_ | refine zif1 ?_ | refine zig ?_ | refine zih ?_ | refine lint_u8_mod ?_ | refine zua ?_ | refine zgs ?_ | refine LRes.mk ?_ | refine LIn.step ?_ | refine zdr ?_ | refine zna (fun _ => ?_) | refine znb (fun _ => ?_) | refine znc (fun _ => ?_) | refine newSlice0 (fun _ => ?_)))
    exact ⟨i + 1, h1, by omega, zSu, zEn⟩
  · repeat ((conv => whnf); (first | refine ztx ?_ | refine LNext.nilr ?_ | refine zne ?_ | refine zga ?_ | refine zxa ?_ | refine zca ?_ | refine zcb ?_ | refine zgb ?_ | refine zgd1 ?_ | refine zge ?_ | refine zgf ?_ | refine zgj ?_ | refine zgk ?_ | refine eqStr ?_ | refine neqStr ?_ | refine eqSlNil ?_ | refine capSlice ?_ | refine zgm ?_ | refine zgn ?_ | refine zgo ?_ | refine zba ?_ | refine zbb ?_ | refine zbc ?_ | refine zbd ?_ | refine zbe ?_ | refine zbf ?_ | refine zia ?_ | refine zib ?_ | refine zic ?_ | refine zid1 ?_ | refine zif1 ?_ | refine zig ?_ | refine zih ?_ | refine lint_u8_mod ?_ | refine zua ?_ | refine zgs ?_ | refine LRes.mk ?_ | refine LIn.step ?_ | refine zdr ?_ | refine zna (fun _ => ?_) | refine znb (fun _ => ?_) | refine znc (fun _ => ?_) | refine newSlice0 (fun _ => ?_)))
    show Fin _ _ _; exact Fin.of M zEn ⟨rfl, rfl⟩
theorem SVecs2_ct (M : List As) (a b : Option Addr) (c c' : Nat) (l : List V4) (hr : RdH M a 4 encV4 l) (hr2 : RdH M b 4 encV4 l) (hl : l.length ≤ 9223372036854775807) :
    Ctr Tryd.prog 28 #[.slice a l.length c, .slice b l.length c'] M (fun v M' => v = .bool true ∧ M' = M) := by
  refine Ctr.rd (okg fn28) hr (fun rx => ?_)
  refine Ctr.rd (okg fn28) hr2 (fun ry => ?_)
  refine ctr_of (Γ := tab) (vs := [_, _]) fn28 rfl ?_
  repeat ((conv => whnf); (first | refine ztx ?_ | refine LNext.nilr ?_ | refine zne ?_ | refine zga ?_ | refine zxa ?_ | refine zca ?_ | refine zcb ?_ | refine zgb ?_ | refine zgd1 ?_ | refine zge ?_ | refine zgf ?_ | refine zgj ?_ | refine zgk ?_ | refine eqStr ?_ | refine neqStr ?_ | refine eqSlNil ?_ | refine capSlice ?_ | refine zgm ?_ | refine zgn ?_ | refine zgo ?_ | refine zba ?_ | refine zbb ?_ | refine zbc ?_ | refine zbd ?_ | refine zbe ?_ | refine zbf ?_ | refine zia ?_ | refine zib ?_ | refine zic ?_ | refine zid1 ?_ | refine zif1 ?_ | refine zig ?_ | refine zih ?_ | refine lint_u8_mod ?_ | refine zua ?_ | refine zgs ?_ | refine LRes.mk ?_ | refine LIn.step ?_ | refine zdr ?_ | refine zna (fun _ => ?_) | refine znb (fun _ => ?_) | refine znc (fun _ => ?_) | refine newSlice0 (fun _ => ?_)))
  refine LLoop.inv (Γ := tab) (fun i : Nat => [(0, .slice a l.length c), (1, .slice b l.length c'), (5, .int .i64 i)]) (fun _ => M) (fun i => i ≤ l.length) (fun i => l.length - i) 0 (Nat.zero_le _) zSu zEn ?_
  intro i hi
  by_cases h1 : i < l.length
  · obtain ⟨g, o, rfl, lz⟩ := rx.get h1
    obtain ⟨g', o', rfl, lz'⟩ := ry.get h1
    repeat ((conv => whnf); (first | refine ztx ?_ | refine LNext.nilr ?_ | refine zne ?_ | refine zga ?_ | refine zxa ?_ | refine zca ?_ | refine zcb ?_ | refine zgb ?_ | refine zgd1 ?_ | refine zge ?_ | refine zgf ?_ | refine zgj ?_ | refine zgk ?_ | refine eqStr ?_ | refine neqStr ?_ | refine eqSlNil ?_ | refine capSlice ?_ | refine zgm ?_ | refine zgn ?_ | refine zgo ?_ | refine zba ?_ | refine zbb ?_ | refine zbc ?_ | refine zbd ?_ | refine zbe ?_ | refine zbf ?_ | refine zia ?_ | refine zib ?_ | refine zic ?_ | refine zid1 ?_ | refine zif1 ?_ | refine zig ?_ | refine zih ?_ | refine lint_u8_mod ?_ | refine zua ?_ | refine zgs ?_ | refine LRes.mk ?_ | refine LIn.step ?_ | refine zdr ?_ | refine zna (fun _ => ?_) | refine znb (fun _ => ?_) | refine znc (fun _ => ?_) | refine newSlice0 (fun _ => ?_)))
    exact ⟨i + 1, h1, by omega, zSu, zEn⟩
  · repeat ((conv => whnf); (first | refine ztx ?_ | refine LNext.nilr ?_ | refine zne ?_ | refine zga ?_ | refine zxa ?_ | refine zca ?_ | refine zcb ?_ | refine zgb ?_ | refine zgd1 ?_ | refine zge ?_ | refine zgf ?_ | refine zgj ?_ | refine zgk ?_ | refine eqStr ?_ | refine neqStr ?_ | refine eqSlNil ?_ | refine capSlice ?_ | refine zgm ?_ | refine zgn ?_ | refine zgo ?_ | refine zba ?_ | refine zbb ?_ | refine zbc ?_ | refine zbd ?_ | refine zbe ?_ | refine zbf ?_ | refine zia ?_ | refine zib ?_ | refine zic ?_ | refine zid1 ?_ | refine zif1 ?_ | refine zig ?_ | refine zih ?_ | refine lint_u8_mod ?_ | refine zua ?_ | refine zgs ?_ | refine LRes.mk ?_ | refine LIn.step ?_ | refine zdr ?_ | refine zna (fun _ => ?_) | refine znb (fun _ => ?_) | refine znc (fun _ => ?_) | refine newSlice0 (fun _ => ?_)))
    show Fin _ _ _; exact Fin.of M zEn ⟨rfl, rfl⟩
theorem SStrs2_ct (M : List As) (a b : Option Addr) (c c' : Nat) (l : List ByteArray) (hr : RdH M a 1 encW l) (hr2 : RdH M b 1 encW l) (hl : l.length ≤ 9223372036854775807) :
    Ctr Tryd.prog 29 #[.slice a l.length c, .slice b l.length c'] M (fun v M' => v = .bool true ∧ M' = M) := by
  refine Ctr.rd (okg fn29) hr (fun rx => ?_)
  refine Ctr.rd (okg fn29) hr2 (fun ry => ?_)
  refine ctr_of (Γ := tab) (vs := [_, _]) fn29 rfl ?_
  repeat ((conv => whnf); (first | refine ztx ?_ | refine LNext.nilr ?_ | refine zne ?_ | refine zga ?_ | refine zxa ?_ | refine zca ?_ | refine zcb ?_ | refine zgb ?_ | refine zgd1 ?_ | refine zge ?_ | refine zgf ?_ | refine zgj ?_ | refine zgk ?_ | refine eqStr ?_ | refine neqStr ?_ | refine eqSlNil ?_ | refine capSlice ?_ | refine zgm ?_ | refine zgn ?_ | refine zgo ?_ | refine zba ?_ | refine zbb ?_ | refine zbc ?_ | refine zbd ?_ | refine zbe ?_ | refine zbf ?_ | refine zia ?_ | refine zib ?_ | refine zic ?_ | refine zid1 ?_ | refine zif1 ?_ | refine zig ?_ | refine zih ?_ | refine lint_u8_mod ?_ | refine zua ?_ | refine zgs ?_ | refine LRes.mk ?_ | refine LIn.step ?_ | refine zdr ?_ | refine zna (fun _ => ?_) | refine znb (fun _ => ?_) | refine znc (fun _ => ?_) | refine newSlice0 (fun _ => ?_)))
  refine LLoop.inv (Γ := tab) (fun i : Nat => [(0, .slice a l.length c), (1, .slice b l.length c'), (5, .int .i64 i)]) (fun _ => M) (fun i => i ≤ l.length) (fun i => l.length - i) 0 (Nat.zero_le _) zSu zEn ?_
  intro i hi
  by_cases h1 : i < l.length
  · obtain ⟨g, o, rfl, lz⟩ := rx.get h1
    obtain ⟨g', o', rfl, lz'⟩ := ry.get h1
    repeat ((conv => whnf); (first | refine ztx ?_ | refine LNext.nilr ?_ | refine zne ?_ | refine zga ?_ | refine zxa ?_ | refine zca ?_ | refine zcb ?_ | refine zgb ?_ | refine zgd1 ?_ | refine zge ?_ | refine zgf ?_ | refine zgj ?_ | refine zgk ?_ | refine eqStr ?_ | refine neqStr ?_ | refine eqSlNil ?_ | refine capSlice ?_ | refine zgm ?_ | refine zgn ?_ | refine zgo ?_ | refine zba ?_ | refine zbb ?_ | refine zbc ?_ | refine zbd ?_ | refine zbe ?_ | refine zbf ?_ | refine zia ?_ | refine zib ?_ | refine zic ?_ | refine zid1 ?_ | refine zif1 ?_ | refine zig ?_ | refine zih ?_ | refine lint_u8_mod ?_ | refine zua ?_ | refine zgs ?_ | refine LRes.mk ?_ | refine LIn.step ?_ | refine zdr ?_ | refine zna (fun _ => ?_) | refine znb (fun _ => ?_) | refine znc (fun _ => ?_) | refine newSlice0 (fun _ => ?_)))
    exact ⟨i + 1, h1, by omega, zSu, zEn⟩
  · repeat ((conv => whnf); (first | refine ztx ?_ | refine LNext.nilr ?_ | refine zne ?_ | refine zga ?_ | refine zxa ?_ | refine zca ?_ | refine zcb ?_ | refine zgb ?_ | refine zgd1 ?_ | refine zge ?_ | refine zgf ?_ | refine zgj ?_ | refine zgk ?_ | refine eqStr ?_ | refine neqStr ?_ | refine eqSlNil ?_ | refine capSlice ?_ | refine zgm ?_ | refine zgn ?_ | refine zgo ?_ | refine zba ?_ | refine zbb ?_ | refine zbc ?_ | refine zbd ?_ | refine zbe ?_ | refine zbf ?_ | refine zia ?_ | refine zib ?_ | refine zic ?_ | refine zid1 ?_ | refine zif1 ?_ | refine zig ?_ | refine zih ?_ | refine lint_u8_mod ?_ | refine zua ?_ | refine zgs ?_ | refine LRes.mk ?_ | refine LIn.step ?_ | refine zdr ?_ | refine zna (fun _ => ?_) | refine znb (fun _ => ?_) | refine znc (fun _ => ?_) | refine newSlice0 (fun _ => ?_)))
    show Fin _ _ _; exact Fin.of M zEn ⟨rfl, rfl⟩
theorem SJob2_ct (M : List As) (j j' : JV) (h : RdJ M j) (h' : RdJ M j') (e : nfJ j = nfJ j') : Ctr Tryd.prog 13 #[.agg (encJ j).toArray, .agg (encJ j').toArray] M (fun v M' => v = .bool true ∧ M' = M) := by
  obtain ⟨id, tenant, prio, run, ⟨pa, pc, px⟩, ⟨ta, tc, tx⟩, state, att, ⟨na, nc, nx⟩, start, ⟨da, dc, dx⟩⟩ := j
  obtain ⟨id', tenant', prio', run', ⟨pa', pc', px'⟩, ⟨ta', tc', tx'⟩, state', att', ⟨na', nc', nx'⟩, start', ⟨da', dc', dx'⟩⟩ := j'
  simp only [nfJ, nfS, JV.mk.injEq, SlV.mk.injEq, true_and] at e
  obtain ⟨rfl, rfl, rfl, rfl, rfl, rfl, rfl, rfl, rfl, rfl, rfl⟩ := e
  obtain ⟨hp, ht, hn, hd, lp, lt, ln, ld⟩ := h
  obtain ⟨hp', ht', hn', hd', _, _, _, _⟩ := h'
  dsimp only at hp ht hn hd lp lt ln ld hp' ht' hn' hd'
  dsimp only [encJ]
  refine ctr_of (Γ := tab) (vs := [_, _]) fn13 rfl ?_
  repeat ((conv => whnf); (first | refine ztx ?_ | refine LNext.nilr ?_ | refine zne ?_ | refine zga ?_ | refine zxa ?_ | refine zca ?_ | refine zcb ?_ | refine zgb ?_ | refine zgd1 ?_ | refine zge ?_ | refine zgf ?_ | refine zgj ?_ | refine zgk ?_ | refine eqStr ?_ | refine neqStr ?_ | refine eqSlNil ?_ | refine capSlice ?_ | refine zgm ?_ | refine zgn ?_ | refine zgo ?_ | refine zba ?_ | refine zbb ?_ | refine zbc ?_ | refine zbd ?_ | refine zbe ?_ | refine zbf ?_ | refine zia ?_ | refine zib ?_ | refine zic ?_ | refine zid1 ?_ | refine zif1 ?_ | refine zig ?_ | refine zih ?_ | refine lint_u8_mod ?_ | refine zua ?_ | refine zgs ?_ | refine LRes.mk ?_ | refine LIn.step ?_ | refine zdr ?_ | refine zna (fun _ => ?_) | refine znb (fun _ => ?_) | refine znc (fun _ => ?_) | refine newSlice0 (fun _ => ?_)))
  refine call0 (SInts2_ct _ pa pa' pc pc' px hp.there.there hp'.there.there lp) ?_
  rintro v rfl
  repeat ((conv => whnf); (first | refine ztx ?_ | refine LNext.nilr ?_ | refine zne ?_ | refine zga ?_ | refine zxa ?_ | refine zca ?_ | refine zcb ?_ | refine zgb ?_ | refine zgd1 ?_ | refine zge ?_ | refine zgf ?_ | refine zgj ?_ | refine zgk ?_ | refine eqStr ?_ | refine neqStr ?_ | refine eqSlNil ?_ | refine capSlice ?_ | refine zgm ?_ | refine zgn ?_ | refine zgo ?_ | refine zba ?_ | refine zbb ?_ | refine zbc ?_ | refine zbd ?_ | refine zbe ?_ | refine zbf ?_ | refine zia ?_ | refine zib ?_ | refine zic ?_ | refine zid1 ?_ | refine zif1 ?_ | refine zig ?_ | refine zih ?_ | refine lint_u8_mod ?_ | refine zua ?_ | refine zgs ?_ | refine LRes.mk ?_ | refine LIn.step ?_ | refine zdr ?_ | refine zna (fun _ => ?_) | refine znb (fun _ => ?_) | refine znc (fun _ => ?_) | refine newSlice0 (fun _ => ?_)))
  refine call0 (SVecs2_ct _ ta ta' tc tc' tx ht.there.there ht'.there.there lt) ?_
  rintro v rfl
  repeat ((conv => whnf); (first | refine ztx ?_ | refine LNext.nilr ?_ | refine zne ?_ | refine zga ?_ | refine zxa ?_ | refine zca ?_ | refine zcb ?_ | refine zgb ?_ | refine zgd1 ?_ | refine zge ?_ | refine zgf ?_ | refine zgj ?_ | refine zgk ?_ | refine eqStr ?_ | refine neqStr ?_ | refine eqSlNil ?_ | refine capSlice ?_ | refine zgm ?_ | refine zgn ?_ | refine zgo ?_ | refine zba ?_ | refine zbb ?_ | refine zbc ?_ | refine zbd ?_ | refine zbe ?_ | refine zbf ?_ | refine zia ?_ | refine zib ?_ | refine zic ?_ | refine zid1 ?_ | refine zif1 ?_ | refine zig ?_ | refine zih ?_ | refine lint_u8_mod ?_ | refine zua ?_ | refine zgs ?_ | refine LRes.mk ?_ | refine LIn.step ?_ | refine zdr ?_ | refine zna (fun _ => ?_) | refine znb (fun _ => ?_) | refine znc (fun _ => ?_) | refine newSlice0 (fun _ => ?_)))
  refine call0 (SStrs2_ct _ na na' nc nc' nx hn.there.there hn'.there.there ln) ?_
  rintro v rfl
  repeat ((conv => whnf); (first | refine ztx ?_ | refine LNext.nilr ?_ | refine zne ?_ | refine zga ?_ | refine zxa ?_ | refine zca ?_ | refine zcb ?_ | refine zgb ?_ | refine zgd1 ?_ | refine zge ?_ | refine zgf ?_ | refine zgj ?_ | refine zgk ?_ | refine eqStr ?_ | refine neqStr ?_ | refine eqSlNil ?_ | refine capSlice ?_ | refine zgm ?_ | refine zgn ?_ | refine zgo ?_ | refine zba ?_ | refine zbb ?_ | refine zbc ?_ | refine zbd ?_ | refine zbe ?_ | refine zbf ?_ | refine zia ?_ | refine zib ?_ | refine zic ?_ | refine zid1 ?_ | refine zif1 ?_ | refine zig ?_ | refine zih ?_ | refine lint_u8_mod ?_ | refine zua ?_ | refine zgs ?_ | refine LRes.mk ?_ | refine LIn.step ?_ | refine zdr ?_ | refine zna (fun _ => ?_) | refine znb (fun _ => ?_) | refine znc (fun _ => ?_) | refine newSlice0 (fun _ => ?_)))
  refine call0 (SStrs2_ct _ da da' dc dc' dx hd.there.there hd'.there.there ld) ?_
  rintro v rfl
  repeat ((conv => whnf); (first | refine ztx ?_ | refine LNext.nilr ?_ | refine zne ?_ | refine zga ?_ | refine zxa ?_ | refine zca ?_ | refine zcb ?_ | refine zgb ?_ | refine zgd1 ?_ | refine zge ?_ | refine zgf ?_ | refine zgj ?_ | refine zgk ?_ | refine eqStr ?_ | refine neqStr ?_ | refine eqSlNil ?_ | refine capSlice ?_ | refine zgm ?_ | refine zgn ?_ | refine zgo ?_ | refine zba ?_ | refine zbb ?_ | refine zbc ?_ | refine zbd ?_ | refine zbe ?_ | refine zbf ?_ | refine zia ?_ | refine zib ?_ | refine zic ?_ | refine zid1 ?_ | refine zif1 ?_ | refine zig ?_ | refine zih ?_ | refine lint_u8_mod ?_ | refine zua ?_ | refine zgs ?_ | refine LRes.mk ?_ | refine LIn.step ?_ | refine zdr ?_ | refine zna (fun _ => ?_) | refine znb (fun _ => ?_) | refine znc (fun _ => ?_) | refine newSlice0 (fun _ => ?_)))
  show Fin _ _ _; exact Fin.of M zEn ⟨rfl, rfl⟩
def nfP (p : PV) : PV := { p with job := nfJ p.job, nodes := nfS p.nodes }
structure RdP (M : List As) (p : PV) : Prop where
  job : RdJ M p.job
  nodes : RdH M p.nodes.a 1 encW p.nodes.xs
  ln : p.nodes.xs.length ≤ 9223372036854775807
theorem RdR.pl {M : List As} {r : Rec} (h : RdR M r) : RdP M (recP r) := by
  cases r with
  | sub j => exact ⟨h.1, .nil, Nat.zero_le _⟩
  | placed n l => exact ⟨RdJ.zero, h.1, h.2.1⟩
  | _ => exact ⟨RdJ.zero, .nil, Nat.zero_le _⟩
theorem nfP_rec (r : Rec) : nfP (recP r) = recP (nf r) := by cases r <;> rfl
theorem tenEq (s : ByteArray) (w : Int) (q : V4) : EqL Tryd.prog 9999 25 (.agg #[.string s, .int .i64 w, .int .i64 q.1, .int .i64 q.2.1, .int .i64 q.2.2.1, .int .i64 q.2.2.2]) (.agg #[.string s, .int .i64 w, .int .i64 q.1, .int .i64 q.2.1, .int .i64 q.2.2.1, .int .i64 q.2.2.2]) true :=
  (EqL.struct tab rfl (by decide +kernel) (EqFs.cons (by decide +kernel) (PartIs.one tab rfl rfl) (PartIs.one tab rfl rfl) (EqL.str tab rfl) (EqFs.cons (by decide +kernel) (PartIs.one tab rfl rfl) (PartIs.one tab rfl rfl) (EqL.int tab rfl) (EqFs.cons (by decide +kernel) (PartIs.agg tab rfl rfl rfl) (PartIs.agg tab rfl rfl rfl) (EqL.arr (xs := [q.1, q.2.1, q.2.2.1, q.2.2.2]) (ys := [q.1, q.2.1, q.2.2.1, q.2.2.2]) tab rfl rfl rfl rfl rfl) EqFs.nil)))).cast (by simp)
theorem SameP_ct (M : List As) (p p' : PV) (h : RdP M p) (h' : RdP M p') (e : nfP p = nfP p') : Ctr Tryd.prog 26 #[.agg (encPl p).toArray, .agg (encPl p').toArray] M (fun v M' => v = .bool true ∧ M' = M) := by
  obtain ⟨kind, tname, weight, quota, node, epoch, vec, job, id, ⟨na, nc, nx⟩, state⟩ := p
  obtain ⟨kind', tname', weight', quota', node', epoch', vec', job', id', ⟨na', nc', nx'⟩, state'⟩ := p'
  simp only [nfP, nfS, PV.mk.injEq, SlV.mk.injEq, true_and] at e
  obtain ⟨rfl, rfl, rfl, rfl, rfl, rfl, rfl, ej, rfl, rfl, rfl⟩ := e
  obtain ⟨hj, hn, ln⟩ := h
  obtain ⟨hj', hn', _⟩ := h'
  dsimp only at hj hn ln hj' hn'
  have hjc := fun M h h' => SJob2_ct M job job' h h' ej
  dsimp only [encPl]
  dsimp only [encJ] at hjc
  refine ctr_of (Γ := tab) (vs := [_, _]) fn26 rfl ?_
  repeat ((conv => whnf); (first | refine ztx ?_ | refine LNext.nilr ?_ | refine zne ?_ | refine zga ?_ | refine zxa ?_ | refine zca ?_ | refine zcb ?_ | refine zgb ?_ | refine zgd1 ?_ | refine zge ?_ | refine zgf ?_ | refine zgj ?_ | refine zgk ?_ | refine eqStr ?_ | refine neqStr ?_ | refine eqSlNil ?_ | refine capSlice ?_ | refine zgm ?_ | refine zgn ?_ | refine zgo ?_ | refine zba ?_ | refine zbb ?_ | refine zbc ?_ | refine zbd ?_ | refine zbe ?_ | refine zbf ?_ | refine zia ?_ | refine zib ?_ | refine zic ?_ | refine zid1 ?_ | refine zif1 ?_ | refine zig ?_ | refine zih ?_ | refine lint_u8_mod ?_ | refine zua ?_ | refine zgs ?_ | refine LRes.mk ?_ | refine LIn.step ?_ | refine zdr ?_ | refine zna (fun _ => ?_) | refine znb (fun _ => ?_) | refine znc (fun _ => ?_) | refine newSlice0 (fun _ => ?_)))
  refine neqAgg (tenEq tname weight quota) ?_
  repeat ((conv => whnf); (first | refine ztx ?_ | refine LNext.nilr ?_ | refine zne ?_ | refine zga ?_ | refine zxa ?_ | refine zca ?_ | refine zcb ?_ | refine zgb ?_ | refine zgd1 ?_ | refine zge ?_ | refine zgf ?_ | refine zgj ?_ | refine zgk ?_ | refine eqStr ?_ | refine neqStr ?_ | refine eqSlNil ?_ | refine capSlice ?_ | refine zgm ?_ | refine zgn ?_ | refine zgo ?_ | refine zba ?_ | refine zbb ?_ | refine zbc ?_ | refine zbd ?_ | refine zbe ?_ | refine zbf ?_ | refine zia ?_ | refine zib ?_ | refine zic ?_ | refine zid1 ?_ | refine zif1 ?_ | refine zig ?_ | refine zih ?_ | refine lint_u8_mod ?_ | refine zua ?_ | refine zgs ?_ | refine LRes.mk ?_ | refine LIn.step ?_ | refine zdr ?_ | refine zna (fun _ => ?_) | refine znb (fun _ => ?_) | refine znc (fun _ => ?_) | refine newSlice0 (fun _ => ?_)))
  refine call0 (hjc _ hj.there.there hj'.there.there) ?_
  rintro v rfl
  repeat ((conv => whnf); (first | refine ztx ?_ | refine LNext.nilr ?_ | refine zne ?_ | refine zga ?_ | refine zxa ?_ | refine zca ?_ | refine zcb ?_ | refine zgb ?_ | refine zgd1 ?_ | refine zge ?_ | refine zgf ?_ | refine zgj ?_ | refine zgk ?_ | refine eqStr ?_ | refine neqStr ?_ | refine eqSlNil ?_ | refine capSlice ?_ | refine zgm ?_ | refine zgn ?_ | refine zgo ?_ | refine zba ?_ | refine zbb ?_ | refine zbc ?_ | refine zbd ?_ | refine zbe ?_ | refine zbf ?_ | refine zia ?_ | refine zib ?_ | refine zic ?_ | refine zid1 ?_ | refine zif1 ?_ | refine zig ?_ | refine zih ?_ | refine lint_u8_mod ?_ | refine zua ?_ | refine zgs ?_ | refine LRes.mk ?_ | refine LIn.step ?_ | refine zdr ?_ | refine zna (fun _ => ?_) | refine znb (fun _ => ?_) | refine znc (fun _ => ?_) | refine newSlice0 (fun _ => ?_)))
  refine call0 (SStrs2_ct _ na na' nc nc' nx hn.there.there hn'.there.there ln) ?_
  rintro v rfl
  repeat ((conv => whnf); (first | refine ztx ?_ | refine LNext.nilr ?_ | refine zne ?_ | refine zga ?_ | refine zxa ?_ | refine zca ?_ | refine zcb ?_ | refine zgb ?_ | refine zgd1 ?_ | refine zge ?_ | refine zgf ?_ | refine zgj ?_ | refine zgk ?_ | refine eqStr ?_ | refine neqStr ?_ | refine eqSlNil ?_ | refine capSlice ?_ | refine zgm ?_ | refine zgn ?_ | refine zgo ?_ | refine zba ?_ | refine zbb ?_ | refine zbc ?_ | refine zbd ?_ | refine zbe ?_ | refine zbf ?_ | refine zia ?_ | refine zib ?_ | refine zic ?_ | refine zid1 ?_ | refine zif1 ?_ | refine zig ?_ | refine zih ?_ | refine lint_u8_mod ?_ | refine zua ?_ | refine zgs ?_ | refine LRes.mk ?_ | refine LIn.step ?_ | refine zdr ?_ | refine zna (fun _ => ?_) | refine znb (fun _ => ?_) | refine znc (fun _ => ?_) | refine newSlice0 (fun _ => ?_)))
  show Fin _ _ _; exact Fin.of M zEn ⟨rfl, rfl⟩
theorem Same_ct (M : List As) (r r' : Rec) (h : RdR M r) (h' : RdR M r') (e : nf r = nf r') : Ctr Tryd.prog 26 #[.agg (encPl (recP r)).toArray, .agg (encPl (recP r')).toArray] M (fun v M' => v = .bool true ∧ M' = M) :=
  SameP_ct M _ _ h.pl h'.pl (by rw [nfP_rec, nfP_rec, e])
end Go.Proofs.YtjmfnakplmmpnaaDoor

namespace Go.Proofs.YtjmfnakplmmpnaaDoor
open Go.Sl
set_option linter.unusedVariables false
set_option linter.unusedSimpArgs false
theorem decode_in {s : ByteArray} {i : Nat} (hi : i < s.size) : i + (Utf8.decode s i).2 ≤ s.size := by
  unfold Utf8.decode
  dsimp only
  repeat' split
  all_goals simp_all only [Bool.and_eq_true, decide_eq_true_eq]
  all_goals omega
theorem decode_err (s : ByteArray) (i : Nat) : (Utf8.decode s i).2 = 1 → (Utf8.decode s i).1 < 128 ∨ (Utf8.decode s i).1 = 65533 := by
  unfold Utf8.decode
  dsimp only
  repeat' split
  all_goals intro h
  all_goals first | exact Or.inr rfl | (left; assumption) | (exact absurd (show 2 = 1 from h) (by decide)) | (exact absurd (show 3 = 1 from h) (by decide)) | (exact absurd (show 4 = 1 from h) (by decide))
def ruR (s : ByteArray) (i : Nat) : Nat × Nat := if (Utf8.decode s i).2 = 1 ∧ 128 ≤ (Utf8.decode s i).1 then (0, 0) else Utf8.decode s i
def okC (r : Nat × Nat) : Bool := !decide (r.2 = 0) && decide (32 ≤ r.1) && !decide (r.1 = 127)
def chC (s : ByteArray) (pos : Nat) : Option Nat :=
  if h : pos < s.size then
    if okC (ruR s pos) = true then (chC s (pos + (Utf8.decode s pos).2)).map (· + 1) else none
  else some 0
termination_by s.size - pos
decreasing_by have := decode_pos s pos; omega
theorem chC_step {s : ByteArray} {pos : Nat} (h : pos < s.size) : chC s pos = if okC (ruR s pos) = true then (chC s (pos + (Utf8.decode s pos).2)).map (· + 1) else none := by
  rw [chC, dif_pos h]
theorem chC_end {s : ByteArray} {pos : Nat} (h : ¬ pos < s.size) : chC s pos = some 0 := by
  rw [chC, dif_neg h]
theorem ru_ok {s : ByteArray} {pos : Nat} (h : okR (Utf8.decode s pos).1 = true) : ruR s pos = Utf8.decode s pos ∧ okC (ruR s pos) = true := by
  have h1 := decode_err s pos
  have h2 := decode_pos s pos
  have h3 : ruR s pos = Utf8.decode s pos := by
    unfold ruR
    rw [if_neg]
    rintro ⟨q1, q2⟩
    rcases h1 q1 with q | q
    · omega
    · rw [q] at h; exact absurd h (by decide)
  refine ⟨h3, ?_⟩
  rw [h3]
  simp only [okR, Bool.or_eq_true, Bool.and_eq_true, decide_eq_true_eq] at h
  simp only [okC, Bool.and_eq_true, Bool.not_eq_true', decide_eq_true_eq, decide_eq_false_iff_not]
  omega
theorem ru_bad {s : ByteArray} {pos : Nat} (h : (ruR s pos).2 = 0) : okR (Utf8.decode s pos).1 = false := by
  cases hq : okR (Utf8.decode s pos).1 with
  | false => rfl
  | true =>
    have := (ru_ok hq).1
    rw [this] at h
    have := decode_pos s pos
    omega
theorem ru_same {s : ByteArray} {pos : Nat} (h : (ruR s pos).2 ≠ 0) : ruR s pos = Utf8.decode s pos := by
  unfold ruR at h ⊢
  split
  · rename_i q; rw [if_pos q] at h; exact absurd rfl h
  · rfl
theorem nm_ch (s : ByteArray) : ∀ (m pos n : Nat), s.size - pos ≤ m → nmC s pos = some n → chC s pos = some n
  | 0, pos, n, hm, h => by
    rw [nmC_end (by omega)] at h
    rw [chC_end (by omega)]
    exact h
  | m + 1, pos, n, hm, h => by
    by_cases hp : pos < s.size
    · rw [nmC_step hp] at h
      rw [chC_step hp]
      split at h
      · rename_i hok
        rw [if_pos (ru_ok hok).2]
        have h1 := decode_pos s pos
        cases hq : nmC s (pos + (Utf8.decode s pos).2) with
        | none => rw [hq] at h; cases h
        | some k =>
          rw [hq] at h
          rw [nm_ch s m _ k (by omega) hq]
          exact h
      · cases h
    · rw [nmC_end hp] at h
      rw [chC_end hp]
      exact h
theorem name_none {s : ByteArray} (h : chC s 0 = none) : nameR s = false := by
  unfold nameR
  cases hq : nmC s 0 with
  | none => rfl
  | some n => rw [nm_ch s s.size 0 n (by omega) hq] at h; cases h
theorem name_some {s : ByteArray} {n : Nat} (h : chC s 0 = some n) (hn : ¬ (1 ≤ n ∧ n ≤ 16)) : nameR s = false := by
  unfold nameR
  cases hq : nmC s 0 with
  | none => rfl
  | some m =>
    rw [nm_ch s s.size 0 m (by omega) hq] at h
    injection h with h
    subst h
    simp only [Bool.and_eq_false_iff, decide_eq_false_iff_not]
    omega
def sb (s : ByteArray) (i : Nat) : Nat := (s.get! i).toNat
def two (s : ByteArray) (i : Nat) : Nat := (sb s i % 32) * 64 + sb s (i + 1) % 64
def three (s : ByteArray) (i : Nat) : Nat := (sb s i % 16 * 64 + sb s (i + 1) % 64) * 64 + sb s (i + 2) % 64
def four4 (s : ByteArray) (i : Nat) : Nat := ((sb s i % 8 * 64 + sb s (i + 1) % 64) * 64 + sb s (i + 2) % 64) * 64 + sb s (i + 3) % 64
theorem ru_one {s : ByteArray} {i : Nat} (h : sb s i < 128) : ruR s i = (sb s i, 1) := by
  unfold ruR Utf8.decode
  unfold sb at h ⊢
  dsimp only
  simp only [Nat.add_zero]
  rw [if_pos h, if_neg (by simp; omega)]
theorem ru_else {s : ByteArray} {i : Nat} (h0 : ¬ sb s i < 128) (h1 : sb s i / 32 ≠ 6) (h2 : sb s i / 16 ≠ 14) (h3 : sb s i / 8 ≠ 30) : ruR s i = (0, 0) := by
  unfold ruR Utf8.decode
  unfold sb at h0 h1 h2 h3
  dsimp only
  simp only [Nat.add_zero]
  simp [h0, h1, h2, h3, Utf8.runeError]
theorem ru_two {s : ByteArray} {i : Nat} (h : sb s i / 32 = 6) : ruR s i = if i + 1 < s.size ∧ sb s (i + 1) / 64 = 2 ∧ 128 ≤ two s i then (two s i, 2) else (0, 0) := by
  have h0 : ¬ sb s i < 128 := by omega
  unfold ruR Utf8.decode two
  unfold sb at h h0 ⊢
  dsimp only
  simp only [Nat.add_zero]
  by_cases q1 : i + 1 < s.size ∧ (s.get! (i + 1)).toNat / 64 = 2
  · by_cases q2 : 128 ≤ (s.get! i).toNat % 32 * 64 + (s.get! (i + 1)).toNat % 64
    · simp [h, h0, q1, q2]
    · simp [h, h0, q1, q2, Utf8.runeError]
  · have q3 : (decide (i + 1 < s.size) && (s.get! (i + 1)).toNat / 64 == 2) = false := by
      simp only [Bool.and_eq_false_iff, decide_eq_false_iff_not, beq_eq_false_iff_ne]
      omega
    have a1 : (s.get! i).toNat / 16 ≠ 14 := by omega
    have a2 : (s.get! i).toNat / 8 ≠ 30 := by omega
    rw [if_neg (c := i + 1 < s.size ∧ _) (fun q => q1 ⟨q.1, q.2.1⟩)]
    simp [h, h0, q3, a1, a2, Utf8.runeError]
theorem valid_i {c : Nat} : Utf8.valid (c : Int) = true ↔ c < 55296 ∨ (57344 ≤ c ∧ c ≤ 1114111) := by
  simp only [Utf8.valid, Bool.or_eq_true, Bool.and_eq_true, decide_eq_true_eq]
  omega
theorem ru_three {s : ByteArray} {i : Nat} (h : sb s i / 16 = 14) : ruR s i = if i + 2 < s.size ∧ sb s (i + 1) / 64 = 2 ∧ sb s (i + 2) / 64 = 2 ∧ 2048 ≤ three s i ∧ (three s i < 55296 ∨ 57344 ≤ three s i) then (three s i, 3) else (0, 0) := by
  have h0 : ¬ sb s i < 128 := by omega
  have a1 : (sb s i) / 32 ≠ 6 := by omega
  have a2 : (sb s i) / 8 ≠ 30 := by omega
  have hv := @valid_i (three s i)
  have e : (s.get! i).toNat % 16 * 4096 + (s.get! (i + 1)).toNat % 64 * 64 + (s.get! (i + 2)).toNat % 64 = three s i := by unfold three sb; omega
  have hlt : three s i < 65536 := by unfold three; omega
  unfold ruR Utf8.decode
  dsimp only
  simp only [Nat.add_zero]
  simp only [e]
  generalize three s i = c at hv hlt ⊢
  unfold sb at h h0 a1 a2 ⊢
  by_cases q1 : i + 2 < s.size ∧ (s.get! (i + 1)).toNat / 64 = 2 ∧ (s.get! (i + 2)).toNat / 64 = 2
  · have q0 : i + 1 < s.size := by omega
    by_cases q2 : 2048 ≤ c
    · by_cases q3 : Utf8.valid (c : Int) = true
      · have q4 := hv.1 q3
        have q5 : c < 55296 ∨ 57344 ≤ c := by omega
        rw [if_pos (c := i + 2 < s.size ∧ _) ⟨q1.1, q1.2.1, q1.2.2, q2, q5⟩]
        simp [h, h0, a1, q0, q1, q2, q3]
      · have q5 : ¬ (c < 55296 ∨ 57344 ≤ c) := fun q => q3 (hv.2 (by omega))
        rw [if_neg (c := i + 2 < s.size ∧ _) (fun q => q5 q.2.2.2.2)]
        simp [h, h0, a1, q0, q1, q2, q3, Utf8.runeError]
    · rw [if_neg (c := i + 2 < s.size ∧ _) (fun q => q2 q.2.2.2.1)]
      simp [h, h0, a1, q0, q1, q2, Utf8.runeError]
  · have q3 : (decide (i + 1 < s.size) && (s.get! (i + 1)).toNat / 64 == 2 && (decide (i + 2 < s.size) && (s.get! (i + 2)).toNat / 64 == 2)) = false := by
      simp only [Bool.and_eq_false_iff, decide_eq_false_iff_not, beq_eq_false_iff_ne]
      omega
    have q4 : ((s.get! i).toNat / 16 == 14 && (decide (i + 1 < s.size) && (s.get! (i + 1)).toNat / 64 == 2) && (decide (i + 2 < s.size) && (s.get! (i + 2)).toNat / 64 == 2)) = false := by
      rw [Bool.and_assoc, q3, Bool.and_false]
    rw [if_neg (c := i + 2 < s.size ∧ _) (fun q => q1 ⟨q.1, q.2.1, q.2.2.1⟩)]
    simp only [q4, h0, a1, a2]
    simp [Utf8.runeError, a1, a2]
theorem ru_four {s : ByteArray} {i : Nat} (h : sb s i / 8 = 30) : ruR s i = if i + 3 < s.size ∧ sb s (i + 1) / 64 = 2 ∧ sb s (i + 2) / 64 = 2 ∧ sb s (i + 3) / 64 = 2 ∧ 65536 ≤ four4 s i ∧ four4 s i ≤ 1114111 then (four4 s i, 4) else (0, 0) := by
  have h0 : ¬ sb s i < 128 := by omega
  have a1 : (sb s i) / 32 ≠ 6 := by omega
  have a2 : (sb s i) / 16 ≠ 14 := by omega
  have hv := @valid_i (four4 s i)
  have e : (s.get! i).toNat % 8 * 262144 + (s.get! (i + 1)).toNat % 64 * 4096 + (s.get! (i + 2)).toNat % 64 * 64 + (s.get! (i + 3)).toNat % 64 = four4 s i := by unfold four4 sb; omega
  unfold ruR Utf8.decode
  dsimp only
  simp only [Nat.add_zero]
  simp only [e]
  generalize four4 s i = c at hv ⊢
  unfold sb at h h0 a1 a2 ⊢
  by_cases q1 : i + 3 < s.size ∧ (s.get! (i + 1)).toNat / 64 = 2 ∧ (s.get! (i + 2)).toNat / 64 = 2 ∧ (s.get! (i + 3)).toNat / 64 = 2
  · have q0 : i + 1 < s.size := by omega
    have q00 : i + 2 < s.size := by omega
    by_cases q2 : 65536 ≤ c
    · by_cases q3 : Utf8.valid (c : Int) = true
      · have q4 := hv.1 q3
        have q5 : c ≤ 1114111 := by omega
        rw [if_pos (c := i + 3 < s.size ∧ _) ⟨q1.1, q1.2.1, q1.2.2.1, q1.2.2.2, q2, q5⟩]
        simp [h, h0, a1, a2, q0, q00, q1, q2, q3]
      · have q5 : ¬ c ≤ 1114111 := fun q => q3 (hv.2 (by omega))
        rw [if_neg (c := i + 3 < s.size ∧ _) (fun q => q5 q.2.2.2.2.2)]
        simp [h, h0, a1, a2, q0, q00, q1, q2, q3, Utf8.runeError]
    · rw [if_neg (c := i + 3 < s.size ∧ _) (fun q => q2 q.2.2.2.2.1)]
      simp [h, h0, a1, a2, q0, q00, q1, q2, Utf8.runeError]
  · have q4 : ((s.get! i).toNat / 8 == 30 && (decide (i + 1 < s.size) && (s.get! (i + 1)).toNat / 64 == 2) && (decide (i + 2 < s.size) && (s.get! (i + 2)).toNat / 64 == 2) && (decide (i + 3 < s.size) && (s.get! (i + 3)).toNat / 64 == 2)) = false := by
      simp only [Bool.and_eq_false_iff, decide_eq_false_iff_not, beq_eq_false_iff_ne]
      omega
    rw [if_neg (c := i + 3 < s.size ∧ _) (fun q => q1 ⟨q.1, q.2.1, q.2.2.1, q.2.2.2.1⟩)]
    simp only [q4, h0, a1, a2]
    simp [Utf8.runeError, a1, a2]
end Go.Proofs.YtjmfnakplmmpnaaDoor
