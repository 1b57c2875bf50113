import Derived.Test.YtjgionnigenijaaEv3
/-! Who has to go, walked. -/
namespace Go.Proofs.Ytjgionnigenijaa
open Go.Sl
set_option linter.unusedVariables false
set_option linter.unusedSimpArgs false
set_option maxRecDepth 100000
set_option maxHeartbeats 4000000

/-- All victims' tasks and nodes can be read. -/
structure RdVs (M : List As) (VS : List Vic) : Prop where
  t : ∀ v ∈ VS, RdH M v.tasks.a 4 encV v.tasks.xs
  n : ∀ v ∈ VS, RdH M v.nodes.a 1 encS1 v.nodes.xs
def small (VS : List Vic) : Prop := ∀ v ∈ VS, v.tasks.xs.length ≤ 1000000000000 ∧ v.nodes.xs.length ≤ 1000000000000
def mvV (VS : List Vic) (x : Nat) (S : List Slot) : List Slot × Int := movedR addR (gd VS x).tasks.xs (gd VS x).nodes.xs S
def allGo (VS : List Vic) (S : List Slot) : Nat → List Slot × Int
  | 0 => (S, 0)
  | k + 1 => if (allGo VS S k).2 ≠ 0 then allGo VS S k else mvV VS k (allGo VS S k).1
theorem allGo_stuck {VS : List Vic} {S : List Slot} {k : Nat} (h : (allGo VS S k).2 ≠ 0) : ∀ m, k ≤ m → allGo VS S m = allGo VS S k := by
  intro m hm
  induction m with
  | zero => have : k = 0 := by omega
            subst this; rfl
  | succ m ih =>
    by_cases e : k = m + 1
    · rw [e]
    · show (if (allGo VS S m).2 ≠ 0 then allGo VS S m else _) = _
      rw [ih (by omega), if_pos h]
def chGo (T : List V4) (pr : Int) (VS : List Vic) : List Nat → List Slot → List Int → List ByteArray × Int → List Int × List ByteArray × Int
  | [], _, g, r => (g, r)
  | x :: l, S, g, r => if r.2 = 6 ∧ (gd VS x).prio < pr then chGo T pr VS l (mvV VS x S).1 (g ++ [(gd VS x).job]) (fitR T (mvV VS x S).1) else (g, r)
def chooseR (T : List V4) (pr : Int) (VS : List Vic) (S : List Slot) : List Int × List ByteArray × Int :=
  if (fitR T S).2 ≠ 0 ∧ (fitR T S).2 ≠ 6 then ([], [], (fitR T S).2)
  else if dupJ (jobs VS) VS.length then ([], [], 5)
  else if (allGo VS S VS.length).2 ≠ 0 then ([], [], (allGo VS S VS.length).2)
  else if (chGo T pr VS (ordV VS) S [] (fitR T S)).2.2 ≠ 0 then ([], [], (chGo T pr VS (ordV VS) S [] (fitR T S)).2.2)
  else chGo T pr VS (ordV VS) S [] (fitR T S)
def ChAns (r : List Int × List ByteArray × Int) (M : List As) (v : Value) (M' : List As) : Prop :=
  ∃ a1 c1 a2 c2, (0 < r.1.length → ∃ g, a1 = some ⟨g, 0, none⟩) ∧ (0 < r.2.1.length → ∃ g, a2 = some ⟨g, 0, none⟩) ∧ v = .tuple #[.slice a1 r.1.length c1, .slice a2 r.2.1.length c2, .int .i64 r.2.2] ∧ M' = ERow 2 1 encZ a1 r.1.length c1 r.1 :: ERow 9 1 encS1 a2 r.2.1.length c2 r.2.1 :: M
/-- Where slots lie that can be read. -/
structure XS where
  X : List As
  a : Option Addr
  c : Nat
  L : List Slot
structure ZS where
  k : Nat
  x : XS
  ga : Option Addr
  gc : Nat
  g : List Int
  na : Option Addr
  nc : Nat
  N : List ByteArray
  e : Int
theorem choose_ct (M : List As) (a av a0 : Option Addr) (cap capv cap0 : Nat) (T : List V4) (pr : Int) (VS : List Vic) (S : List Slot) (hr : RdH M a 4 encV T) (hrv : RdH M av 5 encVic VS) (hrs : RdVs M VS) (hr0 : RdH M a0 5 encSlot S)
    (hn : T.length ≤ 1000000000000) (hnv : VS.length ≤ 1000000) (hn0 : S.length ≤ 1000000000000) (hsm : small VS) (hw : ∀ v ∈ VS, i64r v.prio) :
    Ctr Try.prog 11 #[.slice a T.length cap, .int .i64 pr, .slice av VS.length capv, .slice a0 S.length cap0] M (ChAns (chooseR T pr VS S) M) := by
  refine Ctr.rd (okf fn11) hrv (fun hrvd => ?_)
  refine ctr_of (Γ := tab) (vs := [_, _, _, _]) fn11 rfl ?_
  have hch : ∀ q : List Int × List ByteArray × Int, chooseR T pr VS S = q → ChAns q M = ChAns (chooseR T pr VS S) M := fun q e => by rw [e]
  repeat ((conv => whnf); (first | refine ztx ?_ | refine LNext.nilr ?_ | refine zne ?_ | refine zga ?_ | refine zxa ?_ | refine zca ?_ | refine zcb ?_ | refine zgb ?_ | refine zgc ?_ | refine zgd1 ?_ | refine zge ?_ | refine zgf ?_ | refine zgg ?_ | refine zgh ?_ | refine zgi ?_ | refine zgj ?_ | refine zgk ?_ | refine max2m ?_ | refine min2m ?_ | refine eqStr ?_ | refine neqStr ?_ | refine eqSlNil ?_ | refine neqSlNil ?_ | refine eqBool ?_ | refine neqBool ?_ | refine zgl ?_ | refine zgm ?_ | refine zgn ?_ | refine zgo ?_ | refine zba ?_ | refine zbb ?_ | refine zbc ?_ | refine zbd ?_ | refine zbe ?_ | refine zbf ?_ | refine zia ?_ | refine zib ?_ | refine zic ?_ | refine zid1 ?_ | refine zie ?_ | refine zif1 ?_ | refine zig ?_ | refine zih ?_ | refine lint_u8_mod ?_ | refine lint_u32_mod ?_ | refine zii ?_ | refine zij ?_ | refine zua ?_ | refine LRes.mk ?_ | refine LIn.step ?_ | refine zdr ?_ | refine zna (fun _ => ?_) | refine znb (fun _ => ?_) | refine znc (fun _ => ?_) | refine newSlice0 (fun _ => ?_) | refine newMap (fun _ => ?_)))
  refine call3 (fit_ct _ a a0 cap cap0 T S zRd zRd hn hn0) ?_
  rintro v M' ⟨n0, nc0, had0, rfl, rfl⟩
  have nilE : Ent M (ERow 2 1 encZ none 0 0 [] :: ERow 9 1 encS1 none 0 0 [] :: M) := Ent.trans ent_e0 ent_e0
  by_cases he : (fitR T S).2 ≠ 0 ∧ (fitR T S).2 ≠ 6
  · have hR : chooseR T pr VS S = ([], [], (fitR T S).2) := by unfold chooseR; rw [if_pos he]
    rw [← hch _ hR]
    obtain ⟨he1, he2⟩ := he
    repeat ((conv => whnf); (first | refine ztx ?_ | refine LNext.nilr ?_ | refine zne ?_ | refine zga ?_ | refine zxa ?_ | refine zca ?_ | refine zcb ?_ | refine zgb ?_ | refine zgc ?_ | refine zgd1 ?_ | refine zge ?_ | refine zgf ?_ | refine zgg ?_ | refine zgh ?_ | refine zgi ?_ | refine zgj ?_ | refine zgk ?_ | refine max2m ?_ | refine min2m ?_ | refine eqStr ?_ | refine neqStr ?_ | refine eqSlNil ?_ | refine neqSlNil ?_ | refine eqBool ?_ | refine neqBool ?_ | refine zgl ?_ | refine zgm ?_ | refine zgn ?_ | refine zgo ?_ | refine zba ?_ | refine zbb ?_ | refine zbc ?_ | refine zbd ?_ | refine zbe ?_ | refine zbf ?_ | refine zia ?_ | refine zib ?_ | refine zic ?_ | refine zid1 ?_ | refine zie ?_ | refine zif1 ?_ | refine zig ?_ | refine zih ?_ | refine lint_u8_mod ?_ | refine lint_u32_mod ?_ | refine zii ?_ | refine zij ?_ | refine zua ?_ | refine LRes.mk ?_ | refine LIn.step ?_ | refine zdr ?_ | refine zna (fun _ => ?_) | refine znb (fun _ => ?_) | refine znc (fun _ => ?_) | refine newSlice0 (fun _ => ?_) | refine newMap (fun _ => ?_)))
    show Fin _ _ _; exact Fin.of _ (Ent.trans (Split.ent (L := M) zSp) nilE) ⟨none, 0, none, 0, (fun h => absurd h (Nat.lt_irrefl 0)), (fun h => absurd h (Nat.lt_irrefl 0)), rfl, rfl⟩
  have he' : (fitR T S).2 = 0 ∨ (fitR T S).2 = 6 := by omega
  rcases he' with h0 | h0
  all_goals
    repeat ((conv => whnf); (first | refine ztx ?_ | refine LNext.nilr ?_ | refine zne ?_ | refine zga ?_ | refine zxa ?_ | refine zca ?_ | refine zcb ?_ | refine zgb ?_ | refine zgc ?_ | refine zgd1 ?_ | refine zge ?_ | refine zgf ?_ | refine zgg ?_ | refine zgh ?_ | refine zgi ?_ | refine zgj ?_ | refine zgk ?_ | refine max2m ?_ | refine min2m ?_ | refine eqStr ?_ | refine neqStr ?_ | refine eqSlNil ?_ | refine neqSlNil ?_ | refine eqBool ?_ | refine neqBool ?_ | refine zgl ?_ | refine zgm ?_ | refine zgn ?_ | refine zgo ?_ | refine zba ?_ | refine zbb ?_ | refine zbc ?_ | refine zbd ?_ | refine zbe ?_ | refine zbf ?_ | refine zia ?_ | refine zib ?_ | refine zic ?_ | refine zid1 ?_ | refine zie ?_ | refine zif1 ?_ | refine zig ?_ | refine zih ?_ | refine lint_u8_mod ?_ | refine lint_u32_mod ?_ | refine zii ?_ | refine zij ?_ | refine zua ?_ | refine LRes.mk ?_ | refine LIn.step ?_ | refine zdr ?_ | refine zna (fun _ => ?_) | refine znb (fun _ => ?_) | refine znc (fun _ => ?_) | refine newSlice0 (fun _ => ?_) | refine newMap (fun _ => ?_)))
    refine call0 (twice_ct _ av capv VS zRd hnv) ?_
    rintro v rfl
    cases hdj : dupJ (jobs VS) VS.length with
    | true =>
      have hR : chooseR T pr VS S = ([], [], 5) := by unfold chooseR; rw [if_neg he, if_pos hdj]
      rw [← hch _ hR]
      repeat ((conv => whnf); (first | refine ztx ?_ | refine LNext.nilr ?_ | refine zne ?_ | refine zga ?_ | refine zxa ?_ | refine zca ?_ | refine zcb ?_ | refine zgb ?_ | refine zgc ?_ | refine zgd1 ?_ | refine zge ?_ | refine zgf ?_ | refine zgg ?_ | refine zgh ?_ | refine zgi ?_ | refine zgj ?_ | refine zgk ?_ | refine max2m ?_ | refine min2m ?_ | refine eqStr ?_ | refine neqStr ?_ | refine eqSlNil ?_ | refine neqSlNil ?_ | refine eqBool ?_ | refine neqBool ?_ | refine zgl ?_ | refine zgm ?_ | refine zgn ?_ | refine zgo ?_ | refine zba ?_ | refine zbb ?_ | refine zbc ?_ | refine zbd ?_ | refine zbe ?_ | refine zbf ?_ | refine zia ?_ | refine zib ?_ | refine zic ?_ | refine zid1 ?_ | refine zie ?_ | refine zif1 ?_ | refine zig ?_ | refine zih ?_ | refine lint_u8_mod ?_ | refine lint_u32_mod ?_ | refine zii ?_ | refine zij ?_ | refine zua ?_ | refine LRes.mk ?_ | refine LIn.step ?_ | refine zdr ?_ | refine zna (fun _ => ?_) | refine znb (fun _ => ?_) | refine znc (fun _ => ?_) | refine newSlice0 (fun _ => ?_) | refine newMap (fun _ => ?_)))
      show Fin _ _ _; exact Fin.of (ERow 2 1 encZ none 0 0 [] :: ERow 9 1 encS1 none 0 0 [] :: M) (Ent.trans (Split.ent (L := M) zSp) nilE) ⟨none, 0, none, 0, (fun h => absurd h (Nat.lt_irrefl 0)), (fun h => absurd h (Nat.lt_irrefl 0)), rfl, rfl⟩
    | false =>
      have hd := dup_iff.1 hdj
      have io := ordV_is hd
      repeat ((conv => whnf); (first | refine ztx ?_ | refine LNext.nilr ?_ | refine zne ?_ | refine zga ?_ | refine zxa ?_ | refine zca ?_ | refine zcb ?_ | refine zgb ?_ | refine zgc ?_ | refine zgd1 ?_ | refine zge ?_ | refine zgf ?_ | refine zgg ?_ | refine zgh ?_ | refine zgi ?_ | refine zgj ?_ | refine zgk ?_ | refine max2m ?_ | refine min2m ?_ | refine eqStr ?_ | refine neqStr ?_ | refine eqSlNil ?_ | refine neqSlNil ?_ | refine eqBool ?_ | refine neqBool ?_ | refine zgl ?_ | refine zgm ?_ | refine zgn ?_ | refine zgo ?_ | refine zba ?_ | refine zbb ?_ | refine zbc ?_ | refine zbd ?_ | refine zbe ?_ | refine zbf ?_ | refine zia ?_ | refine zib ?_ | refine zic ?_ | refine zid1 ?_ | refine zie ?_ | refine zif1 ?_ | refine zig ?_ | refine zih ?_ | refine lint_u8_mod ?_ | refine lint_u32_mod ?_ | refine zii ?_ | refine zij ?_ | refine zua ?_ | refine LRes.mk ?_ | refine LIn.step ?_ | refine zdr ?_ | refine zna (fun _ => ?_) | refine znb (fun _ => ?_) | refine znc (fun _ => ?_) | refine newSlice0 (fun _ => ?_) | refine newMap (fun _ => ?_)))
      refine LLoop.inv (Γ := tab) (fun x : Nat × XS => [(0, .slice a T.length cap), (1, .int .i64 pr), (2, .slice av VS.length capv), (3, .slice a0 S.length cap0), (11, .slice n0 (fitR T S).1.length nc0), (12, .int .i64 (fitR T S).2), (13, .slice x.2.a x.2.L.length x.2.c), (40, .slice av VS.length capv), (41, .int .i64 VS.length), (42, .int .i64 x.1)])
        (fun x => x.2.X ++ (ERow 9 1 encS1 n0 (fitR T S).1.length nc0 (fitR T S).1 :: M)) (fun x => x.1 ≤ VS.length ∧ allGo VS S x.1 = (x.2.L, 0) ∧ x.2.L.length ≤ S.length ∧ RdH (x.2.X ++ (ERow 9 1 encS1 n0 (fitR T S).1.length nc0 (fitR T S).1 :: M)) x.2.a 5 encSlot x.2.L) (fun x => VS.length - x.1)
        (0, ⟨[], a0, cap0, S⟩) ⟨by simp, rfl, Nat.le_refl _, hr0.there⟩ zSu zEn ?_
      rintro ⟨k, X, xa, xc, L⟩ ⟨hk, hgo, hLl, hxr⟩
      dsimp only at hk hgo hLl hxr ⊢
      by_cases h1 : k < VS.length
      · obtain ⟨vb, vo, rfl, hlies⟩ := hrvd.get h1
        have hmem : gd VS k ∈ VS := gd_mem h1
        have ht := hrs.t _ hmem
        have hnn := hrs.n _ hmem
        have hs := hsm _ hmem
        have hml := movedR_len addR (gd VS k).tasks.xs (gd VS k).nodes.xs L
        have hnext : allGo VS S (k + 1) = mvV VS k L := by
          show (if (allGo VS S k).2 ≠ 0 then _ else mvV VS k (allGo VS S k).1) = _
          rw [hgo]; rfl
        repeat ((conv => whnf); (first | refine ztx ?_ | refine LNext.nilr ?_ | refine zne ?_ | refine zga ?_ | refine zxa ?_ | refine zca ?_ | refine zcb ?_ | refine zgb ?_ | refine zgc ?_ | refine zgd1 ?_ | refine zge ?_ | refine zgf ?_ | refine zgg ?_ | refine zgh ?_ | refine zgi ?_ | refine zgj ?_ | refine zgk ?_ | refine max2m ?_ | refine min2m ?_ | refine eqStr ?_ | refine neqStr ?_ | refine eqSlNil ?_ | refine neqSlNil ?_ | refine eqBool ?_ | refine neqBool ?_ | refine zgl ?_ | refine zgm ?_ | refine zgn ?_ | refine zgo ?_ | refine zba ?_ | refine zbb ?_ | refine zbc ?_ | refine zbd ?_ | refine zbe ?_ | refine zbf ?_ | refine zia ?_ | refine zib ?_ | refine zic ?_ | refine zid1 ?_ | refine zie ?_ | refine zif1 ?_ | refine zig ?_ | refine zih ?_ | refine lint_u8_mod ?_ | refine lint_u32_mod ?_ | refine zii ?_ | refine zij ?_ | refine zua ?_ | refine LRes.mk ?_ | refine LIn.step ?_ | refine zdr ?_ | refine zna (fun _ => ?_) | refine znb (fun _ => ?_) | refine znc (fun _ => ?_) | refine newSlice0 (fun _ => ?_) | refine newMap (fun _ => ?_)))
        refine call3 (before_ct _ (gd VS k).tasks.a (gd VS k).nodes.a xa (gd VS k).tasks.cap (gd VS k).nodes.cap xc (gd VS k).tasks.xs (gd VS k).nodes.xs L zRd zRd zRd hs.1 hs.2 (by omega)) ?_
        rintro v M' ⟨a1, c1, had1, rfl, rfl⟩
        by_cases hz : (movedR addR (gd VS k).tasks.xs (gd VS k).nodes.xs L).2 = 0
        · repeat ((conv => whnf); (first | refine ztx ?_ | refine LNext.nilr ?_ | refine zne ?_ | refine zga ?_ | refine zxa ?_ | refine zca ?_ | refine zcb ?_ | refine zgb ?_ | refine zgc ?_ | refine zgd1 ?_ | refine zge ?_ | refine zgf ?_ | refine zgg ?_ | refine zgh ?_ | refine zgi ?_ | refine zgj ?_ | refine zgk ?_ | refine max2m ?_ | refine min2m ?_ | refine eqStr ?_ | refine neqStr ?_ | refine eqSlNil ?_ | refine neqSlNil ?_ | refine eqBool ?_ | refine neqBool ?_ | refine zgl ?_ | refine zgm ?_ | refine zgn ?_ | refine zgo ?_ | refine zba ?_ | refine zbb ?_ | refine zbc ?_ | refine zbd ?_ | refine zbe ?_ | refine zbf ?_ | refine zia ?_ | refine zib ?_ | refine zic ?_ | refine zid1 ?_ | refine zie ?_ | refine zif1 ?_ | refine zig ?_ | refine zih ?_ | refine lint_u8_mod ?_ | refine lint_u32_mod ?_ | refine zii ?_ | refine zij ?_ | refine zua ?_ | refine LRes.mk ?_ | refine LIn.step ?_ | refine zdr ?_ | refine zna (fun _ => ?_) | refine znb (fun _ => ?_) | refine znc (fun _ => ?_) | refine newSlice0 (fun _ => ?_) | refine newMap (fun _ => ?_)))
          refine ⟨(k + 1, ⟨ERow 55 5 encSlot a1 (movedR addR (gd VS k).tasks.xs (gd VS k).nodes.xs L).1.length c1 (movedR addR (gd VS k).tasks.xs (gd VS k).nodes.xs L).1 :: X, a1, c1, (movedR addR (gd VS k).tasks.xs (gd VS k).nodes.xs L).1⟩), ⟨h1, ?_, ?_, ?_⟩, by show VS.length - (k + 1) < VS.length - k; omega, zSu, zEn⟩
          · rw [hnext]; unfold mvV; exact Prod.ext rfl hz
          · show (movedR addR (gd VS k).tasks.xs (gd VS k).nodes.xs L).1.length ≤ S.length; omega
          · show RdH (ERow 55 5 encSlot a1 _ c1 _ :: (X ++ _)) a1 5 encSlot _
            exact RdH.erow (by intro _; rfl)
        · have hR : chooseR T pr VS S = ([], [], (movedR addR (gd VS k).tasks.xs (gd VS k).nodes.xs L).2) := by
            have hst : allGo VS S VS.length = mvV VS k L := by
              rw [allGo_stuck (k := k + 1) (by rw [hnext]; exact hz) _ h1, hnext]
            unfold chooseR
            rw [if_neg he, if_neg (by rw [hdj]; simp), if_pos (by rw [hst]; exact hz), hst]; rfl
          rw [← hch _ hR]
          repeat ((conv => whnf); (first | refine ztx ?_ | refine LNext.nilr ?_ | refine zne ?_ | refine zga ?_ | refine zxa ?_ | refine zca ?_ | refine zcb ?_ | refine zgb ?_ | refine zgc ?_ | refine zgd1 ?_ | refine zge ?_ | refine zgf ?_ | refine zgg ?_ | refine zgh ?_ | refine zgi ?_ | refine zgj ?_ | refine zgk ?_ | refine max2m ?_ | refine min2m ?_ | refine eqStr ?_ | refine neqStr ?_ | refine eqSlNil ?_ | refine neqSlNil ?_ | refine eqBool ?_ | refine neqBool ?_ | refine zgl ?_ | refine zgm ?_ | refine zgn ?_ | refine zgo ?_ | refine zba ?_ | refine zbb ?_ | refine zbc ?_ | refine zbd ?_ | refine zbe ?_ | refine zbf ?_ | refine zia ?_ | refine zib ?_ | refine zic ?_ | refine zid1 ?_ | refine zie ?_ | refine zif1 ?_ | refine zig ?_ | refine zih ?_ | refine lint_u8_mod ?_ | refine lint_u32_mod ?_ | refine zii ?_ | refine zij ?_ | refine zua ?_ | refine LRes.mk ?_ | refine LIn.step ?_ | refine zdr ?_ | refine zna (fun _ => ?_) | refine znb (fun _ => ?_) | refine znc (fun _ => ?_) | refine newSlice0 (fun _ => ?_) | refine newMap (fun _ => ?_)))
          show Fin _ _ _; exact Fin.of (ERow 2 1 encZ none 0 0 [] :: ERow 9 1 encS1 none 0 0 [] :: M) (Ent.trans (Split.ent (L := M) zSp) nilE) ⟨none, 0, none, 0, (fun h => absurd h (Nat.lt_irrefl 0)), (fun h => absurd h (Nat.lt_irrefl 0)), rfl, rfl⟩
      · have : k = VS.length := by omega
        subst this
        have hR0 : chooseR T pr VS S = if (chGo T pr VS (ordV VS) S [] (fitR T S)).2.2 ≠ 0 then ([], [], (chGo T pr VS (ordV VS) S [] (fitR T S)).2.2) else chGo T pr VS (ordV VS) S [] (fitR T S) := by
          unfold chooseR
          rw [if_neg he, if_neg (by rw [hdj]; simp), if_neg (by rw [hgo]; simp)]
        repeat ((conv => whnf); (first | refine ztx ?_ | refine LNext.nilr ?_ | refine zne ?_ | refine zga ?_ | refine zxa ?_ | refine zca ?_ | refine zcb ?_ | refine zgb ?_ | refine zgc ?_ | refine zgd1 ?_ | refine zge ?_ | refine zgf ?_ | refine zgg ?_ | refine zgh ?_ | refine zgi ?_ | refine zgj ?_ | refine zgk ?_ | refine max2m ?_ | refine min2m ?_ | refine eqStr ?_ | refine neqStr ?_ | refine eqSlNil ?_ | refine neqSlNil ?_ | refine eqBool ?_ | refine neqBool ?_ | refine zgl ?_ | refine zgm ?_ | refine zgn ?_ | refine zgo ?_ | refine zba ?_ | refine zbb ?_ | refine zbc ?_ | refine zbd ?_ | refine zbe ?_ | refine zbf ?_ | refine zia ?_ | refine zib ?_ | refine zic ?_ | refine zid1 ?_ | refine zie ?_ | refine zif1 ?_ | refine zig ?_ | refine zih ?_ | refine lint_u8_mod ?_ | refine lint_u32_mod ?_ | refine zii ?_ | refine zij ?_ | refine zua ?_ | refine LRes.mk ?_ | refine LIn.step ?_ | refine zdr ?_ | refine zna (fun _ => ?_) | refine znb (fun _ => ?_) | refine znc (fun _ => ?_) | refine newSlice0 (fun _ => ?_) | refine newMap (fun _ => ?_)))
        refine call3 (heap_ct _ av capv VS zRd hnv hw) ?_
        rintro v M' ⟨q, h, rfl, hp, hg, hin, hl, rfl⟩
        repeat ((conv => whnf); (first | refine ztx ?_ | refine LNext.nilr ?_ | refine zne ?_ | refine zga ?_ | refine zxa ?_ | refine zca ?_ | refine zcb ?_ | refine zgb ?_ | refine zgc ?_ | refine zgd1 ?_ | refine zge ?_ | refine zgf ?_ | refine zgg ?_ | refine zgh ?_ | refine zgi ?_ | refine zgj ?_ | refine zgk ?_ | refine max2m ?_ | refine min2m ?_ | refine eqStr ?_ | refine neqStr ?_ | refine eqSlNil ?_ | refine neqSlNil ?_ | refine eqBool ?_ | refine neqBool ?_ | refine zgl ?_ | refine zgm ?_ | refine zgn ?_ | refine zgo ?_ | refine zba ?_ | refine zbb ?_ | refine zbc ?_ | refine zbd ?_ | refine zbe ?_ | refine zbf ?_ | refine zia ?_ | refine zib ?_ | refine zic ?_ | refine zid1 ?_ | refine zie ?_ | refine zif1 ?_ | refine zig ?_ | refine zih ?_ | refine lint_u8_mod ?_ | refine lint_u32_mod ?_ | refine zii ?_ | refine zij ?_ | refine zua ?_ | refine LRes.mk ?_ | refine LIn.step ?_ | refine zdr ?_ | refine zna (fun _ => ?_) | refine znb (fun _ => ?_) | refine znc (fun _ => ?_) | refine newSlice0 (fun _ => ?_) | refine newMap (fun _ => ?_)))
        refine LLoop.inv (Γ := tab) (fun x : Pq × HS × ZS => [(0, .slice a T.length cap), (1, .int .i64 pr), (2, .slice av VS.length capv), (3, .slice x.2.2.x.a x.2.2.x.L.length x.2.2.x.c), (11, .slice x.2.2.na x.2.2.N.length x.2.2.nc), (12, .int .i64 x.2.2.e), (18, .slice x.2.2.ga x.2.2.g.length x.2.2.gc), (19, .pointer (some ⟨x.1.b, 0, none⟩))])
          (fun x => HMq x.1 (VS.map vkey) x.2.1 ++ (ERow 2 1 encZ x.2.2.ga x.2.2.g.length x.2.2.gc x.2.2.g :: ERow 9 1 encS1 x.2.2.na x.2.2.N.length x.2.2.nc x.2.2.N :: (x.2.2.x.X ++ M)))
          (fun x => x.2.2.k ≤ VS.length ∧ Hp (VS.map vkey) x.2.1 ∧ Good x.1 (VS.map vkey) ∧ (∀ y, In x.2.1 y ↔ y ∈ (ordV VS).drop x.2.2.k) ∧ x.2.1.A.length = VS.length - x.2.2.k ∧ RdH (x.2.2.x.X ++ M) x.2.2.x.a 5 encSlot x.2.2.x.L ∧ x.2.2.x.L.length ≤ S.length
            ∧ (0 < x.2.2.g.length → ∃ g, x.2.2.ga = some ⟨g, 0, none⟩) ∧ (0 < x.2.2.N.length → ∃ g, x.2.2.na = some ⟨g, 0, none⟩) ∧ x.2.2.g.length ≤ x.2.2.k
            ∧ chGo T pr VS ((ordV VS).drop x.2.2.k) x.2.2.x.L x.2.2.g (x.2.2.N, x.2.2.e) = chGo T pr VS (ordV VS) S [] (fitR T S)) (fun x => VS.length - x.2.2.k)
          (q, h, ⟨0, ⟨[], a0, cap0, S⟩, none, 0, [], n0, nc0, (fitR T S).1, (fitR T S).2⟩) ⟨by simp, hp, hg, fun y => by rw [hin y]; show _ ↔ y ∈ (ordV VS).drop 0; rw [List.drop_zero, io.mem], hl, hr0, Nat.le_refl _, (fun h => absurd h (Nat.lt_irrefl 0)), had0, Nat.le_refl _, rfl⟩ zSu zEn ?_
        clear hp hg hin hl hxr hLl hgo
        rintro ⟨q, h, k, ⟨X, xa, xc, L⟩, ga, gc, g, na, nc, N, e⟩ ⟨hk, hp, hg, hin, hl, hxr, hLl, hga, hna, hgl, heq⟩
        dsimp only at hk hp hg hin hl hxr hLl hga hna hgl heq ⊢
        by_cases he6 : e = 6
        case neg =>
          have hst : chGo T pr VS ((ordV VS).drop k) L g (N, e) = (g, N, e) := by
            cases (ordV VS).drop k with
            | nil => rfl
            | cons x l => show (if e = 6 ∧ _ then _ else _) = _; rw [if_neg (fun q => he6 q.1)]
          rw [hst] at heq
          repeat ((conv => whnf); (first | refine ztx ?_ | refine LNext.nilr ?_ | refine zne ?_ | refine zga ?_ | refine zxa ?_ | refine zca ?_ | refine zcb ?_ | refine zgb ?_ | refine zgc ?_ | refine zgd1 ?_ | refine zge ?_ | refine zgf ?_ | refine zgg ?_ | refine zgh ?_ | refine zgi ?_ | refine zgj ?_ | refine zgk ?_ | refine max2m ?_ | refine min2m ?_ | refine eqStr ?_ | refine neqStr ?_ | refine eqSlNil ?_ | refine neqSlNil ?_ | refine eqBool ?_ | refine neqBool ?_ | refine zgl ?_ | refine zgm ?_ | refine zgn ?_ | refine zgo ?_ | refine zba ?_ | refine zbb ?_ | refine zbc ?_ | refine zbd ?_ | refine zbe ?_ | refine zbf ?_ | refine zia ?_ | refine zib ?_ | refine zic ?_ | refine zid1 ?_ | refine zie ?_ | refine zif1 ?_ | refine zig ?_ | refine zih ?_ | refine lint_u8_mod ?_ | refine lint_u32_mod ?_ | refine zii ?_ | refine zij ?_ | refine zua ?_ | refine LRes.mk ?_ | refine LIn.step ?_ | refine zdr ?_ | refine zna (fun _ => ?_) | refine znb (fun _ => ?_) | refine znc (fun _ => ?_) | refine newSlice0 (fun _ => ?_) | refine newMap (fun _ => ?_)))
          by_cases hez : e = 0
          · have hR : chooseR T pr VS S = (g, N, 0) := by rw [hR0, ← heq]; simp [hez]
            rw [← hch _ hR]
            repeat ((conv => whnf); (first | refine ztx ?_ | refine LNext.nilr ?_ | refine zne ?_ | refine zga ?_ | refine zxa ?_ | refine zca ?_ | refine zcb ?_ | refine zgb ?_ | refine zgc ?_ | refine zgd1 ?_ | refine zge ?_ | refine zgf ?_ | refine zgg ?_ | refine zgh ?_ | refine zgi ?_ | refine zgj ?_ | refine zgk ?_ | refine max2m ?_ | refine min2m ?_ | refine eqStr ?_ | refine neqStr ?_ | refine eqSlNil ?_ | refine neqSlNil ?_ | refine eqBool ?_ | refine neqBool ?_ | refine zgl ?_ | refine zgm ?_ | refine zgn ?_ | refine zgo ?_ | refine zba ?_ | refine zbb ?_ | refine zbc ?_ | refine zbd ?_ | refine zbe ?_ | refine zbf ?_ | refine zia ?_ | refine zib ?_ | refine zic ?_ | refine zid1 ?_ | refine zie ?_ | refine zif1 ?_ | refine zig ?_ | refine zih ?_ | refine lint_u8_mod ?_ | refine lint_u32_mod ?_ | refine zii ?_ | refine zij ?_ | refine zua ?_ | refine LRes.mk ?_ | refine LIn.step ?_ | refine zdr ?_ | refine zna (fun _ => ?_) | refine znb (fun _ => ?_) | refine znc (fun _ => ?_) | refine newSlice0 (fun _ => ?_) | refine newMap (fun _ => ?_)))
            show Fin _ _ _; exact Fin.of (ERow 2 1 encZ ga g.length gc g :: ERow 9 1 encS1 na N.length nc N :: M) zEn ⟨ga, gc, na, nc, hga, hna, rfl, rfl⟩
          · have hR : chooseR T pr VS S = ([], [], e) := by rw [hR0, ← heq]; simp [hez]
            rw [← hch _ hR]
            repeat ((conv => whnf); (first | refine ztx ?_ | refine LNext.nilr ?_ | refine zne ?_ | refine zga ?_ | refine zxa ?_ | refine zca ?_ | refine zcb ?_ | refine zgb ?_ | refine zgc ?_ | refine zgd1 ?_ | refine zge ?_ | refine zgf ?_ | refine zgg ?_ | refine zgh ?_ | refine zgi ?_ | refine zgj ?_ | refine zgk ?_ | refine max2m ?_ | refine min2m ?_ | refine eqStr ?_ | refine neqStr ?_ | refine eqSlNil ?_ | refine neqSlNil ?_ | refine eqBool ?_ | refine neqBool ?_ | refine zgl ?_ | refine zgm ?_ | refine zgn ?_ | refine zgo ?_ | refine zba ?_ | refine zbb ?_ | refine zbc ?_ | refine zbd ?_ | refine zbe ?_ | refine zbf ?_ | refine zia ?_ | refine zib ?_ | refine zic ?_ | refine zid1 ?_ | refine zie ?_ | refine zif1 ?_ | refine zig ?_ | refine zih ?_ | refine lint_u8_mod ?_ | refine lint_u32_mod ?_ | refine zii ?_ | refine zij ?_ | refine zua ?_ | refine LRes.mk ?_ | refine LIn.step ?_ | refine zdr ?_ | refine zna (fun _ => ?_) | refine znb (fun _ => ?_) | refine znc (fun _ => ?_) | refine newSlice0 (fun _ => ?_) | refine newMap (fun _ => ?_)))
            show Fin _ _ _; exact Fin.of (ERow 2 1 encZ none 0 0 [] :: ERow 9 1 encS1 none 0 0 [] :: M) (Ent.trans (Split.ent (L := M) zSp) nilE) ⟨none, 0, none, 0, (fun h => absurd h (Nat.lt_irrefl 0)), (fun h => absurd h (Nat.lt_irrefl 0)), rfl, rfl⟩
        repeat ((conv => whnf); (first | refine ztx ?_ | refine LNext.nilr ?_ | refine zne ?_ | refine zga ?_ | refine zxa ?_ | refine zca ?_ | refine zcb ?_ | refine zgb ?_ | refine zgc ?_ | refine zgd1 ?_ | refine zge ?_ | refine zgf ?_ | refine zgg ?_ | refine zgh ?_ | refine zgi ?_ | refine zgj ?_ | refine zgk ?_ | refine max2m ?_ | refine min2m ?_ | refine eqStr ?_ | refine neqStr ?_ | refine eqSlNil ?_ | refine neqSlNil ?_ | refine eqBool ?_ | refine neqBool ?_ | refine zgl ?_ | refine zgm ?_ | refine zgn ?_ | refine zgo ?_ | refine zba ?_ | refine zbb ?_ | refine zbc ?_ | refine zbd ?_ | refine zbe ?_ | refine zbf ?_ | refine zia ?_ | refine zib ?_ | refine zic ?_ | refine zid1 ?_ | refine zie ?_ | refine zif1 ?_ | refine zig ?_ | refine zih ?_ | refine lint_u8_mod ?_ | refine lint_u32_mod ?_ | refine zii ?_ | refine zij ?_ | refine zua ?_ | refine LRes.mk ?_ | refine LIn.step ?_ | refine zdr ?_ | refine zna (fun _ => ?_) | refine znb (fun _ => ?_) | refine znc (fun _ => ?_) | refine newSlice0 (fun _ => ?_) | refine newMap (fun _ => ?_)))
        refine call1 (Len_ct q (VS.map vkey) h) zSp ?_
        rintro v M' ⟨rfl, rfl⟩
        by_cases h1 : k < VS.length
        case neg =>
          have hst : chGo T pr VS ((ordV VS).drop k) L g (N, e) = (g, N, e) := by
            rw [List.drop_of_length_le (by rw [io.length]; omega)]; rfl
          rw [hst] at heq
          repeat ((conv => whnf); (first | refine ztx ?_ | refine LNext.nilr ?_ | refine zne ?_ | refine zga ?_ | refine zxa ?_ | refine zca ?_ | refine zcb ?_ | refine zgb ?_ | refine zgc ?_ | refine zgd1 ?_ | refine zge ?_ | refine zgf ?_ | refine zgg ?_ | refine zgh ?_ | refine zgi ?_ | refine zgj ?_ | refine zgk ?_ | refine max2m ?_ | refine min2m ?_ | refine eqStr ?_ | refine neqStr ?_ | refine eqSlNil ?_ | refine neqSlNil ?_ | refine eqBool ?_ | refine neqBool ?_ | refine zgl ?_ | refine zgm ?_ | refine zgn ?_ | refine zgo ?_ | refine zba ?_ | refine zbb ?_ | refine zbc ?_ | refine zbd ?_ | refine zbe ?_ | refine zbf ?_ | refine zia ?_ | refine zib ?_ | refine zic ?_ | refine zid1 ?_ | refine zie ?_ | refine zif1 ?_ | refine zig ?_ | refine zih ?_ | refine lint_u8_mod ?_ | refine lint_u32_mod ?_ | refine zii ?_ | refine zij ?_ | refine zua ?_ | refine LRes.mk ?_ | refine LIn.step ?_ | refine zdr ?_ | refine zna (fun _ => ?_) | refine znb (fun _ => ?_) | refine znc (fun _ => ?_) | refine newSlice0 (fun _ => ?_) | refine newMap (fun _ => ?_)))
          have hez : ¬ e = 0 := by omega
          have hR : chooseR T pr VS S = ([], [], e) := by rw [hR0, ← heq]; simp [hez]
          rw [← hch _ hR]
          repeat ((conv => whnf); (first | refine ztx ?_ | refine LNext.nilr ?_ | refine zne ?_ | refine zga ?_ | refine zxa ?_ | refine zca ?_ | refine zcb ?_ | refine zgb ?_ | refine zgc ?_ | refine zgd1 ?_ | refine zge ?_ | refine zgf ?_ | refine zgg ?_ | refine zgh ?_ | refine zgi ?_ | refine zgj ?_ | refine zgk ?_ | refine max2m ?_ | refine min2m ?_ | refine eqStr ?_ | refine neqStr ?_ | refine eqSlNil ?_ | refine neqSlNil ?_ | refine eqBool ?_ | refine neqBool ?_ | refine zgl ?_ | refine zgm ?_ | refine zgn ?_ | refine zgo ?_ | refine zba ?_ | refine zbb ?_ | refine zbc ?_ | refine zbd ?_ | refine zbe ?_ | refine zbf ?_ | refine zia ?_ | refine zib ?_ | refine zic ?_ | refine zid1 ?_ | refine zie ?_ | refine zif1 ?_ | refine zig ?_ | refine zih ?_ | refine lint_u8_mod ?_ | refine lint_u32_mod ?_ | refine zii ?_ | refine zij ?_ | refine zua ?_ | refine LRes.mk ?_ | refine LIn.step ?_ | refine zdr ?_ | refine zna (fun _ => ?_) | refine znb (fun _ => ?_) | refine znc (fun _ => ?_) | refine newSlice0 (fun _ => ?_) | refine newMap (fun _ => ?_)))
          show Fin _ _ _; exact Fin.of (ERow 2 1 encZ none 0 0 [] :: ERow 9 1 encS1 none 0 0 [] :: M) (Ent.trans (Split.ent (L := M) zSp) nilE) ⟨none, 0, none, 0, (fun h => absurd h (Nat.lt_irrefl 0)), (fun h => absurd h (Nat.lt_irrefl 0)), rfl, rfl⟩
        have hko : k < (ordV VS).length := by rw [io.length]; exact h1
        have hxl : gd (ordV VS) k < VS.length := io.mem.1 (gd_mem hko)
        obtain ⟨vb, vo, rfl, hlies⟩ := hrvd.get hxl
        obtain ⟨p1, p2, p3⟩ := pop_next hd hp hin hl h1
        rw [gd_drop hko, chGo] at heq
        have hmem : gd VS (gd (ordV VS) k) ∈ VS := gd_mem hxl
        have ht := hrs.t _ hmem
        have hnn := hrs.n _ hmem
        have hs := hsm _ hmem
        have hml := movedR_len addR (gd VS (gd (ordV VS) k)).tasks.xs (gd VS (gd (ordV VS) k)).nodes.xs L
        repeat ((conv => whnf); (first | refine ztx ?_ | refine LNext.nilr ?_ | refine zne ?_ | refine zga ?_ | refine zxa ?_ | refine zca ?_ | refine zcb ?_ | refine zgb ?_ | refine zgc ?_ | refine zgd1 ?_ | refine zge ?_ | refine zgf ?_ | refine zgg ?_ | refine zgh ?_ | refine zgi ?_ | refine zgj ?_ | refine zgk ?_ | refine max2m ?_ | refine min2m ?_ | refine eqStr ?_ | refine neqStr ?_ | refine eqSlNil ?_ | refine neqSlNil ?_ | refine eqBool ?_ | refine neqBool ?_ | refine zgl ?_ | refine zgm ?_ | refine zgn ?_ | refine zgo ?_ | refine zba ?_ | refine zbb ?_ | refine zbc ?_ | refine zbd ?_ | refine zbe ?_ | refine zbf ?_ | refine zia ?_ | refine zib ?_ | refine zic ?_ | refine zid1 ?_ | refine zie ?_ | refine zif1 ?_ | refine zig ?_ | refine zih ?_ | refine lint_u8_mod ?_ | refine lint_u32_mod ?_ | refine zii ?_ | refine zij ?_ | refine zua ?_ | refine LRes.mk ?_ | refine LIn.step ?_ | refine zdr ?_ | refine zna (fun _ => ?_) | refine znb (fun _ => ?_) | refine znc (fun _ => ?_) | refine newSlice0 (fun _ => ?_) | refine newMap (fun _ => ?_)))
        refine call1 (PopMax_ct q (VS.map vkey) h hp.o hg) zSp ?_
        rintro v M' ⟨rfl, rfl⟩
        have hpp := hp.pop (maxR (VS.map vkey) h)
        rw [p1] at *
        rw [show ans3 (gd (ordV VS) k, key (VS.map vkey) (gd (ordV VS) k), 0) = Value.tuple #[.int .i64 ((gd (ordV VS) k : Nat) : Int), kv (key (VS.map vkey) (gd (ordV VS) k)), .int .i64 0] from rfl]
        by_cases hpr : (gd VS (gd (ordV VS) k)).prio < pr
        case neg =>
          rw [if_neg (fun q => hpr q.2)] at heq
          repeat ((conv => whnf); (first | refine ztx ?_ | refine LNext.nilr ?_ | refine zne ?_ | refine zga ?_ | refine zxa ?_ | refine zca ?_ | refine zcb ?_ | refine zgb ?_ | refine zgc ?_ | refine zgd1 ?_ | refine zge ?_ | refine zgf ?_ | refine zgg ?_ | refine zgh ?_ | refine zgi ?_ | refine zgj ?_ | refine zgk ?_ | refine max2m ?_ | refine min2m ?_ | refine eqStr ?_ | refine neqStr ?_ | refine eqSlNil ?_ | refine neqSlNil ?_ | refine eqBool ?_ | refine neqBool ?_ | refine zgl ?_ | refine zgm ?_ | refine zgn ?_ | refine zgo ?_ | refine zba ?_ | refine zbb ?_ | refine zbc ?_ | refine zbd ?_ | refine zbe ?_ | refine zbf ?_ | refine zia ?_ | refine zib ?_ | refine zic ?_ | refine zid1 ?_ | refine zie ?_ | refine zif1 ?_ | refine zig ?_ | refine zih ?_ | refine lint_u8_mod ?_ | refine lint_u32_mod ?_ | refine zii ?_ | refine zij ?_ | refine zua ?_ | refine LRes.mk ?_ | refine LIn.step ?_ | refine zdr ?_ | refine zna (fun _ => ?_) | refine znb (fun _ => ?_) | refine znc (fun _ => ?_) | refine newSlice0 (fun _ => ?_) | refine newMap (fun _ => ?_)))
          have hez : ¬ e = 0 := by omega
          have hR : chooseR T pr VS S = ([], [], e) := by rw [hR0, ← heq]; simp [hez]
          rw [← hch _ hR]
          repeat ((conv => whnf); (first | refine ztx ?_ | refine LNext.nilr ?_ | refine zne ?_ | refine zga ?_ | refine zxa ?_ | refine zca ?_ | refine zcb ?_ | refine zgb ?_ | refine zgc ?_ | refine zgd1 ?_ | refine zge ?_ | refine zgf ?_ | refine zgg ?_ | refine zgh ?_ | refine zgi ?_ | refine zgj ?_ | refine zgk ?_ | refine max2m ?_ | refine min2m ?_ | refine eqStr ?_ | refine neqStr ?_ | refine eqSlNil ?_ | refine neqSlNil ?_ | refine eqBool ?_ | refine neqBool ?_ | refine zgl ?_ | refine zgm ?_ | refine zgn ?_ | refine zgo ?_ | refine zba ?_ | refine zbb ?_ | refine zbc ?_ | refine zbd ?_ | refine zbe ?_ | refine zbf ?_ | refine zia ?_ | refine zib ?_ | refine zic ?_ | refine zid1 ?_ | refine zie ?_ | refine zif1 ?_ | refine zig ?_ | refine zih ?_ | refine lint_u8_mod ?_ | refine lint_u32_mod ?_ | refine zii ?_ | refine zij ?_ | refine zua ?_ | refine LRes.mk ?_ | refine LIn.step ?_ | refine zdr ?_ | refine zna (fun _ => ?_) | refine znb (fun _ => ?_) | refine znc (fun _ => ?_) | refine newSlice0 (fun _ => ?_) | refine newMap (fun _ => ?_)))
          show Fin _ _ _; exact Fin.of (ERow 2 1 encZ none 0 0 [] :: ERow 9 1 encS1 none 0 0 [] :: M) (Ent.trans (Split.ent (L := M) zSp) nilE) ⟨none, 0, none, 0, (fun h => absurd h (Nat.lt_irrefl 0)), (fun h => absurd h (Nat.lt_irrefl 0)), rfl, rfl⟩
        rw [if_pos ⟨he6, hpr⟩] at heq
        repeat ((conv => whnf); (first | refine ztx ?_ | refine LNext.nilr ?_ | refine zne ?_ | refine zga ?_ | refine zxa ?_ | refine zca ?_ | refine zcb ?_ | refine zgb ?_ | refine zgc ?_ | refine zgd1 ?_ | refine zge ?_ | refine zgf ?_ | refine zgg ?_ | refine zgh ?_ | refine zgi ?_ | refine zgj ?_ | refine zgk ?_ | refine max2m ?_ | refine min2m ?_ | refine eqStr ?_ | refine neqStr ?_ | refine eqSlNil ?_ | refine neqSlNil ?_ | refine eqBool ?_ | refine neqBool ?_ | refine zgl ?_ | refine zgm ?_ | refine zgn ?_ | refine zgo ?_ | refine zba ?_ | refine zbb ?_ | refine zbc ?_ | refine zbd ?_ | refine zbe ?_ | refine zbf ?_ | refine zia ?_ | refine zib ?_ | refine zic ?_ | refine zid1 ?_ | refine zie ?_ | refine zif1 ?_ | refine zig ?_ | refine zih ?_ | refine lint_u8_mod ?_ | refine lint_u32_mod ?_ | refine zii ?_ | refine zij ?_ | refine zua ?_ | refine LRes.mk ?_ | refine LIn.step ?_ | refine zdr ?_ | refine zna (fun _ => ?_) | refine znb (fun _ => ?_) | refine znc (fun _ => ?_) | refine newSlice0 (fun _ => ?_) | refine newMap (fun _ => ?_)))
        refine call3 (before_ct _ (gd VS (gd (ordV VS) k)).tasks.a (gd VS (gd (ordV VS) k)).nodes.a xa (gd VS (gd (ordV VS) k)).tasks.cap (gd VS (gd (ordV VS) k)).nodes.cap xc (gd VS (gd (ordV VS) k)).tasks.xs (gd VS (gd (ordV VS) k)).nodes.xs L zRd zRd zRd hs.1 hs.2 (by omega)) ?_
        rintro v M' ⟨a1, c1, had1, rfl, rfl⟩
        unfold mvV at heq
        generalize (movedR addR (gd VS (gd (ordV VS) k)).tasks.xs (gd VS (gd (ordV VS) k)).nodes.xs L).1 = L2 at *
        generalize (movedR addR (gd VS (gd (ordV VS) k)).tasks.xs (gd VS (gd (ordV VS) k)).nodes.xs L).2 = e2 at *
        repeat ((conv => whnf); (first | refine ztx ?_ | refine LNext.nilr ?_ | refine zne ?_ | refine zga ?_ | refine zxa ?_ | refine zca ?_ | refine zcb ?_ | refine zgb ?_ | refine zgc ?_ | refine zgd1 ?_ | refine zge ?_ | refine zgf ?_ | refine zgg ?_ | refine zgh ?_ | refine zgi ?_ | refine zgj ?_ | refine zgk ?_ | refine max2m ?_ | refine min2m ?_ | refine eqStr ?_ | refine neqStr ?_ | refine eqSlNil ?_ | refine neqSlNil ?_ | refine eqBool ?_ | refine neqBool ?_ | refine zgl ?_ | refine zgm ?_ | refine zgn ?_ | refine zgo ?_ | refine zba ?_ | refine zbb ?_ | refine zbc ?_ | refine zbd ?_ | refine zbe ?_ | refine zbf ?_ | refine zia ?_ | refine zib ?_ | refine zic ?_ | refine zid1 ?_ | refine zie ?_ | refine zif1 ?_ | refine zig ?_ | refine zih ?_ | refine lint_u8_mod ?_ | refine lint_u32_mod ?_ | refine zii ?_ | refine zij ?_ | refine zua ?_ | refine LRes.mk ?_ | refine LIn.step ?_ | refine zdr ?_ | refine zna (fun _ => ?_) | refine znb (fun _ => ?_) | refine znc (fun _ => ?_) | refine newSlice0 (fun _ => ?_) | refine newMap (fun _ => ?_)))
        refine appendE tab (enc := encZ) (xs := g) ([(gd VS (gd (ordV VS) k)).job]) zTk (by intro _; rfl) rfl rfl rfl rfl rfl zCs (by intro x hx; simp at hx; subst hx; rfl) (by simp only [maxLen]; omega) (by omega) (by omega) (fun gg cc => ?_)
        repeat ((conv => whnf); (first | refine ztx ?_ | refine LNext.nilr ?_ | refine zne ?_ | refine zga ?_ | refine zxa ?_ | refine zca ?_ | refine zcb ?_ | refine zgb ?_ | refine zgc ?_ | refine zgd1 ?_ | refine zge ?_ | refine zgf ?_ | refine zgg ?_ | refine zgh ?_ | refine zgi ?_ | refine zgj ?_ | refine zgk ?_ | refine max2m ?_ | refine min2m ?_ | refine eqStr ?_ | refine neqStr ?_ | refine eqSlNil ?_ | refine neqSlNil ?_ | refine eqBool ?_ | refine neqBool ?_ | refine zgl ?_ | refine zgm ?_ | refine zgn ?_ | refine zgo ?_ | refine zba ?_ | refine zbb ?_ | refine zbc ?_ | refine zbd ?_ | refine zbe ?_ | refine zbf ?_ | refine zia ?_ | refine zib ?_ | refine zic ?_ | refine zid1 ?_ | refine zie ?_ | refine zif1 ?_ | refine zig ?_ | refine zih ?_ | refine lint_u8_mod ?_ | refine lint_u32_mod ?_ | refine zii ?_ | refine zij ?_ | refine zua ?_ | refine LRes.mk ?_ | refine LIn.step ?_ | refine zdr ?_ | refine zna (fun _ => ?_) | refine znb (fun _ => ?_) | refine znc (fun _ => ?_) | refine newSlice0 (fun _ => ?_) | refine newMap (fun _ => ?_)))
        refine call3 (fit_ct _ a a1 cap c1 T L2 zRd zRd hn (by omega)) ?_
        rintro v M' ⟨n2, nc2, had2, rfl, rfl⟩
        repeat ((conv => whnf); (first | refine ztx ?_ | refine LNext.nilr ?_ | refine zne ?_ | refine zga ?_ | refine zxa ?_ | refine zca ?_ | refine zcb ?_ | refine zgb ?_ | refine zgc ?_ | refine zgd1 ?_ | refine zge ?_ | refine zgf ?_ | refine zgg ?_ | refine zgh ?_ | refine zgi ?_ | refine zgj ?_ | refine zgk ?_ | refine max2m ?_ | refine min2m ?_ | refine eqStr ?_ | refine neqStr ?_ | refine eqSlNil ?_ | refine neqSlNil ?_ | refine eqBool ?_ | refine neqBool ?_ | refine zgl ?_ | refine zgm ?_ | refine zgn ?_ | refine zgo ?_ | refine zba ?_ | refine zbb ?_ | refine zbc ?_ | refine zbd ?_ | refine zbe ?_ | refine zbf ?_ | refine zia ?_ | refine zib ?_ | refine zic ?_ | refine zid1 ?_ | refine zie ?_ | refine zif1 ?_ | refine zig ?_ | refine zih ?_ | refine lint_u8_mod ?_ | refine lint_u32_mod ?_ | refine zii ?_ | refine zij ?_ | refine zua ?_ | refine LRes.mk ?_ | refine LIn.step ?_ | refine zdr ?_ | refine zna (fun _ => ?_) | refine znb (fun _ => ?_) | refine znc (fun _ => ?_) | refine newSlice0 (fun _ => ?_) | refine newMap (fun _ => ?_)))
        refine ⟨(q, popH (VS.map vkey) h (gd (ordV VS) k, key (VS.map vkey) (gd (ordV VS) k), 0), ⟨k + 1, ⟨ERow 55 5 encSlot a1 L2.length c1 L2 :: X, a1, c1, L2⟩, some ⟨gg, 0, none⟩, cc, g ++ [(gd VS (gd (ordV VS) k)).job], n2, nc2, (fitR T L2).1, (fitR T L2).2⟩), ⟨h1, hpp, hg, p2, p3, ?_, ?_, (fun _ => ⟨gg, rfl⟩), had2, ?_, heq⟩, by show VS.length - (k + 1) < VS.length - k; omega, ?_, ?_⟩
        · show RdH (ERow 55 5 encSlot a1 L2.length c1 L2 :: (X ++ M)) a1 5 encSlot L2
          exact RdH.erow (by intro _; rfl)
        · show L2.length ≤ S.length; omega
        · show (g ++ [_]).length ≤ k + 1; rw [List.length_append]; simp; omega
        · dsimp only
          rw [List.length_append]
          exact zSu
        · dsimp only
          rw [List.length_append]
          exact zEn
end Go.Proofs.Ytjgionnigenijaa
