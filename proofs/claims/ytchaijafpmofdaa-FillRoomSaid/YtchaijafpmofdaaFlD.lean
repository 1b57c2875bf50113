import Derived.Test.YtchaijafpmofdaaFlR
import Derived.Test.YtchaijafpmofdaaFlB
import Derived.Test.YtchaijafpmofdaaRf16d
/-! fill.lined, walked. -/
namespace Go.Proofs.Ytchaijafpmofdaa
open Go.Sl
set_option linter.unusedVariables false
set_option linter.unusedSimpArgs false
set_option maxRecDepth 100000
set_option maxHeartbeats 1000000

abbrev vs (RS : List RunT) : List RunV := RS.map RunT.v
/-- Where slots lie that can be read. -/
structure XS where
  X : List As
  a : Option Addr
  c : Nat
  L : List Slot
structure LS where
  i : Nat
  a : Option Addr
  c : Nat
  PS : List PfC
structure MS where
  m : Nat
  g : Nat
  kc : Nat
  PS : List PfC
theorem pfs_new {pb : Nat} {c : V4} {l : List PfC} {Y : List As} : Ent (PT pb c none 0 0 0 :: Pfs l :: Y) (Pfs (l ++ [⟨pb, c, none, 0, 0, []⟩]) :: Y) :=
  Ent.trans (ent_e0 (α := StepT) (enc := encStep) (E := 104) (sz := 5)) (Ent.trans (fun h s => s.swap) (pfs_snoc (p := ⟨pb, c, none, 0, 0, []⟩)))
theorem givR_cons (r : RunV) (rs : List RunV) (S : List Slot) : givR (r :: rs) S = if (movedR addR r.T r.N S).2 = 0 then givR rs (movedR addR r.T r.N S).1 else ([], (movedR addR r.T r.N S).2) := rfl
/-- The ticks of a line when m runs are done. -/
def tks (now : Int) (rs : List RunV) (m : Nat) : List Int := now :: (rs.take m).map (endR now)
theorem tks_succ {now : Int} {rs : List RunV} {m : Nat} (h : m < rs.length) : tks now rs (m + 1) = tks now rs m ++ [endR now (gd rs m)] := by
  unfold tks
  rw [gd_take h, List.map_append]; rfl
theorem pbs_set {PS : List PfC} {q : Nat} (h : q < PS.length) {p : PfC} (e : p.pb = (gd PS q).pb) : pbs (PS.set q p) = pbs PS := by
  unfold pbs
  refine gd_ext (by simp) (fun j hj => ?_)
  rw [List.length_map, List.length_set] at hj
  rw [gd_map (by rw [List.length_set]; exact hj), gd_map hj, gd_set h]
  split
  · rename_i z; rw [z, e]
  · rfl
theorem sortd_merge (K : List Int) : sortd (K.mergeSort (fun x y => decide (x ≤ y))) := by
  have h := List.pairwise_mergeSort (le := fun x y : Int => decide (x ≤ y)) (fun a b c h1 h2 => by simp at *; omega) (fun a b => by simp; omega) K
  intro a b hab hb
  rw [gd_eq (by omega), gd_eq hb]
  have := List.pairwise_iff_getElem.1 h a b (by omega) hb hab
  simpa using this
def noLine : Value := .agg #[.slice none 0 0, .slice none 0 0, .slice none 0 0]
/-- What lined answers. -/
def LinedAns (now : Int) (a0 : Option Addr) (cap0 : Nat) (S : List Slot) (RS : List RunT) (M : List As) (v : Value) (M' : List As) : Prop :=
  if (givR (vs RS) S).2 ≠ 0 then v = .tuple #[.agg #[.slice none 0 0, .slice none 0 0, .slice none 0 0], .int .i64 (givR (vs RS) S).2] ∧ M' = M
  else ∃ ap capp g capk PS Y, v = .tuple #[.agg #[.slice a0 S.length cap0, .slice ap S.length capp, .slice (some ⟨g, 0, none⟩) (Y : List Int).length capk], .int .i64 0]
    ∧ M' = Pfs PS :: ERow 75 1 encPt ap S.length capp (pbs PS) :: ERow 2 1 encZ (some ⟨g, 0, none⟩) Y.length capk Y :: M
    ∧ (∃ W, LnInv now S W PS (takN now (vs RS)) ∧ givR (vs RS) S = (W, 0)) ∧ (∀ a b, a < b → b < Y.length → gd Y a < gd Y b) ∧ (∀ t, t ∈ Y ↔ t = now ∨ ∃ r ∈ vs RS, t = endR now r) ∧ Y.length ≤ RS.length + 1
theorem lined_ct (now : Int) (M : List As) (av a0 : Option Addr) (capv cap0 : Nat) (RS : List RunT) (S : List Slot) (hrv : RdH M av 4 encRun RS) (hrs : RdRs M RS) (hr0 : RdH M a0 5 encSlot S)
    (hnv : RS.length ≤ 100) (hn0 : S.length ≤ 1000000) (hsm : smallR RS) (hd : dist S) (hS : ∀ i, i < S.length → formed (gd S i).2 = true) (h0 : 0 ≤ now) (h1 : now < 1099511627776) (hfin : ∀ r ∈ RS, r.fin ≤ 1099511627776) :
    Ctr Try.prog 16 #[.int .i64 now, .slice av RS.length capv, .slice a0 S.length cap0] M (LinedAns now a0 cap0 S RS M) := by
  refine Ctr.rd (okf fn16) hrv (fun hrvd => ?_)
  refine ctr_of (Γ := tab) (vs := [_, _, _]) fn16 rfl ?_
  repeat ((conv => whnf); (first | refine ztx ?_ | refine LNext.nilr ?_ | refine zne ?_ | refine zga ?_ | refine zxa ?_ | refine zca ?_ | refine zcb ?_ | refine zgb ?_ | refine zgc ?_ | refine zgd1 ?_ | refine zge ?_ | refine zgf ?_ | refine zgg ?_ | refine zgh ?_ | refine zgi ?_ | refine zgj ?_ | refine zgk ?_ | refine max2m ?_ | refine min2m ?_ | refine eqStr ?_ | refine neqStr ?_ | refine eqSlNil ?_ | refine neqSlNil ?_ | refine eqBool ?_ | refine neqBool ?_ | refine capSlice ?_ | refine zgl ?_ | refine zgm ?_ | refine zgn ?_ | refine zgo ?_ | refine zba ?_ | refine zbb ?_ | refine zbc ?_ | refine zbd ?_ | refine zbe ?_ | refine zbf ?_ | refine zia ?_ | refine zib ?_ | refine zic ?_ | refine zid1 ?_ | refine zie ?_ | refine zif1 ?_ | refine zig ?_ | refine zih ?_ | refine lint_u8_mod ?_ | refine lint_u32_mod ?_ | refine zii ?_ | refine zij ?_ | refine zua ?_ | refine zgs ?_ | refine zgu ?_ | refine eqMapNil ?_ | refine neqMapNil ?_ | refine LRes.mk ?_ | refine LIn.step ?_ | refine zdr ?_ | refine zna (fun _ => ?_) | refine znb (fun _ => ?_) | refine znc (fun _ => ?_) | refine newSlice0 (fun _ => ?_) | refine newMap (fun _ => ?_)))
  rename_i rb
  have hvl : (vs RS).length = RS.length := List.length_map _
  refine LLoop.inv (Γ := tab) (fun x : Nat × XS => [(0, .int .i64 now), (1, .slice av RS.length capv), (2, .slice a0 S.length cap0), (6, .pointer (some ⟨rb, 0, none⟩)), (8, .slice x.2.a x.2.L.length x.2.c), (25, .slice av RS.length capv), (26, .int .i64 RS.length), (27, .int .i64 x.1)])
    (fun x => x.2.X ++ (pt rb (.cells #[.slice none 0 0, .slice none 0 0, .slice none 0 0] 53) :: M)) (fun x => x.1 ≤ RS.length ∧ givR ((vs RS).drop x.1) x.2.L = givR (vs RS) S ∧ x.2.L.length ≤ S.length ∧ RdH (x.2.X ++ (pt rb (.cells #[.slice none 0 0, .slice none 0 0, .slice none 0 0] 53) :: M)) x.2.a 5 encSlot x.2.L) (fun x => RS.length - x.1)
    (0, ⟨[], a0, cap0, S⟩) ⟨Nat.zero_le _, rfl, Nat.le_refl _, hr0.there⟩ zSu zEn ?_
  rintro ⟨k, X, xa, xc, L⟩ ⟨hk, hgo, hLl, hxr⟩
  dsimp only at hk hgo hLl hxr ⊢
  by_cases hlt : k < RS.length
  · obtain ⟨vb, vo, rfl, hlies⟩ := hrvd.get hlt
    have hmem : gd RS k ∈ RS := gd_mem hlt
    have ht := hrs.t _ hmem
    have hnn := hrs.n _ hmem
    have hs := hsm _ hmem
    have hml := movedR_len addR (gd RS k).tasks.xs (gd RS k).nodes.xs L
    rw [gd_drop (by rw [hvl]; exact hlt), gd_map hlt] at hgo
    rw [givR_cons] at hgo
    rw [show (RunT.v (gd RS k)).T = (gd RS k).tasks.xs from rfl, show (RunT.v (gd RS k)).N = (gd RS k).nodes.xs from rfl] at hgo
    repeat ((conv => whnf); (first | refine ztx ?_ | refine LNext.nilr ?_ | refine zne ?_ | refine zga ?_ | refine zxa ?_ | refine zca ?_ | refine zcb ?_ | refine zgb ?_ | refine zgc ?_ | refine zgd1 ?_ | refine zge ?_ | refine zgf ?_ | refine zgg ?_ | refine zgh ?_ | refine zgi ?_ | refine zgj ?_ | refine zgk ?_ | refine max2m ?_ | refine min2m ?_ | refine eqStr ?_ | refine neqStr ?_ | refine eqSlNil ?_ | refine neqSlNil ?_ | refine eqBool ?_ | refine neqBool ?_ | refine capSlice ?_ | refine zgl ?_ | refine zgm ?_ | refine zgn ?_ | refine zgo ?_ | refine zba ?_ | refine zbb ?_ | refine zbc ?_ | refine zbd ?_ | refine zbe ?_ | refine zbf ?_ | refine zia ?_ | refine zib ?_ | refine zic ?_ | refine zid1 ?_ | refine zie ?_ | refine zif1 ?_ | refine zig ?_ | refine zih ?_ | refine lint_u8_mod ?_ | refine lint_u32_mod ?_ | refine zii ?_ | refine zij ?_ | refine zua ?_ | refine zgs ?_ | refine zgu ?_ | refine eqMapNil ?_ | refine neqMapNil ?_ | refine LRes.mk ?_ | refine LIn.step ?_ | refine zdr ?_ | refine zna (fun _ => ?_) | refine znb (fun _ => ?_) | refine znc (fun _ => ?_) | refine newSlice0 (fun _ => ?_) | refine newMap (fun _ => ?_)))
    refine call3 (before_ct _ (gd RS k).tasks.a (gd RS k).nodes.a xa (gd RS k).tasks.cap (gd RS k).nodes.cap xc (gd RS k).tasks.xs (gd RS k).nodes.xs L zRd zRd zRd hs.1 hs.2 (by omega)) ?_
    rintro v M' ⟨a1, c1, had1, rfl, rfl⟩
    by_cases hz : (movedR addR (gd RS k).tasks.xs (gd RS k).nodes.xs L).2 = 0
    · rw [if_pos hz] at hgo
      repeat ((conv => whnf); (first | refine ztx ?_ | refine LNext.nilr ?_ | refine zne ?_ | refine zga ?_ | refine zxa ?_ | refine zca ?_ | refine zcb ?_ | refine zgb ?_ | refine zgc ?_ | refine zgd1 ?_ | refine zge ?_ | refine zgf ?_ | refine zgg ?_ | refine zgh ?_ | refine zgi ?_ | refine zgj ?_ | refine zgk ?_ | refine max2m ?_ | refine min2m ?_ | refine eqStr ?_ | refine neqStr ?_ | refine eqSlNil ?_ | refine neqSlNil ?_ | refine eqBool ?_ | refine neqBool ?_ | refine capSlice ?_ | refine zgl ?_ | refine zgm ?_ | refine zgn ?_ | refine zgo ?_ | refine zba ?_ | refine zbb ?_ | refine zbc ?_ | refine zbd ?_ | refine zbe ?_ | refine zbf ?_ | refine zia ?_ | refine zib ?_ | refine zic ?_ | refine zid1 ?_ | refine zie ?_ | refine zif1 ?_ | refine zig ?_ | refine zih ?_ | refine lint_u8_mod ?_ | refine lint_u32_mod ?_ | refine zii ?_ | refine zij ?_ | refine zua ?_ | refine zgs ?_ | refine zgu ?_ | refine eqMapNil ?_ | refine neqMapNil ?_ | refine LRes.mk ?_ | refine LIn.step ?_ | refine zdr ?_ | refine zna (fun _ => ?_) | refine znb (fun _ => ?_) | refine znc (fun _ => ?_) | refine newSlice0 (fun _ => ?_) | refine newMap (fun _ => ?_)))
      refine ⟨(k + 1, ⟨ERow 48 5 encSlot a1 (movedR addR (gd RS k).tasks.xs (gd RS k).nodes.xs L).1.length c1 (movedR addR (gd RS k).tasks.xs (gd RS k).nodes.xs L).1 :: X, a1, c1, (movedR addR (gd RS k).tasks.xs (gd RS k).nodes.xs L).1⟩), ⟨hlt, hgo, ?_, ?_⟩, by show RS.length - (k + 1) < RS.length - k; omega, zSu, zEn⟩
      · show (movedR addR (gd RS k).tasks.xs (gd RS k).nodes.xs L).1.length ≤ S.length; omega
      · show RdH (ERow 48 5 encSlot a1 _ c1 _ :: (X ++ _)) a1 5 encSlot _
        exact RdH.erow (by intro _; rfl)
    · rw [if_neg hz] at hgo
      have hR : LinedAns now a0 cap0 S RS M = fun v M' => v = .tuple #[.agg #[.slice none 0 0, .slice none 0 0, .slice none 0 0], .int .i64 (movedR addR (gd RS k).tasks.xs (gd RS k).nodes.xs L).2] ∧ M' = M := by
        funext v M'
        unfold LinedAns
        rw [← hgo, if_pos hz]
      rw [hR]
      repeat ((conv => whnf); (first | refine ztx ?_ | refine LNext.nilr ?_ | refine zne ?_ | refine zga ?_ | refine zxa ?_ | refine zca ?_ | refine zcb ?_ | refine zgb ?_ | refine zgc ?_ | refine zgd1 ?_ | refine zge ?_ | refine zgf ?_ | refine zgg ?_ | refine zgh ?_ | refine zgi ?_ | refine zgj ?_ | refine zgk ?_ | refine max2m ?_ | refine min2m ?_ | refine eqStr ?_ | refine neqStr ?_ | refine eqSlNil ?_ | refine neqSlNil ?_ | refine eqBool ?_ | refine neqBool ?_ | refine capSlice ?_ | refine zgl ?_ | refine zgm ?_ | refine zgn ?_ | refine zgo ?_ | refine zba ?_ | refine zbb ?_ | refine zbc ?_ | refine zbd ?_ | refine zbe ?_ | refine zbf ?_ | refine zia ?_ | refine zib ?_ | refine zic ?_ | refine zid1 ?_ | refine zie ?_ | refine zif1 ?_ | refine zig ?_ | refine zih ?_ | refine lint_u8_mod ?_ | refine lint_u32_mod ?_ | refine zii ?_ | refine zij ?_ | refine zua ?_ | refine zgs ?_ | refine zgu ?_ | refine eqMapNil ?_ | refine neqMapNil ?_ | refine LRes.mk ?_ | refine LIn.step ?_ | refine zdr ?_ | refine zna (fun _ => ?_) | refine znb (fun _ => ?_) | refine znc (fun _ => ?_) | refine newSlice0 (fun _ => ?_) | refine newMap (fun _ => ?_)))
      show Fin _ _ _; exact Fin.of M zEn ⟨rfl, rfl⟩
  have hk' : k = RS.length := by omega
  subst hk'
  have hgv : givR (vs RS) S = (L, 0) := by
    rw [← hgo, List.drop_of_length_le (by rw [hvl]; exact Nat.le_refl _)]; rfl
  clear hgo
  obtain ⟨hg, hWf, hok⟩ := giv_spec hd hS hgv
  have hll : L.length = S.length := hg.len
  have hR : LinedAns now a0 cap0 S RS M = fun v M' => ∃ ap capp g capk PS Y, v = .tuple #[.agg #[.slice a0 S.length cap0, .slice ap S.length capp, .slice (some ⟨g, 0, none⟩) (Y : List Int).length capk], .int .i64 0]
    ∧ M' = Pfs PS :: ERow 75 1 encPt ap S.length capp (pbs PS) :: ERow 2 1 encZ (some ⟨g, 0, none⟩) Y.length capk Y :: M
    ∧ (∃ W, LnInv now S W PS (takN now (vs RS)) ∧ givR (vs RS) S = (W, 0)) ∧ (∀ a b, a < b → b < Y.length → gd Y a < gd Y b) ∧ (∀ t, t ∈ Y ↔ t = now ∨ ∃ r ∈ vs RS, t = endR now r) ∧ Y.length ≤ RS.length + 1 := by
    funext v M'
    unfold LinedAns
    rw [if_neg (by rw [hgv]; simp)]
  rw [hR]
  repeat ((conv => whnf); (first | refine ztx ?_ | refine LNext.nilr ?_ | refine zne ?_ | refine zga ?_ | refine zxa ?_ | refine zca ?_ | refine zcb ?_ | refine zgb ?_ | refine zgc ?_ | refine zgd1 ?_ | refine zge ?_ | refine zgf ?_ | refine zgg ?_ | refine zgh ?_ | refine zgi ?_ | refine zgj ?_ | refine zgk ?_ | refine max2m ?_ | refine min2m ?_ | refine eqStr ?_ | refine neqStr ?_ | refine eqSlNil ?_ | refine neqSlNil ?_ | refine eqBool ?_ | refine neqBool ?_ | refine capSlice ?_ | refine zgl ?_ | refine zgm ?_ | refine zgn ?_ | refine zgo ?_ | refine zba ?_ | refine zbb ?_ | refine zbc ?_ | refine zbd ?_ | refine zbe ?_ | refine zbf ?_ | refine zia ?_ | refine zib ?_ | refine zic ?_ | refine zid1 ?_ | refine zie ?_ | refine zif1 ?_ | refine zig ?_ | refine zih ?_ | refine lint_u8_mod ?_ | refine lint_u32_mod ?_ | refine zii ?_ | refine zij ?_ | refine zua ?_ | refine zgs ?_ | refine zgu ?_ | refine eqMapNil ?_ | refine neqMapNil ?_ | refine LRes.mk ?_ | refine LIn.step ?_ | refine zdr ?_ | refine zna (fun _ => ?_) | refine znb (fun _ => ?_) | refine znc (fun _ => ?_) | refine newSlice0 (fun _ => ?_) | refine newMap (fun _ => ?_)))
  rename_i kb lb
  refine LLoop.pure (fun k s => hxr.pure ((Ent.trans (Ent.drop _) (Ent.drop _)) k s)) (fun hxd => ?_)
  refine LLoop.inv (Γ := tab) (fun x : LS => [(0, .int .i64 now), (1, .slice av RS.length capv), (2, .slice a0 S.length cap0), (6, .pointer (some ⟨rb, 0, none⟩)), (13, .pointer (some ⟨lb, 0, none⟩)), (50, .slice xa L.length xc), (51, .int .i64 L.length), (52, .int .i64 x.i)])
    (fun x => Pfs x.PS :: ERow 75 1 encPt x.a x.i x.c (pbs x.PS) :: pt lb (.cells #[.slice a0 S.length cap0, .slice x.a x.i x.c, .slice (some ⟨kb, 0, none⟩) 1 1] 53) :: pt kb (.cells #[.int .i64 now] 2) :: (X ++ (pt rb (.cells #[.slice none 0 0, .slice none 0 0, .slice none 0 0] 53) :: M)))
    (fun x => x.i ≤ L.length ∧ x.PS.length = x.i ∧ ∀ j, j < x.i → (gd x.PS j).c = (gd L j).2 ∧ (gd x.PS j).L = [] ∧ (gd x.PS j).k = 0) (fun x => L.length - x.i)
    ⟨0, none, 0, []⟩ ⟨Nat.zero_le _, rfl, fun j q => absurd q (Nat.not_lt_zero _)⟩ zSu (Ent.trans (ent_e0 (α := Nat) (enc := encPt) (E := 75) (sz := 1)) pfs_nil) ?_
  rintro ⟨i, pa, pc, PS⟩ ⟨hi, hpl, hps⟩
  dsimp only at hi hpl hps ⊢
  by_cases hlt : i < L.length
  · obtain ⟨wb, wo, rfl, hwl⟩ := hxd.get hlt
    have hbl : (pbs PS).length = i := by rw [List.length_map, hpl]
    repeat ((conv => whnf); (first | refine ztx ?_ | refine LNext.nilr ?_ | refine zne ?_ | refine zga ?_ | refine zxa ?_ | refine zca ?_ | refine zcb ?_ | refine zgb ?_ | refine zgc ?_ | refine zgd1 ?_ | refine zge ?_ | refine zgf ?_ | refine zgg ?_ | refine zgh ?_ | refine zgi ?_ | refine zgj ?_ | refine zgk ?_ | refine max2m ?_ | refine min2m ?_ | refine eqStr ?_ | refine neqStr ?_ | refine eqSlNil ?_ | refine neqSlNil ?_ | refine eqBool ?_ | refine neqBool ?_ | refine capSlice ?_ | refine zgl ?_ | refine zgm ?_ | refine zgn ?_ | refine zgo ?_ | refine zba ?_ | refine zbb ?_ | refine zbc ?_ | refine zbd ?_ | refine zbe ?_ | refine zbf ?_ | refine zia ?_ | refine zib ?_ | refine zic ?_ | refine zid1 ?_ | refine zie ?_ | refine zif1 ?_ | refine zig ?_ | refine zih ?_ | refine lint_u8_mod ?_ | refine lint_u32_mod ?_ | refine zii ?_ | refine zij ?_ | refine zua ?_ | refine zgs ?_ | refine zgu ?_ | refine eqMapNil ?_ | refine neqMapNil ?_ | refine LRes.mk ?_ | refine LIn.step ?_ | refine zdr ?_ | refine zna (fun _ => ?_) | refine znb (fun _ => ?_) | refine znc (fun _ => ?_) | refine newSlice0 (fun _ => ?_) | refine newMap (fun _ => ?_)))
    refine call3 (newOk_ct (gd L i).2 _ (hWf i (by omega))) ?_
    rintro v M' ⟨pb, rfl, rfl⟩
    repeat ((conv => whnf); (first | refine ztx ?_ | refine LNext.nilr ?_ | refine zne ?_ | refine zga ?_ | refine zxa ?_ | refine zca ?_ | refine zcb ?_ | refine zgb ?_ | refine zgc ?_ | refine zgd1 ?_ | refine zge ?_ | refine zgf ?_ | refine zgg ?_ | refine zgh ?_ | refine zgi ?_ | refine zgj ?_ | refine zgk ?_ | refine max2m ?_ | refine min2m ?_ | refine eqStr ?_ | refine neqStr ?_ | refine eqSlNil ?_ | refine neqSlNil ?_ | refine eqBool ?_ | refine neqBool ?_ | refine capSlice ?_ | refine zgl ?_ | refine zgm ?_ | refine zgn ?_ | refine zgo ?_ | refine zba ?_ | refine zbb ?_ | refine zbc ?_ | refine zbd ?_ | refine zbe ?_ | refine zbf ?_ | refine zia ?_ | refine zib ?_ | refine zic ?_ | refine zid1 ?_ | refine zie ?_ | refine zif1 ?_ | refine zig ?_ | refine zih ?_ | refine lint_u8_mod ?_ | refine lint_u32_mod ?_ | refine zii ?_ | refine zij ?_ | refine zua ?_ | refine zgs ?_ | refine zgu ?_ | refine eqMapNil ?_ | refine neqMapNil ?_ | refine LRes.mk ?_ | refine LIn.step ?_ | refine zdr ?_ | refine zna (fun _ => ?_) | refine znb (fun _ => ?_) | refine znc (fun _ => ?_) | refine newSlice0 (fun _ => ?_) | refine newMap (fun _ => ?_)))
    refine appendE tab (enc := encPt) (xs := pbs PS) ([pb]) zTk (by intro _; rfl) rfl rfl rfl rfl rfl zCs (by intro x hx; simp at hx; subst hx; rfl) (by simp only [maxLen]; omega) (by omega) (by omega) (fun g c => ?_)
    repeat ((conv => whnf); (first | refine ztx ?_ | refine LNext.nilr ?_ | refine zne ?_ | refine zga ?_ | refine zxa ?_ | refine zca ?_ | refine zcb ?_ | refine zgb ?_ | refine zgc ?_ | refine zgd1 ?_ | refine zge ?_ | refine zgf ?_ | refine zgg ?_ | refine zgh ?_ | refine zgi ?_ | refine zgj ?_ | refine zgk ?_ | refine max2m ?_ | refine min2m ?_ | refine eqStr ?_ | refine neqStr ?_ | refine eqSlNil ?_ | refine neqSlNil ?_ | refine eqBool ?_ | refine neqBool ?_ | refine capSlice ?_ | refine zgl ?_ | refine zgm ?_ | refine zgn ?_ | refine zgo ?_ | refine zba ?_ | refine zbb ?_ | refine zbc ?_ | refine zbd ?_ | refine zbe ?_ | refine zbf ?_ | refine zia ?_ | refine zib ?_ | refine zic ?_ | refine zid1 ?_ | refine zie ?_ | refine zif1 ?_ | refine zig ?_ | refine zih ?_ | refine lint_u8_mod ?_ | refine lint_u32_mod ?_ | refine zii ?_ | refine zij ?_ | refine zua ?_ | refine zgs ?_ | refine zgu ?_ | refine eqMapNil ?_ | refine neqMapNil ?_ | refine LRes.mk ?_ | refine LIn.step ?_ | refine zdr ?_ | refine zna (fun _ => ?_) | refine znb (fun _ => ?_) | refine znc (fun _ => ?_) | refine newSlice0 (fun _ => ?_) | refine newMap (fun _ => ?_)))
    have hpe : pbs (PS ++ [⟨pb, (gd L i).2, none, 0, 0, []⟩]) = pbs PS ++ [pb] := by unfold pbs; rw [List.map_append]; rfl
    refine ⟨⟨i + 1, some ⟨g, 0, none⟩, c, PS ++ [⟨pb, (gd L i).2, none, 0, 0, []⟩]⟩, ⟨hlt, by show (PS ++ [_]).length = i + 1; rw [List.length_append, hpl]; rfl, fun j q => ?_⟩, by show L.length - (i + 1) < L.length - i; omega, zSu, ?_⟩
    · show (gd (PS ++ [_]) j).c = _ ∧ (gd (PS ++ [_]) j).L = [] ∧ (gd (PS ++ [_]) j).k = 0
      by_cases e : j = i
      · subst e
        subst hpl
        rw [gd_app_last]
        exact ⟨rfl, rfl, rfl⟩
      · have q' : j < i + 1 := q
        rw [gd_app_left (by omega)]
        exact hps j (by omega)
    · dsimp only
      rw [hpe]
      refine Ent.trans ?_ pfs_new
      exact zEn
  have hi' : i = L.length := by omega
  subst hi'
  have hPl : PS.length = S.length := by omega
  have hInv : LnInv now S L PS (takN now ((vs RS).take 0)) := ⟨hPl, fun j q => (hps j (by omega)).1, fun j q => by
    obtain ⟨p1, p2, p3⟩ := hps j (by omega)
    rw [p2, p3]
    exact Taken.zero (hWf j q)⟩
  rw [hll]
  repeat ((conv => whnf); (first | refine ztx ?_ | refine LNext.nilr ?_ | refine zne ?_ | refine zga ?_ | refine zxa ?_ | refine zca ?_ | refine zcb ?_ | refine zgb ?_ | refine zgc ?_ | refine zgd1 ?_ | refine zge ?_ | refine zgf ?_ | refine zgg ?_ | refine zgh ?_ | refine zgi ?_ | refine zgj ?_ | refine zgk ?_ | refine max2m ?_ | refine min2m ?_ | refine eqStr ?_ | refine neqStr ?_ | refine eqSlNil ?_ | refine neqSlNil ?_ | refine eqBool ?_ | refine neqBool ?_ | refine capSlice ?_ | refine zgl ?_ | refine zgm ?_ | refine zgn ?_ | refine zgo ?_ | refine zba ?_ | refine zbb ?_ | refine zbc ?_ | refine zbd ?_ | refine zbe ?_ | refine zbf ?_ | refine zia ?_ | refine zib ?_ | refine zic ?_ | refine zid1 ?_ | refine zie ?_ | refine zif1 ?_ | refine zig ?_ | refine zih ?_ | refine lint_u8_mod ?_ | refine lint_u32_mod ?_ | refine zii ?_ | refine zij ?_ | refine zua ?_ | refine zgs ?_ | refine zgu ?_ | refine eqMapNil ?_ | refine neqMapNil ?_ | refine LRes.mk ?_ | refine LIn.step ?_ | refine zdr ?_ | refine zna (fun _ => ?_) | refine znb (fun _ => ?_) | refine znc (fun _ => ?_) | refine newSlice0 (fun _ => ?_) | refine newMap (fun _ => ?_)))
  obtain ⟨B, hB⟩ : ∃ B, pbs PS = B := ⟨_, rfl⟩
  rw [hB]
  have hBl : B.length = S.length := by rw [← hPl, ← hB]; exact List.length_map _
  refine LLoop.row (Take.there Take.here) (fun rh => ?_)
  refine LLoop.inv (Γ := tab) (fun x : MS => [(0, .int .i64 now), (2, .slice a0 S.length cap0), (6, .pointer (some ⟨rb, 0, none⟩)), (13, .pointer (some ⟨lb, 0, none⟩)), (69, .slice av RS.length capv), (70, .int .i64 RS.length), (71, .int .i64 x.m)])
    (fun x => Pfs x.PS :: ERow 75 1 encPt pa S.length pc B :: pt lb (.cells #[.slice a0 S.length cap0, .slice pa S.length pc, .slice (some ⟨x.g, 0, none⟩) (x.m + 1) x.kc] 53) :: ERow 2 1 encZ (some ⟨x.g, 0, none⟩) (x.m + 1) x.kc (tks now (vs RS) x.m) :: (X ++ (pt rb (.cells #[.slice none 0 0, .slice none 0 0, .slice none 0 0] 53) :: M)))
    (fun x => x.m ≤ RS.length ∧ LnInv now S L x.PS (takN now ((vs RS).take x.m)) ∧ pbs x.PS = B) (fun x => RS.length - x.m)
    ⟨0, kb, 1, PS⟩ ⟨Nat.zero_le _, hInv, hB⟩ zSu (Ent.cons _ (Ent.cons _ (Ent.cons _ (Take.lit (enc := encZ) (n := 1) [now] rfl (by intro _; rfl) rfl (by decide)).h))) ?_
  clear hInv hB hps hPl hi hpl
  rintro ⟨m, tg, tc, PS⟩ ⟨hm, hInv, hB⟩
  dsimp only at hm hInv hB ⊢
  by_cases hlt : m < RS.length
  · obtain ⟨vb, vo, rfl, hlies⟩ := hrvd.get hlt
    have hmem : gd RS m ∈ RS := gd_mem hlt
    have hmv : m < (vs RS).length := by rw [hvl]; exact hlt
    have e1 : gd (vs RS) m = (gd RS m).v := gd_map hlt
    have hrk : RunOk S (gd RS m).v := by rw [← e1]; exact hok _ (gd_mem hmv)
    have hE1 : now < max (gd RS m).fin (now + 1) := by have := Int.le_max_right (gd RS m).fin (now + 1); omega
    have hE2 : max (gd RS m).fin (now + 1) ≤ 1099511627776 := Int.max_le.2 ⟨hfin _ hmem, by omega⟩
    have hsl := hsm _ hmem
    have hNT : (gd RS m).nodes.xs.length = (gd RS m).tasks.xs.length := hrk.len
    repeat ((conv => whnf); (first | refine ztx ?_ | refine LNext.nilr ?_ | refine zne ?_ | refine zga ?_ | refine zxa ?_ | refine zca ?_ | refine zcb ?_ | refine zgb ?_ | refine zgc ?_ | refine zgd1 ?_ | refine zge ?_ | refine zgf ?_ | refine zgg ?_ | refine zgh ?_ | refine zgi ?_ | refine zgj ?_ | refine zgk ?_ | refine max2m ?_ | refine min2m ?_ | refine eqStr ?_ | refine neqStr ?_ | refine eqSlNil ?_ | refine neqSlNil ?_ | refine eqBool ?_ | refine neqBool ?_ | refine capSlice ?_ | refine zgl ?_ | refine zgm ?_ | refine zgn ?_ | refine zgo ?_ | refine zba ?_ | refine zbb ?_ | refine zbc ?_ | refine zbd ?_ | refine zbe ?_ | refine zbf ?_ | refine zia ?_ | refine zib ?_ | refine zic ?_ | refine zid1 ?_ | refine zie ?_ | refine zif1 ?_ | refine zig ?_ | refine zih ?_ | refine lint_u8_mod ?_ | refine lint_u32_mod ?_ | refine zii ?_ | refine zij ?_ | refine zua ?_ | refine zgs ?_ | refine zgu ?_ | refine eqMapNil ?_ | refine neqMapNil ?_ | refine LRes.mk ?_ | refine LIn.step ?_ | refine zdr ?_ | refine zna (fun _ => ?_) | refine znb (fun _ => ?_) | refine znc (fun _ => ?_) | refine newSlice0 (fun _ => ?_) | refine newMap (fun _ => ?_)))
    rename_i xb
    refine LLoop.pure (fun k s => (hrs.t _ hmem).pure ((show Ent _ M from zEn) k s)) (fun htd => ?_)
    refine LLoop.pure (fun k s => (hrs.n _ hmem).pure ((show Ent _ M from zEn) k s)) (fun hnd => ?_)
    refine LLoop.inv (Γ := tab) (fun x : Nat × List PfC => [(0, .int .i64 now), (2, .slice a0 S.length cap0), (6, .pointer (some ⟨rb, 0, none⟩)), (13, .pointer (some ⟨lb, 0, none⟩)), (19, .pointer (some ⟨xb, 0, none⟩)), (20, .int .i64 (max (gd RS m).fin (now + 1))), (69, .slice (some ⟨vb, vo, none⟩) RS.length capv), (70, .int .i64 RS.length), (71, .int .i64 m), (81, .slice (gd RS m).nodes.a (gd RS m).nodes.xs.length (gd RS m).nodes.cap), (82, .int .i64 (gd RS m).nodes.xs.length), (83, .int .i64 x.1)])
      (fun x => pt xb (.cells #[.int .i64 (gd RS m).job, .int .i64 (gd RS m).fin, .slice (gd RS m).tasks.a (gd RS m).tasks.xs.length (gd RS m).tasks.cap, .slice (gd RS m).nodes.a (gd RS m).nodes.xs.length (gd RS m).nodes.cap] 42) :: Pfs x.2 :: ERow 75 1 encPt pa S.length pc B :: pt lb (.cells #[.slice a0 S.length cap0, .slice pa S.length pc, .slice (some ⟨tg, 0, none⟩) (m + 1) tc] 53) :: ERow 2 1 encZ (some ⟨tg, 0, none⟩) (m + 1) tc (tks now (vs RS) m) :: (X ++ (pt rb (.cells #[.slice none 0 0, .slice none 0 0, .slice none 0 0] 53) :: M)))
      (fun x => x.1 ≤ (gd RS m).nodes.xs.length ∧ LnInv now S L x.2 (takP now (vs RS) m x.1) ∧ pbs x.2 = B) (fun x => (gd RS m).nodes.xs.length - x.1)
      (0, PS) ⟨Nat.zero_le _, hInv.weak (fun nm => (takP_zero _ _ _ nm).symm), hB⟩ zSu zEn ?_
    clear hInv hB
    rintro ⟨j, PS⟩ ⟨hj, hInv, hB⟩
    dsimp only at hj hInv hB ⊢
    by_cases hjl : j < (gd RS m).nodes.xs.length
    · obtain ⟨nb, no, hna, hnl⟩ := hnd.get hjl
      have hjt : j < (gd RS m).tasks.xs.length := by omega
      obtain ⟨tb, to, hta, htl⟩ := htd.get hjt
      obtain ⟨q, hq, hqn⟩ := hrk.has j hjt
      have hqn : (gd S q).1 = gd (gd RS m).nodes.xs j := hqn
      have hql : q < PS.length := by rw [hInv.len]; exact hq
      have hqB : q < B.length := by omega
      have hgB : gd B q = (gd PS q).pb := by rw [← hB]; exact gd_map hql
      have hidx : idxI (fun s : Slot => decide (s.1 = gd (gd RS m).nodes.xs j)) S = (q : Int) := by unfold idxI; rw [← hqn, find_name hd hq]
      obtain ⟨pg, rfl⟩ := rh.ad (by omega)
      have hT : formed (gd (gd RS m).tasks.xs j) = true := hrk.form _ (gd_mem hjt)
      have hTk := hInv.take hd hq h0 hE1 hE2 hT (by
        have := takP_len (now := now) hok hmv (j := j) (by rw [e1]; exact Nat.le_of_lt hjt) (gd S q).1
        rw [hvl] at this
        omega) (by
        have := takP_fits (now := now) hok hmv (j := j) (f := (gd S q).2) (by rw [e1]; exact hjt) (nm := (gd S q).1) (by rw [e1]; exact hqn.symm) (formed_nn (hS q hq))
        rw [e1] at this
        rw [hg.at' q hq]
        exact this)
      rw [hna, hta]
      repeat ((conv => whnf); (first | refine ztx ?_ | refine LNext.nilr ?_ | refine zne ?_ | refine zga ?_ | refine zxa ?_ | refine zca ?_ | refine zcb ?_ | refine zgb ?_ | refine zgc ?_ | refine zgd1 ?_ | refine zge ?_ | refine zgf ?_ | refine zgg ?_ | refine zgh ?_ | refine zgi ?_ | refine zgj ?_ | refine zgk ?_ | refine max2m ?_ | refine min2m ?_ | refine eqStr ?_ | refine neqStr ?_ | refine eqSlNil ?_ | refine neqSlNil ?_ | refine eqBool ?_ | refine neqBool ?_ | refine capSlice ?_ | refine zgl ?_ | refine zgm ?_ | refine zgn ?_ | refine zgo ?_ | refine zba ?_ | refine zbb ?_ | refine zbc ?_ | refine zbd ?_ | refine zbe ?_ | refine zbf ?_ | refine zia ?_ | refine zib ?_ | refine zic ?_ | refine zid1 ?_ | refine zie ?_ | refine zif1 ?_ | refine zig ?_ | refine zih ?_ | refine lint_u8_mod ?_ | refine lint_u32_mod ?_ | refine zii ?_ | refine zij ?_ | refine zua ?_ | refine zgs ?_ | refine zgu ?_ | refine eqMapNil ?_ | refine neqMapNil ?_ | refine LRes.mk ?_ | refine LIn.step ?_ | refine zdr ?_ | refine zna (fun _ => ?_) | refine znb (fun _ => ?_) | refine znc (fun _ => ?_) | refine newSlice0 (fun _ => ?_) | refine newMap (fun _ => ?_)))
      refine call0 (ixS_ct _ a0 cap0 S 34 #[] _ (fun s => decide (s.1 = gd (gd RS m).nodes.xs j)) zRd (by omega) (fun s => lined1_ct _ _ (gd (gd RS m).nodes.xs j) zCe s)) ?_
      rintro v rfl
      rw [hidx]
      repeat ((conv => whnf); (first | refine ztx ?_ | refine LNext.nilr ?_ | refine zne ?_ | refine zga ?_ | refine zxa ?_ | refine zca ?_ | refine zcb ?_ | refine zgb ?_ | refine zgc ?_ | refine zgd1 ?_ | refine zge ?_ | refine zgf ?_ | refine zgg ?_ | refine zgh ?_ | refine zgi ?_ | refine zgj ?_ | refine zgk ?_ | refine max2m ?_ | refine min2m ?_ | refine eqStr ?_ | refine neqStr ?_ | refine eqSlNil ?_ | refine neqSlNil ?_ | refine eqBool ?_ | refine neqBool ?_ | refine capSlice ?_ | refine zgl ?_ | refine zgm ?_ | refine zgn ?_ | refine zgo ?_ | refine zba ?_ | refine zbb ?_ | refine zbc ?_ | refine zbd ?_ | refine zbe ?_ | refine zbf ?_ | refine zia ?_ | refine zib ?_ | refine zic ?_ | refine zid1 ?_ | refine zie ?_ | refine zif1 ?_ | refine zig ?_ | refine zih ?_ | refine lint_u8_mod ?_ | refine lint_u32_mod ?_ | refine zii ?_ | refine zij ?_ | refine zua ?_ | refine zgs ?_ | refine zgu ?_ | refine eqMapNil ?_ | refine neqMapNil ?_ | refine LRes.mk ?_ | refine LIn.step ?_ | refine zdc ?_ | refine zna (fun _ => ?_) | refine znb (fun _ => ?_) | refine znc (fun _ => ?_) | refine newSlice0 (fun _ => ?_) | refine newMap (fun _ => ?_)))
      rw [hgB]
      refine call1 (takeP_ct PS q hql now (max (gd RS m).fin (now + 1)) (gd (gd RS m).tasks.xs j) (by rw [hInv.c q hq]; exact (hInv.at' q hq).inv) hTk.1) zSp ?_
      rintro v M' ⟨a', cap', rfl, rfl⟩
      have hN := hTk.2 a' cap'
      have hpb := pbs_set hql (p := ⟨(gd PS q).pb, (gd PS q).c, a', cap', (gd PS q).k + 1, lessL (gd PS q).c (gd PS q).L now (max (gd RS m).fin (now + 1)) (gd (gd RS m).tasks.xs j)⟩) rfl
      generalize PS.set q ⟨(gd PS q).pb, (gd PS q).c, a', cap', (gd PS q).k + 1, lessL (gd PS q).c (gd PS q).L now (max (gd RS m).fin (now + 1)) (gd (gd RS m).tasks.xs j)⟩ = PS2 at *
      repeat ((conv => whnf); (first | refine ztx ?_ | refine LNext.nilr ?_ | refine zne ?_ | refine zga ?_ | refine zxa ?_ | refine zca ?_ | refine zcb ?_ | refine zgb ?_ | refine zgc ?_ | refine zgd1 ?_ | refine zge ?_ | refine zgf ?_ | refine zgg ?_ | refine zgh ?_ | refine zgi ?_ | refine zgj ?_ | refine zgk ?_ | refine max2m ?_ | refine min2m ?_ | refine eqStr ?_ | refine neqStr ?_ | refine eqSlNil ?_ | refine neqSlNil ?_ | refine eqBool ?_ | refine neqBool ?_ | refine capSlice ?_ | refine zgl ?_ | refine zgm ?_ | refine zgn ?_ | refine zgo ?_ | refine zba ?_ | refine zbb ?_ | refine zbc ?_ | refine zbd ?_ | refine zbe ?_ | refine zbf ?_ | refine zia ?_ | refine zib ?_ | refine zic ?_ | refine zid1 ?_ | refine zie ?_ | refine zif1 ?_ | refine zig ?_ | refine zih ?_ | refine lint_u8_mod ?_ | refine lint_u32_mod ?_ | refine zii ?_ | refine zij ?_ | refine zua ?_ | refine zgs ?_ | refine zgu ?_ | refine eqMapNil ?_ | refine neqMapNil ?_ | refine LRes.mk ?_ | refine LIn.step ?_ | refine zdc ?_ | refine zna (fun _ => ?_) | refine znb (fun _ => ?_) | refine znc (fun _ => ?_) | refine newSlice0 (fun _ => ?_) | refine newMap (fun _ => ?_)))
      refine ⟨(j + 1, PS2), ⟨hjl, hN.weak (fun nm => ?_), by show pbs PS2 = B; rw [hpb, hB]⟩, by show (gd RS m).nodes.xs.length - (j + 1) < (gd RS m).nodes.xs.length - j; omega, zSu, zEn⟩
      show _ = takP now (vs RS) m (j + 1) nm
      rw [takP_succ, e1, hqn]
      rfl
    · have : j = (gd RS m).nodes.xs.length := by omega
      subst this
      have hInv2 : LnInv now S L PS (takN now ((vs RS).take (m + 1))) := hInv.weak (fun nm => by
        have := takP_full hmv (now := now) nm
        rw [e1] at this
        rw [← this, hNT]; rfl)
      repeat ((conv => whnf); (first | refine ztx ?_ | refine LNext.nilr ?_ | refine zne ?_ | refine zga ?_ | refine zxa ?_ | refine zca ?_ | refine zcb ?_ | refine zgb ?_ | refine zgc ?_ | refine zgd1 ?_ | refine zge ?_ | refine zgf ?_ | refine zgg ?_ | refine zgh ?_ | refine zgi ?_ | refine zgj ?_ | refine zgk ?_ | refine max2m ?_ | refine min2m ?_ | refine eqStr ?_ | refine neqStr ?_ | refine eqSlNil ?_ | refine neqSlNil ?_ | refine eqBool ?_ | refine neqBool ?_ | refine capSlice ?_ | refine zgl ?_ | refine zgm ?_ | refine zgn ?_ | refine zgo ?_ | refine zba ?_ | refine zbb ?_ | refine zbc ?_ | refine zbd ?_ | refine zbe ?_ | refine zbf ?_ | refine zia ?_ | refine zib ?_ | refine zic ?_ | refine zid1 ?_ | refine zie ?_ | refine zif1 ?_ | refine zig ?_ | refine zih ?_ | refine lint_u8_mod ?_ | refine lint_u32_mod ?_ | refine zii ?_ | refine zij ?_ | refine zua ?_ | refine zgs ?_ | refine zgu ?_ | refine eqMapNil ?_ | refine neqMapNil ?_ | refine LRes.mk ?_ | refine LIn.step ?_ | refine zdr ?_ | refine zna (fun _ => ?_) | refine znb (fun _ => ?_) | refine znc (fun _ => ?_) | refine newSlice0 (fun _ => ?_) | refine newMap (fun _ => ?_)))
      refine appendE tab (enc := encZ) (xs := tks now (vs RS) m) ([max (gd RS m).fin (now + 1)]) zTk (by intro _; rfl) rfl rfl rfl rfl rfl zCs (by intro x hx; simp at hx; subst hx; rfl) (by simp only [maxLen]; omega) (by omega) (by omega) (fun g2 c2 => ?_)
      repeat ((conv => whnf); (first | refine ztx ?_ | refine LNext.nilr ?_ | refine zne ?_ | refine zga ?_ | refine zxa ?_ | refine zca ?_ | refine zcb ?_ | refine zgb ?_ | refine zgc ?_ | refine zgd1 ?_ | refine zge ?_ | refine zgf ?_ | refine zgg ?_ | refine zgh ?_ | refine zgi ?_ | refine zgj ?_ | refine zgk ?_ | refine max2m ?_ | refine min2m ?_ | refine eqStr ?_ | refine neqStr ?_ | refine eqSlNil ?_ | refine neqSlNil ?_ | refine eqBool ?_ | refine neqBool ?_ | refine capSlice ?_ | refine zgl ?_ | refine zgm ?_ | refine zgn ?_ | refine zgo ?_ | refine zba ?_ | refine zbb ?_ | refine zbc ?_ | refine zbd ?_ | refine zbe ?_ | refine zbf ?_ | refine zia ?_ | refine zib ?_ | refine zic ?_ | refine zid1 ?_ | refine zie ?_ | refine zif1 ?_ | refine zig ?_ | refine zih ?_ | refine lint_u8_mod ?_ | refine lint_u32_mod ?_ | refine zii ?_ | refine zij ?_ | refine zua ?_ | refine zgs ?_ | refine zgu ?_ | refine eqMapNil ?_ | refine neqMapNil ?_ | refine LRes.mk ?_ | refine LIn.step ?_ | refine zdr ?_ | refine zna (fun _ => ?_) | refine znb (fun _ => ?_) | refine znc (fun _ => ?_) | refine newSlice0 (fun _ => ?_) | refine newMap (fun _ => ?_)))
      exact ⟨⟨m + 1, g2, c2, PS⟩, ⟨hlt, hInv2, hB⟩, by show RS.length - (m + 1) < RS.length - m; omega, zSu, by
        dsimp only
        rw [tks_succ hmv, e1]
        exact zEn⟩
  · have : m = RS.length := by omega
    subst this
    repeat ((conv => whnf); (first | refine ztx ?_ | refine LNext.nilr ?_ | refine zne ?_ | refine zga ?_ | refine zxa ?_ | refine zca ?_ | refine zcb ?_ | refine zgb ?_ | refine zgc ?_ | refine zgd1 ?_ | refine zge ?_ | refine zgf ?_ | refine zgg ?_ | refine zgh ?_ | refine zgi ?_ | refine zgj ?_ | refine zgk ?_ | refine max2m ?_ | refine min2m ?_ | refine eqStr ?_ | refine neqStr ?_ | refine eqSlNil ?_ | refine neqSlNil ?_ | refine eqBool ?_ | refine neqBool ?_ | refine capSlice ?_ | refine zgl ?_ | refine zgm ?_ | refine zgn ?_ | refine zgo ?_ | refine zba ?_ | refine zbb ?_ | refine zbc ?_ | refine zbd ?_ | refine zbe ?_ | refine zbf ?_ | refine zia ?_ | refine zib ?_ | refine zic ?_ | refine zid1 ?_ | refine zie ?_ | refine zif1 ?_ | refine zig ?_ | refine zih ?_ | refine lint_u8_mod ?_ | refine lint_u32_mod ?_ | refine zii ?_ | refine zij ?_ | refine zua ?_ | refine zgs ?_ | refine zgu ?_ | refine eqMapNil ?_ | refine neqMapNil ?_ | refine LRes.mk ?_ | refine LIn.step ?_ | refine zdr ?_ | refine zna (fun _ => ?_) | refine znb (fun _ => ?_) | refine znc (fun _ => ?_) | refine newSlice0 (fun _ => ?_) | refine newMap (fun _ => ?_)))
    obtain ⟨K, hK⟩ : ∃ K, tks now (vs RS) RS.length = K := ⟨_, rfl⟩
    have hKl : K.length = RS.length + 1 := by
      rw [← hK]
      unfold tks
      rw [List.length_cons, List.length_map, List.length_take, hvl, Nat.min_self]
    rw [hK, ← hKl]
    refine call1 (sort_ct tg tc K (by omega)) zSp ?_
    rintro v M' ⟨rfl, rfl⟩
    have hsd := sortd_merge K
    have hKm : ∀ t, t ∈ K.mergeSort (fun x y => decide (x ≤ y)) ↔ t ∈ K := fun t => List.mem_mergeSort
    have hKl2 : (K.mergeSort (fun x y => decide (x ≤ y))).length = K.length := List.length_mergeSort K
    generalize K.mergeSort (fun x y => decide (x ≤ y)) = K2 at *
    rw [← hKl2]
    repeat ((conv => whnf); (first | refine ztx ?_ | refine LNext.nilr ?_ | refine zne ?_ | refine zga ?_ | refine zxa ?_ | refine zca ?_ | refine zcb ?_ | refine zgb ?_ | refine zgc ?_ | refine zgd1 ?_ | refine zge ?_ | refine zgf ?_ | refine zgg ?_ | refine zgh ?_ | refine zgi ?_ | refine zgj ?_ | refine zgk ?_ | refine max2m ?_ | refine min2m ?_ | refine eqStr ?_ | refine neqStr ?_ | refine eqSlNil ?_ | refine neqSlNil ?_ | refine eqBool ?_ | refine neqBool ?_ | refine capSlice ?_ | refine zgl ?_ | refine zgm ?_ | refine zgn ?_ | refine zgo ?_ | refine zba ?_ | refine zbb ?_ | refine zbc ?_ | refine zbd ?_ | refine zbe ?_ | refine zbf ?_ | refine zia ?_ | refine zib ?_ | refine zic ?_ | refine zid1 ?_ | refine zie ?_ | refine zif1 ?_ | refine zig ?_ | refine zih ?_ | refine lint_u8_mod ?_ | refine lint_u32_mod ?_ | refine zii ?_ | refine zij ?_ | refine zua ?_ | refine zgs ?_ | refine zgu ?_ | refine eqMapNil ?_ | refine neqMapNil ?_ | refine LRes.mk ?_ | refine LIn.step ?_ | refine zdr ?_ | refine zna (fun _ => ?_) | refine znb (fun _ => ?_) | refine znc (fun _ => ?_) | refine newSlice0 (fun _ => ?_) | refine newMap (fun _ => ?_)))
    refine call1 (compact_ct tg tc K2 (by omega) hsd) zSp ?_
    rintro v M' ⟨Y, rfl, rfl, hup, hmY, hle⟩
    repeat ((conv => whnf); (first | refine ztx ?_ | refine LNext.nilr ?_ | refine zne ?_ | refine zga ?_ | refine zxa ?_ | refine zca ?_ | refine zcb ?_ | refine zgb ?_ | refine zgc ?_ | refine zgd1 ?_ | refine zge ?_ | refine zgf ?_ | refine zgg ?_ | refine zgh ?_ | refine zgi ?_ | refine zgj ?_ | refine zgk ?_ | refine max2m ?_ | refine min2m ?_ | refine eqStr ?_ | refine neqStr ?_ | refine eqSlNil ?_ | refine neqSlNil ?_ | refine eqBool ?_ | refine neqBool ?_ | refine capSlice ?_ | refine zgl ?_ | refine zgm ?_ | refine zgn ?_ | refine zgo ?_ | refine zba ?_ | refine zbb ?_ | refine zbc ?_ | refine zbd ?_ | refine zbe ?_ | refine zbf ?_ | refine zia ?_ | refine zib ?_ | refine zic ?_ | refine zid1 ?_ | refine zie ?_ | refine zif1 ?_ | refine zig ?_ | refine zih ?_ | refine lint_u8_mod ?_ | refine lint_u32_mod ?_ | refine zii ?_ | refine zij ?_ | refine zua ?_ | refine zgs ?_ | refine zgu ?_ | refine eqMapNil ?_ | refine neqMapNil ?_ | refine LRes.mk ?_ | refine LIn.step ?_ | refine zdr ?_ | refine zna (fun _ => ?_) | refine znb (fun _ => ?_) | refine znc (fun _ => ?_) | refine newSlice0 (fun _ => ?_) | refine newMap (fun _ => ?_)))
    have hfin2 : LnInv now S L PS (takN now (vs RS)) := by
      rw [List.take_of_length_le (by rw [hvl]; exact Nat.le_refl _)] at hInv
      exact hInv
    have hmem : ∀ t, t ∈ Y ↔ t = now ∨ ∃ r ∈ vs RS, t = endR now r := fun t => by
      rw [hmY, hKm, ← hK]
      unfold tks
      rw [List.take_of_length_le (by rw [hvl]; exact Nat.le_refl _), List.mem_cons, List.mem_map]
      constructor
      · rintro (q | ⟨r, hr, e⟩)
        · exact .inl q
        · exact .inr ⟨r, hr, e.symm⟩
      · rintro (q | ⟨r, hr, e⟩)
        · exact .inl q
        · exact .inr ⟨r, hr, e.symm⟩
    rw [← hB]
    show Fin _ _ _; exact Fin.of (Pfs PS :: ERow 75 1 encPt pa S.length pc (pbs PS) :: ERow 2 1 encZ (some ⟨tg, 0, none⟩) Y.length tc Y :: M) zEn ⟨pa, pc, tg, tc, PS, Y, rfl, rfl, ⟨L, hfin2, hgv⟩, hup, hmem, by omega⟩
end Go.Proofs.Ytchaijafpmofdaa
