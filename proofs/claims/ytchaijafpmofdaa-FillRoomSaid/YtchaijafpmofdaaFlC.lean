import Derived.Test.YtchaijafpmofdaaFlA
import Derived.Test.YtchaijafpmofdaaLw11
/-! The profiles of a line as one assertion; line.at and line.start, walked. -/
namespace Go.Proofs.Ytchaijafpmofdaa
open Go.Sl
set_option linter.unusedVariables false
set_option linter.unusedSimpArgs false
set_option maxRecDepth 100000
set_option maxHeartbeats 4000000

/-- A contract beside other memory. -/
theorem Ctr.frame {P : Program} {f : FuncId} {args : Array Value} {L : List As} {R : Value → List As → Prop} (hs : Ctr P f args L R) (F : List As) : Ctr P f args (L ++ F) (fun v M' => ∃ M1, R v M1 ∧ M' = M1 ++ F) :=
  ⟨hs.1, fun G w s => (hs.2 (F ++ G) w (by rw [← List.append_assoc]; exact s)).mono (fun e w' ⟨v, M', he, hr, hs', hn⟩ => ⟨v, M' ++ F, he, ⟨M', hr, rfl⟩, by rw [List.append_assoc]; exact hs', hn⟩)⟩
/-- The memory behind a call in other words. -/
theorem Ctr.conv {P : Program} {f : FuncId} {args : Array Value} {M N : List As} {R R' : Value → List As → Prop} (h : Ctr P f args N R) (hM : Ent M N) (hr : ∀ v M', R v M' → ∃ M2, R' v M2 ∧ Ent M' M2) : Ctr P f args M R' :=
  ⟨h.1, fun G w s => (h.2 G w (s.ent (Ent.app hM (Ent.refl _)))).mono (fun e w' ⟨v, M', he, hr', hs', hn⟩ => by
    obtain ⟨M2, r2, e2⟩ := hr v M' hr'
    exact ⟨v, M2, he, r2, hs'.ent (Ent.app e2 (Ent.refl _)), hn⟩)⟩
/-- A profile's memory. -/
structure PfC where
  pb : Nat
  c : V4
  a : Option Addr
  cap : Nat
  k : Nat
  L : List StepT
instance : Inhabited PfC := ⟨⟨0, (0, 0, 0, 0), none, 0, 0, []⟩⟩
def PfC.mem (p : PfC) : List As := [PT p.pb p.c p.a p.L.length p.cap p.k, ERow 104 5 encStep p.a p.L.length p.cap p.L]
def PP (p : PfC) : As := Go.Sl.all p.mem
def Pfs (PS : List PfC) : As := Go.Sl.all (PS.map PP)
theorem pfs_nil {Y : List As} : Ent Y (Pfs [] :: Y) := fun h s => ⟨Hp.nil, h, Hp.dis_nil _, Hp.nil_le _, Hp.le_refl _, trivial, s⟩
theorem pfs_snoc {l : List PfC} {p : PfC} {Y : List As} : Ent (p.mem ++ (Pfs l :: Y)) (Pfs (l ++ [p]) :: Y) := by
  refine Ent.trans (Ent.shut (M := p.mem) (L := Pfs l :: Y)) ?_
  refine Ent.trans (Ent.cons _ Ent.open_) ?_
  refine Ent.trans ?_ (Ent.shut (M := (l ++ [p]).map PP) (L := Y))
  rw [List.map_append]
  refine Ent.perm ?_
  show List.Perm (PP p :: (l.map PP ++ Y)) _
  simpa using (List.perm_middle (l₁ := l.map PP) (l₂ := Y) (a := PP p)).symm
theorem split_gd {l : List PfC} {i : Nat} (h : i < l.length) : l = l.take i ++ gd l i :: l.drop (i + 1) := by
  rw [← gd_drop h, List.take_append_drop]
theorem set_gd {l : List PfC} {i : Nat} (h : i < l.length) (p : PfC) : l.set i p = l.take i ++ p :: l.drop (i + 1) := by
  rw [List.set_eq_take_append_cons_drop, if_pos h]
theorem pfs_open {l : List PfC} {i : Nat} (h : i < l.length) {Y : List As} : Ent (Pfs l :: Y) ((gd l i).mem ++ (Pfs (l.take i ++ l.drop (i + 1)) :: Y)) := by
  refine Ent.trans (Ent.open_ (M := l.map PP) (L := Y)) ?_
  refine Ent.trans ?_ (Ent.open_ (M := (gd l i).mem) (L := _))
  refine Ent.trans ?_ (Ent.cons _ (Ent.shut (M := (l.take i ++ l.drop (i + 1)).map PP) (L := Y)))
  conv => lhs; rw [split_gd h]
  rw [List.map_append, List.map_append, List.map_cons, List.append_assoc, List.append_assoc]
  exact Ent.perm List.perm_middle
theorem pfs_shut {l : List PfC} {i : Nat} (h : i < l.length) (p : PfC) {Y : List As} : Ent (p.mem ++ (Pfs (l.take i ++ l.drop (i + 1)) :: Y)) (Pfs (l.set i p) :: Y) := by
  refine Ent.trans (Ent.shut (M := p.mem) (L := _)) ?_
  refine Ent.trans (Ent.cons _ (Ent.open_ (M := (l.take i ++ l.drop (i + 1)).map PP) (L := Y))) ?_
  refine Ent.trans ?_ (Ent.shut (M := (l.set i p).map PP) (L := Y))
  rw [set_gd h, List.map_append, List.map_append, List.map_cons, List.append_assoc, List.append_assoc]
  exact Ent.perm List.perm_middle.symm
theorem set_self {l : List PfC} {i : Nat} (h : i < l.length) : l.set i (gd l i) = l := by rw [set_gd h, ← split_gd h]
theorem freeP_ct (PS : List PfC) (i : Nat) (hi : i < PS.length) (t : Int) (hr : rising (gd PS i).L) (hn : (gd PS i).L.length ≤ 1000000) :
    Ctr Try.prog 63 #[.pointer (some ⟨(gd PS i).pb, 0, none⟩), .int .i64 t] [Pfs PS] (fun v M' => v = vv (fr (gd PS i).c (gd PS i).L t) ∧ M' = [Pfs PS]) :=
  Ctr.conv (Ctr.frame (free_ct (gd PS i).pb (gd PS i).c (gd PS i).a (gd PS i).cap (gd PS i).k (gd PS i).L t hr hn) [Pfs (PS.take i ++ PS.drop (i + 1))]) (pfs_open hi) (by
    rintro v M' ⟨M1, ⟨rfl, rfl⟩, rfl⟩
    refine ⟨[Pfs PS], ⟨rfl, rfl⟩, ?_⟩
    have := pfs_shut hi (gd PS i) (Y := [])
    rw [set_self hi] at this
    exact this)
theorem takeP_ct (PS : List PfC) (i : Nat) (hi : i < PS.length) (t u : Int) (v : V4) (h : PInv (gd PS i).c (gd PS i).L (gd PS i).k) (he : takeE (gd PS i).c (gd PS i).L (gd PS i).k t u v = 0) :
    Ctr Try.prog 35 #[.pointer (some ⟨(gd PS i).pb, 0, none⟩), .int .i64 t, .int .i64 u, vv v] [Pfs PS]
      (fun r M' => ∃ a' cap', r = .int .i64 0 ∧ M' = [Pfs (PS.set i ⟨(gd PS i).pb, (gd PS i).c, a', cap', (gd PS i).k + 1, lessL (gd PS i).c (gd PS i).L t u v⟩)]) :=
  Ctr.conv (Ctr.frame (takeN_ct (gd PS i).pb (gd PS i).c (gd PS i).a (gd PS i).cap (gd PS i).k (gd PS i).L t u v h) [Pfs (PS.take i ++ PS.drop (i + 1))]) (pfs_open hi) (by
    have hN : takeN (gd PS i).c (gd PS i).L (gd PS i).k t u v = (lessL (gd PS i).c (gd PS i).L t u v, (gd PS i).k + 1) := by unfold takeN; rw [if_pos he]
    rintro r M' ⟨M1, ⟨a', cap', rfl, rfl⟩, rfl⟩
    rw [hN, he]
    exact ⟨_, ⟨a', cap', rfl, rfl⟩, pfs_shut hi ⟨(gd PS i).pb, (gd PS i).c, a', cap', (gd PS i).k + 1, lessL (gd PS i).c (gd PS i).L t u v⟩ (Y := [])⟩)
def encPt (b : Nat) : List Value := [.pointer (some ⟨b, 0, none⟩)]
abbrev pbs (PS : List PfC) : List Nat := PS.map (·.pb)
/-- The slots of a line at a tick. -/
def atL (S : List Slot) (PS : List PfC) (t : Int) : List Slot := (List.range S.length).map (fun i => ((gd S i).1, fr (gd PS i).c (gd PS i).L t))
theorem atL_len (S : List Slot) (PS : List PfC) (t : Int) : (atL S PS t).length = S.length := by simp [atL]
theorem atL_gd {S : List Slot} {PS : List PfC} {t : Int} {i : Nat} (h : i < S.length) : gd (atL S PS t) i = ((gd S i).1, fr (gd PS i).c (gd PS i).L t) := by
  unfold atL
  rw [gd_map (by simpa using h)]
  have : gd (List.range S.length) i = i := by rw [gd_eq (by simpa using h)]; simp
  rw [this]
theorem at_ct (M : List As) (a0 ap ak : Option Addr) (cap0 capp capk nk : Nat) (S : List Slot) (PS : List PfC) (t : Int) (hr0 : RdH M a0 5 encSlot S) (hn : S.length ≤ 1000000) (hl : PS.length = S.length) (hP : ∀ i, i < PS.length → rising (gd PS i).L ∧ (gd PS i).L.length ≤ 1000000) :
    Ctr Try.prog 38 #[.agg #[.slice a0 S.length cap0, .slice ap S.length capp, .slice ak nk capk], .int .i64 t] (Pfs PS :: ERow 75 1 encPt ap S.length capp (pbs PS) :: M)
      (fun v M' => ∃ a' cap', (0 < S.length → ∃ g, a' = some ⟨g, 0, none⟩) ∧ v = .slice a' S.length cap' ∧ M' = ERow 48 5 encSlot a' S.length cap' (atL S PS t) :: Pfs PS :: ERow 75 1 encPt ap S.length capp (pbs PS) :: M) := by
  have hbl : (pbs PS).length = S.length := by rw [List.length_map, hl]
  refine Ctr.row (okf fn38) (Take.there Take.here) (fun rh => ?_)
  refine ctr_of (Γ := tab) (vs := [_, _]) fn38 rfl ?_
  repeat ((conv => whnf); (first | refine ztx ?_ | refine LNext.nilr ?_ | refine zne ?_ | refine zga ?_ | refine zxa ?_ | refine zca ?_ | refine zcb ?_ | refine zgb ?_ | refine zgc ?_ | refine zgd1 ?_ | refine zge ?_ | refine zgf ?_ | refine zgg ?_ | refine zgh ?_ | refine zgi ?_ | refine zgj ?_ | refine zgk ?_ | refine max2m ?_ | refine min2m ?_ | refine eqStr ?_ | refine neqStr ?_ | refine eqSlNil ?_ | refine neqSlNil ?_ | refine eqBool ?_ | refine neqBool ?_ | refine capSlice ?_ | refine zgl ?_ | refine zgm ?_ | refine zgn ?_ | refine zgo ?_ | refine zba ?_ | refine zbb ?_ | refine zbc ?_ | refine zbd ?_ | refine zbe ?_ | refine zbf ?_ | refine zia ?_ | refine zib ?_ | refine zic ?_ | refine zid1 ?_ | refine zie ?_ | refine zif1 ?_ | refine zig ?_ | refine zih ?_ | refine lint_u8_mod ?_ | refine lint_u32_mod ?_ | refine zii ?_ | refine zij ?_ | refine zua ?_ | refine zgs ?_ | refine zgu ?_ | refine eqMapNil ?_ | refine neqMapNil ?_ | refine LRes.mk ?_ | refine LIn.step ?_ | refine zdr ?_ | refine zna (fun _ => ?_) | refine znb (fun _ => ?_) | refine znc (fun _ => ?_) | refine newSlice0 (fun _ => ?_) | refine newMap (fun _ => ?_)))
  refine call3 (clS_ct _ a0 cap0 S zRd (by omega)) ?_
  rintro v M' ⟨la, lc, hla, rfl, rfl⟩
  repeat ((conv => whnf); (first | refine ztx ?_ | refine LNext.nilr ?_ | refine zne ?_ | refine zga ?_ | refine zxa ?_ | refine zca ?_ | refine zcb ?_ | refine zgb ?_ | refine zgc ?_ | refine zgd1 ?_ | refine zge ?_ | refine zgf ?_ | refine zgg ?_ | refine zgh ?_ | refine zgi ?_ | refine zgj ?_ | refine zgk ?_ | refine max2m ?_ | refine min2m ?_ | refine eqStr ?_ | refine neqStr ?_ | refine eqSlNil ?_ | refine neqSlNil ?_ | refine eqBool ?_ | refine neqBool ?_ | refine capSlice ?_ | refine zgl ?_ | refine zgm ?_ | refine zgn ?_ | refine zgo ?_ | refine zba ?_ | refine zbb ?_ | refine zbc ?_ | refine zbd ?_ | refine zbe ?_ | refine zbf ?_ | refine zia ?_ | refine zib ?_ | refine zic ?_ | refine zid1 ?_ | refine zie ?_ | refine zif1 ?_ | refine zig ?_ | refine zih ?_ | refine lint_u8_mod ?_ | refine lint_u32_mod ?_ | refine zii ?_ | refine zij ?_ | refine zua ?_ | refine zgs ?_ | refine zgu ?_ | refine eqMapNil ?_ | refine neqMapNil ?_ | refine LRes.mk ?_ | refine LIn.step ?_ | refine zdr ?_ | refine zna (fun _ => ?_) | refine znb (fun _ => ?_) | refine znc (fun _ => ?_) | refine newSlice0 (fun _ => ?_) | refine newMap (fun _ => ?_)))
  rename_i lb
  refine LLoop.inv (Γ := tab) (fun x : Nat × List Slot => [(1, .int .i64 t), (2, .pointer (some ⟨lb, 0, none⟩)), (5, .slice la S.length lc), (11, .int .i64 S.length), (12, .int .i64 x.1)])
    (fun x => ERow 48 5 encSlot la S.length lc x.2 :: pt lb (.cells #[.slice a0 S.length cap0, .slice ap S.length capp, .slice ak nk capk] 53) :: Pfs PS :: ERow 75 1 encPt ap S.length capp (pbs PS) :: M)
    (fun x => x.1 ≤ S.length ∧ x.2.length = S.length ∧ (∀ j, j < x.1 → gd x.2 j = gd (atL S PS t) j) ∧ ∀ j, x.1 ≤ j → gd x.2 j = gd S j) (fun x => S.length - x.1) (0, S) ⟨Nat.zero_le _, rfl, fun j q => absurd q (Nat.not_lt_zero _), fun _ _ => rfl⟩ zSu zEn ?_
  rintro ⟨i, X⟩ ⟨hi, hX, h1, h2⟩
  dsimp only at hi hX h1 h2 ⊢
  by_cases h3 : i < S.length
  · obtain ⟨lg, rfl⟩ := hla (by omega)
    obtain ⟨pg, rfl⟩ := rh.ad (by omega)
    have hip : i < PS.length := by omega
    have hib : i < (pbs PS).length := by omega
    have hpb : gd (pbs PS) i = (gd PS i).pb := gd_map hip
    repeat ((conv => whnf); (first | refine ztx ?_ | refine LNext.nilr ?_ | refine zne ?_ | refine zga ?_ | refine zxa ?_ | refine zca ?_ | refine zcb ?_ | refine zgb ?_ | refine zgc ?_ | refine zgd1 ?_ | refine zge ?_ | refine zgf ?_ | refine zgg ?_ | refine zgh ?_ | refine zgi ?_ | refine zgj ?_ | refine zgk ?_ | refine max2m ?_ | refine min2m ?_ | refine eqStr ?_ | refine neqStr ?_ | refine eqSlNil ?_ | refine neqSlNil ?_ | refine eqBool ?_ | refine neqBool ?_ | refine capSlice ?_ | refine zgl ?_ | refine zgm ?_ | refine zgn ?_ | refine zgo ?_ | refine zba ?_ | refine zbb ?_ | refine zbc ?_ | refine zbd ?_ | refine zbe ?_ | refine zbf ?_ | refine zia ?_ | refine zib ?_ | refine zic ?_ | refine zid1 ?_ | refine zie ?_ | refine zif1 ?_ | refine zig ?_ | refine zih ?_ | refine lint_u8_mod ?_ | refine lint_u32_mod ?_ | refine zii ?_ | refine zij ?_ | refine zua ?_ | refine zgs ?_ | refine zgu ?_ | refine eqMapNil ?_ | refine neqMapNil ?_ | refine LRes.mk ?_ | refine LIn.step ?_ | refine zdr ?_ | refine zna (fun _ => ?_) | refine znb (fun _ => ?_) | refine znc (fun _ => ?_) | refine newSlice0 (fun _ => ?_) | refine newMap (fun _ => ?_)))
    rw [hpb]
    refine call1 (freeP_ct PS i hip t (hP i hip).1 (hP i hip).2) zSp ?_
    rintro v M' ⟨rfl, rfl⟩
    repeat ((conv => whnf); (first | refine ztx ?_ | refine LNext.nilr ?_ | refine zne ?_ | refine zga ?_ | refine zxa ?_ | refine zca ?_ | refine zcb ?_ | refine zgb ?_ | refine zgc ?_ | refine zgd1 ?_ | refine zge ?_ | refine zgf ?_ | refine zgg ?_ | refine zgh ?_ | refine zgi ?_ | refine zgj ?_ | refine zgk ?_ | refine max2m ?_ | refine min2m ?_ | refine eqStr ?_ | refine neqStr ?_ | refine eqSlNil ?_ | refine neqSlNil ?_ | refine eqBool ?_ | refine neqBool ?_ | refine capSlice ?_ | refine zgl ?_ | refine zgm ?_ | refine zgn ?_ | refine zgo ?_ | refine zba ?_ | refine zbb ?_ | refine zbc ?_ | refine zbd ?_ | refine zbe ?_ | refine zbf ?_ | refine zia ?_ | refine zib ?_ | refine zic ?_ | refine zid1 ?_ | refine zie ?_ | refine zif1 ?_ | refine zig ?_ | refine zih ?_ | refine lint_u8_mod ?_ | refine lint_u32_mod ?_ | refine zii ?_ | refine zij ?_ | refine zua ?_ | refine zgs ?_ | refine zgu ?_ | refine eqMapNil ?_ | refine neqMapNil ?_ | refine LRes.mk ?_ | refine LIn.step ?_ | refine zdr ?_ | refine zna (fun _ => ?_) | refine znb (fun _ => ?_) | refine znc (fun _ => ?_) | refine newSlice0 (fun _ => ?_) | refine newMap (fun _ => ?_)))
    refine storeP tab (((gd X i).1, fr (gd PS i).c (gd PS i).L t)) zTk (by intro _; rfl) rfl zOm (by rfl) (by rfl) (by rfl) (by rfl) ?_
    repeat ((conv => whnf); (first | refine ztx ?_ | refine LNext.nilr ?_ | refine zne ?_ | refine zga ?_ | refine zxa ?_ | refine zca ?_ | refine zcb ?_ | refine zgb ?_ | refine zgc ?_ | refine zgd1 ?_ | refine zge ?_ | refine zgf ?_ | refine zgg ?_ | refine zgh ?_ | refine zgi ?_ | refine zgj ?_ | refine zgk ?_ | refine max2m ?_ | refine min2m ?_ | refine eqStr ?_ | refine neqStr ?_ | refine eqSlNil ?_ | refine neqSlNil ?_ | refine eqBool ?_ | refine neqBool ?_ | refine capSlice ?_ | refine zgl ?_ | refine zgm ?_ | refine zgn ?_ | refine zgo ?_ | refine zba ?_ | refine zbb ?_ | refine zbc ?_ | refine zbd ?_ | refine zbe ?_ | refine zbf ?_ | refine zia ?_ | refine zib ?_ | refine zic ?_ | refine zid1 ?_ | refine zie ?_ | refine zif1 ?_ | refine zig ?_ | refine zih ?_ | refine lint_u8_mod ?_ | refine lint_u32_mod ?_ | refine zii ?_ | refine zij ?_ | refine zua ?_ | refine zgs ?_ | refine zgu ?_ | refine eqMapNil ?_ | refine neqMapNil ?_ | refine LRes.mk ?_ | refine LIn.step ?_ | refine zdr ?_ | refine zna (fun _ => ?_) | refine znb (fun _ => ?_) | refine znc (fun _ => ?_) | refine newSlice0 (fun _ => ?_) | refine newMap (fun _ => ?_)))
    exact ⟨(i + 1, X.set i ((gd X i).1, fr (gd PS i).c (gd PS i).L t)), ⟨h3, by show (X.set i _).length = _; rw [List.length_set, hX], fun j q => by
      show gd (X.set i _) j = _
      have q' : j < i + 1 := q
      rw [gd_set (by omega)]
      by_cases e : j = i
      · subst e; rw [if_pos rfl, atL_gd h3, h2 j (Nat.le_refl _)]
      · rw [if_neg e]; exact h1 j (by omega), fun j q => by
      show gd (X.set i _) j = _
      have q' : i + 1 ≤ j := q
      rw [gd_set (by omega), if_neg (by omega)]
      exact h2 j (by omega)⟩, by show S.length - (i + 1) < S.length - i; omega, zSu, zEn⟩
  · have : i = S.length := by omega
    subst this
    have hXe : X = atL S PS t := gd_ext (by rw [atL_len, hX]) (fun j q => h1 j (by omega))
    rw [hXe]
    repeat ((conv => whnf); (first | refine ztx ?_ | refine LNext.nilr ?_ | refine zne ?_ | refine zga ?_ | refine zxa ?_ | refine zca ?_ | refine zcb ?_ | refine zgb ?_ | refine zgc ?_ | refine zgd1 ?_ | refine zge ?_ | refine zgf ?_ | refine zgg ?_ | refine zgh ?_ | refine zgi ?_ | refine zgj ?_ | refine zgk ?_ | refine max2m ?_ | refine min2m ?_ | refine eqStr ?_ | refine neqStr ?_ | refine eqSlNil ?_ | refine neqSlNil ?_ | refine eqBool ?_ | refine neqBool ?_ | refine capSlice ?_ | refine zgl ?_ | refine zgm ?_ | refine zgn ?_ | refine zgo ?_ | refine zba ?_ | refine zbb ?_ | refine zbc ?_ | refine zbd ?_ | refine zbe ?_ | refine zbf ?_ | refine zia ?_ | refine zib ?_ | refine zic ?_ | refine zid1 ?_ | refine zie ?_ | refine zif1 ?_ | refine zig ?_ | refine zih ?_ | refine lint_u8_mod ?_ | refine lint_u32_mod ?_ | refine zii ?_ | refine zij ?_ | refine zua ?_ | refine zgs ?_ | refine zgu ?_ | refine eqMapNil ?_ | refine neqMapNil ?_ | refine LRes.mk ?_ | refine LIn.step ?_ | refine zdr ?_ | refine zna (fun _ => ?_) | refine znb (fun _ => ?_) | refine znc (fun _ => ?_) | refine newSlice0 (fun _ => ?_) | refine newMap (fun _ => ?_)))
    show Fin _ _ _; exact Fin.of _ zEn ⟨la, lc, hla, rfl, rfl⟩
/-- The first tick at which there is room, or something wrong. -/
def LnIs (T : List V4) (S : List Slot) (PS : List PfC) (Y : List Int) (r : Int × List ByteArray × Int) : Prop :=
  (∃ i, i < Y.length ∧ (∀ j, j < i → (fitR T (atL S PS (gd Y j))).2 = 6) ∧ (fitR T (atL S PS (gd Y i))).2 ≠ 6 ∧ r = (gd Y i, fitR T (atL S PS (gd Y i)))) ∨ ((∀ j, j < Y.length → (fitR T (atL S PS (gd Y j))).2 = 6) ∧ r = (0, [], 6))
def StAns (p : Int × List ByteArray × Int → Prop) (M : List As) (v : Value) (M' : List As) : Prop :=
  ∃ r a' cap', p r ∧ (0 < r.2.1.length → ∃ g, a' = some ⟨g, 0, none⟩) ∧ v = .tuple #[.int .i64 r.1, .slice a' r.2.1.length cap', .int .i64 r.2.2] ∧ M' = ERow 9 1 encS1 a' r.2.1.length cap' r.2.1 :: M
theorem start_ct (M : List As) (a a0 ap ak : Option Addr) (cap cap0 capp capk : Nat) (T : List V4) (S : List Slot) (PS : List PfC) (Y : List Int) (hr : RdH M a 4 encV T) (hr0 : RdH M a0 5 encSlot S) (hY : RdH M ak 1 encZ Y) (hn : S.length ≤ 1000000) (hnT : T.length ≤ 1000000) (hnY : Y.length ≤ 1000000) (hl : PS.length = S.length) (hP : ∀ i, i < PS.length → rising (gd PS i).L ∧ (gd PS i).L.length ≤ 1000000) :
    Ctr Try.prog 17 #[.agg #[.slice a0 S.length cap0, .slice ap S.length capp, .slice ak Y.length capk], .slice a T.length cap] (Pfs PS :: ERow 75 1 encPt ap S.length capp (pbs PS) :: M)
      (StAns (LnIs T S PS Y) (Pfs PS :: ERow 75 1 encPt ap S.length capp (pbs PS) :: M)) := by
  have hY2 : RdH (Pfs PS :: ERow 75 1 encPt ap S.length capp (pbs PS) :: M) ak 1 encZ Y := hY.there.there
  refine Ctr.rd (okf fn17) hY2 (fun hrd => ?_)
  refine ctr_of (Γ := tab) (vs := [_, _]) fn17 rfl ?_
  repeat ((conv => whnf); (first | refine ztx ?_ | refine LNext.nilr ?_ | refine zne ?_ | refine zga ?_ | refine zxa ?_ | refine zca ?_ | refine zcb ?_ | refine zgb ?_ | refine zgc ?_ | refine zgd1 ?_ | refine zge ?_ | refine zgf ?_ | refine zgg ?_ | refine zgh ?_ | refine zgi ?_ | refine zgj ?_ | refine zgk ?_ | refine max2m ?_ | refine min2m ?_ | refine eqStr ?_ | refine neqStr ?_ | refine eqSlNil ?_ | refine neqSlNil ?_ | refine eqBool ?_ | refine neqBool ?_ | refine capSlice ?_ | refine zgl ?_ | refine zgm ?_ | refine zgn ?_ | refine zgo ?_ | refine zba ?_ | refine zbb ?_ | refine zbc ?_ | refine zbd ?_ | refine zbe ?_ | refine zbf ?_ | refine zia ?_ | refine zib ?_ | refine zic ?_ | refine zid1 ?_ | refine zie ?_ | refine zif1 ?_ | refine zig ?_ | refine zih ?_ | refine lint_u8_mod ?_ | refine lint_u32_mod ?_ | refine zii ?_ | refine zij ?_ | refine zua ?_ | refine zgs ?_ | refine zgu ?_ | refine eqMapNil ?_ | refine neqMapNil ?_ | refine LRes.mk ?_ | refine LIn.step ?_ | refine zdr ?_ | refine zna (fun _ => ?_) | refine znb (fun _ => ?_) | refine znc (fun _ => ?_) | refine newSlice0 (fun _ => ?_) | refine newMap (fun _ => ?_)))
  rename_i lb
  refine LLoop.inv (Γ := tab) (fun i : Nat => [(1, .slice a T.length cap), (2, .pointer (some ⟨lb, 0, none⟩)), (12, .slice ak Y.length capk), (13, .int .i64 Y.length), (14, .int .i64 i)])
    (fun i => pt lb (.cells #[.slice a0 S.length cap0, .slice ap S.length capp, .slice ak Y.length capk] 53) :: Pfs PS :: ERow 75 1 encPt ap S.length capp (pbs PS) :: M)
    (fun i => i ≤ Y.length ∧ ∀ j, j < i → (fitR T (atL S PS (gd Y j))).2 = 6) (fun i => Y.length - i) 0 ⟨Nat.zero_le _, fun j q => absurd q (Nat.not_lt_zero _)⟩ zSu zEn ?_
  rintro i ⟨hi, hj⟩
  by_cases h1 : i < Y.length
  · obtain ⟨yb, yo, rfl, hlies⟩ := hrd.get h1
    repeat ((conv => whnf); (first | refine ztx ?_ | refine LNext.nilr ?_ | refine zne ?_ | refine zga ?_ | refine zxa ?_ | refine zca ?_ | refine zcb ?_ | refine zgb ?_ | refine zgc ?_ | refine zgd1 ?_ | refine zge ?_ | refine zgf ?_ | refine zgg ?_ | refine zgh ?_ | refine zgi ?_ | refine zgj ?_ | refine zgk ?_ | refine max2m ?_ | refine min2m ?_ | refine eqStr ?_ | refine neqStr ?_ | refine eqSlNil ?_ | refine neqSlNil ?_ | refine eqBool ?_ | refine neqBool ?_ | refine capSlice ?_ | refine zgl ?_ | refine zgm ?_ | refine zgn ?_ | refine zgo ?_ | refine zba ?_ | refine zbb ?_ | refine zbc ?_ | refine zbd ?_ | refine zbe ?_ | refine zbf ?_ | refine zia ?_ | refine zib ?_ | refine zic ?_ | refine zid1 ?_ | refine zie ?_ | refine zif1 ?_ | refine zig ?_ | refine zih ?_ | refine lint_u8_mod ?_ | refine lint_u32_mod ?_ | refine zii ?_ | refine zij ?_ | refine zua ?_ | refine zgs ?_ | refine zgu ?_ | refine eqMapNil ?_ | refine neqMapNil ?_ | refine LRes.mk ?_ | refine LIn.step ?_ | refine zdr ?_ | refine zna (fun _ => ?_) | refine znb (fun _ => ?_) | refine znc (fun _ => ?_) | refine newSlice0 (fun _ => ?_) | refine newMap (fun _ => ?_)))
    refine call1 (at_ct M a0 ap (some ⟨yb, yo, none⟩) cap0 capp capk Y.length S PS (gd Y i) hr0 hn hl hP) zSp ?_
    rintro v M' ⟨la, lc, hla, rfl, rfl⟩
    have hal := atL_len S PS (gd Y i)
    rw [← hal]
    repeat ((conv => whnf); (first | refine ztx ?_ | refine LNext.nilr ?_ | refine zne ?_ | refine zga ?_ | refine zxa ?_ | refine zca ?_ | refine zcb ?_ | refine zgb ?_ | refine zgc ?_ | refine zgd1 ?_ | refine zge ?_ | refine zgf ?_ | refine zgg ?_ | refine zgh ?_ | refine zgi ?_ | refine zgj ?_ | refine zgk ?_ | refine max2m ?_ | refine min2m ?_ | refine eqStr ?_ | refine neqStr ?_ | refine eqSlNil ?_ | refine neqSlNil ?_ | refine eqBool ?_ | refine neqBool ?_ | refine capSlice ?_ | refine zgl ?_ | refine zgm ?_ | refine zgn ?_ | refine zgo ?_ | refine zba ?_ | refine zbb ?_ | refine zbc ?_ | refine zbd ?_ | refine zbe ?_ | refine zbf ?_ | refine zia ?_ | refine zib ?_ | refine zic ?_ | refine zid1 ?_ | refine zie ?_ | refine zif1 ?_ | refine zig ?_ | refine zih ?_ | refine lint_u8_mod ?_ | refine lint_u32_mod ?_ | refine zii ?_ | refine zij ?_ | refine zua ?_ | refine zgs ?_ | refine zgu ?_ | refine eqMapNil ?_ | refine neqMapNil ?_ | refine LRes.mk ?_ | refine LIn.step ?_ | refine zdr ?_ | refine zna (fun _ => ?_) | refine znb (fun _ => ?_) | refine znc (fun _ => ?_) | refine newSlice0 (fun _ => ?_) | refine newMap (fun _ => ?_)))
    refine call3 (fit_ct _ a la cap lc T (atL S PS (gd Y i)) zRd zRd (by omega) (by omega)) ?_
    rintro v M' ⟨n0, nc0, had0, rfl, rfl⟩
    rw [hal]
    by_cases h6 : (fitR T (atL S PS (gd Y i))).2 = 6
    · repeat ((conv => whnf); (first | refine ztx ?_ | refine LNext.nilr ?_ | refine zne ?_ | refine zga ?_ | refine zxa ?_ | refine zca ?_ | refine zcb ?_ | refine zgb ?_ | refine zgc ?_ | refine zgd1 ?_ | refine zge ?_ | refine zgf ?_ | refine zgg ?_ | refine zgh ?_ | refine zgi ?_ | refine zgj ?_ | refine zgk ?_ | refine max2m ?_ | refine min2m ?_ | refine eqStr ?_ | refine neqStr ?_ | refine eqSlNil ?_ | refine neqSlNil ?_ | refine eqBool ?_ | refine neqBool ?_ | refine capSlice ?_ | refine zgl ?_ | refine zgm ?_ | refine zgn ?_ | refine zgo ?_ | refine zba ?_ | refine zbb ?_ | refine zbc ?_ | refine zbd ?_ | refine zbe ?_ | refine zbf ?_ | refine zia ?_ | refine zib ?_ | refine zic ?_ | refine zid1 ?_ | refine zie ?_ | refine zif1 ?_ | refine zig ?_ | refine zih ?_ | refine lint_u8_mod ?_ | refine lint_u32_mod ?_ | refine zii ?_ | refine zij ?_ | refine zua ?_ | refine zgs ?_ | refine zgu ?_ | refine eqMapNil ?_ | refine neqMapNil ?_ | refine LRes.mk ?_ | refine LIn.step ?_ | refine zdr ?_ | refine zna (fun _ => ?_) | refine znb (fun _ => ?_) | refine znc (fun _ => ?_) | refine newSlice0 (fun _ => ?_) | refine newMap (fun _ => ?_)))
      exact ⟨i + 1, ⟨h1, fun j q => by by_cases e : j = i; exact e ▸ h6; exact hj j (by omega)⟩, by omega, zSu, zEn⟩
    · repeat ((conv => whnf); (first | refine ztx ?_ | refine LNext.nilr ?_ | refine zne ?_ | refine zga ?_ | refine zxa ?_ | refine zca ?_ | refine zcb ?_ | refine zgb ?_ | refine zgc ?_ | refine zgd1 ?_ | refine zge ?_ | refine zgf ?_ | refine zgg ?_ | refine zgh ?_ | refine zgi ?_ | refine zgj ?_ | refine zgk ?_ | refine max2m ?_ | refine min2m ?_ | refine eqStr ?_ | refine neqStr ?_ | refine eqSlNil ?_ | refine neqSlNil ?_ | refine eqBool ?_ | refine neqBool ?_ | refine capSlice ?_ | refine zgl ?_ | refine zgm ?_ | refine zgn ?_ | refine zgo ?_ | refine zba ?_ | refine zbb ?_ | refine zbc ?_ | refine zbd ?_ | refine zbe ?_ | refine zbf ?_ | refine zia ?_ | refine zib ?_ | refine zic ?_ | refine zid1 ?_ | refine zie ?_ | refine zif1 ?_ | refine zig ?_ | refine zih ?_ | refine lint_u8_mod ?_ | refine lint_u32_mod ?_ | refine zii ?_ | refine zij ?_ | refine zua ?_ | refine zgs ?_ | refine zgu ?_ | refine eqMapNil ?_ | refine neqMapNil ?_ | refine LRes.mk ?_ | refine LIn.step ?_ | refine zdr ?_ | refine zna (fun _ => ?_) | refine znb (fun _ => ?_) | refine znc (fun _ => ?_) | refine newSlice0 (fun _ => ?_) | refine newMap (fun _ => ?_)))
      show Fin _ _ _; exact Fin.of (ERow 9 1 encS1 n0 (fitR T (atL S PS (gd Y i))).1.length nc0 (fitR T (atL S PS (gd Y i))).1 :: Pfs PS :: ERow 75 1 encPt ap S.length capp (pbs PS) :: M) zEn ⟨(gd Y i, fitR T (atL S PS (gd Y i))), n0, nc0, .inl ⟨i, h1, hj, h6, rfl⟩, had0, rfl, rfl⟩
  · have : i = Y.length := by omega
    subst this
    repeat ((conv => whnf); (first | refine ztx ?_ | refine LNext.nilr ?_ | refine zne ?_ | refine zga ?_ | refine zxa ?_ | refine zca ?_ | refine zcb ?_ | refine zgb ?_ | refine zgc ?_ | refine zgd1 ?_ | refine zge ?_ | refine zgf ?_ | refine zgg ?_ | refine zgh ?_ | refine zgi ?_ | refine zgj ?_ | refine zgk ?_ | refine max2m ?_ | refine min2m ?_ | refine eqStr ?_ | refine neqStr ?_ | refine eqSlNil ?_ | refine neqSlNil ?_ | refine eqBool ?_ | refine neqBool ?_ | refine capSlice ?_ | refine zgl ?_ | refine zgm ?_ | refine zgn ?_ | refine zgo ?_ | refine zba ?_ | refine zbb ?_ | refine zbc ?_ | refine zbd ?_ | refine zbe ?_ | refine zbf ?_ | refine zia ?_ | refine zib ?_ | refine zic ?_ | refine zid1 ?_ | refine zie ?_ | refine zif1 ?_ | refine zig ?_ | refine zih ?_ | refine lint_u8_mod ?_ | refine lint_u32_mod ?_ | refine zii ?_ | refine zij ?_ | refine zua ?_ | refine zgs ?_ | refine zgu ?_ | refine eqMapNil ?_ | refine neqMapNil ?_ | refine LRes.mk ?_ | refine LIn.step ?_ | refine zdr ?_ | refine zna (fun _ => ?_) | refine znb (fun _ => ?_) | refine znc (fun _ => ?_) | refine newSlice0 (fun _ => ?_) | refine newMap (fun _ => ?_)))
    show Fin _ _ _; exact Fin.of (ERow 9 1 encS1 none 0 0 [] :: Pfs PS :: ERow 75 1 encPt ap S.length capp (pbs PS) :: M) (Ent.trans (Split.ent (L := Pfs PS :: ERow 75 1 encPt ap S.length capp (pbs PS) :: M) zSp) ent_e0) ⟨(0, [], 6), none, 0, .inr ⟨hj, rfl⟩, (fun h => absurd h (Nat.lt_irrefl 0)), rfl, rfl⟩
end Go.Proofs.Ytchaijafpmofdaa
