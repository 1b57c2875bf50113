import Derived.Test.YtchaijafpmofdaaFlF
/-! The reference's start; FillStarts, walked. -/
namespace Go.Proofs.Ytchaijafpmofdaa
open Go.Sl
set_option linter.unusedVariables false
set_option linter.unusedSimpArgs false
set_option maxRecDepth 100000
set_option maxHeartbeats 1000000

theorem ext3 {P : Program} {f : FuncId} {args : Array Value} {M : List As} {R : Value → List As → Prop} {k : Value → List As → Prop} (hs : Ctr P f args M R) (hR : ∀ v M', R v M' → ∃ X, M' = X ++ M ∧ k v X) : LExt P f args M k :=
  ⟨k, (hs.weaken (Ent.refl _) (fun v M' h => by obtain ⟨X, e, hk⟩ := hR v M' h; exact ⟨X, hk, e⟩)).to, fun _ _ h => h⟩
/-- The best start so far: none, or the least tick with room. -/
structure BS where
  k : Nat
  best : Int
  a : Option Addr
  c : Nat
  N : List ByteArray
def BestIs (now : Int) (T : List V4) (S : List Slot) (rs : List RunV) (k : Nat) (best : Int) (N : List ByteArray) : Prop :=
  (best = -1 ∧ N = [] ∧ ∀ j, j < k → (Afit now T S rs (endR now (gd rs j))).2 = 6) ∨ (0 ≤ best ∧ (∃ j, j < k ∧ best = endR now (gd rs j)) ∧ Afit now T S rs best = (N, 0) ∧ ∀ j, j < k → endR now (gd rs j) < best → (Afit now T S rs (endR now (gd rs j))).2 = 6)
theorem rStart_ct (now : Int) (M : List As) (a av a0 : Option Addr) (cap capv cap0 : Nat) (T : List V4) (RS : List RunT) (S : List Slot) (hr : RdH M a 4 encV T) (hrv : RdH M av 4 encRun RS) (hrs : RdRs M RS) (hr0 : RdH M a0 5 encSlot S) (hn : T.length ≤ 1000000) (hnv : RS.length ≤ 1000000) (hn0 : S.length ≤ 1000000) (hsm : smallR RS) :
    Ctr Try.prog 9 #[.int .i64 now, .slice a T.length cap, .slice av RS.length capv, .slice a0 S.length cap0] M (StAns (SIs now T RS S) M) := by
  refine Ctr.rd (okf fn9) hrv (fun hrvd => ?_)
  refine ctr_of (Γ := tab) (vs := [_, _, _, _]) fn9 rfl ?_
  have hvl : (vs RS).length = RS.length := List.length_map _
  repeat ((conv => whnf); (first | refine ztx ?_ | refine LNext.nilr ?_ | refine zne ?_ | refine zga ?_ | refine zxa ?_ | refine zca ?_ | refine zcb ?_ | refine zgb ?_ | refine zgc ?_ | refine zgd1 ?_ | refine zge ?_ | refine zgf ?_ | refine zgg ?_ | refine zgh ?_ | refine zgi ?_ | refine zgj ?_ | refine zgk ?_ | refine max2m ?_ | refine min2m ?_ | refine eqStr ?_ | refine neqStr ?_ | refine eqSlNil ?_ | refine neqSlNil ?_ | refine eqBool ?_ | refine neqBool ?_ | refine capSlice ?_ | refine zgl ?_ | refine zgm ?_ | refine zgn ?_ | refine zgo ?_ | refine zba ?_ | refine zbb ?_ | refine zbc ?_ | refine zbd ?_ | refine zbe ?_ | refine zbf ?_ | refine zia ?_ | refine zib ?_ | refine zic ?_ | refine zid1 ?_ | refine zie ?_ | refine zif1 ?_ | refine zig ?_ | refine zih ?_ | refine lint_u8_mod ?_ | refine lint_u32_mod ?_ | refine zii ?_ | refine zij ?_ | refine zua ?_ | refine zgs ?_ | refine zgu ?_ | refine eqMapNil ?_ | refine neqMapNil ?_ | refine LRes.mk ?_ | refine LIn.step ?_ | refine zdr ?_ | refine zna (fun _ => ?_) | refine znb (fun _ => ?_) | refine znc (fun _ => ?_) | refine newSlice0 (fun _ => ?_) | refine newMap (fun _ => ?_)))
  refine call0 (wrong18_ct now _ a av a0 cap capv cap0 T RS S zRd zRd hrs zRd hn hnv hn0 hsm) ?_
  rintro v rfl
  by_cases hz : preE now T RS S = 0
  case neg =>
    have hp : SIs now T RS S (0, [], preE now T RS S) := by unfold SIs; rw [if_pos hz]
    repeat ((conv => whnf); (first | refine ztx ?_ | refine LNext.nilr ?_ | refine zne ?_ | refine zga ?_ | refine zxa ?_ | refine zca ?_ | refine zcb ?_ | refine zgb ?_ | refine zgc ?_ | refine zgd1 ?_ | refine zge ?_ | refine zgf ?_ | refine zgg ?_ | refine zgh ?_ | refine zgi ?_ | refine zgj ?_ | refine zgk ?_ | refine max2m ?_ | refine min2m ?_ | refine eqStr ?_ | refine neqStr ?_ | refine eqSlNil ?_ | refine neqSlNil ?_ | refine eqBool ?_ | refine neqBool ?_ | refine capSlice ?_ | refine zgl ?_ | refine zgm ?_ | refine zgn ?_ | refine zgo ?_ | refine zba ?_ | refine zbb ?_ | refine zbc ?_ | refine zbd ?_ | refine zbe ?_ | refine zbf ?_ | refine zia ?_ | refine zib ?_ | refine zic ?_ | refine zid1 ?_ | refine zie ?_ | refine zif1 ?_ | refine zig ?_ | refine zih ?_ | refine lint_u8_mod ?_ | refine lint_u32_mod ?_ | refine zii ?_ | refine zij ?_ | refine zua ?_ | refine zgs ?_ | refine zgu ?_ | refine eqMapNil ?_ | refine neqMapNil ?_ | refine LRes.mk ?_ | refine LIn.step ?_ | refine zdr ?_ | refine zna (fun _ => ?_) | refine znb (fun _ => ?_) | refine znc (fun _ => ?_) | refine newSlice0 (fun _ => ?_) | refine newMap (fun _ => ?_)))
    show Fin _ _ _; exact Fin.of (ERow 9 1 encS1 none 0 0 [] :: M) (Ent.trans zEn ent_e0) ⟨(0, [], preE now T RS S), none, 0, hp, (fun h => absurd h (Nat.lt_irrefl 0)), rfl, rfl⟩
  obtain ⟨hb, hF⟩ := pre0 hz
  obtain ⟨b1, b2, b3, b4⟩ := badR_iff.1 hb
  have hSI : ∀ r, StartIs now T S (vs RS) r → SIs now T RS S r := fun r h => by unfold SIs; rw [if_neg (by simpa using hz)]; exact h
  repeat ((conv => whnf); (first | refine ztx ?_ | refine LNext.nilr ?_ | refine zne ?_ | refine zga ?_ | refine zxa ?_ | refine zca ?_ | refine zcb ?_ | refine zgb ?_ | refine zgc ?_ | refine zgd1 ?_ | refine zge ?_ | refine zgf ?_ | refine zgg ?_ | refine zgh ?_ | refine zgi ?_ | refine zgj ?_ | refine zgk ?_ | refine max2m ?_ | refine min2m ?_ | refine eqStr ?_ | refine neqStr ?_ | refine eqSlNil ?_ | refine neqSlNil ?_ | refine eqBool ?_ | refine neqBool ?_ | refine capSlice ?_ | refine zgl ?_ | refine zgm ?_ | refine zgn ?_ | refine zgo ?_ | refine zba ?_ | refine zbb ?_ | refine zbc ?_ | refine zbd ?_ | refine zbe ?_ | refine zbf ?_ | refine zia ?_ | refine zib ?_ | refine zic ?_ | refine zid1 ?_ | refine zie ?_ | refine zif1 ?_ | refine zig ?_ | refine zih ?_ | refine lint_u8_mod ?_ | refine lint_u32_mod ?_ | refine zii ?_ | refine zij ?_ | refine zua ?_ | refine zgs ?_ | refine zgu ?_ | refine eqMapNil ?_ | refine neqMapNil ?_ | refine LRes.mk ?_ | refine LIn.step ?_ | refine zdr ?_ | refine zna (fun _ => ?_) | refine znb (fun _ => ?_) | refine znc (fun _ => ?_) | refine newSlice0 (fun _ => ?_) | refine newMap (fun _ => ?_)))
  refine call3 (rFit_ct _ a a0 cap cap0 T S zRd zRd (by omega) (by omega)) ?_
  rintro v M' ⟨n0, nc0, had0, rfl, rfl⟩
  by_cases hf : (fitR T S).2 = 0
  · have hp : SIs now T RS S (now, (fitR T S).1, 0) := by
      refine hSI _ (.inl ⟨now, .inl rfl, ?_, fun u hu hlt => ?_, ?_⟩)
      · unfold Afit; rw [atR_now]; exact hf
      · have := hu.le; omega
      · unfold Afit; rw [atR_now]
    repeat ((conv => whnf); (first | refine ztx ?_ | refine LNext.nilr ?_ | refine zne ?_ | refine zga ?_ | refine zxa ?_ | refine zca ?_ | refine zcb ?_ | refine zgb ?_ | refine zgc ?_ | refine zgd1 ?_ | refine zge ?_ | refine zgf ?_ | refine zgg ?_ | refine zgh ?_ | refine zgi ?_ | refine zgj ?_ | refine zgk ?_ | refine max2m ?_ | refine min2m ?_ | refine eqStr ?_ | refine neqStr ?_ | refine eqSlNil ?_ | refine neqSlNil ?_ | refine eqBool ?_ | refine neqBool ?_ | refine capSlice ?_ | refine zgl ?_ | refine zgm ?_ | refine zgn ?_ | refine zgo ?_ | refine zba ?_ | refine zbb ?_ | refine zbc ?_ | refine zbd ?_ | refine zbe ?_ | refine zbf ?_ | refine zia ?_ | refine zib ?_ | refine zic ?_ | refine zid1 ?_ | refine zie ?_ | refine zif1 ?_ | refine zig ?_ | refine zih ?_ | refine lint_u8_mod ?_ | refine lint_u32_mod ?_ | refine zii ?_ | refine zij ?_ | refine zua ?_ | refine zgs ?_ | refine zgu ?_ | refine eqMapNil ?_ | refine neqMapNil ?_ | refine LRes.mk ?_ | refine LIn.step ?_ | refine zdr ?_ | refine zna (fun _ => ?_) | refine znb (fun _ => ?_) | refine znc (fun _ => ?_) | refine newSlice0 (fun _ => ?_) | refine newMap (fun _ => ?_)))
    show Fin _ _ _; exact Fin.of (ERow 9 1 encS1 n0 (fitR T S).1.length nc0 (fitR T S).1 :: M) zEn ⟨(now, (fitR T S).1, 0), n0, nc0, hp, had0, rfl, rfl⟩
  have hnow : (Afit now T S (vs RS) now).2 = 6 := by
    unfold Afit
    rw [atR_now]
    rcases fitR_06 hF.w with q | q
    · exact absurd q hf
    · exact q.1
  repeat ((conv => whnf); (first | refine ztx ?_ | refine LNext.nilr ?_ | refine zne ?_ | refine zga ?_ | refine zxa ?_ | refine zca ?_ | refine zcb ?_ | refine zgb ?_ | refine zgc ?_ | refine zgd1 ?_ | refine zge ?_ | refine zgf ?_ | refine zgg ?_ | refine zgh ?_ | refine zgi ?_ | refine zgj ?_ | refine zgk ?_ | refine max2m ?_ | refine min2m ?_ | refine eqStr ?_ | refine neqStr ?_ | refine eqSlNil ?_ | refine neqSlNil ?_ | refine eqBool ?_ | refine neqBool ?_ | refine capSlice ?_ | refine zgl ?_ | refine zgm ?_ | refine zgn ?_ | refine zgo ?_ | refine zba ?_ | refine zbb ?_ | refine zbc ?_ | refine zbd ?_ | refine zbe ?_ | refine zbf ?_ | refine zia ?_ | refine zib ?_ | refine zic ?_ | refine zid1 ?_ | refine zie ?_ | refine zif1 ?_ | refine zig ?_ | refine zih ?_ | refine lint_u8_mod ?_ | refine lint_u32_mod ?_ | refine zii ?_ | refine zij ?_ | refine zua ?_ | refine zgs ?_ | refine zgu ?_ | refine eqMapNil ?_ | refine neqMapNil ?_ | refine LRes.mk ?_ | refine LIn.step ?_ | refine zdr ?_ | refine zna (fun _ => ?_) | refine znb (fun _ => ?_) | refine znc (fun _ => ?_) | refine newSlice0 (fun _ => ?_) | refine newMap (fun _ => ?_)))
  refine LLoop.inv (Γ := tab) (fun x : BS => [(0, .int .i64 now), (1, .slice a T.length cap), (2, .slice av RS.length capv), (3, .slice a0 S.length cap0), (14, .int .i64 x.best), (15, .slice x.a x.N.length x.c), (16, .int .i64 x.k)])
    (fun x => ERow 9 1 encS1 x.a x.N.length x.c x.N :: M) (fun x => x.k ≤ RS.length ∧ (0 < x.N.length → ∃ g, x.a = some ⟨g, 0, none⟩) ∧ BestIs now T S (vs RS) x.k x.best x.N) (fun x => RS.length - x.k)
    ⟨0, -1, none, 0, []⟩ ⟨Nat.zero_le _, (fun h => absurd h (Nat.lt_irrefl 0)), .inl ⟨rfl, rfl, fun j q => absurd q (Nat.not_lt_zero _)⟩⟩ zSu (Ent.trans zEn ent_e0) ?_
  rintro ⟨k, best, na, nc, N⟩ ⟨hk, had, hbi⟩
  dsimp only at hk had hbi ⊢
  by_cases hlt : k < RS.length
  · obtain ⟨vb, vo, rfl, hlies⟩ := hrvd.get hlt
    have e1 : gd (vs RS) k = (gd RS k).v := gd_map hlt
    have hE : endR now (gd (vs RS) k) = max (gd RS k).fin (now + 1) := by rw [e1]; rfl
    repeat ((conv => whnf); (first | refine ztx ?_ | refine LNext.nilr ?_ | refine zne ?_ | refine zga ?_ | refine zxa ?_ | refine zca ?_ | refine zcb ?_ | refine zgb ?_ | refine zgc ?_ | refine zgd1 ?_ | refine zge ?_ | refine zgf ?_ | refine zgg ?_ | refine zgh ?_ | refine zgi ?_ | refine zgj ?_ | refine zgk ?_ | refine max2m ?_ | refine min2m ?_ | refine eqStr ?_ | refine neqStr ?_ | refine eqSlNil ?_ | refine neqSlNil ?_ | refine eqBool ?_ | refine neqBool ?_ | refine capSlice ?_ | refine zgl ?_ | refine zgm ?_ | refine zgn ?_ | refine zgo ?_ | refine zba ?_ | refine zbb ?_ | refine zbc ?_ | refine zbd ?_ | refine zbe ?_ | refine zbf ?_ | refine zia ?_ | refine zib ?_ | refine zic ?_ | refine zid1 ?_ | refine zie ?_ | refine zif1 ?_ | refine zig ?_ | refine zih ?_ | refine lint_u8_mod ?_ | refine lint_u32_mod ?_ | refine zii ?_ | refine zij ?_ | refine zua ?_ | refine zgs ?_ | refine zgu ?_ | refine eqMapNil ?_ | refine neqMapNil ?_ | refine LRes.mk ?_ | refine LIn.step ?_ | refine zdr ?_ | refine zna (fun _ => ?_) | refine znb (fun _ => ?_) | refine znc (fun _ => ?_) | refine newSlice0 (fun _ => ?_) | refine newMap (fun _ => ?_)))
    refine call3 (at18_ct now (max (gd RS k).fin (now + 1)) _ _ a0 capv cap0 T RS S hF zRd hrs.there zRd hnv hn0 hsm) ?_
    rintro v M' ⟨a1, c1, X, rfl, hX, rfl⟩
    have hal := atR_len now (max (gd RS k).fin (now + 1)) (vs RS) S
    rw [← hal]
    repeat ((conv => whnf); (first | refine ztx ?_ | refine LNext.nilr ?_ | refine zne ?_ | refine zga ?_ | refine zxa ?_ | refine zca ?_ | refine zcb ?_ | refine zgb ?_ | refine zgc ?_ | refine zgd1 ?_ | refine zge ?_ | refine zgf ?_ | refine zgg ?_ | refine zgh ?_ | refine zgi ?_ | refine zgj ?_ | refine zgk ?_ | refine max2m ?_ | refine min2m ?_ | refine eqStr ?_ | refine neqStr ?_ | refine eqSlNil ?_ | refine neqSlNil ?_ | refine eqBool ?_ | refine neqBool ?_ | refine capSlice ?_ | refine zgl ?_ | refine zgm ?_ | refine zgn ?_ | refine zgo ?_ | refine zba ?_ | refine zbb ?_ | refine zbc ?_ | refine zbd ?_ | refine zbe ?_ | refine zbf ?_ | refine zia ?_ | refine zib ?_ | refine zic ?_ | refine zid1 ?_ | refine zie ?_ | refine zif1 ?_ | refine zig ?_ | refine zih ?_ | refine lint_u8_mod ?_ | refine lint_u32_mod ?_ | refine zii ?_ | refine zij ?_ | refine zua ?_ | refine zgs ?_ | refine zgu ?_ | refine eqMapNil ?_ | refine neqMapNil ?_ | refine LRes.mk ?_ | refine LIn.step ?_ | refine zdr ?_ | refine zna (fun _ => ?_) | refine znb (fun _ => ?_) | refine znc (fun _ => ?_) | refine newSlice0 (fun _ => ?_) | refine newMap (fun _ => ?_)))
    refine call3 (rFit_ct _ a a1 cap c1 T (atR now (max (gd RS k).fin (now + 1)) (vs RS) S) hr.there.right hX (by omega) (by omega)) ?_
    rintro v M' ⟨n2, nc2, had2, rfl, rfl⟩
    have hAe : fitR T (atR now (max (gd RS k).fin (now + 1)) (vs RS) S) = Afit now T S (vs RS) (endR now (gd (vs RS) k)) := by rw [hE]
    have h06 := hF.fit06 (now := now) (t := endR now (gd (vs RS) k))
    have hge : now + 1 ≤ max (gd RS k).fin (now + 1) := Int.le_max_right _ _
    rw [hAe]
    rcases h06 with q | q
    case inr =>
      have q0 : (Afit now T S (vs RS) (endR now (gd (vs RS) k))).2 = 6 := q.1
      repeat ((conv => whnf); (first | refine ztx ?_ | refine LNext.nilr ?_ | refine zne ?_ | refine zga ?_ | refine zxa ?_ | refine zca ?_ | refine zcb ?_ | refine zgb ?_ | refine zgc ?_ | refine zgd1 ?_ | refine zge ?_ | refine zgf ?_ | refine zgg ?_ | refine zgh ?_ | refine zgi ?_ | refine zgj ?_ | refine zgk ?_ | refine max2m ?_ | refine min2m ?_ | refine eqStr ?_ | refine neqStr ?_ | refine eqSlNil ?_ | refine neqSlNil ?_ | refine eqBool ?_ | refine neqBool ?_ | refine capSlice ?_ | refine zgl ?_ | refine zgm ?_ | refine zgn ?_ | refine zgo ?_ | refine zba ?_ | refine zbb ?_ | refine zbc ?_ | refine zbd ?_ | refine zbe ?_ | refine zbf ?_ | refine zia ?_ | refine zib ?_ | refine zic ?_ | refine zid1 ?_ | refine zie ?_ | refine zif1 ?_ | refine zig ?_ | refine zih ?_ | refine lint_u8_mod ?_ | refine lint_u32_mod ?_ | refine zii ?_ | refine zij ?_ | refine zua ?_ | refine zgs ?_ | refine zgu ?_ | refine eqMapNil ?_ | refine neqMapNil ?_ | refine LRes.mk ?_ | refine LIn.step ?_ | refine zdr ?_ | refine zna (fun _ => ?_) | refine znb (fun _ => ?_) | refine znc (fun _ => ?_) | refine newSlice0 (fun _ => ?_) | refine newMap (fun _ => ?_)))
      refine ⟨⟨k + 1, best, na, nc, N⟩, ⟨hlt, had, ?_⟩, by show RS.length - (k + 1) < RS.length - k; omega, zSu, zEn⟩
      rcases hbi with ⟨r1, r2, r3⟩ | ⟨r0, ⟨j, hj, r1⟩, r2, r3⟩
      · exact .inl ⟨r1, r2, fun j hj => by
          have hj' : j < k + 1 := hj
          by_cases e : j = k
          · rw [e]; exact q0
          · exact r3 j (by omega)⟩
      · exact .inr ⟨r0, ⟨j, by show j < k + 1; omega, r1⟩, r2, fun j hj h => by
          have hj' : j < k + 1 := hj
          by_cases e : j = k
          · rw [e]; exact q0
          · exact r3 j (by omega) h⟩
    have q0 : (Afit now T S (vs RS) (endR now (gd (vs RS) k))).2 = 0 := q
    have hpair : Afit now T S (vs RS) (endR now (gd (vs RS) k)) = ((Afit now T S (vs RS) (endR now (gd (vs RS) k))).1, 0) := Prod.ext rfl q0
    by_cases hb0 : best < 0
    · have r3 : ∀ j, j < k → (Afit now T S (vs RS) (endR now (gd (vs RS) j))).2 = 6 := by
        rcases hbi with ⟨r1, r2, r3⟩ | ⟨r0, _⟩
        · exact r3
        · omega
      repeat ((conv => whnf); (first | refine ztx ?_ | refine LNext.nilr ?_ | refine zne ?_ | refine zga ?_ | refine zxa ?_ | refine zca ?_ | refine zcb ?_ | refine zgb ?_ | refine zgc ?_ | refine zgd1 ?_ | refine zge ?_ | refine zgf ?_ | refine zgg ?_ | refine zgh ?_ | refine zgi ?_ | refine zgj ?_ | refine zgk ?_ | refine max2m ?_ | refine min2m ?_ | refine eqStr ?_ | refine neqStr ?_ | refine eqSlNil ?_ | refine neqSlNil ?_ | refine eqBool ?_ | refine neqBool ?_ | refine capSlice ?_ | refine zgl ?_ | refine zgm ?_ | refine zgn ?_ | refine zgo ?_ | refine zba ?_ | refine zbb ?_ | refine zbc ?_ | refine zbd ?_ | refine zbe ?_ | refine zbf ?_ | refine zia ?_ | refine zib ?_ | refine zic ?_ | refine zid1 ?_ | refine zie ?_ | refine zif1 ?_ | refine zig ?_ | refine zih ?_ | refine lint_u8_mod ?_ | refine lint_u32_mod ?_ | refine zii ?_ | refine zij ?_ | refine zua ?_ | refine zgs ?_ | refine zgu ?_ | refine eqMapNil ?_ | refine neqMapNil ?_ | refine LRes.mk ?_ | refine LIn.step ?_ | refine zdr ?_ | refine zna (fun _ => ?_) | refine znb (fun _ => ?_) | refine znc (fun _ => ?_) | refine newSlice0 (fun _ => ?_) | refine newMap (fun _ => ?_)))
      refine ⟨⟨k + 1, max (gd RS k).fin (now + 1), n2, nc2, (Afit now T S (vs RS) (endR now (gd (vs RS) k))).1⟩, ⟨hlt, by rw [← hAe]; exact had2, .inr ⟨by show 0 ≤ max (gd RS k).fin (now + 1); omega, ⟨k, Nat.lt_succ_self k, hE.symm⟩, by rw [← hE]; exact hpair, fun j hj h => ?_⟩⟩, by show RS.length - (k + 1) < RS.length - k; omega, zSu, zEn⟩
      have hj' : j < k + 1 := hj
      have h' : endR now (gd (vs RS) j) < max (gd RS k).fin (now + 1) := h
      by_cases e : j = k
      · rw [e, hE] at h'; omega
      · exact r3 j (by omega)
    · obtain ⟨r0, r1, r2, r3⟩ : 0 ≤ best ∧ (∃ j, j < k ∧ best = endR now (gd (vs RS) j)) ∧ Afit now T S (vs RS) best = (N, 0) ∧ ∀ j, j < k → endR now (gd (vs RS) j) < best → (Afit now T S (vs RS) (endR now (gd (vs RS) j))).2 = 6 := by
        rcases hbi with ⟨r1, r2, r3⟩ | h
        · omega
        · exact h
      by_cases hlb : max (gd RS k).fin (now + 1) < best
      · repeat ((conv => whnf); (first | refine ztx ?_ | refine LNext.nilr ?_ | refine zne ?_ | refine zga ?_ | refine zxa ?_ | refine zca ?_ | refine zcb ?_ | refine zgb ?_ | refine zgc ?_ | refine zgd1 ?_ | refine zge ?_ | refine zgf ?_ | refine zgg ?_ | refine zgh ?_ | refine zgi ?_ | refine zgj ?_ | refine zgk ?_ | refine max2m ?_ | refine min2m ?_ | refine eqStr ?_ | refine neqStr ?_ | refine eqSlNil ?_ | refine neqSlNil ?_ | refine eqBool ?_ | refine neqBool ?_ | refine capSlice ?_ | refine zgl ?_ | refine zgm ?_ | refine zgn ?_ | refine zgo ?_ | refine zba ?_ | refine zbb ?_ | refine zbc ?_ | refine zbd ?_ | refine zbe ?_ | refine zbf ?_ | refine zia ?_ | refine zib ?_ | refine zic ?_ | refine zid1 ?_ | refine zie ?_ | refine zif1 ?_ | refine zig ?_ | refine zih ?_ | refine lint_u8_mod ?_ | refine lint_u32_mod ?_ | refine zii ?_ | refine zij ?_ | refine zua ?_ | refine zgs ?_ | refine zgu ?_ | refine eqMapNil ?_ | refine neqMapNil ?_ | refine LRes.mk ?_ | refine LIn.step ?_ | refine zdr ?_ | refine zna (fun _ => ?_) | refine znb (fun _ => ?_) | refine znc (fun _ => ?_) | refine newSlice0 (fun _ => ?_) | refine newMap (fun _ => ?_)))
        refine ⟨⟨k + 1, max (gd RS k).fin (now + 1), n2, nc2, (Afit now T S (vs RS) (endR now (gd (vs RS) k))).1⟩, ⟨hlt, by rw [← hAe]; exact had2, .inr ⟨by show 0 ≤ max (gd RS k).fin (now + 1); omega, ⟨k, Nat.lt_succ_self k, hE.symm⟩, by rw [← hE]; exact hpair, fun j hj h => ?_⟩⟩, by show RS.length - (k + 1) < RS.length - k; omega, zSu, zEn⟩
        have hj' : j < k + 1 := hj
        have h' : endR now (gd (vs RS) j) < max (gd RS k).fin (now + 1) := h
        by_cases e : j = k
        · rw [e, hE] at h'; omega
        · exact r3 j (by omega) (by omega)
      · repeat ((conv => whnf); (first | refine ztx ?_ | refine LNext.nilr ?_ | refine zne ?_ | refine zga ?_ | refine zxa ?_ | refine zca ?_ | refine zcb ?_ | refine zgb ?_ | refine zgc ?_ | refine zgd1 ?_ | refine zge ?_ | refine zgf ?_ | refine zgg ?_ | refine zgh ?_ | refine zgi ?_ | refine zgj ?_ | refine zgk ?_ | refine max2m ?_ | refine min2m ?_ | refine eqStr ?_ | refine neqStr ?_ | refine eqSlNil ?_ | refine neqSlNil ?_ | refine eqBool ?_ | refine neqBool ?_ | refine capSlice ?_ | refine zgl ?_ | refine zgm ?_ | refine zgn ?_ | refine zgo ?_ | refine zba ?_ | refine zbb ?_ | refine zbc ?_ | refine zbd ?_ | refine zbe ?_ | refine zbf ?_ | refine zia ?_ | refine zib ?_ | refine zic ?_ | refine zid1 ?_ | refine zie ?_ | refine zif1 ?_ | refine zig ?_ | refine zih ?_ | refine lint_u8_mod ?_ | refine lint_u32_mod ?_ | refine zii ?_ | refine zij ?_ | refine zua ?_ | refine zgs ?_ | refine zgu ?_ | refine eqMapNil ?_ | refine neqMapNil ?_ | refine LRes.mk ?_ | refine LIn.step ?_ | refine zdr ?_ | refine zna (fun _ => ?_) | refine znb (fun _ => ?_) | refine znc (fun _ => ?_) | refine newSlice0 (fun _ => ?_) | refine newMap (fun _ => ?_)))
        obtain ⟨j, hj, r1⟩ := r1
        refine ⟨⟨k + 1, best, na, nc, N⟩, ⟨hlt, had, .inr ⟨r0, ⟨j, by show j < k + 1; omega, r1⟩, r2, fun j hj h => ?_⟩⟩, by show RS.length - (k + 1) < RS.length - k; omega, zSu, zEn⟩
        have hj' : j < k + 1 := hj
        have h' : endR now (gd (vs RS) j) < best := h
        by_cases e : j = k
        · rw [e, hE] at h'; omega
        · exact r3 j (by omega) h'
  · have : k = RS.length := by omega
    subst this
    have hTk : ∀ u, Tk now (vs RS) u → u = now ∨ ∃ j, j < RS.length ∧ u = endR now (gd (vs RS) j) := fun u hu => by
      rcases hu with q | ⟨r, hr, q⟩
      · exact .inl q
      · obtain ⟨j, hj, rfl⟩ := mem_gd hr
        exact .inr ⟨j, by rw [hvl] at hj; exact hj, q⟩
    rcases hbi with ⟨r1, r2, r3⟩ | ⟨r0, ⟨j, hj, r1⟩, r2, r3⟩
    · have hp : SIs now T RS S (0, [], 6) := hSI _ (.inr ⟨fun u hu => by
        rcases hTk u hu with rfl | ⟨j, hj, rfl⟩
        · exact hnow
        · exact r3 j hj, rfl⟩)
      have hlb : best < 0 := by omega
      repeat ((conv => whnf); (first | refine ztx ?_ | refine LNext.nilr ?_ | refine zne ?_ | refine zga ?_ | refine zxa ?_ | refine zca ?_ | refine zcb ?_ | refine zgb ?_ | refine zgc ?_ | refine zgd1 ?_ | refine zge ?_ | refine zgf ?_ | refine zgg ?_ | refine zgh ?_ | refine zgi ?_ | refine zgj ?_ | refine zgk ?_ | refine max2m ?_ | refine min2m ?_ | refine eqStr ?_ | refine neqStr ?_ | refine eqSlNil ?_ | refine neqSlNil ?_ | refine eqBool ?_ | refine neqBool ?_ | refine capSlice ?_ | refine zgl ?_ | refine zgm ?_ | refine zgn ?_ | refine zgo ?_ | refine zba ?_ | refine zbb ?_ | refine zbc ?_ | refine zbd ?_ | refine zbe ?_ | refine zbf ?_ | refine zia ?_ | refine zib ?_ | refine zic ?_ | refine zid1 ?_ | refine zie ?_ | refine zif1 ?_ | refine zig ?_ | refine zih ?_ | refine lint_u8_mod ?_ | refine lint_u32_mod ?_ | refine zii ?_ | refine zij ?_ | refine zua ?_ | refine zgs ?_ | refine zgu ?_ | refine eqMapNil ?_ | refine neqMapNil ?_ | refine LRes.mk ?_ | refine LIn.step ?_ | refine zdr ?_ | refine zna (fun _ => ?_) | refine znb (fun _ => ?_) | refine znc (fun _ => ?_) | refine newSlice0 (fun _ => ?_) | refine newMap (fun _ => ?_)))
      show Fin _ _ _; exact Fin.of (ERow 9 1 encS1 none 0 0 [] :: M) (Ent.trans zEn ent_e0) ⟨(0, [], 6), none, 0, hp, (fun h => absurd h (Nat.lt_irrefl 0)), rfl, rfl⟩
    · have hp : SIs now T RS S (best, N, 0) := hSI _ (.inl ⟨best, .inr ⟨gd (vs RS) j, gd_mem (by rw [hvl]; exact hj), r1⟩, by rw [r2], fun u hu hlt => by
        rcases hTk u hu with rfl | ⟨j, hj, rfl⟩
        · exact hnow
        · exact r3 j hj hlt, by rw [r2]⟩)
      have hlb : ¬ best < 0 := by omega
      repeat ((conv => whnf); (first | refine ztx ?_ | refine LNext.nilr ?_ | refine zne ?_ | refine zga ?_ | refine zxa ?_ | refine zca ?_ | refine zcb ?_ | refine zgb ?_ | refine zgc ?_ | refine zgd1 ?_ | refine zge ?_ | refine zgf ?_ | refine zgg ?_ | refine zgh ?_ | refine zgi ?_ | refine zgj ?_ | refine zgk ?_ | refine max2m ?_ | refine min2m ?_ | refine eqStr ?_ | refine neqStr ?_ | refine eqSlNil ?_ | refine neqSlNil ?_ | refine eqBool ?_ | refine neqBool ?_ | refine capSlice ?_ | refine zgl ?_ | refine zgm ?_ | refine zgn ?_ | refine zgo ?_ | refine zba ?_ | refine zbb ?_ | refine zbc ?_ | refine zbd ?_ | refine zbe ?_ | refine zbf ?_ | refine zia ?_ | refine zib ?_ | refine zic ?_ | refine zid1 ?_ | refine zie ?_ | refine zif1 ?_ | refine zig ?_ | refine zih ?_ | refine lint_u8_mod ?_ | refine lint_u32_mod ?_ | refine zii ?_ | refine zij ?_ | refine zua ?_ | refine zgs ?_ | refine zgu ?_ | refine eqMapNil ?_ | refine neqMapNil ?_ | refine LRes.mk ?_ | refine LIn.step ?_ | refine zdr ?_ | refine zna (fun _ => ?_) | refine znb (fun _ => ?_) | refine znc (fun _ => ?_) | refine newSlice0 (fun _ => ?_) | refine newMap (fun _ => ?_)))
      show Fin _ _ _; exact Fin.of (ERow 9 1 encS1 na N.length nc N :: M) zEn ⟨(best, N, 0), na, nc, hp, had, rfl, rfl⟩
theorem SIs.len {now : Int} {T : List V4} {RS : List RunT} {S : List Slot} {r : Int × List ByteArray × Int} (h : SIs now T RS S r) : r.2.1.length ≤ T.length := by
  by_cases he : r.2.2 = 0
  · have := (h.good he).2.2.2.1
    have h1 := fitR_len T (atR now r.1 (vs RS) S)
    have h2 : fitR T (atR now r.1 (vs RS) S) = (r.2.1, 0) := this
    rw [h2] at h1
    exact h1
  · rw [(h.bad he).2.1]; exact Nat.zero_le _
theorem Starts_ct (M : List As) (now rt : Int) (a al av a0 : Option Addr) (cap capl capv cap0 u : Nat) (T : List V4) (RS : List RunT) (S : List Slot) (hr : RdH M a 4 encV T) (hrv : RdH M av 4 encRun RS) (hrs : RdRs M RS) (hr0 : RdH M a0 5 encSlot S) (hb : RS.length ≤ 9223372036854775807) :
    Ctr Try.prog 3 #[.agg #[.int .i64 now, .int .i64 rt, .slice a T.length cap, .slice al u capl], .slice av RS.length capv, .slice a0 S.length cap0] M (fun v M' => v = .bool true ∧ M' = M) := by
  refine ctr_of (Γ := tab) (vs := [_, _, _]) fn3 rfl ?_
  repeat ((conv => whnf); (first | refine ztx ?_ | refine LNext.nilr ?_ | refine zne ?_ | refine zga ?_ | refine zxa ?_ | refine zca ?_ | refine zcb ?_ | refine zgb ?_ | refine zgc ?_ | refine zgd1 ?_ | refine zge ?_ | refine zgf ?_ | refine zgg ?_ | refine zgh ?_ | refine zgi ?_ | refine zgj ?_ | refine zgk ?_ | refine max2m ?_ | refine min2m ?_ | refine eqStr ?_ | refine neqStr ?_ | refine eqSlNil ?_ | refine neqSlNil ?_ | refine eqBool ?_ | refine neqBool ?_ | refine capSlice ?_ | refine zgl ?_ | refine zgm ?_ | refine zgn ?_ | refine zgo ?_ | refine zba ?_ | refine zbb ?_ | refine zbc ?_ | refine zbd ?_ | refine zbe ?_ | refine zbf ?_ | refine zia ?_ | refine zib ?_ | refine zic ?_ | refine zid1 ?_ | refine zie ?_ | refine zif1 ?_ | refine zig ?_ | refine zih ?_ | refine lint_u8_mod ?_ | refine lint_u32_mod ?_ | refine zii ?_ | refine zij ?_ | refine zua ?_ | refine zgs ?_ | refine zgu ?_ | refine eqMapNil ?_ | refine neqMapNil ?_ | refine LRes.mk ?_ | refine LIn.step ?_ | refine zdr ?_ | refine zna (fun _ => ?_) | refine znb (fun _ => ?_) | refine znc (fun _ => ?_) | refine newSlice0 (fun _ => ?_) | refine newMap (fun _ => ?_)))
  (first | refine call0 (awake_ct _) ?_ | refine ext0 (awake_ct _) ?_); rintro v rfl
  repeat ((conv => whnf); (first | refine ztx ?_ | refine LNext.nilr ?_ | refine zne ?_ | refine zga ?_ | refine zxa ?_ | refine zca ?_ | refine zcb ?_ | refine zgb ?_ | refine zgc ?_ | refine zgd1 ?_ | refine zge ?_ | refine zgf ?_ | refine zgg ?_ | refine zgh ?_ | refine zgi ?_ | refine zgj ?_ | refine zgk ?_ | refine max2m ?_ | refine min2m ?_ | refine eqStr ?_ | refine neqStr ?_ | refine eqSlNil ?_ | refine neqSlNil ?_ | refine eqBool ?_ | refine neqBool ?_ | refine capSlice ?_ | refine zgl ?_ | refine zgm ?_ | refine zgn ?_ | refine zgo ?_ | refine zba ?_ | refine zbb ?_ | refine zbc ?_ | refine zbd ?_ | refine zbe ?_ | refine zbf ?_ | refine zia ?_ | refine zib ?_ | refine zic ?_ | refine zid1 ?_ | refine zie ?_ | refine zif1 ?_ | refine zig ?_ | refine zih ?_ | refine lint_u8_mod ?_ | refine lint_u32_mod ?_ | refine zii ?_ | refine zij ?_ | refine zua ?_ | refine zgs ?_ | refine zgu ?_ | refine eqMapNil ?_ | refine neqMapNil ?_ | refine LRes.mk ?_ | refine LIn.step ?_ | refine zdr ?_ | refine zna (fun _ => ?_) | refine znb (fun _ => ?_) | refine znc (fun _ => ?_) | refine newSlice0 (fun _ => ?_) | refine newMap (fun _ => ?_)))
  refine call0 (few_ct _ now rt a al av a0 T.length u S.length cap capl capv cap0 RS zRd hb) ?_
  rintro v rfl
  cases hf : fewB T.length u RS S.length with
  | false =>
    repeat ((conv => whnf); (first | refine ztx ?_ | refine LNext.nilr ?_ | refine zne ?_ | refine zga ?_ | refine zxa ?_ | refine zca ?_ | refine zcb ?_ | refine zgb ?_ | refine zgc ?_ | refine zgd1 ?_ | refine zge ?_ | refine zgf ?_ | refine zgg ?_ | refine zgh ?_ | refine zgi ?_ | refine zgj ?_ | refine zgk ?_ | refine max2m ?_ | refine min2m ?_ | refine eqStr ?_ | refine neqStr ?_ | refine eqSlNil ?_ | refine neqSlNil ?_ | refine eqBool ?_ | refine neqBool ?_ | refine capSlice ?_ | refine zgl ?_ | refine zgm ?_ | refine zgn ?_ | refine zgo ?_ | refine zba ?_ | refine zbb ?_ | refine zbc ?_ | refine zbd ?_ | refine zbe ?_ | refine zbf ?_ | refine zia ?_ | refine zib ?_ | refine zic ?_ | refine zid1 ?_ | refine zie ?_ | refine zif1 ?_ | refine zig ?_ | refine zih ?_ | refine lint_u8_mod ?_ | refine lint_u32_mod ?_ | refine zii ?_ | refine zij ?_ | refine zua ?_ | refine zgs ?_ | refine zgu ?_ | refine eqMapNil ?_ | refine neqMapNil ?_ | refine LRes.mk ?_ | refine LIn.step ?_ | refine zdr ?_ | refine zna (fun _ => ?_) | refine znb (fun _ => ?_) | refine znc (fun _ => ?_) | refine newSlice0 (fun _ => ?_) | refine newMap (fun _ => ?_)))
    (first | refine call0 (awake_ct _) ?_ | refine ext0 (awake_ct _) ?_); rintro v rfl
    repeat ((conv => whnf); (first | refine ztx ?_ | refine LNext.nilr ?_ | refine zne ?_ | refine zga ?_ | refine zxa ?_ | refine zca ?_ | refine zcb ?_ | refine zgb ?_ | refine zgc ?_ | refine zgd1 ?_ | refine zge ?_ | refine zgf ?_ | refine zgg ?_ | refine zgh ?_ | refine zgi ?_ | refine zgj ?_ | refine zgk ?_ | refine max2m ?_ | refine min2m ?_ | refine eqStr ?_ | refine neqStr ?_ | refine eqSlNil ?_ | refine neqSlNil ?_ | refine eqBool ?_ | refine neqBool ?_ | refine capSlice ?_ | refine zgl ?_ | refine zgm ?_ | refine zgn ?_ | refine zgo ?_ | refine zba ?_ | refine zbb ?_ | refine zbc ?_ | refine zbd ?_ | refine zbe ?_ | refine zbf ?_ | refine zia ?_ | refine zib ?_ | refine zic ?_ | refine zid1 ?_ | refine zie ?_ | refine zif1 ?_ | refine zig ?_ | refine zih ?_ | refine lint_u8_mod ?_ | refine lint_u32_mod ?_ | refine zii ?_ | refine zij ?_ | refine zua ?_ | refine zgs ?_ | refine zgu ?_ | refine eqMapNil ?_ | refine neqMapNil ?_ | refine LRes.mk ?_ | refine LIn.step ?_ | refine zdr ?_ | refine zna (fun _ => ?_) | refine znb (fun _ => ?_) | refine znc (fun _ => ?_) | refine newSlice0 (fun _ => ?_) | refine newMap (fun _ => ?_)))
    show Fin _ _ _; exact Fin.of M zEn ⟨rfl, rfl⟩
  | true =>
  obtain ⟨f1, f2, f3, f4, f5⟩ := few_small hf
  have hsm : smallR RS := fun v hv => by have := f5 v hv; omega
  repeat ((conv => whnf); (first | refine ztx ?_ | refine LNext.nilr ?_ | refine zne ?_ | refine zga ?_ | refine zxa ?_ | refine zca ?_ | refine zcb ?_ | refine zgb ?_ | refine zgc ?_ | refine zgd1 ?_ | refine zge ?_ | refine zgf ?_ | refine zgg ?_ | refine zgh ?_ | refine zgi ?_ | refine zgj ?_ | refine zgk ?_ | refine max2m ?_ | refine min2m ?_ | refine eqStr ?_ | refine neqStr ?_ | refine eqSlNil ?_ | refine neqSlNil ?_ | refine eqBool ?_ | refine neqBool ?_ | refine capSlice ?_ | refine zgl ?_ | refine zgm ?_ | refine zgn ?_ | refine zgo ?_ | refine zba ?_ | refine zbb ?_ | refine zbc ?_ | refine zbd ?_ | refine zbe ?_ | refine zbf ?_ | refine zia ?_ | refine zib ?_ | refine zic ?_ | refine zid1 ?_ | refine zie ?_ | refine zif1 ?_ | refine zig ?_ | refine zih ?_ | refine lint_u8_mod ?_ | refine lint_u32_mod ?_ | refine zii ?_ | refine zij ?_ | refine zua ?_ | refine zgs ?_ | refine zgu ?_ | refine eqMapNil ?_ | refine neqMapNil ?_ | refine LRes.mk ?_ | refine LIn.step ?_ | refine zdr ?_ | refine zna (fun _ => ?_) | refine znb (fun _ => ?_) | refine znc (fun _ => ?_) | refine newSlice0 (fun _ => ?_) | refine newMap (fun _ => ?_)))
  rename_i xb
  refine call3 (Start_ct now _ a av a0 cap capv cap0 T RS S zRd zRd hrs.there zRd (by omega) (by omega) (by omega) hsm) ?_
  rintro v M' ⟨⟨t, n, e⟩, a1, c1, hs, had1, rfl, rfl⟩
  dsimp only at had1 ⊢
  repeat ((conv => whnf); (first | refine ztx ?_ | refine LNext.nilr ?_ | refine zne ?_ | refine zga ?_ | refine zxa ?_ | refine zca ?_ | refine zcb ?_ | refine zgb ?_ | refine zgc ?_ | refine zgd1 ?_ | refine zge ?_ | refine zgf ?_ | refine zgg ?_ | refine zgh ?_ | refine zgi ?_ | refine zgj ?_ | refine zgk ?_ | refine max2m ?_ | refine min2m ?_ | refine eqStr ?_ | refine neqStr ?_ | refine eqSlNil ?_ | refine neqSlNil ?_ | refine eqBool ?_ | refine neqBool ?_ | refine capSlice ?_ | refine zgl ?_ | refine zgm ?_ | refine zgn ?_ | refine zgo ?_ | refine zba ?_ | refine zbb ?_ | refine zbc ?_ | refine zbd ?_ | refine zbe ?_ | refine zbf ?_ | refine zia ?_ | refine zib ?_ | refine zic ?_ | refine zid1 ?_ | refine zie ?_ | refine zif1 ?_ | refine zig ?_ | refine zih ?_ | refine lint_u8_mod ?_ | refine lint_u32_mod ?_ | refine zii ?_ | refine zij ?_ | refine zua ?_ | refine zgs ?_ | refine zgu ?_ | refine eqMapNil ?_ | refine neqMapNil ?_ | refine LRes.mk ?_ | refine LIn.step ?_ | refine zdr ?_ | refine zna (fun _ => ?_) | refine znb (fun _ => ?_) | refine znc (fun _ => ?_) | refine newSlice0 (fun _ => ?_) | refine newMap (fun _ => ?_)))
  refine ext3 (plainR_ct _ av capv RS zRd (by omega)) ?_
  rintro v M' ⟨a2, c2, rfl, rfl⟩
  refine ⟨[ERow 59 4 encRun a2 RS.length c2 RS], rfl, ?_⟩
  repeat ((conv => whnf); (first | refine ztx ?_ | refine LNext.nilr ?_ | refine zne ?_ | refine zga ?_ | refine zxa ?_ | refine zca ?_ | refine zcb ?_ | refine zgb ?_ | refine zgc ?_ | refine zgd1 ?_ | refine zge ?_ | refine zgf ?_ | refine zgg ?_ | refine zgh ?_ | refine zgi ?_ | refine zgj ?_ | refine zgk ?_ | refine max2m ?_ | refine min2m ?_ | refine eqStr ?_ | refine neqStr ?_ | refine eqSlNil ?_ | refine neqSlNil ?_ | refine eqBool ?_ | refine neqBool ?_ | refine capSlice ?_ | refine zgl ?_ | refine zgm ?_ | refine zgn ?_ | refine zgo ?_ | refine zba ?_ | refine zbb ?_ | refine zbc ?_ | refine zbd ?_ | refine zbe ?_ | refine zbf ?_ | refine zia ?_ | refine zib ?_ | refine zic ?_ | refine zid1 ?_ | refine zie ?_ | refine zif1 ?_ | refine zig ?_ | refine zih ?_ | refine lint_u8_mod ?_ | refine lint_u32_mod ?_ | refine zii ?_ | refine zij ?_ | refine zua ?_ | refine zgs ?_ | refine zgu ?_ | refine eqMapNil ?_ | refine neqMapNil ?_ | refine LRes.mk ?_ | refine LIn.step ?_ | refine zdr ?_ | refine zna (fun _ => ?_) | refine znb (fun _ => ?_) | refine znc (fun _ => ?_) | refine newSlice0 (fun _ => ?_) | refine newMap (fun _ => ?_)))
  refine ext3 (slots_ct _ a0 cap0 S zRd (by omega)) ?_
  rintro v M' ⟨a3, c3, rfl, rfl⟩
  refine ⟨[ERow 61 5 encSlot a3 S.length c3 S], rfl, ?_⟩
  repeat ((conv => whnf); (first | refine ztx ?_ | refine LNext.nilr ?_ | refine zne ?_ | refine zga ?_ | refine zxa ?_ | refine zca ?_ | refine zcb ?_ | refine zgb ?_ | refine zgc ?_ | refine zgd1 ?_ | refine zge ?_ | refine zgf ?_ | refine zgg ?_ | refine zgh ?_ | refine zgi ?_ | refine zgj ?_ | refine zgk ?_ | refine max2m ?_ | refine min2m ?_ | refine eqStr ?_ | refine neqStr ?_ | refine eqSlNil ?_ | refine neqSlNil ?_ | refine eqBool ?_ | refine neqBool ?_ | refine capSlice ?_ | refine zgl ?_ | refine zgm ?_ | refine zgn ?_ | refine zgo ?_ | refine zba ?_ | refine zbb ?_ | refine zbc ?_ | refine zbd ?_ | refine zbe ?_ | refine zbf ?_ | refine zia ?_ | refine zib ?_ | refine zic ?_ | refine zid1 ?_ | refine zie ?_ | refine zif1 ?_ | refine zig ?_ | refine zih ?_ | refine lint_u8_mod ?_ | refine lint_u32_mod ?_ | refine zii ?_ | refine zij ?_ | refine zua ?_ | refine zgs ?_ | refine zgu ?_ | refine eqMapNil ?_ | refine neqMapNil ?_ | refine LRes.mk ?_ | refine LIn.step ?_ | refine zdr ?_ | refine zna (fun _ => ?_) | refine znb (fun _ => ?_) | refine znc (fun _ => ?_) | refine newSlice0 (fun _ => ?_) | refine newMap (fun _ => ?_)))
  refine ext3 (rStart_ct now _ a a2 a3 cap c2 c3 T RS S zRd zRd (hrs.ent (show Ent _ M from zEn)) zRd (by omega) (by omega) (by omega) hsm) ?_
  rintro v M' ⟨r, a4, c4, hs2, had4, rfl, rfl⟩
  have heq := hs.uniq hs2
  subst heq
  refine ⟨[ERow 9 1 encS1 a4 n.length c4 n], rfl, ?_⟩
  have hnl := hs.len
  dsimp only at hnl
  repeat ((conv => whnf); (first | refine ztx ?_ | refine LNext.nilr ?_ | refine zne ?_ | refine zga ?_ | refine zxa ?_ | refine zca ?_ | refine zcb ?_ | refine zgb ?_ | refine zgc ?_ | refine zgd1 ?_ | refine zge ?_ | refine zgf ?_ | refine zgg ?_ | refine zgh ?_ | refine zgi ?_ | refine zgj ?_ | refine zgk ?_ | refine max2m ?_ | refine min2m ?_ | refine eqStr ?_ | refine neqStr ?_ | refine eqSlNil ?_ | refine neqSlNil ?_ | refine eqBool ?_ | refine neqBool ?_ | refine capSlice ?_ | refine zgl ?_ | refine zgm ?_ | refine zgn ?_ | refine zgo ?_ | refine zba ?_ | refine zbb ?_ | refine zbc ?_ | refine zbd ?_ | refine zbe ?_ | refine zbf ?_ | refine zia ?_ | refine zib ?_ | refine zic ?_ | refine zid1 ?_ | refine zie ?_ | refine zif1 ?_ | refine zig ?_ | refine zih ?_ | refine lint_u8_mod ?_ | refine lint_u32_mod ?_ | refine zii ?_ | refine zij ?_ | refine zua ?_ | refine zgs ?_ | refine zgu ?_ | refine eqMapNil ?_ | refine neqMapNil ?_ | refine LRes.mk ?_ | refine LIn.step ?_ | refine zdr ?_ | refine zna (fun _ => ?_) | refine znb (fun _ => ?_) | refine znc (fun _ => ?_) | refine newSlice0 (fun _ => ?_) | refine newMap (fun _ => ?_)))
  refine call0 (sameS_ct _ _ _ _ _ n n zRd zRd (by omega) (by omega)) ?_
  rintro v rfl
  rw [decide_eq_true rfl]
  repeat ((conv => whnf); (first | refine ztx ?_ | refine LNext.nilr ?_ | refine zne ?_ | refine zga ?_ | refine zxa ?_ | refine zca ?_ | refine zcb ?_ | refine zgb ?_ | refine zgc ?_ | refine zgd1 ?_ | refine zge ?_ | refine zgf ?_ | refine zgg ?_ | refine zgh ?_ | refine zgi ?_ | refine zgj ?_ | refine zgk ?_ | refine max2m ?_ | refine min2m ?_ | refine eqStr ?_ | refine neqStr ?_ | refine eqSlNil ?_ | refine neqSlNil ?_ | refine eqBool ?_ | refine neqBool ?_ | refine capSlice ?_ | refine zgl ?_ | refine zgm ?_ | refine zgn ?_ | refine zgo ?_ | refine zba ?_ | refine zbb ?_ | refine zbc ?_ | refine zbd ?_ | refine zbe ?_ | refine zbf ?_ | refine zia ?_ | refine zib ?_ | refine zic ?_ | refine zid1 ?_ | refine zie ?_ | refine zif1 ?_ | refine zig ?_ | refine zih ?_ | refine lint_u8_mod ?_ | refine lint_u32_mod ?_ | refine zii ?_ | refine zij ?_ | refine zua ?_ | refine zgs ?_ | refine zgu ?_ | refine eqMapNil ?_ | refine neqMapNil ?_ | refine LRes.mk ?_ | refine LIn.step ?_ | refine zdr ?_ | refine zna (fun _ => ?_) | refine znb (fun _ => ?_) | refine znc (fun _ => ?_) | refine newSlice0 (fun _ => ?_) | refine newMap (fun _ => ?_)))
  show Fin _ _ _; exact Fin.of M zEn ⟨rfl, rfl⟩
end Go.Proofs.Ytchaijafpmofdaa
