import Derived.Test.YtjmfnakplmmpnaaDoorZBC
import Derived.SizedLaws
import Derived.Test.YtjmfnakplmmpnaaDoorRows
import Derived.LaidLaws
import Derived.JoinedOf
import Derived.KernelRfl
namespace Go.Proofs.YtjmfnakplmmpnaaDoor
open Go.Sl
set_option linter.unusedVariables false
set_option linter.unusedSimpArgs false
set_option maxRecDepth 100000
set_option maxHeartbeats 1000000
theorem rEncode_ct (M : List As) (r : Rec) (h : RdR M r) : Ctr Tryd.prog 21 #[.agg (encPl (recP r)).toArray] M (EncAns M r) := by
  cases hf : recF r with
  | false => exact rEncodeNo_ct M r h hf
  | true =>
  have hf' := hf
  cases r with
  | joined s w q =>
    simp only [recF, Bool.and_eq_true, decide_eq_true_eq] at hf
    obtain ⟨⟨⟨h1, h2⟩, h3⟩, h4⟩ := hf
    obtain ⟨a, b, c, d, rfl, ha, hb, hc, hd⟩ := vecR_nat h4
    obtain ⟨k, rfl⟩ := Int.eq_ofNat_of_zero_le (by omega : 0 ≤ w)
    exact rEncJoined_ct M s k a b c d h hf' h1 (by omega) ha hb hc hd
  | up s e v =>
    simp only [recF, Bool.and_eq_true, decide_eq_true_eq] at hf
    obtain ⟨⟨⟨h1, h2⟩, h3⟩, h4⟩ := hf
    obtain ⟨a, b, c, d, rfl, ha, hb, hc, hd⟩ := vecR_nat h4
    obtain ⟨k, rfl⟩ := Int.eq_ofNat_of_zero_le (by omega : 0 ≤ e)
    exact rEncUp_ct M s k a b c d h hf' h1 (by omega) ha hb hc hd
  | beat s => exact rEncBeat_ct M s h hf' hf
  | down s => exact rEncDown_ct M s h hf' hf
  | sub j =>
    obtain ⟨id, tenant, prio, run, ⟨pa, pcap, pxs⟩, ⟨ta, tcap, txs⟩, state, att, ⟨na, ncap, nxs⟩, start, ⟨da, dcap, dxs⟩⟩ := j
    have hj : jobR ⟨id, tenant, prio, run, ⟨pa, pcap, pxs⟩, ⟨ta, tcap, txs⟩, state, att, ⟨na, ncap, nxs⟩, start, ⟨da, dcap, dxs⟩⟩ = true := hf
    simp only [jobR, Bool.and_eq_true, decide_eq_true_eq] at hj
    obtain ⟨⟨⟨⟨⟨⟨⟨⟨⟨⟨⟨⟨⟨⟨c1, c2⟩, c3⟩, c4⟩, c5⟩, c6⟩, c7⟩, c8⟩, c9⟩, c10⟩, c11⟩, c12⟩, c13⟩, c14⟩, c15⟩ := hj
    obtain ⟨k, rfl, k1, k2⟩ := idR_nat c1
    obtain ⟨p, rfl⟩ := Int.eq_ofNat_of_zero_le c3
    obtain ⟨u, rfl⟩ := Int.eq_ofNat_of_zero_le (by omega : 0 ≤ run)
    exact rEncSub_ct M k p u tenant pa ta na da pcap tcap ncap dcap pxs txs nxs dxs state att start h hf' k2 c2 (by omega) (by omega) c7 c9 (par1R_b c10) (fun v hv => List.all_eq_true.1 c11 v hv)
  | rel n =>
    obtain ⟨k, rfl, k1, k2⟩ := idR_nat hf
    exact rEncRel_ct M k h hf' k2
  | placed n l =>
    obtain ⟨a, cap, l⟩ := l
    simp only [recF, Bool.and_eq_true, decide_eq_true_eq] at hf
    obtain ⟨⟨⟨h1, h2⟩, h3⟩, h4⟩ := hf
    obtain ⟨k, rfl, k1, k2⟩ := idR_nat h1
    exact rEncPlaced_ct M k a cap l h hf' k2 h3 h4
  | evi n =>
    obtain ⟨k, rfl, k1, k2⟩ := idR_nat hf
    exact rEncEvi_ct M k h hf' k2
  | part n s =>
    simp only [recF, Bool.and_eq_true, decide_eq_true_eq] at hf
    obtain ⟨k, rfl, k1, k2⟩ := idR_nat hf.1
    exact rEncPart_ct M k s h hf' k2 hf.2
  | ended n st =>
    simp only [recF, Bool.and_eq_true, decide_eq_true_eq] at hf
    obtain ⟨⟨h1, h2⟩, h3⟩ := hf
    obtain ⟨k, rfl, k1, k2⟩ := idR_nat h1
    obtain ⟨u, rfl⟩ := Int.eq_ofNat_of_zero_le (by omega : 0 ≤ st)
    exact rEncEnded_ct M k u h hf' k2 (by omega)
  | tick => exact rEncTick_ct M h hf'
  | none => cases hf
theorem Encodes_ct (M : List As) (p : PV) (h : RdR M (recOf p)) : Ctr Tryd.prog 7 #[.agg (encPl p).toArray] M (fun v M' => v = .bool true ∧ M' = M) := by
  refine ctr_of (Γ := tab) (vs := [_]) fn7 rfl ?_
  repeat ((conv => whnf); (first | refine ztx ?_ | refine LNext.nilr ?_ | refine zne ?_ | refine zga ?_ | refine zxa ?_ | refine zca ?_ | refine zcb ?_ | refine zgb ?_ | refine zgc ?_ | refine zgd1 ?_ | refine zge ?_ | refine zgf ?_ | refine zgg ?_ | refine zgh ?_ | refine zgi ?_ | refine zgj ?_ | refine zgk ?_ | refine max2m ?_ | refine min2m ?_ | refine eqStr ?_ | refine neqStr ?_ | refine eqSlNil ?_ | refine neqSlNil ?_ | refine eqBool ?_ | refine neqBool ?_ | refine capSlice ?_ | refine zgl ?_ | refine zgm ?_ | refine zgn ?_ | refine zgo ?_ | refine zba ?_ | refine zbb ?_ | refine zbc ?_ | refine zbd ?_ | refine zbe ?_ | refine zbf ?_ | refine zia ?_ | refine zib ?_ | refine zic ?_ | refine zid1 ?_ | refine zie ?_ | refine zif1 ?_ | refine zig ?_ | refine zih ?_ | refine lint_u8_mod ?_ | refine lint_u32_mod ?_ | refine zii ?_ | refine zij ?_ | refine zua ?_ | refine zgs ?_ | refine zgu ?_ | refine eqMapNil ?_ | refine neqMapNil ?_ | refine LRes.mk ?_ | refine LIn.step ?_ | refine zdr ?_ | refine zna (fun _ => ?_) | refine znb (fun _ => ?_) | refine znc (fun _ => ?_) | refine newSlice0 (fun _ => ?_) | refine newMap (fun _ => ?_)))
  (first | refine call2 (awake_ct) zSq ?_ | refine ext2 (awake_ct) zSq ?_)
  rintro v rfl
  repeat ((conv => whnf); (first | refine ztx ?_ | refine LNext.nilr ?_ | refine zne ?_ | refine zga ?_ | refine zxa ?_ | refine zca ?_ | refine zcb ?_ | refine zgb ?_ | refine zgc ?_ | refine zgd1 ?_ | refine zge ?_ | refine zgf ?_ | refine zgg ?_ | refine zgh ?_ | refine zgi ?_ | refine zgj ?_ | refine zgk ?_ | refine max2m ?_ | refine min2m ?_ | refine eqStr ?_ | refine neqStr ?_ | refine eqSlNil ?_ | refine neqSlNil ?_ | refine eqBool ?_ | refine neqBool ?_ | refine capSlice ?_ | refine zgl ?_ | refine zgm ?_ | refine zgn ?_ | refine zgo ?_ | refine zba ?_ | refine zbb ?_ | refine zbc ?_ | refine zbd ?_ | refine zbe ?_ | refine zbf ?_ | refine zia ?_ | refine zib ?_ | refine zic ?_ | refine zid1 ?_ | refine zie ?_ | refine zif1 ?_ | refine zig ?_ | refine zih ?_ | refine lint_u8_mod ?_ | refine lint_u32_mod ?_ | refine zii ?_ | refine zij ?_ | refine zua ?_ | refine zgs ?_ | refine zgu ?_ | refine eqMapNil ?_ | refine neqMapNil ?_ | refine LRes.mk ?_ | refine LIn.step ?_ | refine zdr ?_ | refine zna (fun _ => ?_) | refine znb (fun _ => ?_) | refine znc (fun _ => ?_) | refine newSlice0 (fun _ => ?_) | refine newMap (fun _ => ?_)))
  refine call0 (MakeX_ct _ p) ?_
  rintro v rfl
  rw [recV_of]
  generalize recOf p = r at h ⊢
  repeat ((conv => whnf); (first | refine ztx ?_ | refine LNext.nilr ?_ | refine zne ?_ | refine zga ?_ | refine zxa ?_ | refine zca ?_ | refine zcb ?_ | refine zgb ?_ | refine zgc ?_ | refine zgd1 ?_ | refine zge ?_ | refine zgf ?_ | refine zgg ?_ | refine zgh ?_ | refine zgi ?_ | refine zgj ?_ | refine zgk ?_ | refine max2m ?_ | refine min2m ?_ | refine eqStr ?_ | refine neqStr ?_ | refine eqSlNil ?_ | refine neqSlNil ?_ | refine eqBool ?_ | refine neqBool ?_ | refine capSlice ?_ | refine zgl ?_ | refine zgm ?_ | refine zgn ?_ | refine zgo ?_ | refine zba ?_ | refine zbb ?_ | refine zbc ?_ | refine zbd ?_ | refine zbe ?_ | refine zbf ?_ | refine zia ?_ | refine zib ?_ | refine zic ?_ | refine zid1 ?_ | refine zie ?_ | refine zif1 ?_ | refine zig ?_ | refine zih ?_ | refine lint_u8_mod ?_ | refine lint_u32_mod ?_ | refine zii ?_ | refine zij ?_ | refine zua ?_ | refine zgs ?_ | refine zgu ?_ | refine eqMapNil ?_ | refine neqMapNil ?_ | refine LRes.mk ?_ | refine LIn.step ?_ | refine zdr ?_ | refine zna (fun _ => ?_) | refine znb (fun _ => ?_) | refine znc (fun _ => ?_) | refine newSlice0 (fun _ => ?_) | refine newMap (fun _ => ?_)))
  refine call0 (Plainly_ct _ r) ?_
  rintro v rfl
  repeat ((conv => whnf); (first | refine ztx ?_ | refine LNext.nilr ?_ | refine zne ?_ | refine zga ?_ | refine zxa ?_ | refine zca ?_ | refine zcb ?_ | refine zgb ?_ | refine zgc ?_ | refine zgd1 ?_ | refine zge ?_ | refine zgf ?_ | refine zgg ?_ | refine zgh ?_ | refine zgi ?_ | refine zgj ?_ | refine zgk ?_ | refine max2m ?_ | refine min2m ?_ | refine eqStr ?_ | refine neqStr ?_ | refine eqSlNil ?_ | refine neqSlNil ?_ | refine eqBool ?_ | refine neqBool ?_ | refine capSlice ?_ | refine zgl ?_ | refine zgm ?_ | refine zgn ?_ | refine zgo ?_ | refine zba ?_ | refine zbb ?_ | refine zbc ?_ | refine zbd ?_ | refine zbe ?_ | refine zbf ?_ | refine zia ?_ | refine zib ?_ | refine zic ?_ | refine zid1 ?_ | refine zie ?_ | refine zif1 ?_ | refine zig ?_ | refine zih ?_ | refine lint_u8_mod ?_ | refine lint_u32_mod ?_ | refine zii ?_ | refine zij ?_ | refine zua ?_ | refine zgs ?_ | refine zgu ?_ | refine eqMapNil ?_ | refine neqMapNil ?_ | refine LRes.mk ?_ | refine LIn.step ?_ | refine zdr ?_ | refine zna (fun _ => ?_) | refine znb (fun _ => ?_) | refine znc (fun _ => ?_) | refine newSlice0 (fun _ => ?_) | refine newMap (fun _ => ?_)))
  refine call1 (Encode_ct M r h) zSp ?_
  rintro v M' ⟨a, cap, rfl, hM⟩
  subst hM
  repeat ((conv => whnf); (first | refine ztx ?_ | refine LNext.nilr ?_ | refine zne ?_ | refine zga ?_ | refine zxa ?_ | refine zca ?_ | refine zcb ?_ | refine zgb ?_ | refine zgc ?_ | refine zgd1 ?_ | refine zge ?_ | refine zgf ?_ | refine zgg ?_ | refine zgh ?_ | refine zgi ?_ | refine zgj ?_ | refine zgk ?_ | refine max2m ?_ | refine min2m ?_ | refine eqStr ?_ | refine neqStr ?_ | refine eqSlNil ?_ | refine neqSlNil ?_ | refine eqBool ?_ | refine neqBool ?_ | refine capSlice ?_ | refine zgl ?_ | refine zgm ?_ | refine zgn ?_ | refine zgo ?_ | refine zba ?_ | refine zbb ?_ | refine zbc ?_ | refine zbd ?_ | refine zbe ?_ | refine zbf ?_ | refine zia ?_ | refine zib ?_ | refine zic ?_ | refine zid1 ?_ | refine zie ?_ | refine zif1 ?_ | refine zig ?_ | refine zih ?_ | refine lint_u8_mod ?_ | refine lint_u32_mod ?_ | refine zii ?_ | refine zij ?_ | refine zua ?_ | refine zgs ?_ | refine zgu ?_ | refine eqMapNil ?_ | refine neqMapNil ?_ | refine LRes.mk ?_ | refine LIn.step ?_ | refine zdr ?_ | refine zna (fun _ => ?_) | refine znb (fun _ => ?_) | refine znc (fun _ => ?_) | refine newSlice0 (fun _ => ?_) | refine newMap (fun _ => ?_)))
  refine LCallRow (E := 5) (sz := 1) (enc := encU) (a := a) (n := (encR r).1.length) (cap := cap) (xs := (encR r).1) zTk (fun rh => ?_)
  have hlen : (encR r).1.length ≤ 9223372036854775807 := by have h1 := rh.le; have h2 := rh.max; simp only [maxLen] at h2; omega
  refine call1 (rEncode_ct M r h) zSp ?_
  rintro v M' ⟨a', cap', rfl, hM⟩
  subst hM
  repeat ((conv => whnf); (first | refine ztx ?_ | refine LNext.nilr ?_ | refine zne ?_ | refine zga ?_ | refine zxa ?_ | refine zca ?_ | refine zcb ?_ | refine zgb ?_ | refine zgc ?_ | refine zgd1 ?_ | refine zge ?_ | refine zgf ?_ | refine zgg ?_ | refine zgh ?_ | refine zgi ?_ | refine zgj ?_ | refine zgk ?_ | refine max2m ?_ | refine min2m ?_ | refine eqStr ?_ | refine neqStr ?_ | refine eqSlNil ?_ | refine neqSlNil ?_ | refine eqBool ?_ | refine neqBool ?_ | refine capSlice ?_ | refine zgl ?_ | refine zgm ?_ | refine zgn ?_ | refine zgo ?_ | refine zba ?_ | refine zbb ?_ | refine zbc ?_ | refine zbd ?_ | refine zbe ?_ | refine zbf ?_ | refine zia ?_ | refine zib ?_ | refine zic ?_ | refine zid1 ?_ | refine zie ?_ | refine zif1 ?_ | refine zig ?_ | refine zih ?_ | refine lint_u8_mod ?_ | refine lint_u32_mod ?_ | refine zii ?_ | refine zij ?_ | refine zua ?_ | refine zgs ?_ | refine zgu ?_ | refine eqMapNil ?_ | refine neqMapNil ?_ | refine LRes.mk ?_ | refine LIn.step ?_ | refine zdr ?_ | refine zna (fun _ => ?_) | refine znb (fun _ => ?_) | refine znc (fun _ => ?_) | refine newSlice0 (fun _ => ?_) | refine newMap (fun _ => ?_)))
  (first | refine call0 (SameBytes_ct _ a a' cap cap' (encR r).1 (encR r).1 zRd zRd hlen hlen) ?_ | refine ext0 (SameBytes_ct _ a a' cap cap' (encR r).1 (encR r).1 zRd zRd hlen hlen) ?_); rintro v rfl
  repeat ((conv => whnf); (first | refine ztx ?_ | refine LNext.nilr ?_ | refine zne ?_ | refine zga ?_ | refine zxa ?_ | refine zca ?_ | refine zcb ?_ | refine zgb ?_ | refine zgc ?_ | refine zgd1 ?_ | refine zge ?_ | refine zgf ?_ | refine zgg ?_ | refine zgh ?_ | refine zgi ?_ | refine zgj ?_ | refine zgk ?_ | refine max2m ?_ | refine min2m ?_ | refine eqStr ?_ | refine neqStr ?_ | refine eqSlNil ?_ | refine neqSlNil ?_ | refine eqBool ?_ | refine neqBool ?_ | refine capSlice ?_ | refine zgl ?_ | refine zgm ?_ | refine zgn ?_ | refine zgo ?_ | refine zba ?_ | refine zbb ?_ | refine zbc ?_ | refine zbd ?_ | refine zbe ?_ | refine zbf ?_ | refine zia ?_ | refine zib ?_ | refine zic ?_ | refine zid1 ?_ | refine zie ?_ | refine zif1 ?_ | refine zig ?_ | refine zih ?_ | refine lint_u8_mod ?_ | refine lint_u32_mod ?_ | refine zii ?_ | refine zij ?_ | refine zua ?_ | refine zgs ?_ | refine zgu ?_ | refine eqMapNil ?_ | refine neqMapNil ?_ | refine LRes.mk ?_ | refine LIn.step ?_ | refine zdr ?_ | refine zna (fun _ => ?_) | refine znb (fun _ => ?_) | refine znc (fun _ => ?_) | refine newSlice0 (fun _ => ?_) | refine newMap (fun _ => ?_)))
  (first | refine call0 ((Formed_ct M r h).part zSq) ?_ | refine ext0 ((Formed_ct M r h).part zSq) ?_); rintro v rfl
  repeat ((conv => whnf); (first | refine ztx ?_ | refine LNext.nilr ?_ | refine zne ?_ | refine zga ?_ | refine zxa ?_ | refine zca ?_ | refine zcb ?_ | refine zgb ?_ | refine zgc ?_ | refine zgd1 ?_ | refine zge ?_ | refine zgf ?_ | refine zgg ?_ | refine zgh ?_ | refine zgi ?_ | refine zgj ?_ | refine zgk ?_ | refine max2m ?_ | refine min2m ?_ | refine eqStr ?_ | refine neqStr ?_ | refine eqSlNil ?_ | refine neqSlNil ?_ | refine eqBool ?_ | refine neqBool ?_ | refine capSlice ?_ | refine zgl ?_ | refine zgm ?_ | refine zgn ?_ | refine zgo ?_ | refine zba ?_ | refine zbb ?_ | refine zbc ?_ | refine zbd ?_ | refine zbe ?_ | refine zbf ?_ | refine zia ?_ | refine zib ?_ | refine zic ?_ | refine zid1 ?_ | refine zie ?_ | refine zif1 ?_ | refine zig ?_ | refine zih ?_ | refine lint_u8_mod ?_ | refine lint_u32_mod ?_ | refine zii ?_ | refine zij ?_ | refine zua ?_ | refine zgs ?_ | refine zgu ?_ | refine eqMapNil ?_ | refine neqMapNil ?_ | refine LRes.mk ?_ | refine LIn.step ?_ | refine zdr ?_ | refine zna (fun _ => ?_) | refine znb (fun _ => ?_) | refine znc (fun _ => ?_) | refine newSlice0 (fun _ => ?_) | refine newMap (fun _ => ?_)))
  (first | refine call0 ((rFormed_ct M r h).part zSq) ?_ | refine ext0 ((rFormed_ct M r h).part zSq) ?_); rintro v rfl
  repeat ((conv => whnf); (first | refine ztx ?_ | refine LNext.nilr ?_ | refine zne ?_ | refine zga ?_ | refine zxa ?_ | refine zca ?_ | refine zcb ?_ | refine zgb ?_ | refine zgc ?_ | refine zgd1 ?_ | refine zge ?_ | refine zgf ?_ | refine zgg ?_ | refine zgh ?_ | refine zgi ?_ | refine zgj ?_ | refine zgk ?_ | refine max2m ?_ | refine min2m ?_ | refine eqStr ?_ | refine neqStr ?_ | refine eqSlNil ?_ | refine neqSlNil ?_ | refine eqBool ?_ | refine neqBool ?_ | refine capSlice ?_ | refine zgl ?_ | refine zgm ?_ | refine zgn ?_ | refine zgo ?_ | refine zba ?_ | refine zbb ?_ | refine zbc ?_ | refine zbd ?_ | refine zbe ?_ | refine zbf ?_ | refine zia ?_ | refine zib ?_ | refine zic ?_ | refine zid1 ?_ | refine zie ?_ | refine zif1 ?_ | refine zig ?_ | refine zih ?_ | refine lint_u8_mod ?_ | refine lint_u32_mod ?_ | refine zii ?_ | refine zij ?_ | refine zua ?_ | refine zgs ?_ | refine zgu ?_ | refine eqMapNil ?_ | refine neqMapNil ?_ | refine LRes.mk ?_ | refine LIn.step ?_ | refine zdr ?_ | refine zna (fun _ => ?_) | refine znb (fun _ => ?_) | refine znc (fun _ => ?_) | refine newSlice0 (fun _ => ?_) | refine newMap (fun _ => ?_)))
  show Fin _ _ _; exact Fin.of M zEn ⟨by simp [tupled], rfl⟩
end Go.Proofs.YtjmfnakplmmpnaaDoor

namespace Go.Proofs.YtjmfnakplmmpnaaDoor
open Go.Sl
open Go.ChangeShapes Go.WideShapes Go.ChangeAt Go.RowKit
set_option linter.unusedVariables false
set_option linter.unusedSimpArgs false
def small (l : List Nat) : Prop := ∀ n ∈ l, n ≤ reachBytes
def OpensZ (P : Program) (w : World) (t : TypeId) {α : Type} (enc : α → List Value) (good : α → Prop) : Prop :=
  ∀ {H : Type} (en : TypeId × Value → H) (fuel : Nat) (cs : List Value) (r : DataW H × List MemPlace), DataW.trod en P w 0 (fun _ => true) true fuel t cs = some r → small (r.1.weights P t) → ∃ x, cs = enc x ∧ good x
section
variable {P : Program} (Γ : Tab P) {w : World}
theorem Opens.z {t : TypeId} {α : Type} {enc : α → List Value} {good : α → Prop} (h : Opens P w t enc good) : OpensZ P w t enc good := fun en fuel cs r hr _ => h en fuel cs r hr
theorem OpensZ.str {t : TypeId} (hu : Γ.und t = some .string) : OpensZ P w t encS (fun s => s.size ≤ reachBytes) := fun en fuel cs r h hz => by
  obtain ⟨n, h1, h2, h3⟩ := DataW.trod_string (Γ.und_ok _ _ hu) h
  refine ⟨n, h1, ?_⟩
  subst h2
  have := hz n.data.toList.length (by simp [DataW.weights])
  rw [Array.length_toList] at this
  exact this
theorem all_mem {H : Type} {e : TypeId} : ∀ {l : List (DataW H)} {i : Nat} {d : DataW H}, l[i]? = some d → ∀ n ∈ d.weights P e, n ∈ DataW.weightsAll P e l
  | [], i, d, h, _, _ => by simp at h
  | d0 :: l, 0, d, h, n, hn => by
    simp only [List.getElem?_cons_zero, Option.some.injEq] at h
    subst h
    simp only [DataW.weightsAll, List.mem_append]
    exact Or.inl hn
  | d0 :: l, i + 1, d, h, n, hn => by
    simp only [List.getElem?_cons_succ] at h
    simp only [DataW.weightsAll, List.mem_append]
    exact Or.inr (all_mem h n hn)
theorem OpensZ.slice {t e : TypeId} {z : Value} {sz by' : Nat} {α : Type} {enc : α → List Value} {good : α → Prop} (hu : Γ.und t = some (.slice e)) (hi : Γ.inf e = some (z, sz, by')) (hs : 0 < sz) (he : ∀ x, (enc x).length = sz) (ho : OpensZ P w e enc good) :
    OpensZ P w t encL (SlV.Good w enc good) := fun en fuel cs r h hz => by
  rcases DataW.trod_slice (Γ.und_ok _ _ hu) h with ⟨rfl, _⟩ | ⟨a, len, cap, elems, rest, n, _, rfl, hr, hb, hl, hm, hlen, hel, _, _⟩
  · exact ⟨⟨none, 0, []⟩, rfl, ⟨Nat.le_refl _, Nat.zero_le _, (by intro x hx; simp at hx), .inl rfl⟩⟩
  subst hr
  have hza : small (DataW.weightsAll P e (elems.map (·.1))) := fun n hn => hz n (by simp only [DataW.weights, Γ.und_ok _ _ hu, List.mem_cons, List.mem_append]; exact Or.inr (Or.inl hn))
  rw [cellsOf_ok Γ hi] at hel
  have each : ∀ i, i < len → ∃ x, good x ∧ ∀ j v, (enc x)[j]? = some v → w.cell? ((a.add (i * sz)).add j) = some v := by
    intro i hi
    have h1 := hel i hi
    rw [List.getElem?_eq_getElem (by omega)] at h1
    simp only [Option.bind_eq_some_iff] at h1
    obtain ⟨ccs, h2, h3⟩ := h1
    obtain ⟨x, rfl, hx⟩ := ho en _ _ _ h3 (fun n hn => hza n (all_mem (l := elems.map (·.1)) (i := i) (by rw [List.getElem?_map, List.getElem?_eq_getElem (by omega)]; rfl) n hn))
    exact ⟨x, hx, (cells?_get h2).2⟩
  obtain ⟨xs, hxl, hxs⟩ := exists_list len each
  refine ⟨⟨some a, cap, xs⟩, by simp [encL, SlV.val, hxl], ⟨by simp [hxl]; exact hl, hm, ?_, ?_⟩⟩
  · intro x hx
    obtain ⟨i, hi, rfl⟩ := List.mem_iff_getElem.1 hx
    exact (hxs i _ (List.getElem?_eq_getElem hi)).1
  · cases hx0 : xs with
    | nil => exact .inl rfl
    | cons x0 xr =>
      right
      have hspot : a.spot = none := by
        have h0 := (hxs 0 x0 (by rw [hx0]; rfl)).2 0 ((enc x0)[0]'(by rw [he]; exact hs)) (List.getElem?_eq_getElem _)
        simp [Addr.add] at h0
        exact cell?_spot h0
      obtain ⟨b, o, s⟩ := a
      simp at hspot
      subst hspot
      refine ⟨b, o, rfl, fun j v hj => ?_⟩
      rw [show SlV.xs (⟨some ⟨b, o, none⟩, cap, x0 :: xr⟩ : SlV α) = xs from hx0.symm] at hj
      obtain ⟨x, h1, h2⟩ := flat_at he hs hj
      have h3 := (hxs _ x h1).2 _ _ h2
      have e : ((⟨b, o, none⟩ : Addr).add (j / sz * sz)).add (j % sz) = ⟨b, o + j, none⟩ := by
        have := Nat.div_add_mod' j sz
        unfold Addr.add
        split <;> split <;> simp_all <;> omega
      rw [e] at h3; exact h3
def OpensFZ (P : Program) (w : World) (fs : List Field) (off : Nat) {α : Type} (enc : α → List Value) (good : α → Prop) : Prop :=
  ∀ {H : Type} (en : TypeId × Value → H) (fuel : Nat) (cs : List Value), (∀ f ∈ fs, ∃ r : DataW H × List MemPlace, DataW.trod en P w 0 (fun _ => true) true fuel f.type ((cs.drop f.offset).take (P.cellsOf f.type)) = some r ∧ small (r.1.weights P f.type)) → ∃ (x : α) (n : Nat), (cs.drop off).take n = enc x ∧ n = (fs.map (fun f => P.cellsOf f.type)).sum ∧ good x
structure OpFZ (P : Program) (w : World) (fs : List Field) (off : Nat) {α : Type} (enc : α → List Value) (good : α → Prop) : Prop where
  h : OpensFZ P w fs off enc good
structure OpZ (P : Program) (w : World) (t : TypeId) {α : Type} (enc : α → List Value) (good : α → Prop) : Prop where
  h : OpensZ P w t enc good
theorem OpFZ.nil {off : Nat} : OpFZ P w [] off (fun _ : Unit => []) (fun _ => True) := ⟨fun en fuel cs h => ⟨(), 0, by simp, rfl, trivial⟩⟩
theorem OpFZ.cons {f : Field} {fs : List Field} {off sz by' : Nat} {z : Value} {α β : Type} {enc : α → List Value} {good : α → Prop} {enc' : β → List Value} {good' : β → Prop} (hi : Γ.inf f.type = some (z, sz, by')) (hoff : f.offset = off) (ho : OpZ P w f.type enc good) (hr : OpFZ P w fs (off + sz) enc' good') :
    OpFZ P w (f :: fs) off (fun x : α × β => enc x.1 ++ enc' x.2) (fun x => good x.1 ∧ good' x.2) := ⟨fun en fuel cs h => by
  obtain ⟨r, h1, hz⟩ := h f (List.mem_cons_self ..)
  obtain ⟨x, h2, h3⟩ := ho.h en _ _ _ h1 hz
  obtain ⟨y, n, h4, h5, h6⟩ := hr.h en fuel cs (fun g hg => h g (List.mem_cons_of_mem _ hg))
  rw [cellsOf_ok Γ hi, hoff] at h2
  refine ⟨(x, y), sz + n, ?_, by simp [cellsOf_ok Γ hi, h5], h3, h6⟩
  rw [List.take_add, h2, List.drop_drop, h4]⟩
theorem OpZ.struct {t : TypeId} {fs : Array Field} {z : Value} {sz by' : Nat} {α : Type} {enc : α → List Value} {good : α → Prop} (hu : Γ.und t = some (.struct fs)) (hi : Γ.inf t = some (z, sz, by')) (ho : OpFZ P w fs.toList 0 enc good) (hsum : (fs.toList.map (fun f => P.cellsOf f.type)).sum = sz) :
    OpZ P w t enc good := ⟨fun en fuel cs r h hz => by
  obtain ⟨xs, m, _, hr, hl, hlen, hel⟩ := DataW.trod_struct (Γ.und_ok _ _ hu) h
  subst hr
  rw [cellsOf_ok Γ hi] at hl
  obtain ⟨x, n, h1, h2, h3⟩ := ho.h en m cs (fun f hf => by
    obtain ⟨i, hi, rfl⟩ := List.mem_iff_getElem.1 hf
    have := hel i _ (by rw [Array.getElem?_eq_getElem (by simpa using hi)])
    have hix : i < xs.length := by simp at hi; omega
    rw [List.getElem?_eq_getElem hix] at this
    refine ⟨_, this, fun n hn => hz n ?_⟩
    simp only [DataW.weights, Γ.und_ok _ _ hu]
    refine DataW.weights_mem_each (j := i) (t := fs.toList[i].type) (d := xs[i].1) ?_ ?_ n (by simpa using hn)
    · rw [List.getElem?_map, List.getElem?_eq_getElem hi]; rfl
    · rw [List.getElem?_map, List.getElem?_eq_getElem hix]; rfl)
  refine ⟨x, ?_, h3⟩
  rw [← h1, List.drop_zero, List.take_of_length_le (by omega)]⟩
theorem OpZ.to {t : TypeId} {α β : Type} {enc : α → List Value} {good : α → Prop} (ho : OpZ P w t enc good) (enc' : β → List Value) (good' : β → Prop) (f : α → β) (he : ∀ x, good x → enc x = enc' (f x)) (hg : ∀ x, good x → good' (f x)) : OpZ P w t enc' good' := ⟨fun en fuel cs r h hz => by
  obtain ⟨x, h1, h2⟩ := ho.h en _ _ _ h hz
  exact ⟨f x, h1.trans (he x h2), hg x h2⟩⟩
theorem openNZ {t : TypeId} {v : Value} {H : Type} {en : TypeId × Value → H} {d : DataW H} {p : List MemPlace} {α : Type} {enc : α → List Value} {good : α → Prop} (hn : aggD (Γ.und t) = true) (hval : Value.okWide P w .any 0 t v) (ho : OpZ P w t enc good) (h : DataW.Trod en P w 0 (fun _ => true) true t v d p) (hz : small (d.weights P t)) : ∃ x, v = .agg (enc x).toArray ∧ good x := by
  obtain ⟨fuel, h⟩ := h
  obtain ⟨x, h1, h2⟩ := ho.h en _ _ _ h hz
  refine ⟨x, ?_, h2⟩
  cases hd : Γ.und t with
  | none => rw [hd] at hn; cases hn
  | some dd =>
    have hu := Γ.und_ok _ _ hd
    rw [hd] at hn
    have hag : ∃ cs, v = .agg cs := by
      unfold Value.okWide at hval
      rw [hu] at hval
      cases dd <;> simp [aggD] at hn
      · obtain ⟨cs, rfl, _⟩ := hval; exact ⟨_, rfl⟩
      · obtain ⟨cs, rfl, _⟩ := hval; exact ⟨_, rfl⟩
    obtain ⟨cs, rfl⟩ := hag
    rw [← h1]
    simp [Value.cells]
end
end Go.Proofs.YtjmfnakplmmpnaaDoor

namespace Go.Proofs.YtjmfnakplmmpnaaDoor
open Go
set_option maxRecDepth 100000
abbrev etlS : ByteArray := { data := #[98, 121, 116, 101, 115, 46, 66, 117, 102, 102, 101, 114, 58, 32, 116, 111, 111, 32, 108, 97, 114, 103, 101] }
noncomputable def low : Nat := (World.holding Tryd.prog default ⟨#[], #[], []⟩).heap.size
noncomputable def laidWorld (os : Os) : World :=
  let w0 := World.holding Tryd.prog os ⟨#[.cells #[.string etlS] 163], #[], []⟩
  { w0 with heap := w0.heap.modify 0 fun
      | .cells _ t frozen => .cells #[.iface 147 (.pointer (some ⟨low, 0, none⟩))] t frozen
      | o => o }
theorem laidWorld_met (os : Os) (args : Array Value) : laidMet Tryd.prog [("bytes.ErrTooLarge", Rows.laid_bytes_ErrTooLarge)] ((laidWorld os).forCall (fun _ _ => 0) ⟨#[], args, []⟩).memory :=
  laidMet_of_run (ps := [.cell 0 0, .cell low 0]) 8 (by kernel_rfl) (by kernel_rfl) (by kernel_rfl)
end Go.Proofs.YtjmfnakplmmpnaaDoor
