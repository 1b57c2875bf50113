import Derived.Test.YtjmfnakplmmpnaaDoorYAZ
import Derived.Laws.BytesArg
namespace Go.Proofs.YtjmfnakplmmpnaaDoor
open Go.Sl
set_option linter.unusedVariables false
set_option linter.unusedSimpArgs false
set_option maxRecDepth 100000
set_option maxHeartbeats 1000000
theorem rd_nat {M : List As} {a : Option Addr} {xs : List Int} (l : RdH M a 1 Go.Proofs.YtjmfnakplmmpnaaDoor.encI xs) (h : ∀ x ∈ xs, 0 ≤ x) : RdH M a 1 encN (xs.map Int.toNat) := ⟨fun k s => (l.h k s).imp (fun e => by rw [e]; rfl) (fun ⟨b, o, e, f⟩ => ⟨b, o, e, fun i x hx j v hj => by
  rw [List.getElem?_map] at hx
  cases hq : xs[i]? with
  | none => rw [hq] at hx; cases hx
  | some y =>
    rw [hq] at hx
    injection hx with hx
    have h0 := h y (List.mem_of_getElem? hq)
    have e2 : encN y.toNat = Go.Proofs.YtjmfnakplmmpnaaDoor.encI y := by unfold encN Go.Proofs.YtjmfnakplmmpnaaDoor.encI; rw [Int.toNat_of_nonneg h0]
    rw [← hx, e2] at hj
    exact f i y hq j v hj⟩)⟩
theorem SuKind_ct (M : List As) (j : JV) : Ctr Tryd.prog 98 #[.agg (encJ j).toArray] M (fun v M' => v = .int .i64 5 ∧ M' = M) := by
  refine ctr_of (Γ := tab) (vs := [_]) fn98 rfl ?_
  repeat ((conv => whnf); (first | refine ztx ?_ | refine LNext.nilr ?_ | refine zne ?_ | refine zga ?_ | refine zxa ?_ | refine zca ?_ | refine zcb ?_ | refine zgb ?_ | refine zgc ?_ | refine zgd1 ?_ | refine zge ?_ | refine zgf ?_ | refine zgg ?_ | refine zgh ?_ | refine zgi ?_ | refine zgj ?_ | refine zgk ?_ | refine max2m ?_ | refine min2m ?_ | refine eqStr ?_ | refine neqStr ?_ | refine eqSlNil ?_ | refine neqSlNil ?_ | refine eqBool ?_ | refine neqBool ?_ | refine capSlice ?_ | refine zgl ?_ | refine zgm ?_ | refine zgn ?_ | refine zgo ?_ | refine zba ?_ | refine zbb ?_ | refine zbc ?_ | refine zbd ?_ | refine zbe ?_ | refine zbf ?_ | refine zia ?_ | refine zib ?_ | refine zic ?_ | refine zid1 ?_ | refine zie ?_ | refine zif1 ?_ | refine zig ?_ | refine zih ?_ | refine lint_u8_mod ?_ | refine lint_u32_mod ?_ | refine zii ?_ | refine zij ?_ | refine zua ?_ | refine zgs ?_ | refine zgu ?_ | refine eqMapNil ?_ | refine neqMapNil ?_ | refine LRes.mk ?_ | refine LIn.step ?_ | refine zdr ?_ | refine zna (fun _ => ?_) | refine znb (fun _ => ?_) | refine znc (fun _ => ?_) | refine newSlice0 (fun _ => ?_) | refine newMap (fun _ => ?_)))
  show Fin _ _ _; exact Fin.of M zEn ⟨rfl, rfl⟩
theorem vl : ∀ l : List V4, (l.flatMap vnat).length = 4 * l.length
  | [] => rfl
  | v :: l => by rw [List.flatMap_cons, List.length_append, vl l, List.length_cons]; show 4 + _ = _; omega
theorem vecR_b {v : V4} (h : vecR v = true) : (0 ≤ v.1 ∧ v.1 ≤ 1099511627776) ∧ (0 ≤ v.2.1 ∧ v.2.1 ≤ 1099511627776) ∧ (0 ≤ v.2.2.1 ∧ v.2.2.1 ≤ 1099511627776) ∧ (0 ≤ v.2.2.2 ∧ v.2.2.2 ≤ 1099511627776) := by
  simp only [vecR, v1R, Bool.and_eq_true, decide_eq_true_eq] at h
  exact ⟨h.1.1.1, h.1.1.2, h.1.2, h.2⟩
theorem vnat_lt {v : V4} (h : vecR v = true) : ∀ n ∈ vnat v, n < 9223372036854775808 := by
  have := vecR_b h
  intro n hn
  simp only [vnat, List.mem_cons, List.not_mem_nil, or_false] at hn
  omega
def jobB (k : Nat) (tenant : ByteArray) (prio run : Nat) (pxs : List Int) (txs : List V4) : Bs := [5] ++ sevs [k] ++ txtB tenant ++ sevs [prio, run, pxs.length] ++ sevs (pxs.map Int.toNat) ++ sevs [txs.length]
theorem EncodeSubmitted_ct (M : List As) (k prio run : Nat) (tenant : ByteArray) (pa ta na da : Option Addr) (pcap tcap ncap dcap : Nat) (pxs : List Int) (txs : List V4) (nxs dxs : List ByteArray) (st att sta : Int)
    (hr : RdJ M ⟨k, tenant, prio, run, ⟨pa, pcap, pxs⟩, ⟨ta, tcap, txs⟩, st, att, ⟨na, ncap, nxs⟩, sta, ⟨da, dcap, dxs⟩⟩) (hj : jobR ⟨k, tenant, prio, run, ⟨pa, pcap, pxs⟩, ⟨ta, tcap, txs⟩, st, att, ⟨na, ncap, nxs⟩, sta, ⟨da, dcap, dxs⟩⟩ = true)
    (hk : k ≤ 100) (ht : nameR tenant = true) (hp : prio ≤ 100) (hrun : run ≤ 1000) (hpl : pxs.length ≤ 4) (htl : txs.length ≤ 6) (hpx : ∀ x ∈ pxs, 0 ≤ x ∧ x ≤ 100) (htv : ∀ v ∈ txs, vecR v = true) :
    Ctr Tryd.prog 20 #[.iface 67 (.agg (encJ ⟨k, tenant, prio, run, ⟨pa, pcap, pxs⟩, ⟨ta, tcap, txs⟩, st, att, ⟨na, ncap, nxs⟩, sta, ⟨da, dcap, dxs⟩⟩).toArray)] M (fun v M' => ∃ a' cap', v = .tuple #[.slice a' (jobB k tenant prio run pxs txs ++ sevs (txs.flatMap vnat)).length cap', .int .i64 0] ∧ M' = BR a' (jobB k tenant prio run pxs txs ++ sevs (txs.flatMap vnat)).length cap' (jobB k tenant prio run pxs txs ++ sevs (txs.flatMap vnat)) :: M) := by
  have hsz := nameR_size ht
  have hs1 := seven_len (n := tenant.size) (by omega)
  have hl1 : (txtB tenant).length ≤ 73 := txtB_len hsz.2
  have hs2 := sevs_len (l := [k]) (by intro n hn; simp at hn; omega)
  have hs3 := sevs_len (l := [prio, run, pxs.length]) (by intro n hn; simp at hn; omega)
  have hpn : ∀ n ∈ pxs.map Int.toNat, n < 9223372036854775808 := by
    intro n hn
    obtain ⟨x, hx, rfl⟩ := List.mem_map.1 hn
    have := hpx x hx
    omega
  have hs4 := sevs_len hpn
  have hml : (pxs.map Int.toNat).length = pxs.length := List.length_map ..
  have hs5 := sevs_len (l := [txs.length]) (by intro n hn; simp at hn; omega)
  simp only [List.length_cons, List.length_nil] at hs2 hs3 hs5
  have hfs := FormedSubmitted_ct M ⟨k, tenant, prio, run, ⟨pa, pcap, pxs⟩, ⟨ta, tcap, txs⟩, st, att, ⟨na, ncap, nxs⟩, sta, ⟨da, dcap, dxs⟩⟩ hr (by show tenant.size ≤ _; omega)
  rw [hj] at hfs
  have hkd := fun M => SuKind_ct M ⟨k, tenant, prio, run, ⟨pa, pcap, pxs⟩, ⟨ta, tcap, txs⟩, st, att, ⟨na, ncap, nxs⟩, sta, ⟨da, dcap, dxs⟩⟩
  have hrp : RdH M pa 1 encN (pxs.map Int.toNat) := rd_nat hr.par (fun x hx => (hpx x hx).1)
  refine ctr_of (Γ := tab) (vs := [_]) fn20 rfl ?_
  repeat ((conv => whnf); (first | refine ztx ?_ | refine LNext.nilr ?_ | refine zne ?_ | refine zga ?_ | refine zxa ?_ | refine zca ?_ | refine zcb ?_ | refine zgb ?_ | refine zgc ?_ | refine zgd1 ?_ | refine zge ?_ | refine zgf ?_ | refine zgg ?_ | refine zgh ?_ | refine zgi ?_ | refine zgj ?_ | refine zgk ?_ | refine max2m ?_ | refine min2m ?_ | refine eqStr ?_ | refine neqStr ?_ | refine eqSlNil ?_ | refine neqSlNil ?_ | refine eqBool ?_ | refine neqBool ?_ | refine capSlice ?_ | refine zgl ?_ | refine zgm ?_ | refine zgn ?_ | refine zgo ?_ | refine zba ?_ | refine zbb ?_ | refine zbc ?_ | refine zbd ?_ | refine zbe ?_ | refine zbf ?_ | refine zia ?_ | refine zib ?_ | refine zic ?_ | refine zid1 ?_ | refine zie ?_ | refine zif1 ?_ | refine zig ?_ | refine zih ?_ | refine lint_u8_mod ?_ | refine lint_u32_mod ?_ | refine zii ?_ | refine zij ?_ | refine zua ?_ | refine zgs ?_ | refine zgu ?_ | refine eqMapNil ?_ | refine neqMapNil ?_ | refine LRes.mk ?_ | refine LIn.step ?_ | refine zdr ?_ | refine zna (fun _ => ?_) | refine znb (fun _ => ?_) | refine znc (fun _ => ?_) | refine newSlice0 (fun _ => ?_) | refine newMap (fun _ => ?_)))
  refine call0 hfs ?_
  rintro v rfl
  repeat ((conv => whnf); (first | refine ztx ?_ | refine LNext.nilr ?_ | refine zne ?_ | refine zga ?_ | refine zxa ?_ | refine zca ?_ | refine zcb ?_ | refine zgb ?_ | refine zgc ?_ | refine zgd1 ?_ | refine zge ?_ | refine zgf ?_ | refine zgg ?_ | refine zgh ?_ | refine zgi ?_ | refine zgj ?_ | refine zgk ?_ | refine max2m ?_ | refine min2m ?_ | refine eqStr ?_ | refine neqStr ?_ | refine eqSlNil ?_ | refine neqSlNil ?_ | refine eqBool ?_ | refine neqBool ?_ | refine capSlice ?_ | refine zgl ?_ | refine zgm ?_ | refine zgn ?_ | refine zgo ?_ | refine zba ?_ | refine zbb ?_ | refine zbc ?_ | refine zbd ?_ | refine zbe ?_ | refine zbf ?_ | refine zia ?_ | refine zib ?_ | refine zic ?_ | refine zid1 ?_ | refine zie ?_ | refine zif1 ?_ | refine zig ?_ | refine zih ?_ | refine lint_u8_mod ?_ | refine lint_u32_mod ?_ | refine zii ?_ | refine zij ?_ | refine zua ?_ | refine zgs ?_ | refine zgu ?_ | refine eqMapNil ?_ | refine neqMapNil ?_ | refine LRes.mk ?_ | refine LIn.step ?_ | refine zdr ?_ | refine zna (fun _ => ?_) | refine znb (fun _ => ?_) | refine znc (fun _ => ?_) | refine newSlice0 (fun _ => ?_) | refine newMap (fun _ => ?_)))
  refine invVal (f := 98) (by kernel_rfl) ?_
  refine call0 (hkd _) ?_
  rintro v rfl
  dsimp only [encJ]
  repeat ((conv => whnf); (first | refine ztx ?_ | refine LNext.nilr ?_ | refine zne ?_ | refine zga ?_ | refine zxa ?_ | refine zca ?_ | refine zcb ?_ | refine zgb ?_ | refine zgc ?_ | refine zgd1 ?_ | refine zge ?_ | refine zgf ?_ | refine zgg ?_ | refine zgh ?_ | refine zgi ?_ | refine zgj ?_ | refine zgk ?_ | refine max2m ?_ | refine min2m ?_ | refine eqStr ?_ | refine neqStr ?_ | refine eqSlNil ?_ | refine neqSlNil ?_ | refine eqBool ?_ | refine neqBool ?_ | refine capSlice ?_ | refine zgl ?_ | refine zgm ?_ | refine zgn ?_ | refine zgo ?_ | refine zba ?_ | refine zbb ?_ | refine zbc ?_ | refine zbd ?_ | refine zbe ?_ | refine zbf ?_ | refine zia ?_ | refine zib ?_ | refine zic ?_ | refine zid1 ?_ | refine zie ?_ | refine zif1 ?_ | refine zig ?_ | refine zih ?_ | refine lint_u8_mod ?_ | refine lint_u32_mod ?_ | refine zii ?_ | refine zij ?_ | refine zua ?_ | refine zgs ?_ | refine zgu ?_ | refine eqMapNil ?_ | refine neqMapNil ?_ | refine LRes.mk ?_ | refine LIn.step ?_ | refine zdr ?_ | refine zna (fun _ => ?_) | refine znb (fun _ => ?_) | refine znc (fun _ => ?_) | refine newSlice0 (fun _ => ?_) | refine newMap (fun _ => ?_)))
  rename_i wb
  refine call1 ((WByte_ct wb [] 5 (by decide)).weaken bf_new (fun _ _ h => h)) zSp ?_
  rintro v M' ⟨rfl, rfl⟩
  rw [List.nil_append]
  repeat ((conv => whnf); (first | refine ztx ?_ | refine LNext.nilr ?_ | refine zne ?_ | refine zga ?_ | refine zxa ?_ | refine zca ?_ | refine zcb ?_ | refine zgb ?_ | refine zgc ?_ | refine zgd1 ?_ | refine zge ?_ | refine zgf ?_ | refine zgg ?_ | refine zgh ?_ | refine zgi ?_ | refine zgj ?_ | refine zgk ?_ | refine max2m ?_ | refine min2m ?_ | refine eqStr ?_ | refine neqStr ?_ | refine eqSlNil ?_ | refine neqSlNil ?_ | refine eqBool ?_ | refine neqBool ?_ | refine capSlice ?_ | refine zgl ?_ | refine zgm ?_ | refine zgn ?_ | refine zgo ?_ | refine zba ?_ | refine zbb ?_ | refine zbc ?_ | refine zbd ?_ | refine zbe ?_ | refine zbf ?_ | refine zia ?_ | refine zib ?_ | refine zic ?_ | refine zid1 ?_ | refine zie ?_ | refine zif1 ?_ | refine zig ?_ | refine zih ?_ | refine lint_u8_mod ?_ | refine lint_u32_mod ?_ | refine zii ?_ | refine zij ?_ | refine zua ?_ | refine zgs ?_ | refine zgu ?_ | refine eqMapNil ?_ | refine neqMapNil ?_ | refine LRes.mk ?_ | refine LIn.step ?_ | refine zdr ?_ | refine zna (fun _ => ?_) | refine znb (fun _ => ?_) | refine znc (fun _ => ?_) | refine newSlice0 (fun _ => ?_) | refine newMap (fun _ => ?_)))
  repeat ((first | refine taYes ?_ | refine taNo ?_); repeat ((conv => whnf); (first | refine ztx ?_ | refine LNext.nilr ?_ | refine zne ?_ | refine zga ?_ | refine zxa ?_ | refine zca ?_ | refine zcb ?_ | refine zgb ?_ | refine zgc ?_ | refine zgd1 ?_ | refine zge ?_ | refine zgf ?_ | refine zgg ?_ | refine zgh ?_ | refine zgi ?_ | refine zgj ?_ | refine zgk ?_ | refine max2m ?_ | refine min2m ?_ | refine eqStr ?_ | refine neqStr ?_ | refine eqSlNil ?_ | refine neqSlNil ?_ | refine eqBool ?_ | refine neqBool ?_ | refine capSlice ?_ | refine zgl ?_ | refine zgm ?_ | refine zgn ?_ | refine zgo ?_ | refine zba ?_ | refine zbb ?_ | refine zbc ?_ | refine zbd ?_ | refine zbe ?_ | refine zbf ?_ | refine zia ?_ | refine zib ?_ | refine zic ?_ | refine zid1 ?_ | refine zie ?_ | refine zif1 ?_ | refine zig ?_ | refine zih ?_ | refine lint_u8_mod ?_ | refine lint_u32_mod ?_ | refine zii ?_ | refine zij ?_ | refine zua ?_ | refine zgs ?_ | refine zgu ?_ | refine eqMapNil ?_ | refine neqMapNil ?_ | refine LRes.mk ?_ | refine LIn.step ?_ | refine zdr ?_ | refine zna (fun _ => ?_) | refine znb (fun _ => ?_) | refine znc (fun _ => ?_) | refine newSlice0 (fun _ => ?_) | refine newMap (fun _ => ?_))))
  rename_i q g
  refine call1 (wnum_ct wb [5] (some ⟨g, 0, none⟩) 1 [k] [pt g (.cells #[.int .i64 k] 2)] (RdH.pt (enc := encN) (fun _ => rfl) (by rfl)) (by intro n hn; simp at hn; omega) (by simp <;> omega) (by simp)) zSp ?_
  rintro v M' ⟨rfl, rfl⟩
  repeat ((conv => whnf); (first | refine ztx ?_ | refine LNext.nilr ?_ | refine zne ?_ | refine zga ?_ | refine zxa ?_ | refine zca ?_ | refine zcb ?_ | refine zgb ?_ | refine zgc ?_ | refine zgd1 ?_ | refine zge ?_ | refine zgf ?_ | refine zgg ?_ | refine zgh ?_ | refine zgi ?_ | refine zgj ?_ | refine zgk ?_ | refine max2m ?_ | refine min2m ?_ | refine eqStr ?_ | refine neqStr ?_ | refine eqSlNil ?_ | refine neqSlNil ?_ | refine eqBool ?_ | refine neqBool ?_ | refine capSlice ?_ | refine zgl ?_ | refine zgm ?_ | refine zgn ?_ | refine zgo ?_ | refine zba ?_ | refine zbb ?_ | refine zbc ?_ | refine zbd ?_ | refine zbe ?_ | refine zbf ?_ | refine zia ?_ | refine zib ?_ | refine zic ?_ | refine zid1 ?_ | refine zie ?_ | refine zif1 ?_ | refine zig ?_ | refine zih ?_ | refine lint_u8_mod ?_ | refine lint_u32_mod ?_ | refine zii ?_ | refine zij ?_ | refine zua ?_ | refine zgs ?_ | refine zgu ?_ | refine eqMapNil ?_ | refine neqMapNil ?_ | refine LRes.mk ?_ | refine LIn.step ?_ | refine zdr ?_ | refine zna (fun _ => ?_) | refine znb (fun _ => ?_) | refine znc (fun _ => ?_) | refine newSlice0 (fun _ => ?_) | refine newMap (fun _ => ?_)))
  refine call1 (wtext_ct wb ([5] ++ sevs [k]) tenant [] (by omega) (by simp only [List.length_append, List.length_cons, List.length_nil]; omega) (by simp)) zSp ?_
  rintro v M' ⟨rfl, rfl⟩
  repeat ((conv => whnf); (first | refine ztx ?_ | refine LNext.nilr ?_ | refine zne ?_ | refine zga ?_ | refine zxa ?_ | refine zca ?_ | refine zcb ?_ | refine zgb ?_ | refine zgc ?_ | refine zgd1 ?_ | refine zge ?_ | refine zgf ?_ | refine zgg ?_ | refine zgh ?_ | refine zgi ?_ | refine zgj ?_ | refine zgk ?_ | refine max2m ?_ | refine min2m ?_ | refine eqStr ?_ | refine neqStr ?_ | refine eqSlNil ?_ | refine neqSlNil ?_ | refine eqBool ?_ | refine neqBool ?_ | refine capSlice ?_ | refine zgl ?_ | refine zgm ?_ | refine zgn ?_ | refine zgo ?_ | refine zba ?_ | refine zbb ?_ | refine zbc ?_ | refine zbd ?_ | refine zbe ?_ | refine zbf ?_ | refine zia ?_ | refine zib ?_ | refine zic ?_ | refine zid1 ?_ | refine zie ?_ | refine zif1 ?_ | refine zig ?_ | refine zih ?_ | refine lint_u8_mod ?_ | refine lint_u32_mod ?_ | refine zii ?_ | refine zij ?_ | refine zua ?_ | refine zgs ?_ | refine zgu ?_ | refine eqMapNil ?_ | refine neqMapNil ?_ | refine LRes.mk ?_ | refine LIn.step ?_ | refine zdr ?_ | refine zna (fun _ => ?_) | refine znb (fun _ => ?_) | refine znc (fun _ => ?_) | refine newSlice0 (fun _ => ?_) | refine newMap (fun _ => ?_)))
  rename_i g2
  refine call1 (wnum_ct wb ([5] ++ sevs [k] ++ txtB tenant) (some ⟨g2, 0, none⟩) 3 [prio, run, pxs.length] [pt g2 (.cells #[.int .i64 prio, .int .i64 run, .int .i64 pxs.length] 2)] (RdH.pt (enc := encN) (fun _ => rfl) (by rfl)) (by intro n hn; simp at hn; omega) (by simp only [List.length_append, List.length_cons, List.length_nil]; omega) (by simp)) zSp ?_
  rintro v M' ⟨rfl, rfl⟩
  repeat ((conv => whnf); (first | refine ztx ?_ | refine LNext.nilr ?_ | refine zne ?_ | refine zga ?_ | refine zxa ?_ | refine zca ?_ | refine zcb ?_ | refine zgb ?_ | refine zgc ?_ | refine zgd1 ?_ | refine zge ?_ | refine zgf ?_ | refine zgg ?_ | refine zgh ?_ | refine zgi ?_ | refine zgj ?_ | refine zgk ?_ | refine max2m ?_ | refine min2m ?_ | refine eqStr ?_ | refine neqStr ?_ | refine eqSlNil ?_ | refine neqSlNil ?_ | refine eqBool ?_ | refine neqBool ?_ | refine capSlice ?_ | refine zgl ?_ | refine zgm ?_ | refine zgn ?_ | refine zgo ?_ | refine zba ?_ | refine zbb ?_ | refine zbc ?_ | refine zbd ?_ | refine zbe ?_ | refine zbf ?_ | refine zia ?_ | refine zib ?_ | refine zic ?_ | refine zid1 ?_ | refine zie ?_ | refine zif1 ?_ | refine zig ?_ | refine zih ?_ | refine lint_u8_mod ?_ | refine lint_u32_mod ?_ | refine zii ?_ | refine zij ?_ | refine zua ?_ | refine zgs ?_ | refine zgu ?_ | refine eqMapNil ?_ | refine neqMapNil ?_ | refine LRes.mk ?_ | refine LIn.step ?_ | refine zdr ?_ | refine zna (fun _ => ?_) | refine znb (fun _ => ?_) | refine znc (fun _ => ?_) | refine newSlice0 (fun _ => ?_) | refine newMap (fun _ => ?_)))
  have hwp := fun M (h : RdH M pa 1 encN (pxs.map Int.toNat)) => wnum_ct wb ([5] ++ sevs [k] ++ txtB tenant ++ sevs [prio, run, pxs.length]) pa pcap (pxs.map Int.toNat) M h hpn (by simp only [List.length_append, List.length_cons, List.length_nil]; omega) (by simp)
  rw [hml] at hwp
  refine call1 (hwp M hrp) zSp ?_
  rintro v M' ⟨rfl, hM'⟩
  subst hM'
  repeat ((conv => whnf); (first | refine ztx ?_ | refine LNext.nilr ?_ | refine zne ?_ | refine zga ?_ | refine zxa ?_ | refine zca ?_ | refine zcb ?_ | refine zgb ?_ | refine zgc ?_ | refine zgd1 ?_ | refine zge ?_ | refine zgf ?_ | refine zgg ?_ | refine zgh ?_ | refine zgi ?_ | refine zgj ?_ | refine zgk ?_ | refine max2m ?_ | refine min2m ?_ | refine eqStr ?_ | refine neqStr ?_ | refine eqSlNil ?_ | refine neqSlNil ?_ | refine eqBool ?_ | refine neqBool ?_ | refine capSlice ?_ | refine zgl ?_ | refine zgm ?_ | refine zgn ?_ | refine zgo ?_ | refine zba ?_ | refine zbb ?_ | refine zbc ?_ | refine zbd ?_ | refine zbe ?_ | refine zbf ?_ | refine zia ?_ | refine zib ?_ | refine zic ?_ | refine zid1 ?_ | refine zie ?_ | refine zif1 ?_ | refine zig ?_ | refine zih ?_ | refine lint_u8_mod ?_ | refine lint_u32_mod ?_ | refine zii ?_ | refine zij ?_ | refine zua ?_ | refine zgs ?_ | refine zgu ?_ | refine eqMapNil ?_ | refine neqMapNil ?_ | refine LRes.mk ?_ | refine LIn.step ?_ | refine zdr ?_ | refine zna (fun _ => ?_) | refine znb (fun _ => ?_) | refine znc (fun _ => ?_) | refine newSlice0 (fun _ => ?_) | refine newMap (fun _ => ?_)))
  rename_i g3
  refine call1 (wnum_ct wb ([5] ++ sevs [k] ++ txtB tenant ++ sevs [prio, run, pxs.length] ++ sevs (pxs.map Int.toNat)) (some ⟨g3, 0, none⟩) 1 [txs.length] [pt g3 (.cells #[.int .i64 txs.length] 2)] (RdH.pt (enc := encN) (fun _ => rfl) (by rfl)) (by intro n hn; simp at hn; omega) (by simp only [List.length_append, List.length_cons, List.length_nil]; omega) (by simp)) zSp ?_
  rintro v M' ⟨rfl, rfl⟩
  rw [show [5] ++ sevs [k] ++ txtB tenant ++ sevs [prio, run, pxs.length] ++ sevs (pxs.map Int.toNat) ++ sevs [txs.length] = jobB k tenant prio run pxs txs from rfl]
  have hjl : (jobB k tenant prio run pxs txs).length ≤ 200 := by unfold jobB; simp only [List.length_append, List.length_cons, List.length_nil]; omega
  have hjn : jobB k tenant prio run pxs txs ≠ [] := by unfold jobB; simp
  generalize jobB k tenant prio run pxs txs = J at hjl hjn ⊢
  repeat ((conv => whnf); (first | refine ztx ?_ | refine LNext.nilr ?_ | refine zne ?_ | refine zga ?_ | refine zxa ?_ | refine zca ?_ | refine zcb ?_ | refine zgb ?_ | refine zgc ?_ | refine zgd1 ?_ | refine zge ?_ | refine zgf ?_ | refine zgg ?_ | refine zgh ?_ | refine zgi ?_ | refine zgj ?_ | refine zgk ?_ | refine max2m ?_ | refine min2m ?_ | refine eqStr ?_ | refine neqStr ?_ | refine eqSlNil ?_ | refine neqSlNil ?_ | refine eqBool ?_ | refine neqBool ?_ | refine capSlice ?_ | refine zgl ?_ | refine zgm ?_ | refine zgn ?_ | refine zgo ?_ | refine zba ?_ | refine zbb ?_ | refine zbc ?_ | refine zbd ?_ | refine zbe ?_ | refine zbf ?_ | refine zia ?_ | refine zib ?_ | refine zic ?_ | refine zid1 ?_ | refine zie ?_ | refine zif1 ?_ | refine zig ?_ | refine zih ?_ | refine lint_u8_mod ?_ | refine lint_u32_mod ?_ | refine zii ?_ | refine zij ?_ | refine zua ?_ | refine zgs ?_ | refine zgu ?_ | refine eqMapNil ?_ | refine neqMapNil ?_ | refine LRes.mk ?_ | refine LIn.step ?_ | refine zdr ?_ | refine zna (fun _ => ?_) | refine znb (fun _ => ?_) | refine znc (fun _ => ?_) | refine newSlice0 (fun _ => ?_) | refine newMap (fun _ => ?_)))
  refine LLoop.invN (fun i : Nat => [(4, .pointer (some ⟨wb, 0, none⟩)), (105, .slice ta txs.length tcap), (106, .int .i64 txs.length), (107, .int .i64 i)]) (fun i => Bf wb (J ++ sevs ((txs.take i).flatMap vnat)) :: M) (fun i => i ≤ txs.length) (fun i => txs.length - i) 0 (Nat.zero_le _) zSu (by rw [List.take_zero]; show Ent _ (Bf wb (J ++ []) :: M); rw [List.append_nil]; exact zEn) ?_
  intro i hi
  by_cases p1 : i < txs.length
  · refine LNext.rd (a := ta) (xs := txs) (sz := 4) (enc := encV4) hr.tasks.there (fun rx => ?_)
    obtain ⟨g4, o, rfl, lz⟩ := rx.get p1
    have hm := htv _ (gd_mem p1)
    have htl2 : (txs.take i).length = i := by rw [List.length_take]; omega
    have htk : J ++ sevs ((txs.take (i + 1)).flatMap vnat) = J ++ sevs ((txs.take i).flatMap vnat) ++ sevs (vnat (gd txs i)) := by
      rw [gd_take p1, List.flatMap_append, show sevs ((txs.take i).flatMap vnat ++ [gd txs i].flatMap vnat) = sevs ((txs.take i).flatMap vnat) ++ sevs ([gd txs i].flatMap vnat) from by unfold sevs; rw [List.flatMap_append], List.append_assoc]
      simp
    refine LNext.go tab ?_
    repeat ((conv => whnf); (first | refine ztx ?_ | refine LNext.nilr ?_ | refine zne ?_ | refine zga ?_ | refine zxa ?_ | refine zca ?_ | refine zcb ?_ | refine zgb ?_ | refine zgc ?_ | refine zgd1 ?_ | refine zge ?_ | refine zgf ?_ | refine zgg ?_ | refine zgh ?_ | refine zgi ?_ | refine zgj ?_ | refine zgk ?_ | refine max2m ?_ | refine min2m ?_ | refine eqStr ?_ | refine neqStr ?_ | refine eqSlNil ?_ | refine neqSlNil ?_ | refine eqBool ?_ | refine neqBool ?_ | refine capSlice ?_ | refine zgl ?_ | refine zgm ?_ | refine zgn ?_ | refine zgo ?_ | refine zba ?_ | refine zbb ?_ | refine zbc ?_ | refine zbd ?_ | refine zbe ?_ | refine zbf ?_ | refine zia ?_ | refine zib ?_ | refine zic ?_ | refine zid1 ?_ | refine zie ?_ | refine zif1 ?_ | refine zig ?_ | refine zih ?_ | refine lint_u8_mod ?_ | refine lint_u32_mod ?_ | refine zii ?_ | refine zij ?_ | refine zua ?_ | refine zgs ?_ | refine zgu ?_ | refine eqMapNil ?_ | refine neqMapNil ?_ | refine LRes.mk ?_ | refine LIn.step ?_ | refine zdr ?_ | refine zna (fun _ => ?_) | refine znb (fun _ => ?_) | refine znc (fun _ => ?_) | refine newSlice0 (fun _ => ?_) | refine newMap (fun _ => ?_)))
    rename_i g5
    have hv := vecR_b hm
    have hvm : ∀ n ∈ vnat (gd txs i), n < 9223372036854775808 := vnat_lt hm
    have hvl := vl (txs.take i)
    have hvs := sevs_len (l := (txs.take i).flatMap vnat) (fun n hn => by
      obtain ⟨w, hw, hn⟩ := List.mem_flatMap.1 hn
      exact vnat_lt (htv w (List.mem_of_mem_take hw)) n hn)
    refine call1 (wnum_ct wb (J ++ sevs ((txs.take i).flatMap vnat)) (some ⟨g5, 0, none⟩) 4 (vnat (gd txs i)) [pt g5 (.cells #[.int .i64 (gd txs i).1, .int .i64 (gd txs i).2.1, .int .i64 (gd txs i).2.2.1, .int .i64 (gd txs i).2.2.2] 23)] (RdH.pt (enc := encN) (fun _ => rfl) (by simp [vnat, encN]; omega)) hvm (by rw [List.length_append]; show _ + 9 * 4 ≤ _; omega) (by simp [hjn])) zSp ?_
    rintro v M' ⟨rfl, rfl⟩
    repeat ((conv => whnf); (first | refine ztx ?_ | refine LNext.nilr ?_ | refine zne ?_ | refine zga ?_ | refine zxa ?_ | refine zca ?_ | refine zcb ?_ | refine zgb ?_ | refine zgc ?_ | refine zgd1 ?_ | refine zge ?_ | refine zgf ?_ | refine zgg ?_ | refine zgh ?_ | refine zgi ?_ | refine zgj ?_ | refine zgk ?_ | refine max2m ?_ | refine min2m ?_ | refine eqStr ?_ | refine neqStr ?_ | refine eqSlNil ?_ | refine neqSlNil ?_ | refine eqBool ?_ | refine neqBool ?_ | refine capSlice ?_ | refine zgl ?_ | refine zgm ?_ | refine zgn ?_ | refine zgo ?_ | refine zba ?_ | refine zbb ?_ | refine zbc ?_ | refine zbd ?_ | refine zbe ?_ | refine zbf ?_ | refine zia ?_ | refine zib ?_ | refine zic ?_ | refine zid1 ?_ | refine zie ?_ | refine zif1 ?_ | refine zig ?_ | refine zih ?_ | refine lint_u8_mod ?_ | refine lint_u32_mod ?_ | refine zii ?_ | refine zij ?_ | refine zua ?_ | refine zgs ?_ | refine zgu ?_ | refine eqMapNil ?_ | refine neqMapNil ?_ | refine LRes.mk ?_ | refine LIn.step ?_ | refine zdr ?_ | refine zna (fun _ => ?_) | refine znb (fun _ => ?_) | refine znc (fun _ => ?_) | refine newSlice0 (fun _ => ?_) | refine newMap (fun _ => ?_)))
    rw [← htk]
    exact ⟨i + 1, p1, by omega, zSu, zEn⟩
  · have hil : txs.take i = txs := List.take_of_length_le (by omega)
    rw [hil]
    refine LNext.go tab ?_
    repeat ((conv => whnf); (first | refine ztx ?_ | refine LNext.nilr ?_ | refine zne ?_ | refine zga ?_ | refine zxa ?_ | refine zca ?_ | refine zcb ?_ | refine zgb ?_ | refine zgc ?_ | refine zgd1 ?_ | refine zge ?_ | refine zgf ?_ | refine zgg ?_ | refine zgh ?_ | refine zgi ?_ | refine zgj ?_ | refine zgk ?_ | refine max2m ?_ | refine min2m ?_ | refine eqStr ?_ | refine neqStr ?_ | refine eqSlNil ?_ | refine neqSlNil ?_ | refine eqBool ?_ | refine neqBool ?_ | refine capSlice ?_ | refine zgl ?_ | refine zgm ?_ | refine zgn ?_ | refine zgo ?_ | refine zba ?_ | refine zbb ?_ | refine zbc ?_ | refine zbd ?_ | refine zbe ?_ | refine zbf ?_ | refine zia ?_ | refine zib ?_ | refine zic ?_ | refine zid1 ?_ | refine zie ?_ | refine zif1 ?_ | refine zig ?_ | refine zih ?_ | refine lint_u8_mod ?_ | refine lint_u32_mod ?_ | refine zii ?_ | refine zij ?_ | refine zua ?_ | refine zgs ?_ | refine zgu ?_ | refine eqMapNil ?_ | refine neqMapNil ?_ | refine LRes.mk ?_ | refine LIn.step ?_ | refine zdr ?_ | refine zna (fun _ => ?_) | refine znb (fun _ => ?_) | refine znc (fun _ => ?_) | refine newSlice0 (fun _ => ?_) | refine newMap (fun _ => ?_)))
    refine call1 (BBytes_ct wb (J ++ sevs (txs.flatMap vnat)) (by simp [hjn])) zSp ?_
    rintro v M' ⟨a', cap', rfl, rfl⟩
    repeat ((conv => whnf); (first | refine ztx ?_ | refine LNext.nilr ?_ | refine zne ?_ | refine zga ?_ | refine zxa ?_ | refine zca ?_ | refine zcb ?_ | refine zgb ?_ | refine zgc ?_ | refine zgd1 ?_ | refine zge ?_ | refine zgf ?_ | refine zgg ?_ | refine zgh ?_ | refine zgi ?_ | refine zgj ?_ | refine zgk ?_ | refine max2m ?_ | refine min2m ?_ | refine eqStr ?_ | refine neqStr ?_ | refine eqSlNil ?_ | refine neqSlNil ?_ | refine eqBool ?_ | refine neqBool ?_ | refine capSlice ?_ | refine zgl ?_ | refine zgm ?_ | refine zgn ?_ | refine zgo ?_ | refine zba ?_ | refine zbb ?_ | refine zbc ?_ | refine zbd ?_ | refine zbe ?_ | refine zbf ?_ | refine zia ?_ | refine zib ?_ | refine zic ?_ | refine zid1 ?_ | refine zie ?_ | refine zif1 ?_ | refine zig ?_ | refine zih ?_ | refine lint_u8_mod ?_ | refine lint_u32_mod ?_ | refine zii ?_ | refine zij ?_ | refine zua ?_ | refine zgs ?_ | refine zgu ?_ | refine eqMapNil ?_ | refine neqMapNil ?_ | refine LRes.mk ?_ | refine LIn.step ?_ | refine zdr ?_ | refine zna (fun _ => ?_) | refine znb (fun _ => ?_) | refine znc (fun _ => ?_) | refine newSlice0 (fun _ => ?_) | refine newMap (fun _ => ?_)))
    show Fin _ _ _; exact Fin.of (BR a' (J ++ sevs (txs.flatMap vnat)).length cap' (J ++ sevs (txs.flatMap vnat)) :: M) zEn ⟨a', cap', rfl, rfl⟩
end Go.Proofs.YtjmfnakplmmpnaaDoor

namespace Go.Proofs.YtjmfnakplmmpnaaDoor
open Go.Sl
set_option linter.unusedVariables false
set_option linter.unusedSimpArgs false
set_option maxRecDepth 100000
set_option maxHeartbeats 1000000
def mkV (p : PV) : Value :=
  if p.kind = 1 then .iface 70 (.agg #[.string p.tname, .int .i64 p.weight, .int .i64 p.quota.1, .int .i64 p.quota.2.1, .int .i64 p.quota.2.2.1, .int .i64 p.quota.2.2.2])
  else if p.kind = 2 then .iface 72 (.agg #[.string p.node, .int .i64 p.epoch, .int .i64 p.vec.1, .int .i64 p.vec.2.1, .int .i64 p.vec.2.2.1, .int .i64 p.vec.2.2.2])
  else if p.kind = 3 then .iface 63 (.agg #[.string p.node])
  else if p.kind = 4 then .iface 73 (.agg #[.string p.node])
  else if p.kind = 5 then .iface 67 (.agg (encJ p.job).toArray)
  else if p.kind = 6 then .iface 75 (.agg #[.int .i64 p.id])
  else if p.kind = 7 then .iface 77 (.agg #[.int .i64 p.id, .slice p.nodes.a p.nodes.xs.length p.nodes.cap])
  else if p.kind = 8 then .iface 78 (.agg #[.int .i64 p.id])
  else if p.kind = 9 then .iface 80 (.agg #[.int .i64 p.id, .string p.node])
  else if p.kind = 10 then .iface 82 (.agg #[.int .i64 p.id, .int .i64 p.state])
  else if p.kind = 11 then .iface 65 (.agg #[])
  else .nilIface
theorem MakeX_ct (M : List As) (p : PV) : Ctr Tryd.prog 12 #[.agg (encPl p).toArray] M (fun v M' => v = mkV p ∧ M' = M) := by
  refine ctr_of (Γ := tab) (vs := [_]) fn12 rfl ?_
  unfold mkV
  by_cases k1 : p.kind = 1
  · rw [if_pos k1]
    repeat ((conv => whnf); (first | refine ztx ?_ | refine LNext.nilr ?_ | refine zne ?_ | refine zga ?_ | refine zxa ?_ | refine zca ?_ | refine zcb ?_ | refine zgb ?_ | refine zgc ?_ | refine zgd1 ?_ | refine zge ?_ | refine zgf ?_ | refine zgg ?_ | refine zgh ?_ | refine zgi ?_ | refine zgj ?_ | refine zgk ?_ | refine max2m ?_ | refine min2m ?_ | refine eqStr ?_ | refine neqStr ?_ | refine eqSlNil ?_ | refine neqSlNil ?_ | refine eqBool ?_ | refine neqBool ?_ | refine capSlice ?_ | refine zgl ?_ | refine zgm ?_ | refine zgn ?_ | refine zgo ?_ | refine zba ?_ | refine zbb ?_ | refine zbc ?_ | refine zbd ?_ | refine zbe ?_ | refine zbf ?_ | refine zia ?_ | refine zib ?_ | refine zic ?_ | refine zid1 ?_ | refine zie ?_ | refine zif1 ?_ | refine zig ?_ | refine zih ?_ | refine lint_u8_mod ?_ | refine lint_u32_mod ?_ | refine zii ?_ | refine zij ?_ | refine zua ?_ | refine zgs ?_ | refine zgu ?_ | refine eqMapNil ?_ | refine neqMapNil ?_ | refine LRes.mk ?_ | refine LIn.step ?_ | refine zdr ?_ | refine zna (fun _ => ?_) | refine znb (fun _ => ?_) | refine znc (fun _ => ?_) | refine newSlice0 (fun _ => ?_) | refine newMap (fun _ => ?_)))
    refine mkIface ?_
    repeat ((conv => whnf); (first | refine ztx ?_ | refine LNext.nilr ?_ | refine zne ?_ | refine zga ?_ | refine zxa ?_ | refine zca ?_ | refine zcb ?_ | refine zgb ?_ | refine zgc ?_ | refine zgd1 ?_ | refine zge ?_ | refine zgf ?_ | refine zgg ?_ | refine zgh ?_ | refine zgi ?_ | refine zgj ?_ | refine zgk ?_ | refine max2m ?_ | refine min2m ?_ | refine eqStr ?_ | refine neqStr ?_ | refine eqSlNil ?_ | refine neqSlNil ?_ | refine eqBool ?_ | refine neqBool ?_ | refine capSlice ?_ | refine zgl ?_ | refine zgm ?_ | refine zgn ?_ | refine zgo ?_ | refine zba ?_ | refine zbb ?_ | refine zbc ?_ | refine zbd ?_ | refine zbe ?_ | refine zbf ?_ | refine zia ?_ | refine zib ?_ | refine zic ?_ | refine zid1 ?_ | refine zie ?_ | refine zif1 ?_ | refine zig ?_ | refine zih ?_ | refine lint_u8_mod ?_ | refine lint_u32_mod ?_ | refine zii ?_ | refine zij ?_ | refine zua ?_ | refine zgs ?_ | refine zgu ?_ | refine eqMapNil ?_ | refine neqMapNil ?_ | refine LRes.mk ?_ | refine LIn.step ?_ | refine zdr ?_ | refine zna (fun _ => ?_) | refine znb (fun _ => ?_) | refine znc (fun _ => ?_) | refine newSlice0 (fun _ => ?_) | refine newMap (fun _ => ?_)))
    show Fin _ _ _; exact Fin.of M zEn ⟨rfl, rfl⟩
  · by_cases k2 : p.kind = 2
    · rw [if_neg k1, if_pos k2]
      repeat ((conv => whnf); (first | refine ztx ?_ | refine LNext.nilr ?_ | refine zne ?_ | refine zga ?_ | refine zxa ?_ | refine zca ?_ | refine zcb ?_ | refine zgb ?_ | refine zgc ?_ | refine zgd1 ?_ | refine zge ?_ | refine zgf ?_ | refine zgg ?_ | refine zgh ?_ | refine zgi ?_ | refine zgj ?_ | refine zgk ?_ | refine max2m ?_ | refine min2m ?_ | refine eqStr ?_ | refine neqStr ?_ | refine eqSlNil ?_ | refine neqSlNil ?_ | refine eqBool ?_ | refine neqBool ?_ | refine capSlice ?_ | refine zgl ?_ | refine zgm ?_ | refine zgn ?_ | refine zgo ?_ | refine zba ?_ | refine zbb ?_ | refine zbc ?_ | refine zbd ?_ | refine zbe ?_ | refine zbf ?_ | refine zia ?_ | refine zib ?_ | refine zic ?_ | refine zid1 ?_ | refine zie ?_ | refine zif1 ?_ | refine zig ?_ | refine zih ?_ | refine lint_u8_mod ?_ | refine lint_u32_mod ?_ | refine zii ?_ | refine zij ?_ | refine zua ?_ | refine zgs ?_ | refine zgu ?_ | refine eqMapNil ?_ | refine neqMapNil ?_ | refine LRes.mk ?_ | refine LIn.step ?_ | refine zdr ?_ | refine zna (fun _ => ?_) | refine znb (fun _ => ?_) | refine znc (fun _ => ?_) | refine newSlice0 (fun _ => ?_) | refine newMap (fun _ => ?_)))
      refine mkIface ?_
      repeat ((conv => whnf); (first | refine ztx ?_ | refine LNext.nilr ?_ | refine zne ?_ | refine zga ?_ | refine zxa ?_ | refine zca ?_ | refine zcb ?_ | refine zgb ?_ | refine zgc ?_ | refine zgd1 ?_ | refine zge ?_ | refine zgf ?_ | refine zgg ?_ | refine zgh ?_ | refine zgi ?_ | refine zgj ?_ | refine zgk ?_ | refine max2m ?_ | refine min2m ?_ | refine eqStr ?_ | refine neqStr ?_ | refine eqSlNil ?_ | refine neqSlNil ?_ | refine eqBool ?_ | refine neqBool ?_ | refine capSlice ?_ | refine zgl ?_ | refine zgm ?_ | refine zgn ?_ | refine zgo ?_ | refine zba ?_ | refine zbb ?_ | refine zbc ?_ | refine zbd ?_ | refine zbe ?_ | refine zbf ?_ | refine zia ?_ | refine zib ?_ | refine zic ?_ | refine zid1 ?_ | refine zie ?_ | refine zif1 ?_ | refine zig ?_ | refine zih ?_ | refine lint_u8_mod ?_ | refine lint_u32_mod ?_ | refine zii ?_ | refine zij ?_ | refine zua ?_ | refine zgs ?_ | refine zgu ?_ | refine eqMapNil ?_ | refine neqMapNil ?_ | refine LRes.mk ?_ | refine LIn.step ?_ | refine zdr ?_ | refine zna (fun _ => ?_) | refine znb (fun _ => ?_) | refine znc (fun _ => ?_) | refine newSlice0 (fun _ => ?_) | refine newMap (fun _ => ?_)))
      show Fin _ _ _; exact Fin.of M zEn ⟨rfl, rfl⟩
    · by_cases k3 : p.kind = 3
      · rw [if_neg k1, if_neg k2, if_pos k3]
        repeat ((conv => whnf); (first | refine ztx ?_ | refine LNext.nilr ?_ | refine zne ?_ | refine zga ?_ | refine zxa ?_ | refine zca ?_ | refine zcb ?_ | refine zgb ?_ | refine zgc ?_ | refine zgd1 ?_ | refine zge ?_ | refine zgf ?_ | refine zgg ?_ | refine zgh ?_ | refine zgi ?_ | refine zgj ?_ | refine zgk ?_ | refine max2m ?_ | refine min2m ?_ | refine eqStr ?_ | refine neqStr ?_ | refine eqSlNil ?_ | refine neqSlNil ?_ | refine eqBool ?_ | refine neqBool ?_ | refine capSlice ?_ | refine zgl ?_ | refine zgm ?_ | refine zgn ?_ | refine zgo ?_ | refine zba ?_ | refine zbb ?_ | refine zbc ?_ | refine zbd ?_ | refine zbe ?_ | refine zbf ?_ | refine zia ?_ | refine zib ?_ | refine zic ?_ | refine zid1 ?_ | refine zie ?_ | refine zif1 ?_ | refine zig ?_ | refine zih ?_ | refine lint_u8_mod ?_ | refine lint_u32_mod ?_ | refine zii ?_ | refine zij ?_ | refine zua ?_ | refine zgs ?_ | refine zgu ?_ | refine eqMapNil ?_ | refine neqMapNil ?_ | refine LRes.mk ?_ | refine LIn.step ?_ | refine zdr ?_ | refine zna (fun _ => ?_) | refine znb (fun _ => ?_) | refine znc (fun _ => ?_) | refine newSlice0 (fun _ => ?_) | refine newMap (fun _ => ?_)))
        refine mkIface ?_
        repeat ((conv => whnf); (first | refine ztx ?_ | refine LNext.nilr ?_ | refine zne ?_ | refine zga ?_ | refine zxa ?_ | refine zca ?_ | refine zcb ?_ | refine zgb ?_ | refine zgc ?_ | refine zgd1 ?_ | refine zge ?_ | refine zgf ?_ | refine zgg ?_ | refine zgh ?_ | refine zgi ?_ | refine zgj ?_ | refine zgk ?_ | refine max2m ?_ | refine min2m ?_ | refine eqStr ?_ | refine neqStr ?_ | refine eqSlNil ?_ | refine neqSlNil ?_ | refine eqBool ?_ | refine neqBool ?_ | refine capSlice ?_ | refine zgl ?_ | refine zgm ?_ | refine zgn ?_ | refine zgo ?_ | refine zba ?_ | refine zbb ?_ | refine zbc ?_ | refine zbd ?_ | refine zbe ?_ | refine zbf ?_ | refine zia ?_ | refine zib ?_ | refine zic ?_ | refine zid1 ?_ | refine zie ?_ | refine zif1 ?_ | refine zig ?_ | refine zih ?_ | refine lint_u8_mod ?_ | refine lint_u32_mod ?_ | refine zii ?_ | refine zij ?_ | refine zua ?_ | refine zgs ?_ | refine zgu ?_ | refine eqMapNil ?_ | refine neqMapNil ?_ | refine LRes.mk ?_ | refine LIn.step ?_ | refine zdr ?_ | refine zna (fun _ => ?_) | refine znb (fun _ => ?_) | refine znc (fun _ => ?_) | refine newSlice0 (fun _ => ?_) | refine newMap (fun _ => ?_)))
        show Fin _ _ _; exact Fin.of M zEn ⟨rfl, rfl⟩
      · by_cases k4 : p.kind = 4
        · rw [if_neg k1, if_neg k2, if_neg k3, if_pos k4]
          repeat ((conv => whnf); (first | refine ztx ?_ | refine LNext.nilr ?_ | refine zne ?_ | refine zga ?_ | refine zxa ?_ | refine zca ?_ | refine zcb ?_ | refine zgb ?_ | refine zgc ?_ | refine zgd1 ?_ | refine zge ?_ | refine zgf ?_ | refine zgg ?_ | refine zgh ?_ | refine zgi ?_ | refine zgj ?_ | refine zgk ?_ | refine max2m ?_ | refine min2m ?_ | refine eqStr ?_ | refine neqStr ?_ | refine eqSlNil ?_ | refine neqSlNil ?_ | refine eqBool ?_ | refine neqBool ?_ | refine capSlice ?_ | refine zgl ?_ | refine zgm ?_ | refine zgn ?_ | refine zgo ?_ | refine zba ?_ | refine zbb ?_ | refine zbc ?_ | refine zbd ?_ | refine zbe ?_ | refine zbf ?_ | refine zia ?_ | refine zib ?_ | refine zic ?_ | refine zid1 ?_ | refine zie ?_ | refine zif1 ?_ | refine zig ?_ | refine zih ?_ | refine lint_u8_mod ?_ | refine lint_u32_mod ?_ | refine zii ?_ | refine zij ?_ | refine zua ?_ | refine zgs ?_ | refine zgu ?_ | refine eqMapNil ?_ | refine neqMapNil ?_ | refine LRes.mk ?_ | refine LIn.step ?_ | refine zdr ?_ | refine zna (fun _ => ?_) | refine znb (fun _ => ?_) | refine znc (fun _ => ?_) | refine newSlice0 (fun _ => ?_) | refine newMap (fun _ => ?_)))
          refine mkIface ?_
          repeat ((conv => whnf); (first | refine ztx ?_ | refine LNext.nilr ?_ | refine zne ?_ | refine zga ?_ | refine zxa ?_ | refine zca ?_ | refine zcb ?_ | refine zgb ?_ | refine zgc ?_ | refine zgd1 ?_ | refine zge ?_ | refine zgf ?_ | refine zgg ?_ | refine zgh ?_ | refine zgi ?_ | refine zgj ?_ | refine zgk ?_ | refine max2m ?_ | refine min2m ?_ | refine eqStr ?_ | refine neqStr ?_ | refine eqSlNil ?_ | refine neqSlNil ?_ | refine eqBool ?_ | refine neqBool ?_ | refine capSlice ?_ | refine zgl ?_ | refine zgm ?_ | refine zgn ?_ | refine zgo ?_ | refine zba ?_ | refine zbb ?_ | refine zbc ?_ | refine zbd ?_ | refine zbe ?_ | refine zbf ?_ | refine zia ?_ | refine zib ?_ | refine zic ?_ | refine zid1 ?_ | refine zie ?_ | refine zif1 ?_ | refine zig ?_ | refine zih ?_ | refine lint_u8_mod ?_ | refine lint_u32_mod ?_ | refine zii ?_ | refine zij ?_ | refine zua ?_ | refine zgs ?_ | refine zgu ?_ | refine eqMapNil ?_ | refine neqMapNil ?_ | refine LRes.mk ?_ | refine LIn.step ?_ | refine zdr ?_ | refine zna (fun _ => ?_) | refine znb (fun _ => ?_) | refine znc (fun _ => ?_) | refine newSlice0 (fun _ => ?_) | refine newMap (fun _ => ?_)))
          show Fin _ _ _; exact Fin.of M zEn ⟨rfl, rfl⟩
        · by_cases k5 : p.kind = 5
          · rw [if_neg k1, if_neg k2, if_neg k3, if_neg k4, if_pos k5]
            repeat ((conv => whnf); (first | refine ztx ?_ | refine LNext.nilr ?_ | refine zne ?_ | refine zga ?_ | refine zxa ?_ | refine zca ?_ | refine zcb ?_ | refine zgb ?_ | refine zgc ?_ | refine zgd1 ?_ | refine zge ?_ | refine zgf ?_ | refine zgg ?_ | refine zgh ?_ | refine zgi ?_ | refine zgj ?_ | refine zgk ?_ | refine max2m ?_ | refine min2m ?_ | refine eqStr ?_ | refine neqStr ?_ | refine eqSlNil ?_ | refine neqSlNil ?_ | refine eqBool ?_ | refine neqBool ?_ | refine capSlice ?_ | refine zgl ?_ | refine zgm ?_ | refine zgn ?_ | refine zgo ?_ | refine zba ?_ | refine zbb ?_ | refine zbc ?_ | refine zbd ?_ | refine zbe ?_ | refine zbf ?_ | refine zia ?_ | refine zib ?_ | refine zic ?_ | refine zid1 ?_ | refine zie ?_ | refine zif1 ?_ | refine zig ?_ | refine zih ?_ | refine lint_u8_mod ?_ | refine lint_u32_mod ?_ | refine zii ?_ | refine zij ?_ | refine zua ?_ | refine zgs ?_ | refine zgu ?_ | refine eqMapNil ?_ | refine neqMapNil ?_ | refine LRes.mk ?_ | refine LIn.step ?_ | refine zdr ?_ | refine zna (fun _ => ?_) | refine znb (fun _ => ?_) | refine znc (fun _ => ?_) | refine newSlice0 (fun _ => ?_) | refine newMap (fun _ => ?_)))
            refine mkIface ?_
            repeat ((conv => whnf); (first | refine ztx ?_ | refine LNext.nilr ?_ | refine zne ?_ | refine zga ?_ | refine zxa ?_ | refine zca ?_ | refine zcb ?_ | refine zgb ?_ | refine zgc ?_ | refine zgd1 ?_ | refine zge ?_ | refine zgf ?_ | refine zgg ?_ | refine zgh ?_ | refine zgi ?_ | refine zgj ?_ | refine zgk ?_ | refine max2m ?_ | refine min2m ?_ | refine eqStr ?_ | refine neqStr ?_ | refine eqSlNil ?_ | refine neqSlNil ?_ | refine eqBool ?_ | refine neqBool ?_ | refine capSlice ?_ | refine zgl ?_ | refine zgm ?_ | refine zgn ?_ | refine zgo ?_ | refine zba ?_ | refine zbb ?_ | refine zbc ?_ | refine zbd ?_ | refine zbe ?_ | refine zbf ?_ | refine zia ?_ | refine zib ?_ | refine zic ?_ | refine zid1 ?_ | refine zie ?_ | refine zif1 ?_ | refine zig ?_ | refine zih ?_ | refine lint_u8_mod ?_ | refine lint_u32_mod ?_ | refine zii ?_ | refine zij ?_ | refine zua ?_ | refine zgs ?_ | refine zgu ?_ | refine eqMapNil ?_ | refine neqMapNil ?_ | refine LRes.mk ?_ | refine LIn.step ?_ | refine zdr ?_ | refine zna (fun _ => ?_) | refine znb (fun _ => ?_) | refine znc (fun _ => ?_) | refine newSlice0 (fun _ => ?_) | refine newMap (fun _ => ?_)))
            show Fin _ _ _; exact Fin.of M zEn ⟨rfl, rfl⟩
          · by_cases k6 : p.kind = 6
            · rw [if_neg k1, if_neg k2, if_neg k3, if_neg k4, if_neg k5, if_pos k6]
              repeat ((conv => whnf); (first | refine ztx ?_ | refine LNext.nilr ?_ | refine zne ?_ | refine zga ?_ | refine zxa ?_ | refine zca ?_ | refine zcb ?_ | refine zgb ?_ | refine zgc ?_ | refine zgd1 ?_ | refine zge ?_ | refine zgf ?_ | refine zgg ?_ | refine zgh ?_ | refine zgi ?_ | refine zgj ?_ | refine zgk ?_ | refine max2m ?_ | refine min2m ?_ | refine eqStr ?_ | refine neqStr ?_ | refine eqSlNil ?_ | refine neqSlNil ?_ | refine eqBool ?_ | refine neqBool ?_ | refine capSlice ?_ | refine zgl ?_ | refine zgm ?_ | refine zgn ?_ | refine zgo ?_ | refine zba ?_ | refine zbb ?_ | refine zbc ?_ | refine zbd ?_ | refine zbe ?_ | refine zbf ?_ | refine zia ?_ | refine zib ?_ | refine zic ?_ | refine zid1 ?_ | refine zie ?_ | refine zif1 ?_ | refine zig ?_ | refine zih ?_ | refine lint_u8_mod ?_ | refine lint_u32_mod ?_ | refine zii ?_ | refine zij ?_ | refine zua ?_ | refine zgs ?_ | refine zgu ?_ | refine eqMapNil ?_ | refine neqMapNil ?_ | refine LRes.mk ?_ | refine LIn.step ?_ | refine zdr ?_ | refine zna (fun _ => ?_) | refine znb (fun _ => ?_) | refine znc (fun _ => ?_) | refine newSlice0 (fun _ => ?_) | refine newMap (fun _ => ?_)))
              refine mkIface ?_
              repeat ((conv => whnf); (first | refine ztx ?_ | refine LNext.nilr ?_ | refine zne ?_ | refine zga ?_ | refine zxa ?_ | refine zca ?_ | refine zcb ?_ | refine zgb ?_ | refine zgc ?_ | refine zgd1 ?_ | refine zge ?_ | refine zgf ?_ | refine zgg ?_ | refine zgh ?_ | refine zgi ?_ | refine zgj ?_ | refine zgk ?_ | refine max2m ?_ | refine min2m ?_ | refine eqStr ?_ | refine neqStr ?_ | refine eqSlNil ?_ | refine neqSlNil ?_ | refine eqBool ?_ | refine neqBool ?_ | refine capSlice ?_ | refine zgl ?_ | refine zgm ?_ | refine zgn ?_ | refine zgo ?_ | refine zba ?_ | refine zbb ?_ | refine zbc ?_ | refine zbd ?_ | refine zbe ?_ | refine zbf ?_ | refine zia ?_ | refine zib ?_ | refine zic ?_ | refine zid1 ?_ | refine zie ?_ | refine zif1 ?_ | refine zig ?_ | refine zih ?_ | refine lint_u8_mod ?_ | refine lint_u32_mod ?_ | refine zii ?_ | refine zij ?_ | refine zua ?_ | refine zgs ?_ | refine zgu ?_ | refine eqMapNil ?_ | refine neqMapNil ?_ | refine LRes.mk ?_ | refine LIn.step ?_ | refine zdr ?_ | refine zna (fun _ => ?_) | refine znb (fun _ => ?_) | refine znc (fun _ => ?_) | refine newSlice0 (fun _ => ?_) | refine newMap (fun _ => ?_)))
              show Fin _ _ _; exact Fin.of M zEn ⟨rfl, rfl⟩
            · by_cases k7 : p.kind = 7
              · rw [if_neg k1, if_neg k2, if_neg k3, if_neg k4, if_neg k5, if_neg k6, if_pos k7]
                repeat ((conv => whnf); (first | refine ztx ?_ | refine LNext.nilr ?_ | refine zne ?_ | refine zga ?_ | refine zxa ?_ | refine zca ?_ | refine zcb ?_ | refine zgb ?_ | refine zgc ?_ | refine zgd1 ?_ | refine zge ?_ | refine zgf ?_ | refine zgg ?_ | refine zgh ?_ | refine zgi ?_ | refine zgj ?_ | refine zgk ?_ | refine max2m ?_ | refine min2m ?_ | refine eqStr ?_ | refine neqStr ?_ | refine eqSlNil ?_ | refine neqSlNil ?_ | refine eqBool ?_ | refine neqBool ?_ | refine capSlice ?_ | refine zgl ?_ | refine zgm ?_ | refine zgn ?_ | refine zgo ?_ | refine zba ?_ | refine zbb ?_ | refine zbc ?_ | refine zbd ?_ | refine zbe ?_ | refine zbf ?_ | refine zia ?_ | refine zib ?_ | refine zic ?_ | refine zid1 ?_ | refine zie ?_ | refine zif1 ?_ | refine zig ?_ | refine zih ?_ | refine lint_u8_mod ?_ | refine lint_u32_mod ?_ | refine zii ?_ | refine zij ?_ | refine zua ?_ | refine zgs ?_ | refine zgu ?_ | refine eqMapNil ?_ | refine neqMapNil ?_ | refine LRes.mk ?_ | refine LIn.step ?_ | refine zdr ?_ | refine zna (fun _ => ?_) | refine znb (fun _ => ?_) | refine znc (fun _ => ?_) | refine newSlice0 (fun _ => ?_) | refine newMap (fun _ => ?_)))
                refine mkIface ?_
                repeat ((conv => whnf); (first | refine ztx ?_ | refine LNext.nilr ?_ | refine zne ?_ | refine zga ?_ | refine zxa ?_ | refine zca ?_ | refine zcb ?_ | refine zgb ?_ | refine zgc ?_ | refine zgd1 ?_ | refine zge ?_ | refine zgf ?_ | refine zgg ?_ | refine zgh ?_ | refine zgi ?_ | refine zgj ?_ | refine zgk ?_ | refine max2m ?_ | refine min2m ?_ | refine eqStr ?_ | refine neqStr ?_ | refine eqSlNil ?_ | refine neqSlNil ?_ | refine eqBool ?_ | refine neqBool ?_ | refine capSlice ?_ | refine zgl ?_ | refine zgm ?_ | refine zgn ?_ | refine zgo ?_ | refine zba ?_ | refine zbb ?_ | refine zbc ?_ | refine zbd ?_ | refine zbe ?_ | refine zbf ?_ | refine zia ?_ | refine zib ?_ | refine zic ?_ | refine zid1 ?_ | refine zie ?_ | refine zif1 ?_ | refine zig ?_ | refine zih ?_ | refine lint_u8_mod ?_ | refine lint_u32_mod ?_ | refine zii ?_ | refine zij ?_ | refine zua ?_ | refine zgs ?_ | refine zgu ?_ | refine eqMapNil ?_ | refine neqMapNil ?_ | refine LRes.mk ?_ | refine LIn.step ?_ | refine zdr ?_ | refine zna (fun _ => ?_) | refine znb (fun _ => ?_) | refine znc (fun _ => ?_) | refine newSlice0 (fun _ => ?_) | refine newMap (fun _ => ?_)))
                show Fin _ _ _; exact Fin.of M zEn ⟨rfl, rfl⟩
              · by_cases k8 : p.kind = 8
                · rw [if_neg k1, if_neg k2, if_neg k3, if_neg k4, if_neg k5, if_neg k6, if_neg k7, if_pos k8]
                  repeat ((conv => whnf); (first | refine ztx ?_ | refine LNext.nilr ?_ | refine zne ?_ | refine zga ?_ | refine zxa ?_ | refine zca ?_ | refine zcb ?_ | refine zgb ?_ | refine zgc ?_ | refine zgd1 ?_ | refine zge ?_ | refine zgf ?_ | refine zgg ?_ | refine zgh ?_ | refine zgi ?_ | refine zgj ?_ | refine zgk ?_ | refine max2m ?_ | refine min2m ?_ | refine eqStr ?_ | refine neqStr ?_ | refine eqSlNil ?_ | refine neqSlNil ?_ | refine eqBool ?_ | refine neqBool ?_ | refine capSlice ?_ | refine zgl ?_ | refine zgm ?_ | refine zgn ?_ | refine zgo ?_ | refine zba ?_ | refine zbb ?_ | refine zbc ?_ | refine zbd ?_ | refine zbe ?_ | refine zbf ?_ | refine zia ?_ | refine zib ?_ | refine zic ?_ | refine zid1 ?_ | refine zie ?_ | refine zif1 ?_ | refine zig ?_ | refine zih ?_ | refine lint_u8_mod ?_ | refine lint_u32_mod ?_ | refine zii ?_ | refine zij ?_ | refine zua ?_ | refine zgs ?_ | refine zgu ?_ | refine eqMapNil ?_ | refine neqMapNil ?_ | refine LRes.mk ?_ | refine LIn.step ?_ | refine zdr ?_ | refine zna (fun _ => ?_) | refine znb (fun _ => ?_) | refine znc (fun _ => ?_) | refine newSlice0 (fun _ => ?_) | refine newMap (fun _ => ?_)))
                  refine mkIface ?_
                  repeat ((conv => whnf); (first | refine ztx ?_ | refine LNext.nilr ?_ | refine zne ?_ | refine zga ?_ | refine zxa ?_ | refine zca ?_ | refine zcb ?_ | refine zgb ?_ | refine zgc ?_ | refine zgd1 ?_ | refine zge ?_ | refine zgf ?_ | refine zgg ?_ | refine zgh ?_ | refine zgi ?_ | refine zgj ?_ | refine zgk ?_ | refine max2m ?_ | refine min2m ?_ | refine eqStr ?_ | refine neqStr ?_ | refine eqSlNil ?_ | refine neqSlNil ?_ | refine eqBool ?_ | refine neqBool ?_ | refine capSlice ?_ | refine zgl ?_ | refine zgm ?_ | refine zgn ?_ | refine zgo ?_ | refine zba ?_ | refine zbb ?_ | refine zbc ?_ | refine zbd ?_ | refine zbe ?_ | refine zbf ?_ | refine zia ?_ | refine zib ?_ | refine zic ?_ | refine zid1 ?_ | refine zie ?_ | refine zif1 ?_ | refine zig ?_ | refine zih ?_ | refine lint_u8_mod ?_ | refine lint_u32_mod ?_ | refine zii ?_ | refine zij ?_ | refine zua ?_ | refine zgs ?_ | refine zgu ?_ | refine eqMapNil ?_ | refine neqMapNil ?_ | refine LRes.mk ?_ | refine LIn.step ?_ | refine zdr ?_ | refine zna (fun _ => ?_) | refine znb (fun _ => ?_) | refine znc (fun _ => ?_) | refine newSlice0 (fun _ => ?_) | refine newMap (fun _ => ?_)))
                  show Fin _ _ _; exact Fin.of M zEn ⟨rfl, rfl⟩
                · by_cases k9 : p.kind = 9
                  · rw [if_neg k1, if_neg k2, if_neg k3, if_neg k4, if_neg k5, if_neg k6, if_neg k7, if_neg k8, if_pos k9]
                    repeat ((conv => whnf); (first | refine ztx ?_ | refine LNext.nilr ?_ | refine zne ?_ | refine zga ?_ | refine zxa ?_ | refine zca ?_ | refine zcb ?_ | refine zgb ?_ | refine zgc ?_ | refine zgd1 ?_ | refine zge ?_ | refine zgf ?_ | refine zgg ?_ | refine zgh ?_ | refine zgi ?_ | refine zgj ?_ | refine zgk ?_ | refine max2m ?_ | refine min2m ?_ | refine eqStr ?_ | refine neqStr ?_ | refine eqSlNil ?_ | refine neqSlNil ?_ | refine eqBool ?_ | refine neqBool ?_ | refine capSlice ?_ | refine zgl ?_ | refine zgm ?_ | refine zgn ?_ | refine zgo ?_ | refine zba ?_ | refine zbb ?_ | refine zbc ?_ | refine zbd ?_ | refine zbe ?_ | refine zbf ?_ | refine zia ?_ | refine zib ?_ | refine zic ?_ | refine zid1 ?_ | refine zie ?_ | refine zif1 ?_ | refine zig ?_ | refine zih ?_ | refine lint_u8_mod ?_ | refine lint_u32_mod ?_ | refine zii ?_ | refine zij ?_ | refine zua ?_ | refine zgs ?_ | refine zgu ?_ | refine eqMapNil ?_ | refine neqMapNil ?_ | refine LRes.mk ?_ | refine LIn.step ?_ | refine zdr ?_ | refine zna (fun _ => ?_) | refine znb (fun _ => ?_) | refine znc (fun _ => ?_) | refine newSlice0 (fun _ => ?_) | refine newMap (fun _ => ?_)))
                    refine mkIface ?_
                    repeat ((conv => whnf); (first | refine ztx ?_ | refine LNext.nilr ?_ | refine zne ?_ | refine zga ?_ | refine zxa ?_ | refine zca ?_ | refine zcb ?_ | refine zgb ?_ | refine zgc ?_ | refine zgd1 ?_ | refine zge ?_ | refine zgf ?_ | refine zgg ?_ | refine zgh ?_ | refine zgi ?_ | refine zgj ?_ | refine zgk ?_ | refine max2m ?_ | refine min2m ?_ | refine eqStr ?_ | refine neqStr ?_ | refine eqSlNil ?_ | refine neqSlNil ?_ | refine eqBool ?_ | refine neqBool ?_ | refine capSlice ?_ | refine zgl ?_ | refine zgm ?_ | refine zgn ?_ | refine zgo ?_ | refine zba ?_ | refine zbb ?_ | refine zbc ?_ | refine zbd ?_ | refine zbe ?_ | refine zbf ?_ | refine zia ?_ | refine zib ?_ | refine zic ?_ | refine zid1 ?_ | refine zie ?_ | refine zif1 ?_ | refine zig ?_ | refine zih ?_ | refine lint_u8_mod ?_ | refine lint_u32_mod ?_ | refine zii ?_ | refine zij ?_ | refine zua ?_ | refine zgs ?_ | refine zgu ?_ | refine eqMapNil ?_ | refine neqMapNil ?_ | refine LRes.mk ?_ | refine LIn.step ?_ | refine zdr ?_ | refine zna (fun _ => ?_) | refine znb (fun _ => ?_) | refine znc (fun _ => ?_) | refine newSlice0 (fun _ => ?_) | refine newMap (fun _ => ?_)))
                    show Fin _ _ _; exact Fin.of M zEn ⟨rfl, rfl⟩
                  · by_cases k10 : p.kind = 10
                    · rw [if_neg k1, if_neg k2, if_neg k3, if_neg k4, if_neg k5, if_neg k6, if_neg k7, if_neg k8, if_neg k9, if_pos k10]
                      repeat ((conv => whnf); (first | refine ztx ?_ | refine LNext.nilr ?_ | refine zne ?_ | refine zga ?_ | refine zxa ?_ | refine zca ?_ | refine zcb ?_ | refine zgb ?_ | refine zgc ?_ | refine zgd1 ?_ | refine zge ?_ | refine zgf ?_ | refine zgg ?_ | refine zgh ?_ | refine zgi ?_ | refine zgj ?_ | refine zgk ?_ | refine max2m ?_ | refine min2m ?_ | refine eqStr ?_ | refine neqStr ?_ | refine eqSlNil ?_ | refine neqSlNil ?_ | refine eqBool ?_ | refine neqBool ?_ | refine capSlice ?_ | refine zgl ?_ | refine zgm ?_ | refine zgn ?_ | refine zgo ?_ | refine zba ?_ | refine zbb ?_ | refine zbc ?_ | refine zbd ?_ | refine zbe ?_ | refine zbf ?_ | refine zia ?_ | refine zib ?_ | refine zic ?_ | refine zid1 ?_ | refine zie ?_ | refine zif1 ?_ | refine zig ?_ | refine zih ?_ | refine lint_u8_mod ?_ | refine lint_u32_mod ?_ | refine zii ?_ | refine zij ?_ | refine zua ?_ | refine zgs ?_ | refine zgu ?_ | refine eqMapNil ?_ | refine neqMapNil ?_ | refine LRes.mk ?_ | refine LIn.step ?_ | refine zdr ?_ | refine zna (fun _ => ?_) | refine znb (fun _ => ?_) | refine znc (fun _ => ?_) | refine newSlice0 (fun _ => ?_) | refine newMap (fun _ => ?_)))
                      refine mkIface ?_
                      repeat ((conv => whnf); (first | refine ztx ?_ | refine LNext.nilr ?_ | refine zne ?_ | refine zga ?_ | refine zxa ?_ | refine zca ?_ | refine zcb ?_ | refine zgb ?_ | refine zgc ?_ | refine zgd1 ?_ | refine zge ?_ | refine zgf ?_ | refine zgg ?_ | refine zgh ?_ | refine zgi ?_ | refine zgj ?_ | refine zgk ?_ | refine max2m ?_ | refine min2m ?_ | refine eqStr ?_ | refine neqStr ?_ | refine eqSlNil ?_ | refine neqSlNil ?_ | refine eqBool ?_ | refine neqBool ?_ | refine capSlice ?_ | refine zgl ?_ | refine zgm ?_ | refine zgn ?_ | refine zgo ?_ | refine zba ?_ | refine zbb ?_ | refine zbc ?_ | refine zbd ?_ | refine zbe ?_ | refine zbf ?_ | refine zia ?_ | refine zib ?_ | refine zic ?_ | refine zid1 ?_ | refine zie ?_ | refine zif1 ?_ | refine zig ?_ | refine zih ?_ | refine lint_u8_mod ?_ | refine lint_u32_mod ?_ | refine zii ?_ | refine zij ?_ | refine zua ?_ | refine zgs ?_ | refine zgu ?_ | refine eqMapNil ?_ | refine neqMapNil ?_ | refine LRes.mk ?_ | refine LIn.step ?_ | refine zdr ?_ | refine zna (fun _ => ?_) | refine znb (fun _ => ?_) | refine znc (fun _ => ?_) | refine newSlice0 (fun _ => ?_) | refine newMap (fun _ => ?_)))
                      show Fin _ _ _; exact Fin.of M zEn ⟨rfl, rfl⟩
                    · by_cases k11 : p.kind = 11
                      · rw [if_neg k1, if_neg k2, if_neg k3, if_neg k4, if_neg k5, if_neg k6, if_neg k7, if_neg k8, if_neg k9, if_neg k10, if_pos k11]
                        repeat ((conv => whnf); (first | refine ztx ?_ | refine LNext.nilr ?_ | refine zne ?_ | refine zga ?_ | refine zxa ?_ | refine zca ?_ | refine zcb ?_ | refine zgb ?_ | refine zgc ?_ | refine zgd1 ?_ | refine zge ?_ | refine zgf ?_ | refine zgg ?_ | refine zgh ?_ | refine zgi ?_ | refine zgj ?_ | refine zgk ?_ | refine max2m ?_ | refine min2m ?_ | refine eqStr ?_ | refine neqStr ?_ | refine eqSlNil ?_ | refine neqSlNil ?_ | refine eqBool ?_ | refine neqBool ?_ | refine capSlice ?_ | refine zgl ?_ | refine zgm ?_ | refine zgn ?_ | refine zgo ?_ | refine zba ?_ | refine zbb ?_ | refine zbc ?_ | refine zbd ?_ | refine zbe ?_ | refine zbf ?_ | refine zia ?_ | refine zib ?_ | refine zic ?_ | refine zid1 ?_ | refine zie ?_ | refine zif1 ?_ | refine zig ?_ | refine zih ?_ | refine lint_u8_mod ?_ | refine lint_u32_mod ?_ | refine zii ?_ | refine zij ?_ | refine zua ?_ | refine zgs ?_ | refine zgu ?_ | refine eqMapNil ?_ | refine neqMapNil ?_ | refine LRes.mk ?_ | refine LIn.step ?_ | refine zdr ?_ | refine zna (fun _ => ?_) | refine znb (fun _ => ?_) | refine znc (fun _ => ?_) | refine newSlice0 (fun _ => ?_) | refine newMap (fun _ => ?_)))
                        refine mkIface ?_
                        repeat ((conv => whnf); (first | refine ztx ?_ | refine LNext.nilr ?_ | refine zne ?_ | refine zga ?_ | refine zxa ?_ | refine zca ?_ | refine zcb ?_ | refine zgb ?_ | refine zgc ?_ | refine zgd1 ?_ | refine zge ?_ | refine zgf ?_ | refine zgg ?_ | refine zgh ?_ | refine zgi ?_ | refine zgj ?_ | refine zgk ?_ | refine max2m ?_ | refine min2m ?_ | refine eqStr ?_ | refine neqStr ?_ | refine eqSlNil ?_ | refine neqSlNil ?_ | refine eqBool ?_ | refine neqBool ?_ | refine capSlice ?_ | refine zgl ?_ | refine zgm ?_ | refine zgn ?_ | refine zgo ?_ | refine zba ?_ | refine zbb ?_ | refine zbc ?_ | refine zbd ?_ | refine zbe ?_ | refine zbf ?_ | refine zia ?_ | refine zib ?_ | refine zic ?_ | refine zid1 ?_ | refine zie ?_ | refine zif1 ?_ | refine zig ?_ | refine zih ?_ | refine lint_u8_mod ?_ | refine lint_u32_mod ?_ | refine zii ?_ | refine zij ?_ | refine zua ?_ | refine zgs ?_ | refine zgu ?_ | refine eqMapNil ?_ | refine neqMapNil ?_ | refine LRes.mk ?_ | refine LIn.step ?_ | refine zdr ?_ | refine zna (fun _ => ?_) | refine znb (fun _ => ?_) | refine znc (fun _ => ?_) | refine newSlice0 (fun _ => ?_) | refine newMap (fun _ => ?_)))
                        show Fin _ _ _; exact Fin.of M zEn ⟨rfl, rfl⟩
                      · rw [if_neg k1, if_neg k2, if_neg k3, if_neg k4, if_neg k5, if_neg k6, if_neg k7, if_neg k8, if_neg k9, if_neg k10, if_neg k11]
                        repeat ((conv => whnf); (first | refine ztx ?_ | refine LNext.nilr ?_ | refine zne ?_ | refine zga ?_ | refine zxa ?_ | refine zca ?_ | refine zcb ?_ | refine zgb ?_ | refine zgc ?_ | refine zgd1 ?_ | refine zge ?_ | refine zgf ?_ | refine zgg ?_ | refine zgh ?_ | refine zgi ?_ | refine zgj ?_ | refine zgk ?_ | refine max2m ?_ | refine min2m ?_ | refine eqStr ?_ | refine neqStr ?_ | refine eqSlNil ?_ | refine neqSlNil ?_ | refine eqBool ?_ | refine neqBool ?_ | refine capSlice ?_ | refine zgl ?_ | refine zgm ?_ | refine zgn ?_ | refine zgo ?_ | refine zba ?_ | refine zbb ?_ | refine zbc ?_ | refine zbd ?_ | refine zbe ?_ | refine zbf ?_ | refine zia ?_ | refine zib ?_ | refine zic ?_ | refine zid1 ?_ | refine zie ?_ | refine zif1 ?_ | refine zig ?_ | refine zih ?_ | refine lint_u8_mod ?_ | refine lint_u32_mod ?_ | refine zii ?_ | refine zij ?_ | refine zua ?_ | refine zgs ?_ | refine zgu ?_ | refine eqMapNil ?_ | refine neqMapNil ?_ | refine LRes.mk ?_ | refine LIn.step ?_ | refine zdr ?_ | refine zna (fun _ => ?_) | refine znb (fun _ => ?_) | refine znc (fun _ => ?_) | refine newSlice0 (fun _ => ?_) | refine newMap (fun _ => ?_)))
                        show Fin _ _ _; exact Fin.of M zEn ⟨rfl, rfl⟩
end Go.Proofs.YtjmfnakplmmpnaaDoor

namespace Go.Proofs.YtjmfnakplmmpnaaDoor
open Go.Sl
set_option linter.unusedVariables false
set_option linter.unusedSimpArgs false
set_option maxRecDepth 100000
set_option maxHeartbeats 1000000
inductive Rec where
  | joined (s : ByteArray) (w : Int) (q : V4)
  | up (s : ByteArray) (e : Int) (v : V4)
  | beat (s : ByteArray)
  | down (s : ByteArray)
  | sub (j : JV)
  | rel (n : Int)
  | placed (n : Int) (l : SlV ByteArray)
  | evi (n : Int)
  | part (n : Int) (s : ByteArray)
  | ended (n st : Int)
  | tick
  | none
def recV : Rec → Value
  | .joined s w q => .iface 70 (.agg #[.string s, .int .i64 w, .int .i64 q.1, .int .i64 q.2.1, .int .i64 q.2.2.1, .int .i64 q.2.2.2])
  | .up s e v => .iface 72 (.agg #[.string s, .int .i64 e, .int .i64 v.1, .int .i64 v.2.1, .int .i64 v.2.2.1, .int .i64 v.2.2.2])
  | .beat s => .iface 63 (.agg #[.string s])
  | .down s => .iface 73 (.agg #[.string s])
  | .sub j => .iface 67 (.agg (encJ j).toArray)
  | .rel n => .iface 75 (.agg #[.int .i64 n])
  | .placed n l => .iface 77 (.agg #[.int .i64 n, .slice l.a l.xs.length l.cap])
  | .evi n => .iface 78 (.agg #[.int .i64 n])
  | .part n s => .iface 80 (.agg #[.int .i64 n, .string s])
  | .ended n st => .iface 82 (.agg #[.int .i64 n, .int .i64 st])
  | .tick => .iface 65 (.agg #[])
  | .none => .nilIface
def recOf (p : PV) : Rec :=
  if p.kind = 1 then .joined p.tname p.weight p.quota
  else if p.kind = 2 then .up p.node p.epoch p.vec
  else if p.kind = 3 then .beat p.node
  else if p.kind = 4 then .down p.node
  else if p.kind = 5 then .sub p.job
  else if p.kind = 6 then .rel p.id
  else if p.kind = 7 then .placed p.id p.nodes
  else if p.kind = 8 then .evi p.id
  else if p.kind = 9 then .part p.id p.node
  else if p.kind = 10 then .ended p.id p.state
  else if p.kind = 11 then .tick
  else .none
theorem recV_of (p : PV) : mkV p = recV (recOf p) := by
  unfold mkV recOf
  simp only [apply_ite recV]
  rfl
abbrev zP : PV := ⟨0, ⟨#[]⟩, 0, (0, 0, 0, 0), ⟨#[]⟩, 0, (0, 0, 0, 0), zJ, 0, ⟨none, 0, []⟩, 0⟩
def recP : Rec → PV
  | .joined s w q => { zP with kind := 1, tname := s, weight := w, quota := q }
  | .up s e v => { zP with kind := 2, node := s, epoch := e, vec := v }
  | .beat s => { zP with kind := 3, node := s }
  | .down s => { zP with kind := 4, node := s }
  | .sub j => { zP with kind := 5, job := j }
  | .rel n => { zP with kind := 6, id := n }
  | .placed n l => { zP with kind := 7, id := n, nodes := l }
  | .evi n => { zP with kind := 8, id := n }
  | .part n s => { zP with kind := 9, id := n, node := s }
  | .ended n st => { zP with kind := 10, id := n, state := st }
  | .tick => { zP with kind := 11 }
  | .none => zP
def recF : Rec → Bool
  | .joined s w q => nameR s && decide (1 ≤ w) && decide (w ≤ 1000) && vecR q
  | .up s e v => nameR s && decide (1 ≤ e) && decide (e < 2147483648) && vecR v
  | .beat s => nameR s
  | .down s => nameR s
  | .sub j => jobR j
  | .rel n => idR n
  | .placed n l => idR n && decide (1 ≤ l.xs.length) && decide (l.xs.length ≤ 6) && l.xs.all nameR
  | .evi n => idR n
  | .part n s => idR n && nameR s
  | .ended n st => idR n && decide (4 ≤ st) && decide (st ≤ 6)
  | .tick => true
  | .none => false
def recB : Rec → Bs
  | .joined s w q => 1 :: (txtB s ++ (seven w.toNat ++ sevs (vnat q)))
  | .up s e v => 2 :: (txtB s ++ (seven e.toNat ++ sevs (vnat v)))
  | .beat s => 3 :: txtB s
  | .down s => 4 :: txtB s
  | .sub j => jobB j.id.toNat j.tenant j.prio.toNat j.run.toNat j.par.xs j.tasks.xs ++ sevs (j.tasks.xs.flatMap vnat)
  | .rel n => 6 :: seven n.toNat
  | .placed n l => 7 :: (seven n.toNat ++ (seven l.xs.length ++ txts l.xs))
  | .evi n => 8 :: seven n.toNat
  | .part n s => 9 :: (seven n.toNat ++ txtB s)
  | .ended n st => 10 :: (seven n.toNat ++ seven st.toNat)
  | .tick => [11]
  | .none => []
def RdR (M : List As) : Rec → Prop
  | .joined s _ _ => s.size ≤ 140737488355328
  | .up s _ _ => s.size ≤ 140737488355328
  | .beat s => s.size ≤ 140737488355328
  | .down s => s.size ≤ 140737488355328
  | .sub j => RdJ M j ∧ j.tenant.size ≤ 140737488355328
  | .placed _ l => RdH M l.a 1 encW l.xs ∧ l.xs.length ≤ 9223372036854775807 ∧ ∀ s ∈ l.xs, s.size ≤ 140737488355328
  | .part _ s => s.size ≤ 140737488355328
  | _ => True
theorem RdR.there {M : List As} {y : As} : ∀ {r : Rec}, RdR M r → RdR (y :: M) r
  | .joined .., h => h
  | .up .., h => h
  | .beat .., h => h
  | .down .., h => h
  | .sub .., h => ⟨h.1.there, h.2⟩
  | .rel .., h => h
  | .placed .., h => ⟨h.1.there, h.2⟩
  | .evi .., h => h
  | .part .., h => h
  | .ended .., h => h
  | .tick, h => h
  | .none, h => h
theorem Formed_ct (M : List As) (r : Rec) (h : RdR M r) : Ctr Tryd.prog 22 #[recV r] M (fun v M' => v = .bool (recF r) ∧ M' = M) := by
  cases r with
  | joined s w q => exact FormedJoined_ct M s w q (by have h : s.size ≤ _ := h; omega)
  | up s e v => exact FormedUp_ct M s e v (by have h : s.size ≤ _ := h; omega)
  | beat s => exact FormedBeat_ct M s (by have h : s.size ≤ _ := h; omega)
  | down s => exact FormedDown_ct M s (by have h : s.size ≤ _ := h; omega)
  | sub j => exact FormedSubmitted_ct M j h.1 (by have h := h.2; omega)
  | rel n => exact FormedReleased_ct M n
  | placed n l => exact FormedPlaced_ct M n l.a l.cap l.xs h.1 h.2.1 (fun s hs => by have h := h.2.2 s hs; omega)
  | evi n => exact FormedEvicted_ct M n
  | part n s => exact FormedPart_ct M n s (by have h : s.size ≤ _ := h; omega)
  | ended n st => exact FormedEnded_ct M n st
  | tick => exact FormedTicked_ct M
  | none => exact FormedNil_ct M
theorem Ctr.frm {P : Program} {f : FuncId} {args : Array Value} {L : List As} {R : Value → List As → Prop} (h : Ctr P f args L R) (X : List As) : Ctr P f args (L ++ X) (fun v M' => ∃ N, R v N ∧ M' = N ++ X) :=
  ⟨h.1, fun F w s => (h.2 (X ++ F) w (s.ent Ent.assoc)).mono fun e w' ⟨v, N, he, hr, hs, hn⟩ => ⟨v, N ++ X, he, ⟨N, hr, rfl⟩, hs.ent Ent.assoc', hn⟩⟩
def encR (r : Rec) : Bs × Int := if recF r = true then (recB r, 0) else ([], 4)
def EncAns (M : List As) (r : Rec) (v : Value) (M' : List As) : Prop := ∃ a cap, v = .tuple #[.slice a (encR r).1.length cap, .int .i64 (encR r).2] ∧ M' = BR a (encR r).1.length cap (encR r).1 :: M
theorem enc_yes {M : List As} {r : Rec} {f : FuncId} {args : Array Value} (hf : recF r = true) {b : Bs} (e : b = recB r) (h : Ctr Tryd.prog f args M (fun v M' => ∃ a cap, v = .tuple #[.slice a b.length cap, .int .i64 0] ∧ M' = BR a b.length cap b :: M)) : Ctr Tryd.prog f args M (EncAns M r) := by
  subst e
  have he : encR r = (recB r, 0) := if_pos hf
  refine h.weaken (Ent.refl M) ?_
  rintro v M' ⟨a, cap, rfl, rfl⟩
  unfold EncAns
  rw [he]
  exact ⟨a, cap, rfl, rfl⟩
theorem enc_no {M : List As} {r : Rec} {f : FuncId} {args : Array Value} (hf : recF r = false) (h : Ctr Tryd.prog f args M (fun v M' => v = .tuple #[.slice none 0 0, .int .i64 4] ∧ M' = M)) : Ctr Tryd.prog f args M (EncAns M r) := by
  have he : encR r = ([], 4) := if_neg (by rw [hf]; simp)
  refine ⟨h.1, fun F w s => (h.2 F w s).mono ?_⟩
  rintro e w' ⟨v, M', he', ⟨rfl, rfl⟩, hs, hn⟩
  refine ⟨_, BR none 0 0 [] :: M', he', ?_, hs.ent (Ent.app ent_e0 (Ent.refl F)), hn⟩
  unfold EncAns
  rw [he]
  exact ⟨none, 0, rfl, rfl⟩
theorem vecR_nat {v : V4} (h : vecR v = true) : ∃ a b c d : Nat, v = ((a : Int), (b : Int), (c : Int), (d : Int)) ∧ a ≤ 1099511627776 ∧ b ≤ 1099511627776 ∧ c ≤ 1099511627776 ∧ d ≤ 1099511627776 := by
  obtain ⟨x, y, z, w⟩ := v
  have := vecR_b h
  dsimp only at this
  exact ⟨x.toNat, y.toNat, z.toNat, w.toNat, by simp only [Prod.mk.injEq]; omega, by omega, by omega, by omega, by omega⟩
theorem par1R_b {id : Int} {l : List Int} (h : parR id l = true) : ∀ x ∈ l, 0 ≤ x ∧ x ≤ 100 := by
  intro x hx
  obtain ⟨i, hi, rfl⟩ := List.mem_iff_getElem.1 hx
  unfold parR at h
  have := List.all_eq_true.1 h i (List.mem_range.2 hi)
  unfold par1R at this
  simp only [Bool.and_eq_true] at this
  have h2 := this.1.1
  rw [gd_eq hi] at h2
  simp only [idR, Bool.and_eq_true, decide_eq_true_eq] at h2
  omega
theorem Encode_ct (M : List As) (r : Rec) (h : RdR M r) : Ctr Tryd.prog 20 #[recV r] M (EncAns M r) := by
  cases hf : recF r with
  | false => exact enc_no hf (EncodeNo_ct M _ (by rw [← hf]; exact Formed_ct M r h))
  | true =>
  cases r with
  | joined s w q =>
    have hf' := hf
    simp only [recF, Bool.and_eq_true, decide_eq_true_eq] at hf
    obtain ⟨⟨⟨h1, h2⟩, h3⟩, h4⟩ := hf
    obtain ⟨a, b, c, d, rfl, ha, hb, hc, hd⟩ := vecR_nat h4
    obtain ⟨k, rfl⟩ := Int.eq_ofNat_of_zero_le (by omega : 0 ≤ w)
    exact enc_yes hf' (by simp [recB, vnat]) (EncodeJoined_ct M s k a b c d h1 (by omega) (by omega) ha hb hc hd)
  | up s e v =>
    have hf' := hf
    simp only [recF, Bool.and_eq_true, decide_eq_true_eq] at hf
    obtain ⟨⟨⟨h1, h2⟩, h3⟩, h4⟩ := hf
    obtain ⟨a, b, c, d, rfl, ha, hb, hc, hd⟩ := vecR_nat h4
    obtain ⟨k, rfl⟩ := Int.eq_ofNat_of_zero_le (by omega : 0 ≤ e)
    exact enc_yes hf' (by simp [recB, vnat]) (EncodeUp_ct M s k a b c d h1 (by omega) (by omega) ha hb hc hd)
  | beat s =>
    have h1 := nameR_size hf
    refine enc_yes hf (b := 3 :: txtB s) rfl ((Ctr.frm (EncodeBeat_ct s hf (by omega) (by omega)) M).weaken (by rw [List.nil_append]; exact Ent.refl M) ?_)
    rintro v M' ⟨N, ⟨a, cap, rfl, rfl⟩, rfl⟩
    exact ⟨a, cap, rfl, rfl⟩
  | down s => exact enc_yes hf rfl (EncodeDown_ct M s hf)
  | sub j =>
    have hf' := hf
    obtain ⟨id, tenant, prio, run, ⟨pa, pcap, pxs⟩, ⟨ta, tcap, txs⟩, state, att, ⟨na, ncap, nxs⟩, start, ⟨da, dcap, dxs⟩⟩ := j
    have hj : jobR ⟨id, tenant, prio, run, ⟨pa, pcap, pxs⟩, ⟨ta, tcap, txs⟩, state, att, ⟨na, ncap, nxs⟩, start, ⟨da, dcap, dxs⟩⟩ = true := hf
    have hj' := hj
    simp only [jobR, Bool.and_eq_true, decide_eq_true_eq] at hj'
    obtain ⟨⟨⟨⟨⟨⟨⟨⟨⟨⟨⟨⟨⟨⟨c1, c2⟩, c3⟩, c4⟩, c5⟩, c6⟩, c7⟩, c8⟩, c9⟩, c10⟩, c11⟩, c12⟩, c13⟩, c14⟩, c15⟩ := hj'
    obtain ⟨k, rfl, k1, k2⟩ := idR_nat c1
    obtain ⟨p, rfl⟩ := Int.eq_ofNat_of_zero_le c3
    obtain ⟨u, rfl⟩ := Int.eq_ofNat_of_zero_le (by omega : 0 ≤ run)
    exact enc_yes hf' (by simp [recB]) (EncodeSubmitted_ct M k p u tenant pa ta na da pcap tcap ncap dcap pxs txs nxs dxs state att start h.1 hj k2 c2 (by omega) (by omega) c7 c9 (par1R_b c10) (fun v hv => List.all_eq_true.1 c11 v hv))
  | rel n =>
    obtain ⟨k, rfl, k1, k2⟩ := idR_nat hf
    exact enc_yes hf (by simp [recB]) (EncodeReleased_ct M k k1 k2)
  | placed n l =>
    have hf' := hf
    simp only [recF, Bool.and_eq_true, decide_eq_true_eq] at hf
    obtain ⟨⟨⟨h1, h2⟩, h3⟩, h4⟩ := hf
    obtain ⟨k, rfl, k1, k2⟩ := idR_nat h1
    exact enc_yes hf' (by simp [recB]) (EncodePlaced_ct M k l.a l.cap l.xs k1 k2 h.1 h2 h3 h4)
  | evi n =>
    obtain ⟨k, rfl, k1, k2⟩ := idR_nat hf
    exact enc_yes hf (by simp [recB]) (EncodeEvicted_ct M k k1 k2)
  | part n s =>
    have hf' := hf
    simp only [recF, Bool.and_eq_true, decide_eq_true_eq] at hf
    obtain ⟨k, rfl, k1, k2⟩ := idR_nat hf.1
    exact enc_yes hf' (by simp [recB]) (EncodePart_ct M k s k1 k2 hf.2)
  | ended n st =>
    have hf' := hf
    simp only [recF, Bool.and_eq_true, decide_eq_true_eq] at hf
    obtain ⟨⟨h1, h2⟩, h3⟩ := hf
    obtain ⟨k, rfl, k1, k2⟩ := idR_nat h1
    obtain ⟨u, rfl⟩ := Int.eq_ofNat_of_zero_le (by omega : 0 ≤ st)
    exact enc_yes hf' (by simp [recB]) (EncodeEnded_ct M k u k1 k2 (by omega) (by omega))
  | tick => exact enc_yes rfl rfl (EncodeTicked_ct M)
  | none => cases hf
end Go.Proofs.YtjmfnakplmmpnaaDoor

namespace Go.Proofs.YtjmfnakplmmpnaaDoor
open Go.Sl
set_option linter.unusedVariables false
set_option linter.unusedSimpArgs false
set_option maxRecDepth 100000
abbrev PS := Bs × Bool
theorem rdGo_le : ∀ (l : Bs) (i n : Nat), (rdGo i n l).2 ≤ i + l.length
  | [], i, n => Nat.zero_le _
  | x :: l, i, n => by
    unfold rdGo
    split
    · exact Nat.zero_le _
    · split
      · show i + 1 ≤ i + (l.length + 1); omega
      · have := rdGo_le l (i + 1) (n + x.toNat % 128 * 128 ^ i)
        rw [List.length_cons]; omega
theorem rdS_le (b : Bs) : (rdS b).2 ≤ b.length := by have := rdGo_le b 0 0; unfold rdS; omega
def numP (s : PS) : Nat × PS := if (rdS s.1).2 = 0 ∨ 4611686018427387904 < (rdS s.1).1 then (0, (s.1, true)) else ((rdS s.1).1, (s.1.drop (rdS s.1).2, s.2))
def txtP (s : PS) : ByteArray × PS := if (numP s).2.1.length < (numP s).1 then (⟨#[]⟩, ((numP s).2.1, true)) else (⟨((numP s).2.1.take (numP s).1).toArray⟩, ((numP s).2.1.drop (numP s).1, (numP s).2.2))
def vecP (s : PS) : V4 × PS :=
  let a := numP s
  let b := numP a.2
  let c := numP b.2
  let d := numP c.2
  (((a.1 : Int), (b.1 : Int), (c.1 : Int), (d.1 : Int)), d.2)
def cntP (s : PS) : Nat × PS := if 64 < (numP s).1 then (0, ((numP s).2.1, true)) else numP s
def manyP {α : Type} (f : PS → α × PS) : Nat → PS → List α × PS
  | 0, s => ([], s)
  | k + 1, s => ((f s).1 :: (manyP f k (f s).2).1, (manyP f k (f s).2).2)
def numI (s : PS) : Int × PS := (((numP s).1 : Int), (numP s).2)
def jobP (s : PS) : JV × PS :=
  let a := numP s
  let b := txtP a.2
  let c := numP b.2
  let d := numP c.2
  let e := cntP d.2
  let f := manyP numI e.1 e.2
  let g := cntP f.2
  let h := manyP vecP g.1 g.2
  (⟨a.1, b.1, c.1, d.1, ⟨none, 0, f.1⟩, ⟨none, 0, h.1⟩, 0, 0, ⟨none, 0, []⟩, 0, ⟨none, 0, []⟩⟩, h.2)
def recPs (kind : Nat) (s : PS) : Rec × PS :=
  if kind = 1 then (let a := txtP s; let b := numP a.2; let c := vecP b.2; (.joined a.1 b.1 c.1, c.2))
  else if kind = 2 then (let a := txtP s; let b := numP a.2; let c := vecP b.2; (.up a.1 b.1 c.1, c.2))
  else if kind = 3 then (.beat (txtP s).1, (txtP s).2)
  else if kind = 4 then (.down (txtP s).1, (txtP s).2)
  else if kind = 5 then (.sub (jobP s).1, (jobP s).2)
  else if kind = 6 then (.rel (numP s).1, (numP s).2)
  else if kind = 7 then (let a := numP s; let b := cntP a.2; let c := manyP txtP b.1 b.2; (.placed a.1 ⟨none, 0, c.1⟩, c.2))
  else if kind = 8 then (.evi (numP s).1, (numP s).2)
  else if kind = 9 then (let a := numP s; let b := txtP a.2; (.part a.1 b.1, b.2))
  else if kind = 10 then (let a := numP s; let b := numP a.2; (.ended a.1 b.1, b.2))
  else if kind = 11 then (.tick, s)
  else (.none, s)
def nfS {α : Type} (l : SlV α) : SlV α := ⟨none, 0, l.xs⟩
def nfJ (j : JV) : JV := { j with par := nfS j.par, tasks := nfS j.tasks, nodes := nfS j.nodes, don := nfS j.don }
def nf : Rec → Rec
  | .sub j => .sub (nfJ j)
  | .placed n l => .placed n (nfS l)
  | r => r
theorem numP_seven {n : Nat} (h : n ≤ 4611686018427387904) (r : Bs) (bad : Bool) : numP (seven n ++ r, bad) = (n, (r, bad)) := by
  have hl := seven_len (n := n) (by omega)
  unfold numP
  dsimp only
  rw [rdS_seven n r (by omega)]
  dsimp only
  rw [if_neg (by omega), List.drop_left]
theorem txtP_txt {s : ByteArray} (h : s.size ≤ 4611686018427387904) (r : Bs) (bad : Bool) : txtP (txtB s ++ r, bad) = (s, (r, bad)) := by
  have hl : s.data.toList.length = s.size := by rw [Array.length_toList]; rfl
  unfold txtP txtB
  rw [List.append_assoc, numP_seven h]
  dsimp only
  rw [if_neg (by rw [List.length_append]; omega), ← hl, List.take_left, List.drop_left]
theorem cntP_seven {n : Nat} (h : n ≤ 64) (r : Bs) (bad : Bool) : cntP (seven n ++ r, bad) = (n, (r, bad)) := by
  unfold cntP
  rw [numP_seven (by omega), if_neg (by show ¬ 64 < n; omega)]
theorem vecP_b {v : V4} (h : vecR v = true) (r : Bs) (bad : Bool) : vecP (sevs (vnat v) ++ r, bad) = (v, (r, bad)) := by
  obtain ⟨a, b, c, d, rfl, ha, hb, hc, hd⟩ := vecR_nat h
  have e : sevs (vnat ((a : Int), (b : Int), (c : Int), (d : Int))) ++ r = seven a ++ (seven b ++ (seven c ++ (seven d ++ r))) := by simp [sevs, vnat]
  unfold vecP
  rw [e]
  simp only [numP_seven (n := a) (by omega), numP_seven (n := b) (by omega), numP_seven (n := c) (by omega), numP_seven (n := d) (by omega)]
theorem nums_b : ∀ {l : List Int}, (∀ x ∈ l, 0 ≤ x ∧ x ≤ 100) → ∀ (r : Bs) (bad : Bool), manyP numI l.length (sevs (l.map Int.toNat) ++ r, bad) = (l, (r, bad))
  | [], _, r, bad => rfl
  | x :: l, h, r, bad => by
    have hx := h x (List.mem_cons_self ..)
    have ih := nums_b (l := l) (fun y hy => h y (List.mem_cons_of_mem _ hy)) r bad
    have e : sevs ((x :: l).map Int.toNat) ++ r = seven x.toNat ++ (sevs (l.map Int.toNat) ++ r) := by simp [sevs]
    rw [e, List.length_cons]
    unfold manyP
    have e2 : numI (seven x.toNat ++ (sevs (l.map Int.toNat) ++ r), bad) = (x, (sevs (l.map Int.toNat) ++ r, bad)) := by
      unfold numI
      rw [numP_seven (by omega)]
      simp only [Prod.mk.injEq, and_true]
      omega
    rw [e2]
    dsimp only
    rw [ih]
theorem vecs_b : ∀ {l : List V4}, (∀ x ∈ l, vecR x = true) → ∀ (r : Bs) (bad : Bool), manyP vecP l.length (sevs (l.flatMap vnat) ++ r, bad) = (l, (r, bad))
  | [], _, r, bad => rfl
  | x :: l, h, r, bad => by
    have ih := vecs_b (l := l) (fun y hy => h y (List.mem_cons_of_mem _ hy)) r bad
    have e : sevs ((x :: l).flatMap vnat) ++ r = sevs (vnat x) ++ (sevs (l.flatMap vnat) ++ r) := by simp [sevs]
    rw [e, List.length_cons]
    unfold manyP
    rw [vecP_b (h x (List.mem_cons_self ..))]
    dsimp only
    rw [ih]
theorem txts_b : ∀ {l : List ByteArray}, (∀ x ∈ l, x.size ≤ 64) → ∀ (r : Bs) (bad : Bool), manyP txtP l.length (txts l ++ r, bad) = (l, (r, bad))
  | [], _, r, bad => rfl
  | x :: l, h, r, bad => by
    have ih := txts_b (l := l) (fun y hy => h y (List.mem_cons_of_mem _ hy)) r bad
    have hx := h x (List.mem_cons_self ..)
    have e : txts (x :: l) ++ r = txtB x ++ (txts l ++ r) := by simp [txts]
    rw [e, List.length_cons]
    unfold manyP
    rw [txtP_txt (by omega)]
    dsimp only
    rw [ih]
def recK : Rec → Nat
  | .joined .. => 1
  | .up .. => 2
  | .beat .. => 3
  | .down .. => 4
  | .sub .. => 5
  | .rel .. => 6
  | .placed .. => 7
  | .evi .. => 8
  | .part .. => 9
  | .ended .. => 10
  | .tick => 11
  | .none => 0
def recT (r : Rec) : Bs := (recB r).drop 1
theorem recB_cons {r : Rec} (h : recF r = true) : recB r = UInt8.ofNat (recK r) :: recT r := by
  unfold recT
  cases r <;> first | rfl | (cases h) | (simp [recB, jobB, recK]; done)
theorem rec_back {r : Rec} (h : recF r = true) (bad : Bool) : recPs (recK r) (recT r, bad) = (nf r, ([], bad)) := by
  have hb := recB_cons h
  have ht : ∀ t, recB r = UInt8.ofNat (recK r) :: t → recT r = t := fun t e => by rw [hb] at e; exact (List.cons.inj e).2
  cases r with
  | joined s w q =>
    simp only [recF, Bool.and_eq_true, decide_eq_true_eq] at h
    obtain ⟨⟨⟨h1, h2⟩, h3⟩, h4⟩ := h
    have hs := nameR_size h1
    obtain ⟨k, rfl⟩ := Int.eq_ofNat_of_zero_le (by omega : 0 ≤ w)
    have e := ht (txtB s ++ (seven k ++ (sevs (vnat q) ++ []))) (by simp [recB, recK])
    rw [e]
    show recPs 1 _ = _
    unfold recPs
    rw [if_pos rfl]
    simp only [txtP_txt (s := s) (by omega), numP_seven (n := k) (by omega), vecP_b h4]
    rfl
  | up s e v =>
    simp only [recF, Bool.and_eq_true, decide_eq_true_eq] at h
    obtain ⟨⟨⟨h1, h2⟩, h3⟩, h4⟩ := h
    have hs := nameR_size h1
    obtain ⟨k, rfl⟩ := Int.eq_ofNat_of_zero_le (by omega : 0 ≤ e)
    have e := ht (txtB s ++ (seven k ++ (sevs (vnat v) ++ []))) (by simp [recB, recK])
    rw [e]
    show recPs 2 _ = _
    unfold recPs
    rw [if_neg (by decide), if_pos rfl]
    simp only [txtP_txt (s := s) (by omega), numP_seven (n := k) (by omega), vecP_b h4]
    rfl
  | beat s =>
    have hs := nameR_size h
    have e := ht (txtB s ++ []) (by simp [recB, recK])
    rw [e]
    show recPs 3 _ = _
    unfold recPs
    rw [if_neg (by decide), if_neg (by decide), if_pos rfl, txtP_txt (s := s) (by omega)]
    rfl
  | down s =>
    have hs := nameR_size h
    have e := ht (txtB s ++ []) (by simp [recB, recK])
    rw [e]
    show recPs 4 _ = _
    unfold recPs
    rw [if_neg (by decide), if_neg (by decide), if_neg (by decide), if_pos rfl, txtP_txt (s := s) (by omega)]
    rfl
  | sub j =>
    obtain ⟨id, tenant, prio, run, ⟨pa, pcap, pxs⟩, ⟨ta, tcap, txs⟩, state, att, ⟨na, ncap, nxs⟩, start, ⟨da, dcap, dxs⟩⟩ := j
    have hj : jobR ⟨id, tenant, prio, run, ⟨pa, pcap, pxs⟩, ⟨ta, tcap, txs⟩, state, att, ⟨na, ncap, nxs⟩, start, ⟨da, dcap, dxs⟩⟩ = true := h
    simp only [jobR, Bool.and_eq_true, decide_eq_true_eq] at hj
    obtain ⟨⟨⟨⟨⟨⟨⟨⟨⟨⟨⟨⟨⟨⟨c1, c2⟩, c3⟩, c4⟩, c5⟩, c6⟩, c7⟩, c8⟩, c9⟩, c10⟩, c11⟩, c12⟩, c13⟩, c14⟩, c15⟩ := hj
    have hs := nameR_size c2
    obtain ⟨k, rfl, k1, k2⟩ := idR_nat c1
    obtain ⟨p, rfl⟩ := Int.eq_ofNat_of_zero_le c3
    obtain ⟨u, rfl⟩ := Int.eq_ofNat_of_zero_le (by omega : 0 ≤ run)
    have hn : nxs = [] := List.eq_nil_of_length_eq_zero (by omega)
    have hd : dxs = [] := List.eq_nil_of_length_eq_zero (by omega)
    subst hn; subst hd; subst c12; subst c13; subst c14
    have e := ht (seven k ++ (txtB tenant ++ (seven p ++ (seven u ++ (seven pxs.length ++ (sevs (pxs.map Int.toNat) ++ (seven txs.length ++ (sevs (txs.flatMap vnat) ++ [])))))))) (by simp [recB, recK, jobB, sevs])
    rw [e]
    show recPs 5 _ = _
    unfold recPs
    rw [if_neg (by decide), if_neg (by decide), if_neg (by decide), if_neg (by decide), if_pos rfl]
    have hjp : ∀ bs bad, bs = seven k ++ (txtB tenant ++ (seven p ++ (seven u ++ (seven pxs.length ++ (sevs (pxs.map Int.toNat) ++ (seven txs.length ++ (sevs (txs.flatMap vnat) ++ []))))))) → jobP (bs, bad) = (⟨k, tenant, p, u, ⟨none, 0, pxs⟩, ⟨none, 0, txs⟩, 0, 0, ⟨none, 0, []⟩, 0, ⟨none, 0, []⟩⟩, ([], bad)) := fun bs bad e => by
      rw [e]
      unfold jobP
      simp only [numP_seven (n := k) (by omega), txtP_txt (s := tenant) (by omega), numP_seven (n := p) (by omega), numP_seven (n := u) (by omega), cntP_seven (n := pxs.length) (by omega), nums_b (par1R_b c10), cntP_seven (n := txs.length) (by omega), vecs_b (fun v hv => List.all_eq_true.1 c11 v hv)]
    rw [hjp _ _ rfl]
    rfl
  | rel n =>
    obtain ⟨k, rfl, k1, k2⟩ := idR_nat h
    have e := ht (seven k ++ []) (by simp [recB, recK])
    rw [e]
    show recPs 6 _ = _
    unfold recPs
    rw [if_neg (by decide), if_neg (by decide), if_neg (by decide), if_neg (by decide), if_neg (by decide), if_pos rfl, numP_seven (n := k) (by omega)]
    rfl
  | placed n l =>
    obtain ⟨a, cap, l⟩ := l
    simp only [recF, Bool.and_eq_true, decide_eq_true_eq] at h
    obtain ⟨⟨⟨h1, h2⟩, h3⟩, h4⟩ := h
    obtain ⟨k, rfl, k1, k2⟩ := idR_nat h1
    have e := ht (seven k ++ (seven l.length ++ (txts l ++ []))) (by simp [recB, recK])
    rw [e]
    show recPs 7 _ = _
    unfold recPs
    rw [if_neg (by decide), if_neg (by decide), if_neg (by decide), if_neg (by decide), if_neg (by decide), if_neg (by decide), if_pos rfl]
    simp only [numP_seven (n := k) (by omega), cntP_seven (n := l.length) (by omega), txts_b (fun s hs => (nameR_size (List.all_eq_true.1 h4 s hs)).2)]
    rfl
  | evi n =>
    obtain ⟨k, rfl, k1, k2⟩ := idR_nat h
    have e := ht (seven k ++ []) (by simp [recB, recK])
    rw [e]
    show recPs 8 _ = _
    unfold recPs
    rw [if_neg (by decide), if_neg (by decide), if_neg (by decide), if_neg (by decide), if_neg (by decide), if_neg (by decide), if_neg (by decide), if_pos rfl, numP_seven (n := k) (by omega)]
    rfl
  | part n s =>
    simp only [recF, Bool.and_eq_true, decide_eq_true_eq] at h
    obtain ⟨k, rfl, k1, k2⟩ := idR_nat h.1
    have hs := nameR_size h.2
    have e := ht (seven k ++ (txtB s ++ [])) (by simp [recB, recK])
    rw [e]
    show recPs 9 _ = _
    unfold recPs
    rw [if_neg (by decide), if_neg (by decide), if_neg (by decide), if_neg (by decide), if_neg (by decide), if_neg (by decide), if_neg (by decide), if_neg (by decide), if_pos rfl]
    simp only [numP_seven (n := k) (by omega), txtP_txt (s := s) (by omega)]
    rfl
  | ended n st =>
    simp only [recF, Bool.and_eq_true, decide_eq_true_eq] at h
    obtain ⟨⟨h1, h2⟩, h3⟩ := h
    obtain ⟨k, rfl, k1, k2⟩ := idR_nat h1
    obtain ⟨u, rfl⟩ := Int.eq_ofNat_of_zero_le (by omega : 0 ≤ st)
    have e := ht (seven k ++ (seven u ++ [])) (by simp [recB, recK])
    rw [e]
    show recPs 10 _ = _
    unfold recPs
    rw [if_neg (by decide), if_neg (by decide), if_neg (by decide), if_neg (by decide), if_neg (by decide), if_neg (by decide), if_neg (by decide), if_neg (by decide), if_neg (by decide), if_pos rfl]
    simp only [numP_seven (n := k) (by omega), numP_seven (n := u) (by omega)]
    rfl
  | tick => rfl
  | none => cases h
end Go.Proofs.YtjmfnakplmmpnaaDoor

namespace Go.Proofs.YtjmfnakplmmpnaaDoor
open Go.Sl
set_option linter.unusedVariables false
set_option linter.unusedSimpArgs false
set_option maxRecDepth 100000
set_option maxHeartbeats 1000000
theorem flatU : ∀ xs : Bs, xs.flatMap encU = (xs.map (fun x : UInt8 => (x.toNat : Int))).map (Value.int .u8)
  | [] => rfl
  | x :: l => by rw [List.flatMap_cons, List.map_cons, List.map_cons, flatU l]; rfl
section
variable {P : Program}
theorem convBS (Γ : Tab P) {src dst e : TypeId} {a : Option Addr} {n cap : Nat} {xs : Bs} {M : List As} {k : Value → Prop} (hr : RdH M a 1 encU xs) (hn : xs.length = n) (hs : Γ.und src = some (.slice e)) (he : Γ.und e = some (.int .u8)) (hd : Γ.und dst = some .string)
    (hk : k (.string ⟨xs.toArray⟩)) : LGet P (convert src dst (.slice a n cap)) M k :=
  ⟨.string ⟨xs.toArray⟩, fun w s => by
    subst hn
    have hs' := Γ.und_ok _ _ hs
    have he' := Γ.und_ok _ _ he
    have hd' := Γ.und_ok _ _ hd
    cases a with
    | none =>
      have hx : xs = [] := by
        rcases (hr.pure s).h with h | ⟨b, o, h, _⟩
        · exact h
        · cases h
      subst hx
      exact run_convert_bytes_nil w src e hs' he' _ _ dst hd'
    | some ad =>
      have hl : (loadCells ad xs.length).run P w = .ok ((xs.map (fun x : UInt8 => (x.toNat : Int))).map (Value.int .u8)).toArray w := by
        have := run_loadCells_list (P := P) w ad (xs.flatMap encU) (fun j v hj => by
          rcases (hr.pure s).h with h | ⟨b, o, e, l⟩
          · subst h; simp at hj
          · cases e
            have hjl : j < xs.length := by
              have := (List.getElem?_eq_some_iff.1 hj).1
              rw [flat_len (sz := 1) (fun _ => rfl), Nat.mul_one] at this
              exact this
            have h0 := flat_get (enc := encU) (sz := 1) (fun _ => rfl) (List.getElem?_eq_getElem hjl) (show 0 < 1 by decide)
            rw [Nat.mul_one, Nat.add_zero, hj] at h0
            have h3 := ((l.h j _ (List.getElem?_eq_getElem hjl)).h 0 v h0.symm).get s
            have hadd : (⟨b, o, none⟩ : Addr).add j = ⟨b, o + j, none⟩ := by unfold Addr.add; split <;> simp_all
            rw [hadd]
            simpa using h3)
        rw [flat_len (sz := 1) (fun _ => rfl), Nat.mul_one] at this
        rw [this, flatU]
      rw [run_convert_bytes_string w src dst e _ xs.length cap hs' he' hd', run_bytesToString w _ xs.length cap (xs.map (fun x : UInt8 => (x.toNat : Int))) hl, foldl_push_bytes]
      congr 2
      rw [List.map_map, show ((fun n : Int => UInt8.ofNat n.toNat) ∘ fun x : UInt8 => (x.toNat : Int)) = id from funext fun x => by simp, List.map_id]
      simp [ByteArray.empty, ByteArray.emptyWithCapacity]
      rfl, hk⟩
end
structure RS (M : List As) (a : Option Addr) (cap : Nat) (bs : Bs) : Prop where
  rd : RdH M a 1 encU bs
  le : bs.length ≤ cap
  max : cap ≤ 9223372036854775807
  len : bs.length ≤ 140737488355328
theorem RS.there {M : List As} {y : As} {a : Option Addr} {cap : Nat} {bs : Bs} (h : RS M a cap bs) : RS (y :: M) a cap bs := ⟨h.rd.there, h.le, h.max, h.len⟩
theorem RS.off {M : List As} {a : Option Addr} {cap : Nat} {bs : Bs} (h : RS M a cap bs) {k : Nat} (hk : k ≤ bs.length) : RS M (offA a 1 k cap) (cap - k) (bs.drop k) := ⟨h.rd.off h.le, by rw [List.length_drop]; have := h.le; omega, by have := h.max; omega, by rw [List.length_drop]; have := h.len; omega⟩
abbrev rc (rb : Nat) (a : Option Addr) (cap : Nat) (bs : Bs) (bad : Bool) : As := Sl.pt rb (.cells #[.slice a bs.length cap, .bool bad] 117 (0, 0))
theorem num_ct (M : List As) (rb : Nat) (a : Option Addr) (cap : Nat) (bs : Bs) (bad : Bool) (h : RS M a cap bs) :
    Ctr Tryd.prog 66 #[.pointer (some ⟨rb, 0, none⟩)] (rc rb a cap bs bad :: M) (fun v M' => ∃ a' cap', v = .int .i64 ((numP (bs, bad)).1 : Nat) ∧ RS M a' cap' (numP (bs, bad)).2.1 ∧ M' = rc rb a' cap' (numP (bs, bad)).2.1 (numP (bs, bad)).2.2 :: M) := by
  have hmx := h.max
  have hle := h.le
  have hrl := rdS_le bs
  refine ctr_of (Γ := tab) (vs := [_]) fn66 rfl ?_
  repeat ((conv => whnf); (first | refine ztx ?_ | refine LNext.nilr ?_ | refine zne ?_ | refine zga ?_ | refine zxa ?_ | refine zca ?_ | refine zcb ?_ | refine zgb ?_ | refine zgc ?_ | refine zgd1 ?_ | refine zge ?_ | refine zgf ?_ | refine zgg ?_ | refine zgh ?_ | refine zgi ?_ | refine zgj ?_ | refine zgk ?_ | refine max2m ?_ | refine min2m ?_ | refine eqStr ?_ | refine neqStr ?_ | refine eqSlNil ?_ | refine neqSlNil ?_ | refine eqBool ?_ | refine neqBool ?_ | refine capSlice ?_ | refine zgl ?_ | refine zgm ?_ | refine zgn ?_ | refine zgo ?_ | refine zba ?_ | refine zbb ?_ | refine zbc ?_ | refine zbd ?_ | refine zbe ?_ | refine zbf ?_ | refine zia ?_ | refine zib ?_ | refine zic ?_ | refine zid1 ?_ | refine zie ?_ | refine zif1 ?_ | refine zig ?_ | refine zih ?_ | refine lint_u8_mod ?_ | refine lint_u32_mod ?_ | refine zii ?_ | refine zij ?_ | refine zua ?_ | refine zgs ?_ | refine zgu ?_ | refine eqMapNil ?_ | refine neqMapNil ?_ | refine LRes.mk ?_ | refine LIn.step ?_ | refine zdr ?_ | refine zna (fun _ => ?_) | refine znb (fun _ => ?_) | refine znc (fun _ => ?_) | refine newSlice0 (fun _ => ?_) | refine newMap (fun _ => ?_)))
  refine call0 (sRead_ct _ a cap bs h.rd.there (by omega)) ?_
  rintro v rfl
  by_cases z : (rdS bs).2 = 0
  · have e : numP (bs, bad) = (0, (bs, true)) := by unfold numP; rw [if_pos (Or.inl z)]
    rw [e]
    repeat ((conv => whnf); (first | refine ztx ?_ | refine LNext.nilr ?_ | refine zne ?_ | refine zga ?_ | refine zxa ?_ | refine zca ?_ | refine zcb ?_ | refine zgb ?_ | refine zgc ?_ | refine zgd1 ?_ | refine zge ?_ | refine zgf ?_ | refine zgg ?_ | refine zgh ?_ | refine zgi ?_ | refine zgj ?_ | refine zgk ?_ | refine max2m ?_ | refine min2m ?_ | refine eqStr ?_ | refine neqStr ?_ | refine eqSlNil ?_ | refine neqSlNil ?_ | refine eqBool ?_ | refine neqBool ?_ | refine capSlice ?_ | refine zgl ?_ | refine zgm ?_ | refine zgn ?_ | refine zgo ?_ | refine zba ?_ | refine zbb ?_ | refine zbc ?_ | refine zbd ?_ | refine zbe ?_ | refine zbf ?_ | refine zia ?_ | refine zib ?_ | refine zic ?_ | refine zid1 ?_ | refine zie ?_ | refine zif1 ?_ | refine zig ?_ | refine zih ?_ | refine lint_u8_mod ?_ | refine lint_u32_mod ?_ | refine zii ?_ | refine zij ?_ | refine zua ?_ | refine zgs ?_ | refine zgu ?_ | refine eqMapNil ?_ | refine neqMapNil ?_ | refine LRes.mk ?_ | refine LIn.step ?_ | refine zdr ?_ | refine zna (fun _ => ?_) | refine znb (fun _ => ?_) | refine znc (fun _ => ?_) | refine newSlice0 (fun _ => ?_) | refine newMap (fun _ => ?_)))
    show Fin _ _ _; exact Fin.of (rc rb a cap bs true :: M) zEn ⟨a, cap, rfl, h, rfl⟩
  by_cases z2 : 4611686018427387904 < (rdS bs).1
  · have e : numP (bs, bad) = (0, (bs, true)) := by unfold numP; rw [if_pos (Or.inr z2)]
    rw [e]
    repeat ((conv => whnf); (first | refine ztx ?_ | refine LNext.nilr ?_ | refine zne ?_ | refine zga ?_ | refine zxa ?_ | refine zca ?_ | refine zcb ?_ | refine zgb ?_ | refine zgc ?_ | refine zgd1 ?_ | refine zge ?_ | refine zgf ?_ | refine zgg ?_ | refine zgh ?_ | refine zgi ?_ | refine zgj ?_ | refine zgk ?_ | refine max2m ?_ | refine min2m ?_ | refine eqStr ?_ | refine neqStr ?_ | refine eqSlNil ?_ | refine neqSlNil ?_ | refine eqBool ?_ | refine neqBool ?_ | refine capSlice ?_ | refine zgl ?_ | refine zgm ?_ | refine zgn ?_ | refine zgo ?_ | refine zba ?_ | refine zbb ?_ | refine zbc ?_ | refine zbd ?_ | refine zbe ?_ | refine zbf ?_ | refine zia ?_ | refine zib ?_ | refine zic ?_ | refine zid1 ?_ | refine zie ?_ | refine zif1 ?_ | refine zig ?_ | refine zih ?_ | refine lint_u8_mod ?_ | refine lint_u32_mod ?_ | refine zii ?_ | refine zij ?_ | refine zua ?_ | refine zgs ?_ | refine zgu ?_ | refine eqMapNil ?_ | refine neqMapNil ?_ | refine LRes.mk ?_ | refine LIn.step ?_ | refine zdr ?_ | refine zna (fun _ => ?_) | refine znb (fun _ => ?_) | refine znc (fun _ => ?_) | refine newSlice0 (fun _ => ?_) | refine newMap (fun _ => ?_)))
    show Fin _ _ _; exact Fin.of (rc rb a cap bs true :: M) zEn ⟨a, cap, rfl, h, rfl⟩
  have e : numP (bs, bad) = ((rdS bs).1, (bs.drop (rdS bs).2, bad)) := by unfold numP; rw [if_neg (show ¬ ((rdS bs).2 = 0 ∨ 4611686018427387904 < (rdS bs).1) by omega)]
  have ho := h.off hrl
  have hdl : bs.length - (rdS bs).2 = (bs.drop (rdS bs).2).length := (List.length_drop ..).symm
  rw [e]
  generalize (rdS bs).1 = n at *
  generalize (rdS bs).2 = k at *
  repeat ((conv => whnf); (first | refine ztx ?_ | refine LNext.nilr ?_ | refine zne ?_ | refine zga ?_ | refine zxa ?_ | refine zca ?_ | refine zcb ?_ | refine zgb ?_ | refine zgc ?_ | refine zgd1 ?_ | refine zge ?_ | refine zgf ?_ | refine zgg ?_ | refine zgh ?_ | refine zgi ?_ | refine zgj ?_ | refine zgk ?_ | refine max2m ?_ | refine min2m ?_ | refine eqStr ?_ | refine neqStr ?_ | refine eqSlNil ?_ | refine neqSlNil ?_ | refine eqBool ?_ | refine neqBool ?_ | refine capSlice ?_ | refine zgl ?_ | refine zgm ?_ | refine zgn ?_ | refine zgo ?_ | refine zba ?_ | refine zbb ?_ | refine zbc ?_ | refine zbd ?_ | refine zbe ?_ | refine zbf ?_ | refine zia ?_ | refine zib ?_ | refine zic ?_ | refine zid1 ?_ | refine zie ?_ | refine zif1 ?_ | refine zig ?_ | refine zih ?_ | refine lint_u8_mod ?_ | refine lint_u32_mod ?_ | refine zii ?_ | refine zij ?_ | refine zua ?_ | refine zgs ?_ | refine zgu ?_ | refine eqMapNil ?_ | refine neqMapNil ?_ | refine LRes.mk ?_ | refine LIn.step ?_ | refine zdr ?_ | refine zna (fun _ => ?_) | refine znb (fun _ => ?_) | refine znc (fun _ => ?_) | refine newSlice0 (fun _ => ?_) | refine newMap (fun _ => ?_)))
  refine sliceLo2 tab (lo := k) rfl rfl (by omega) ?_
  rw [hdl]
  repeat ((conv => whnf); (first | refine ztx ?_ | refine LNext.nilr ?_ | refine zne ?_ | refine zga ?_ | refine zxa ?_ | refine zca ?_ | refine zcb ?_ | refine zgb ?_ | refine zgc ?_ | refine zgd1 ?_ | refine zge ?_ | refine zgf ?_ | refine zgg ?_ | refine zgh ?_ | refine zgi ?_ | refine zgj ?_ | refine zgk ?_ | refine max2m ?_ | refine min2m ?_ | refine eqStr ?_ | refine neqStr ?_ | refine eqSlNil ?_ | refine neqSlNil ?_ | refine eqBool ?_ | refine neqBool ?_ | refine capSlice ?_ | refine zgl ?_ | refine zgm ?_ | refine zgn ?_ | refine zgo ?_ | refine zba ?_ | refine zbb ?_ | refine zbc ?_ | refine zbd ?_ | refine zbe ?_ | refine zbf ?_ | refine zia ?_ | refine zib ?_ | refine zic ?_ | refine zid1 ?_ | refine zie ?_ | refine zif1 ?_ | refine zig ?_ | refine zih ?_ | refine lint_u8_mod ?_ | refine lint_u32_mod ?_ | refine zii ?_ | refine zij ?_ | refine zua ?_ | refine zgs ?_ | refine zgu ?_ | refine eqMapNil ?_ | refine neqMapNil ?_ | refine LRes.mk ?_ | refine LIn.step ?_ | refine zdr ?_ | refine zna (fun _ => ?_) | refine znb (fun _ => ?_) | refine znc (fun _ => ?_) | refine newSlice0 (fun _ => ?_) | refine newMap (fun _ => ?_)))
  show Fin _ _ _; exact Fin.of (rc rb (offA a 1 k cap) (cap - k) (bs.drop k) bad :: M) zEn ⟨_, _, rfl, ho, rfl⟩
theorem text_ct (M : List As) (rb : Nat) (a : Option Addr) (cap : Nat) (bs : Bs) (bad : Bool) (h : RS M a cap bs) :
    Ctr Tryd.prog 65 #[.pointer (some ⟨rb, 0, none⟩)] (rc rb a cap bs bad :: M) (fun v M' => ∃ a' cap', v = .string (txtP (bs, bad)).1 ∧ RS M a' cap' (txtP (bs, bad)).2.1 ∧ (txtP (bs, bad)).1.size ≤ 140737488355328 ∧ M' = rc rb a' cap' (txtP (bs, bad)).2.1 (txtP (bs, bad)).2.2 :: M) := by
  refine ctr_of (Γ := tab) (vs := [_]) fn65 rfl ?_
  repeat ((conv => whnf); (first | refine ztx ?_ | refine LNext.nilr ?_ | refine zne ?_ | refine zga ?_ | refine zxa ?_ | refine zca ?_ | refine zcb ?_ | refine zgb ?_ | refine zgc ?_ | refine zgd1 ?_ | refine zge ?_ | refine zgf ?_ | refine zgg ?_ | refine zgh ?_ | refine zgi ?_ | refine zgj ?_ | refine zgk ?_ | refine max2m ?_ | refine min2m ?_ | refine eqStr ?_ | refine neqStr ?_ | refine eqSlNil ?_ | refine neqSlNil ?_ | refine eqBool ?_ | refine neqBool ?_ | refine capSlice ?_ | refine zgl ?_ | refine zgm ?_ | refine zgn ?_ | refine zgo ?_ | refine zba ?_ | refine zbb ?_ | refine zbc ?_ | refine zbd ?_ | refine zbe ?_ | refine zbf ?_ | refine zia ?_ | refine zib ?_ | refine zic ?_ | refine zid1 ?_ | refine zie ?_ | refine zif1 ?_ | refine zig ?_ | refine zih ?_ | refine lint_u8_mod ?_ | refine lint_u32_mod ?_ | refine zii ?_ | refine zij ?_ | refine zua ?_ | refine zgs ?_ | refine zgu ?_ | refine eqMapNil ?_ | refine neqMapNil ?_ | refine LRes.mk ?_ | refine LIn.step ?_ | refine zdr ?_ | refine zna (fun _ => ?_) | refine znb (fun _ => ?_) | refine znc (fun _ => ?_) | refine newSlice0 (fun _ => ?_) | refine newMap (fun _ => ?_)))
  refine call1 (num_ct M rb a cap bs bad h) zSp ?_
  rintro v M' ⟨a1, c1, rfl, h1, hM⟩
  subst hM
  have hd : txtP (bs, bad) = if (numP (bs, bad)).2.1.length < (numP (bs, bad)).1 then (⟨#[]⟩, ((numP (bs, bad)).2.1, true)) else (⟨((numP (bs, bad)).2.1.take (numP (bs, bad)).1).toArray⟩, ((numP (bs, bad)).2.1.drop (numP (bs, bad)).1, (numP (bs, bad)).2.2)) := rfl
  rw [hd]
  have hmx := h1.max
  have hln := h1.len
  have hle := h1.le
  clear h hd
  generalize (numP (bs, bad)).1 = n at *
  generalize (numP (bs, bad)).2.1 = b2 at *
  generalize (numP (bs, bad)).2.2 = bad2 at *
  by_cases z : b2.length < n
  · rw [if_pos z]
    repeat ((conv => whnf); (first | refine ztx ?_ | refine LNext.nilr ?_ | refine zne ?_ | refine zga ?_ | refine zxa ?_ | refine zca ?_ | refine zcb ?_ | refine zgb ?_ | refine zgc ?_ | refine zgd1 ?_ | refine zge ?_ | refine zgf ?_ | refine zgg ?_ | refine zgh ?_ | refine zgi ?_ | refine zgj ?_ | refine zgk ?_ | refine max2m ?_ | refine min2m ?_ | refine eqStr ?_ | refine neqStr ?_ | refine eqSlNil ?_ | refine neqSlNil ?_ | refine eqBool ?_ | refine neqBool ?_ | refine capSlice ?_ | refine zgl ?_ | refine zgm ?_ | refine zgn ?_ | refine zgo ?_ | refine zba ?_ | refine zbb ?_ | refine zbc ?_ | refine zbd ?_ | refine zbe ?_ | refine zbf ?_ | refine zia ?_ | refine zib ?_ | refine zic ?_ | refine zid1 ?_ | refine zie ?_ | refine zif1 ?_ | refine zig ?_ | refine zih ?_ | refine lint_u8_mod ?_ | refine lint_u32_mod ?_ | refine zii ?_ | refine zij ?_ | refine zua ?_ | refine zgs ?_ | refine zgu ?_ | refine eqMapNil ?_ | refine neqMapNil ?_ | refine LRes.mk ?_ | refine LIn.step ?_ | refine zdr ?_ | refine zna (fun _ => ?_) | refine znb (fun _ => ?_) | refine znc (fun _ => ?_) | refine newSlice0 (fun _ => ?_) | refine newMap (fun _ => ?_)))
    show Fin _ _ _; exact Fin.of (rc rb a1 c1 b2 true :: M) zEn ⟨a1, c1, rfl, h1, by show 0 ≤ _; omega, rfl⟩
  rw [if_neg z]
  have ho := h1.off (k := n) (by omega)
  have hdl : b2.length - n = (b2.drop n).length := (List.length_drop ..).symm
  have htl : (b2.take n).length = n := by rw [List.length_take]; omega
  repeat ((conv => whnf); (first | refine ztx ?_ | refine LNext.nilr ?_ | refine zne ?_ | refine zga ?_ | refine zxa ?_ | refine zca ?_ | refine zcb ?_ | refine zgb ?_ | refine zgc ?_ | refine zgd1 ?_ | refine zge ?_ | refine zgf ?_ | refine zgg ?_ | refine zgh ?_ | refine zgi ?_ | refine zgj ?_ | refine zgk ?_ | refine max2m ?_ | refine min2m ?_ | refine eqStr ?_ | refine neqStr ?_ | refine eqSlNil ?_ | refine neqSlNil ?_ | refine eqBool ?_ | refine neqBool ?_ | refine capSlice ?_ | refine zgl ?_ | refine zgm ?_ | refine zgn ?_ | refine zgo ?_ | refine zba ?_ | refine zbb ?_ | refine zbc ?_ | refine zbd ?_ | refine zbe ?_ | refine zbf ?_ | refine zia ?_ | refine zib ?_ | refine zic ?_ | refine zid1 ?_ | refine zie ?_ | refine zif1 ?_ | refine zig ?_ | refine zih ?_ | refine lint_u8_mod ?_ | refine lint_u32_mod ?_ | refine zii ?_ | refine zij ?_ | refine zua ?_ | refine zgs ?_ | refine zgu ?_ | refine eqMapNil ?_ | refine neqMapNil ?_ | refine LRes.mk ?_ | refine LIn.step ?_ | refine zdr ?_ | refine zna (fun _ => ?_) | refine znb (fun _ => ?_) | refine znc (fun _ => ?_) | refine newSlice0 (fun _ => ?_) | refine newMap (fun _ => ?_)))
  refine sliceHi2 tab (hi := n) rfl rfl (fun _ _ => by omega) ?_
  repeat ((conv => whnf); (first | refine ztx ?_ | refine LNext.nilr ?_ | refine zne ?_ | refine zga ?_ | refine zxa ?_ | refine zca ?_ | refine zcb ?_ | refine zgb ?_ | refine zgc ?_ | refine zgd1 ?_ | refine zge ?_ | refine zgf ?_ | refine zgg ?_ | refine zgh ?_ | refine zgi ?_ | refine zgj ?_ | refine zgk ?_ | refine max2m ?_ | refine min2m ?_ | refine eqStr ?_ | refine neqStr ?_ | refine eqSlNil ?_ | refine neqSlNil ?_ | refine eqBool ?_ | refine neqBool ?_ | refine capSlice ?_ | refine zgl ?_ | refine zgm ?_ | refine zgn ?_ | refine zgo ?_ | refine zba ?_ | refine zbb ?_ | refine zbc ?_ | refine zbd ?_ | refine zbe ?_ | refine zbf ?_ | refine zia ?_ | refine zib ?_ | refine zic ?_ | refine zid1 ?_ | refine zie ?_ | refine zif1 ?_ | refine zig ?_ | refine zih ?_ | refine lint_u8_mod ?_ | refine lint_u32_mod ?_ | refine zii ?_ | refine zij ?_ | refine zua ?_ | refine zgs ?_ | refine zgu ?_ | refine eqMapNil ?_ | refine neqMapNil ?_ | refine LRes.mk ?_ | refine LIn.step ?_ | refine zdr ?_ | refine zna (fun _ => ?_) | refine znb (fun _ => ?_) | refine znc (fun _ => ?_) | refine newSlice0 (fun _ => ?_) | refine newMap (fun _ => ?_)))
  refine convBS tab (xs := b2.take n) (h1.rd.there.take n) htl rfl rfl rfl ?_
  repeat ((conv => whnf); (first | refine ztx ?_ | refine LNext.nilr ?_ | refine zne ?_ | refine zga ?_ | refine zxa ?_ | refine zca ?_ | refine zcb ?_ | refine zgb ?_ | refine zgc ?_ | refine zgd1 ?_ | refine zge ?_ | refine zgf ?_ | refine zgg ?_ | refine zgh ?_ | refine zgi ?_ | refine zgj ?_ | refine zgk ?_ | refine max2m ?_ | refine min2m ?_ | refine eqStr ?_ | refine neqStr ?_ | refine eqSlNil ?_ | refine neqSlNil ?_ | refine eqBool ?_ | refine neqBool ?_ | refine capSlice ?_ | refine zgl ?_ | refine zgm ?_ | refine zgn ?_ | refine zgo ?_ | refine zba ?_ | refine zbb ?_ | refine zbc ?_ | refine zbd ?_ | refine zbe ?_ | refine zbf ?_ | refine zia ?_ | refine zib ?_ | refine zic ?_ | refine zid1 ?_ | refine zie ?_ | refine zif1 ?_ | refine zig ?_ | refine zih ?_ | refine lint_u8_mod ?_ | refine lint_u32_mod ?_ | refine zii ?_ | refine zij ?_ | refine zua ?_ | refine zgs ?_ | refine zgu ?_ | refine eqMapNil ?_ | refine neqMapNil ?_ | refine LRes.mk ?_ | refine LIn.step ?_ | refine zdr ?_ | refine zna (fun _ => ?_) | refine znb (fun _ => ?_) | refine znc (fun _ => ?_) | refine newSlice0 (fun _ => ?_) | refine newMap (fun _ => ?_)))
  refine sliceLo2 tab (lo := n) rfl rfl (by omega) ?_
  rw [hdl]
  repeat ((conv => whnf); (first | refine ztx ?_ | refine LNext.nilr ?_ | refine zne ?_ | refine zga ?_ | refine zxa ?_ | refine zca ?_ | refine zcb ?_ | refine zgb ?_ | refine zgc ?_ | refine zgd1 ?_ | refine zge ?_ | refine zgf ?_ | refine zgg ?_ | refine zgh ?_ | refine zgi ?_ | refine zgj ?_ | refine zgk ?_ | refine max2m ?_ | refine min2m ?_ | refine eqStr ?_ | refine neqStr ?_ | refine eqSlNil ?_ | refine neqSlNil ?_ | refine eqBool ?_ | refine neqBool ?_ | refine capSlice ?_ | refine zgl ?_ | refine zgm ?_ | refine zgn ?_ | refine zgo ?_ | refine zba ?_ | refine zbb ?_ | refine zbc ?_ | refine zbd ?_ | refine zbe ?_ | refine zbf ?_ | refine zia ?_ | refine zib ?_ | refine zic ?_ | refine zid1 ?_ | refine zie ?_ | refine zif1 ?_ | refine zig ?_ | refine zih ?_ | refine lint_u8_mod ?_ | refine lint_u32_mod ?_ | refine zii ?_ | refine zij ?_ | refine zua ?_ | refine zgs ?_ | refine zgu ?_ | refine eqMapNil ?_ | refine neqMapNil ?_ | refine LRes.mk ?_ | refine LIn.step ?_ | refine zdr ?_ | refine zna (fun _ => ?_) | refine znb (fun _ => ?_) | refine znc (fun _ => ?_) | refine newSlice0 (fun _ => ?_) | refine newMap (fun _ => ?_)))
  show Fin _ _ _; exact Fin.of (rc rb (offA a1 1 n c1) (c1 - n) (b2.drop n) bad2 :: M) zEn ⟨_, _, rfl, ho, by show (b2.take n).toArray.size ≤ _; rw [List.size_toArray, htl]; omega, rfl⟩
theorem cnt_ct (M : List As) (rb : Nat) (a : Option Addr) (cap : Nat) (bs : Bs) (bad : Bool) (h : RS M a cap bs) :
    Ctr Tryd.prog 78 #[.pointer (some ⟨rb, 0, none⟩)] (rc rb a cap bs bad :: M) (fun v M' => ∃ a' cap', v = .int .i64 ((cntP (bs, bad)).1 : Nat) ∧ RS M a' cap' (cntP (bs, bad)).2.1 ∧ M' = rc rb a' cap' (cntP (bs, bad)).2.1 (cntP (bs, bad)).2.2 :: M) := by
  refine ctr_of (Γ := tab) (vs := [_]) fn78 rfl ?_
  repeat ((conv => whnf); (first | refine ztx ?_ | refine LNext.nilr ?_ | refine zne ?_ | refine zga ?_ | refine zxa ?_ | refine zca ?_ | refine zcb ?_ | refine zgb ?_ | refine zgc ?_ | refine zgd1 ?_ | refine zge ?_ | refine zgf ?_ | refine zgg ?_ | refine zgh ?_ | refine zgi ?_ | refine zgj ?_ | refine zgk ?_ | refine max2m ?_ | refine min2m ?_ | refine eqStr ?_ | refine neqStr ?_ | refine eqSlNil ?_ | refine neqSlNil ?_ | refine eqBool ?_ | refine neqBool ?_ | refine capSlice ?_ | refine zgl ?_ | refine zgm ?_ | refine zgn ?_ | refine zgo ?_ | refine zba ?_ | refine zbb ?_ | refine zbc ?_ | refine zbd ?_ | refine zbe ?_ | refine zbf ?_ | refine zia ?_ | refine zib ?_ | refine zic ?_ | refine zid1 ?_ | refine zie ?_ | refine zif1 ?_ | refine zig ?_ | refine zih ?_ | refine lint_u8_mod ?_ | refine lint_u32_mod ?_ | refine zii ?_ | refine zij ?_ | refine zua ?_ | refine zgs ?_ | refine zgu ?_ | refine eqMapNil ?_ | refine neqMapNil ?_ | refine LRes.mk ?_ | refine LIn.step ?_ | refine zdr ?_ | refine zna (fun _ => ?_) | refine znb (fun _ => ?_) | refine znc (fun _ => ?_) | refine newSlice0 (fun _ => ?_) | refine newMap (fun _ => ?_)))
  refine call1 (num_ct M rb a cap bs bad h) zSp ?_
  rintro v M' ⟨a1, c1, rfl, h1, hM⟩
  subst hM
  unfold cntP
  generalize numP (bs, bad) = q at *
  obtain ⟨n, b2, bad2⟩ := q
  dsimp only at h1 ⊢
  by_cases z : 64 < n
  · rw [if_pos z]
    repeat ((conv => whnf); (first | refine ztx ?_ | refine LNext.nilr ?_ | refine zne ?_ | refine zga ?_ | refine zxa ?_ | refine zca ?_ | refine zcb ?_ | refine zgb ?_ | refine zgc ?_ | refine zgd1 ?_ | refine zge ?_ | refine zgf ?_ | refine zgg ?_ | refine zgh ?_ | refine zgi ?_ | refine zgj ?_ | refine zgk ?_ | refine max2m ?_ | refine min2m ?_ | refine eqStr ?_ | refine neqStr ?_ | refine eqSlNil ?_ | refine neqSlNil ?_ | refine eqBool ?_ | refine neqBool ?_ | refine capSlice ?_ | refine zgl ?_ | refine zgm ?_ | refine zgn ?_ | refine zgo ?_ | refine zba ?_ | refine zbb ?_ | refine zbc ?_ | refine zbd ?_ | refine zbe ?_ | refine zbf ?_ | refine zia ?_ | refine zib ?_ | refine zic ?_ | refine zid1 ?_ | refine zie ?_ | refine zif1 ?_ | refine zig ?_ | refine zih ?_ | refine lint_u8_mod ?_ | refine lint_u32_mod ?_ | refine zii ?_ | refine zij ?_ | refine zua ?_ | refine zgs ?_ | refine zgu ?_ | refine eqMapNil ?_ | refine neqMapNil ?_ | refine LRes.mk ?_ | refine LIn.step ?_ | refine zdr ?_ | refine zna (fun _ => ?_) | refine znb (fun _ => ?_) | refine znc (fun _ => ?_) | refine newSlice0 (fun _ => ?_) | refine newMap (fun _ => ?_)))
    show Fin _ _ _; exact Fin.of (rc rb a1 c1 b2 true :: M) zEn ⟨a1, c1, rfl, h1, rfl⟩
  rw [if_neg z]
  repeat ((conv => whnf); (first | refine ztx ?_ | refine LNext.nilr ?_ | refine zne ?_ | refine zga ?_ | refine zxa ?_ | refine zca ?_ | refine zcb ?_ | refine zgb ?_ | refine zgc ?_ | refine zgd1 ?_ | refine zge ?_ | refine zgf ?_ | refine zgg ?_ | refine zgh ?_ | refine zgi ?_ | refine zgj ?_ | refine zgk ?_ | refine max2m ?_ | refine min2m ?_ | refine eqStr ?_ | refine neqStr ?_ | refine eqSlNil ?_ | refine neqSlNil ?_ | refine eqBool ?_ | refine neqBool ?_ | refine capSlice ?_ | refine zgl ?_ | refine zgm ?_ | refine zgn ?_ | refine zgo ?_ | refine zba ?_ | refine zbb ?_ | refine zbc ?_ | refine zbd ?_ | refine zbe ?_ | refine zbf ?_ | refine zia ?_ | refine zib ?_ | refine zic ?_ | refine zid1 ?_ | refine zie ?_ | refine zif1 ?_ | refine zig ?_ | refine zih ?_ | refine lint_u8_mod ?_ | refine lint_u32_mod ?_ | refine zii ?_ | refine zij ?_ | refine zua ?_ | refine zgs ?_ | refine zgu ?_ | refine eqMapNil ?_ | refine neqMapNil ?_ | refine LRes.mk ?_ | refine LIn.step ?_ | refine zdr ?_ | refine zna (fun _ => ?_) | refine znb (fun _ => ?_) | refine znc (fun _ => ?_) | refine newSlice0 (fun _ => ?_) | refine newMap (fun _ => ?_)))
  show Fin _ _ _; exact Fin.of (rc rb a1 c1 b2 bad2 :: M) zEn ⟨a1, c1, rfl, h1, rfl⟩
theorem vec_ct (M : List As) (rb : Nat) (a : Option Addr) (cap : Nat) (bs : Bs) (bad : Bool) (h : RS M a cap bs) :
    Ctr Tryd.prog 67 #[.pointer (some ⟨rb, 0, none⟩)] (rc rb a cap bs bad :: M) (fun v M' => ∃ a' cap', v = .agg (encV4 (vecP (bs, bad)).1).toArray ∧ RS M a' cap' (vecP (bs, bad)).2.1 ∧ M' = rc rb a' cap' (vecP (bs, bad)).2.1 (vecP (bs, bad)).2.2 :: M) := by
  refine ctr_of (Γ := tab) (vs := [_]) fn67 rfl ?_
  unfold vecP
  dsimp only
  repeat (first | ((conv => whnf); (first | refine ztx ?_ | refine LNext.nilr ?_ | refine zne ?_ | refine zga ?_ | refine zxa ?_ | refine zca ?_ | refine zcb ?_ | refine zgb ?_ | refine zgc ?_ | refine zgd1 ?_ | refine zge ?_ | refine zgf ?_ | refine zgg ?_ | refine zgh ?_ | refine zgi ?_ | refine zgj ?_ | refine zgk ?_ | refine max2m ?_ | refine min2m ?_ | refine eqStr ?_ | refine neqStr ?_ | refine eqSlNil ?_ | refine neqSlNil ?_ | refine eqBool ?_ | refine neqBool ?_ | refine capSlice ?_ | refine zgl ?_ | refine zgm ?_ | refine zgn ?_ | refine zgo ?_ | refine zba ?_ | refine zbb ?_ | refine zbc ?_ | refine zbd ?_ | refine zbe ?_ | refine zbf ?_ | refine zia ?_ | refine zib ?_ | refine zic ?_ | refine zid1 ?_ | refine zie ?_ | refine zif1 ?_ | refine zig ?_ | refine zih ?_ | refine lint_u8_mod ?_ | refine lint_u32_mod ?_ | refine zii ?_ | refine zij ?_ | refine zua ?_ | refine zgs ?_ | refine zgu ?_ | refine eqMapNil ?_ | refine neqMapNil ?_ | refine LRes.mk ?_ | refine LIn.step ?_ | refine zdr ?_ | refine zna (fun _ => ?_) | refine znb (fun _ => ?_) | refine znc (fun _ => ?_) | refine newSlice0 (fun _ => ?_) | refine newMap (fun _ => ?_))) | (show LLoop _ _ _ _ _ _; refine LLoop.unroll (Γ := tab) ?_))
  refine call1 (num_ct M rb a cap bs bad h) zSp ?_
  rintro v M' ⟨a1, c1, rfl, h1, hM⟩
  subst hM
  generalize numP (bs, bad) = q at *
  obtain ⟨n1, b1, d1⟩ := q
  dsimp only at h1 ⊢
  repeat (first | ((conv => whnf); (first | refine ztx ?_ | refine LNext.nilr ?_ | refine zne ?_ | refine zga ?_ | refine zxa ?_ | refine zca ?_ | refine zcb ?_ | refine zgb ?_ | refine zgc ?_ | refine zgd1 ?_ | refine zge ?_ | refine zgf ?_ | refine zgg ?_ | refine zgh ?_ | refine zgi ?_ | refine zgj ?_ | refine zgk ?_ | refine max2m ?_ | refine min2m ?_ | refine eqStr ?_ | refine neqStr ?_ | refine eqSlNil ?_ | refine neqSlNil ?_ | refine eqBool ?_ | refine neqBool ?_ | refine capSlice ?_ | refine zgl ?_ | refine zgm ?_ | refine zgn ?_ | refine zgo ?_ | refine zba ?_ | refine zbb ?_ | refine zbc ?_ | refine zbd ?_ | refine zbe ?_ | refine zbf ?_ | refine zia ?_ | refine zib ?_ | refine zic ?_ | refine zid1 ?_ | refine zie ?_ | refine zif1 ?_ | refine zig ?_ | refine zih ?_ | refine lint_u8_mod ?_ | refine lint_u32_mod ?_ | refine zii ?_ | refine zij ?_ | refine zua ?_ | refine zgs ?_ | refine zgu ?_ | refine eqMapNil ?_ | refine neqMapNil ?_ | refine LRes.mk ?_ | refine LIn.step ?_ | refine zdr ?_ | refine zna (fun _ => ?_) | refine znb (fun _ => ?_) | refine znc (fun _ => ?_) | refine newSlice0 (fun _ => ?_) | refine newMap (fun _ => ?_))) | (show LLoop _ _ _ _ _ _; refine LLoop.unroll (Γ := tab) ?_))
  refine call1 (num_ct M rb a1 c1 b1 d1 h1) zSp ?_
  rintro v M' ⟨a2, c2, rfl, h2, hM⟩
  subst hM
  generalize numP (b1, d1) = q at *
  obtain ⟨n2, b2, d2⟩ := q
  dsimp only at h2 ⊢
  repeat (first | ((conv => whnf); (first | refine ztx ?_ | refine LNext.nilr ?_ | refine zne ?_ | refine zga ?_ | refine zxa ?_ | refine zca ?_ | refine zcb ?_ | refine zgb ?_ | refine zgc ?_ | refine zgd1 ?_ | refine zge ?_ | refine zgf ?_ | refine zgg ?_ | refine zgh ?_ | refine zgi ?_ | refine zgj ?_ | refine zgk ?_ | refine max2m ?_ | refine min2m ?_ | refine eqStr ?_ | refine neqStr ?_ | refine eqSlNil ?_ | refine neqSlNil ?_ | refine eqBool ?_ | refine neqBool ?_ | refine capSlice ?_ | refine zgl ?_ | refine zgm ?_ | refine zgn ?_ | refine zgo ?_ | refine zba ?_ | refine zbb ?_ | refine zbc ?_ | refine zbd ?_ | refine zbe ?_ | refine zbf ?_ | refine zia ?_ | refine zib ?_ | refine zic ?_ | refine zid1 ?_ | refine zie ?_ | refine zif1 ?_ | refine zig ?_ | refine zih ?_ | refine lint_u8_mod ?_ | refine lint_u32_mod ?_ | refine zii ?_ | refine zij ?_ | refine zua ?_ | refine zgs ?_ | refine zgu ?_ | refine eqMapNil ?_ | refine neqMapNil ?_ | refine LRes.mk ?_ | refine LIn.step ?_ | refine zdr ?_ | refine zna (fun _ => ?_) | refine znb (fun _ => ?_) | refine znc (fun _ => ?_) | refine newSlice0 (fun _ => ?_) | refine newMap (fun _ => ?_))) | (show LLoop _ _ _ _ _ _; refine LLoop.unroll (Γ := tab) ?_))
  refine call1 (num_ct M rb a2 c2 b2 d2 h2) zSp ?_
  rintro v M' ⟨a3, c3, rfl, h3, hM⟩
  subst hM
  generalize numP (b2, d2) = q at *
  obtain ⟨n3, b3, d3⟩ := q
  dsimp only at h3 ⊢
  repeat (first | ((conv => whnf); (first | refine ztx ?_ | refine LNext.nilr ?_ | refine zne ?_ | refine zga ?_ | refine zxa ?_ | refine zca ?_ | refine zcb ?_ | refine zgb ?_ | refine zgc ?_ | refine zgd1 ?_ | refine zge ?_ | refine zgf ?_ | refine zgg ?_ | refine zgh ?_ | refine zgi ?_ | refine zgj ?_ | refine zgk ?_ | refine max2m ?_ | refine min2m ?_ | refine eqStr ?_ | refine neqStr ?_ | refine eqSlNil ?_ | refine neqSlNil ?_ | refine eqBool ?_ | refine neqBool ?_ | refine capSlice ?_ | refine zgl ?_ | refine zgm ?_ | refine zgn ?_ | refine zgo ?_ | refine zba ?_ | refine zbb ?_ | refine zbc ?_ | refine zbd ?_ | refine zbe ?_ | refine zbf ?_ | refine zia ?_ | refine zib ?_ | refine zic ?_ | refine zid1 ?_ | refine zie ?_ | refine zif1 ?_ | refine zig ?_ | refine zih ?_ | refine lint_u8_mod ?_ | refine lint_u32_mod ?_ | refine zii ?_ | refine zij ?_ | refine zua ?_ | refine zgs ?_ | refine zgu ?_ | refine eqMapNil ?_ | refine neqMapNil ?_ | refine LRes.mk ?_ | refine LIn.step ?_ | refine zdr ?_ | refine zna (fun _ => ?_) | refine znb (fun _ => ?_) | refine znc (fun _ => ?_) | refine newSlice0 (fun _ => ?_) | refine newMap (fun _ => ?_))) | (show LLoop _ _ _ _ _ _; refine LLoop.unroll (Γ := tab) ?_))
  refine call1 (num_ct M rb a3 c3 b3 d3 h3) zSp ?_
  rintro v M' ⟨a4, c4, rfl, h4, hM⟩
  subst hM
  generalize numP (b3, d3) = q at *
  obtain ⟨n4, b4, d4⟩ := q
  dsimp only at h4 ⊢
  repeat (first | ((conv => whnf); (first | refine ztx ?_ | refine LNext.nilr ?_ | refine zne ?_ | refine zga ?_ | refine zxa ?_ | refine zca ?_ | refine zcb ?_ | refine zgb ?_ | refine zgc ?_ | refine zgd1 ?_ | refine zge ?_ | refine zgf ?_ | refine zgg ?_ | refine zgh ?_ | refine zgi ?_ | refine zgj ?_ | refine zgk ?_ | refine max2m ?_ | refine min2m ?_ | refine eqStr ?_ | refine neqStr ?_ | refine eqSlNil ?_ | refine neqSlNil ?_ | refine eqBool ?_ | refine neqBool ?_ | refine capSlice ?_ | refine zgl ?_ | refine zgm ?_ | refine zgn ?_ | refine zgo ?_ | refine zba ?_ | refine zbb ?_ | refine zbc ?_ | refine zbd ?_ | refine zbe ?_ | refine zbf ?_ | refine zia ?_ | refine zib ?_ | refine zic ?_ | refine zid1 ?_ | refine zie ?_ | refine zif1 ?_ | refine zig ?_ | refine zih ?_ | refine lint_u8_mod ?_ | refine lint_u32_mod ?_ | refine zii ?_ | refine zij ?_ | refine zua ?_ | refine zgs ?_ | refine zgu ?_ | refine eqMapNil ?_ | refine neqMapNil ?_ | refine LRes.mk ?_ | refine LIn.step ?_ | refine zdr ?_ | refine zna (fun _ => ?_) | refine znb (fun _ => ?_) | refine znc (fun _ => ?_) | refine newSlice0 (fun _ => ?_) | refine newMap (fun _ => ?_))) | (show LLoop _ _ _ _ _ _; refine LLoop.unroll (Γ := tab) ?_))
  show Fin _ _ _; exact Fin.of (rc rb a4 c4 b4 d4 :: M) zEn ⟨a4, c4, rfl, h4, rfl⟩
end Go.Proofs.YtjmfnakplmmpnaaDoor
