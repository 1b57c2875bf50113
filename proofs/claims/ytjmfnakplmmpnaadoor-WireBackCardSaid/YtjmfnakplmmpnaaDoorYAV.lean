import Derived.Test.YtjmfnakplmmpnaaDoorYAU
import Derived.Shelf.Bytes.GrowSlice
import Derived.Ground.NamesProg
import Derived.Test.YtjmfnakplmmpnaaDoorProg
namespace Go.Proofs.YtjmfnakplmmpnaaDoor
open Go.Sl
set_option linter.unusedVariables false
set_option linter.unusedSimpArgs false
set_option maxRecDepth 100000
set_option maxHeartbeats 4000000
theorem or128 {n : Nat} : n % 256 ||| 128 = n % 128 + 128 := by
  have h : ∀ m, m < 256 → m ||| 128 = m % 128 + 128 := by decide +kernel
  rw [h (n % 256) (Nat.mod_lt _ (by decide))]
  omega
theorem sAppend_ct (a : Option Addr) (cap : Nat) (b0 : Bs) (n0 : Nat) (M : List As) (hn : n0 < 9223372036854775808) (hl : b0.length ≤ 1000000) :
    Ctr Tryd.prog 61 #[.slice a b0.length cap, .int .u64 n0] (BR a b0.length cap b0 :: M) (fun v M' => ∃ a' cap', v = .slice a' (b0 ++ seven n0).length cap' ∧ M' = BR a' (b0 ++ seven n0).length cap' (b0 ++ seven n0) :: M) := by
  refine ctr_of (Γ := tab) (vs := [_, _]) fn61 rfl ?_
  repeat ((conv => whnf); (first | refine ztx ?_ | refine LNext.nilr ?_ | refine zne ?_ | refine zga ?_ | refine zxa ?_ | refine zca ?_ | refine zcb ?_ | refine zgb ?_ | refine zgc ?_ | refine zgd1 ?_ | refine zge ?_ | refine zgf ?_ | refine zgg ?_ | refine zgh ?_ | refine zgi ?_ | refine zgj ?_ | refine zgk ?_ | refine max2m ?_ | refine min2m ?_ | refine eqStr ?_ | refine neqStr ?_ | refine eqSlNil ?_ | refine neqSlNil ?_ | refine eqBool ?_ | refine neqBool ?_ | refine capSlice ?_ | refine zgl ?_ | refine zgm ?_ | refine zgn ?_ | refine zgo ?_ | refine zba ?_ | refine zbb ?_ | refine zbc ?_ | refine zbd ?_ | refine zbe ?_ | refine zbf ?_ | refine zia ?_ | refine zib ?_ | refine zic ?_ | refine zid1 ?_ | refine zie ?_ | refine zif1 ?_ | refine zig ?_ | refine zih ?_ | refine lint_u8_mod ?_ | refine lint_u32_mod ?_ | refine zii ?_ | refine zij ?_ | refine zua ?_ | refine zgs ?_ | refine zgu ?_ | refine eqMapNil ?_ | refine neqMapNil ?_ | refine LRes.mk ?_ | refine LIn.step ?_ | refine zdr ?_ | refine zna (fun _ => ?_) | refine znb (fun _ => ?_) | refine znc (fun _ => ?_) | refine newSlice0 (fun _ => ?_) | refine newMap (fun _ => ?_)))
  refine LLoop.inv (Γ := tab) (fun x : Nat × Bs × Option Addr × Nat => [(0, .slice x.2.2.1 x.2.1.length x.2.2.2), (1, .int .u64 x.1)]) (fun x => BR x.2.2.1 x.2.1.length x.2.2.2 x.2.1 :: M) (fun x => x.1 ≤ n0 ∧ x.2.1 ++ seven x.1 = b0 ++ seven n0) (fun x => x.1) (n0, b0, a, cap) ⟨Nat.le_refl _, rfl⟩ zSu zEn ?_
  rintro ⟨n, b, a1, cap1⟩ ⟨hle, he⟩
  have h9 := seven_len hn
  have hlen := congrArg List.length he
  dsimp only at hle he hlen ⊢
  rw [List.length_append, List.length_append] at hlen
  by_cases h1 : n < 128
  · rw [seven_lt h1] at he
    have hu := u8_ofNat (n := n) (by omega)
    repeat ((conv => whnf); (first | refine ztx ?_ | refine LNext.nilr ?_ | refine zne ?_ | refine zga ?_ | refine zxa ?_ | refine zca ?_ | refine zcb ?_ | refine zgb ?_ | refine zgc ?_ | refine zgd1 ?_ | refine zge ?_ | refine zgf ?_ | refine zgg ?_ | refine zgh ?_ | refine zgi ?_ | refine zgj ?_ | refine zgk ?_ | refine max2m ?_ | refine min2m ?_ | refine eqStr ?_ | refine neqStr ?_ | refine eqSlNil ?_ | refine neqSlNil ?_ | refine eqBool ?_ | refine neqBool ?_ | refine capSlice ?_ | refine zgl ?_ | refine zgm ?_ | refine zgn ?_ | refine zgo ?_ | refine zba ?_ | refine zbb ?_ | refine zbc ?_ | refine zbd ?_ | refine zbe ?_ | refine zbf ?_ | refine zia ?_ | refine zib ?_ | refine zic ?_ | refine zid1 ?_ | refine zie ?_ | refine zif1 ?_ | refine zig ?_ | refine zih ?_ | refine lint_u8_mod ?_ | refine lint_u32_mod ?_ | refine zii ?_ | refine zij ?_ | refine zua ?_ | refine zgs ?_ | refine zgu ?_ | refine eqMapNil ?_ | refine neqMapNil ?_ | refine LRes.mk ?_ | refine LIn.step ?_ | refine zdr ?_ | refine zna (fun _ => ?_) | refine znb (fun _ => ?_) | refine znc (fun _ => ?_) | refine newSlice0 (fun _ => ?_) | refine newMap (fun _ => ?_)))
    refine appendE tab (enc := encU) (xs := b) [UInt8.ofNat n] zTk (by intro _; rfl) rfl rfl rfl rfl rfl (by rw [show List.flatMap encU [UInt8.ofNat n] = [Value.int .u8 (n : Int)] by simp [encU, hu]]; exact zCs) (by intro x hx; simp at hx; subst hx; rfl) (by simp only [maxLen]; omega) (by omega) (by omega) (fun g c => ?_)
    rw [show b.length + 1 = (b ++ [UInt8.ofNat n]).length by simp, he]
    repeat ((conv => whnf); (first | refine ztx ?_ | refine LNext.nilr ?_ | refine zne ?_ | refine zga ?_ | refine zxa ?_ | refine zca ?_ | refine zcb ?_ | refine zgb ?_ | refine zgc ?_ | refine zgd1 ?_ | refine zge ?_ | refine zgf ?_ | refine zgg ?_ | refine zgh ?_ | refine zgi ?_ | refine zgj ?_ | refine zgk ?_ | refine max2m ?_ | refine min2m ?_ | refine eqStr ?_ | refine neqStr ?_ | refine eqSlNil ?_ | refine neqSlNil ?_ | refine eqBool ?_ | refine neqBool ?_ | refine capSlice ?_ | refine zgl ?_ | refine zgm ?_ | refine zgn ?_ | refine zgo ?_ | refine zba ?_ | refine zbb ?_ | refine zbc ?_ | refine zbd ?_ | refine zbe ?_ | refine zbf ?_ | refine zia ?_ | refine zib ?_ | refine zic ?_ | refine zid1 ?_ | refine zie ?_ | refine zif1 ?_ | refine zig ?_ | refine zih ?_ | refine lint_u8_mod ?_ | refine lint_u32_mod ?_ | refine zii ?_ | refine zij ?_ | refine zua ?_ | refine zgs ?_ | refine zgu ?_ | refine eqMapNil ?_ | refine neqMapNil ?_ | refine LRes.mk ?_ | refine LIn.step ?_ | refine zdr ?_ | refine zna (fun _ => ?_) | refine znb (fun _ => ?_) | refine znc (fun _ => ?_) | refine newSlice0 (fun _ => ?_) | refine newMap (fun _ => ?_)))
    show Fin _ _ _; exact Fin.of (BR (some ⟨g, 0, none⟩) (b0 ++ seven n0).length c (b0 ++ seven n0) :: M) zEn ⟨_, _, rfl, rfl⟩
  · rw [seven_ge h1] at he
    have hu := u8_ofNat (n := n % 128 + 128) (by omega)
    repeat ((conv => whnf); (first | refine ztx ?_ | refine LNext.nilr ?_ | refine zne ?_ | refine zga ?_ | refine zxa ?_ | refine zca ?_ | refine zcb ?_ | refine zgb ?_ | refine zgc ?_ | refine zgd1 ?_ | refine zge ?_ | refine zgf ?_ | refine zgg ?_ | refine zgh ?_ | refine zgi ?_ | refine zgj ?_ | refine zgk ?_ | refine max2m ?_ | refine min2m ?_ | refine eqStr ?_ | refine neqStr ?_ | refine eqSlNil ?_ | refine neqSlNil ?_ | refine eqBool ?_ | refine neqBool ?_ | refine capSlice ?_ | refine zgl ?_ | refine zgm ?_ | refine zgn ?_ | refine zgo ?_ | refine zba ?_ | refine zbb ?_ | refine zbc ?_ | refine zbd ?_ | refine zbe ?_ | refine zbf ?_ | refine zia ?_ | refine zib ?_ | refine zic ?_ | refine zid1 ?_ | refine zie ?_ | refine zif1 ?_ | refine zig ?_ | refine zih ?_ | refine lint_u8_mod ?_ | refine lint_u32_mod ?_ | refine zii ?_ | refine zij ?_ | refine zua ?_ | refine zgs ?_ | refine zgu ?_ | refine eqMapNil ?_ | refine neqMapNil ?_ | refine LRes.mk ?_ | refine LIn.step ?_ | refine zdr ?_ | refine zna (fun _ => ?_) | refine znb (fun _ => ?_) | refine znc (fun _ => ?_) | refine newSlice0 (fun _ => ?_) | refine newMap (fun _ => ?_)))
    refine lor8 (a := n % 256) (b := 128) (by omega) (by decide) ?_
    rw [or128, ← hu]
    repeat ((conv => whnf); (first | refine ztx ?_ | refine LNext.nilr ?_ | refine zne ?_ | refine zga ?_ | refine zxa ?_ | refine zca ?_ | refine zcb ?_ | refine zgb ?_ | refine zgc ?_ | refine zgd1 ?_ | refine zge ?_ | refine zgf ?_ | refine zgg ?_ | refine zgh ?_ | refine zgi ?_ | refine zgj ?_ | refine zgk ?_ | refine max2m ?_ | refine min2m ?_ | refine eqStr ?_ | refine neqStr ?_ | refine eqSlNil ?_ | refine neqSlNil ?_ | refine eqBool ?_ | refine neqBool ?_ | refine capSlice ?_ | refine zgl ?_ | refine zgm ?_ | refine zgn ?_ | refine zgo ?_ | refine zba ?_ | refine zbb ?_ | refine zbc ?_ | refine zbd ?_ | refine zbe ?_ | refine zbf ?_ | refine zia ?_ | refine zib ?_ | refine zic ?_ | refine zid1 ?_ | refine zie ?_ | refine zif1 ?_ | refine zig ?_ | refine zih ?_ | refine lint_u8_mod ?_ | refine lint_u32_mod ?_ | refine zii ?_ | refine zij ?_ | refine zua ?_ | refine zgs ?_ | refine zgu ?_ | refine eqMapNil ?_ | refine neqMapNil ?_ | refine LRes.mk ?_ | refine LIn.step ?_ | refine zdr ?_ | refine zna (fun _ => ?_) | refine znb (fun _ => ?_) | refine znc (fun _ => ?_) | refine newSlice0 (fun _ => ?_) | refine newMap (fun _ => ?_)))
    refine appendE tab (enc := encU) (xs := b) ([UInt8.ofNat (n % 128 + 128)]) zTk (by intro _; rfl) rfl rfl rfl rfl rfl zCs (by intro x hx; simp at hx; subst hx; rfl) (by simp only [maxLen]; omega) (by omega) (by omega) (fun g c => ?_)
    rw [show b.length + 1 = (b ++ [UInt8.ofNat (n % 128 + 128)]).length by simp]
    repeat ((conv => whnf); (first | refine ztx ?_ | refine LNext.nilr ?_ | refine zne ?_ | refine zga ?_ | refine zxa ?_ | refine zca ?_ | refine zcb ?_ | refine zgb ?_ | refine zgc ?_ | refine zgd1 ?_ | refine zge ?_ | refine zgf ?_ | refine zgg ?_ | refine zgh ?_ | refine zgi ?_ | refine zgj ?_ | refine zgk ?_ | refine max2m ?_ | refine min2m ?_ | refine eqStr ?_ | refine neqStr ?_ | refine eqSlNil ?_ | refine neqSlNil ?_ | refine eqBool ?_ | refine neqBool ?_ | refine capSlice ?_ | refine zgl ?_ | refine zgm ?_ | refine zgn ?_ | refine zgo ?_ | refine zba ?_ | refine zbb ?_ | refine zbc ?_ | refine zbd ?_ | refine zbe ?_ | refine zbf ?_ | refine zia ?_ | refine zib ?_ | refine zic ?_ | refine zid1 ?_ | refine zie ?_ | refine zif1 ?_ | refine zig ?_ | refine zih ?_ | refine lint_u8_mod ?_ | refine lint_u32_mod ?_ | refine zii ?_ | refine zij ?_ | refine zua ?_ | refine zgs ?_ | refine zgu ?_ | refine eqMapNil ?_ | refine neqMapNil ?_ | refine LRes.mk ?_ | refine LIn.step ?_ | refine zdr ?_ | refine zna (fun _ => ?_) | refine znb (fun _ => ?_) | refine znc (fun _ => ?_) | refine newSlice0 (fun _ => ?_) | refine newMap (fun _ => ?_)))
    refine lshr 7 (by decide) ?_
    repeat ((conv => whnf); (first | refine ztx ?_ | refine LNext.nilr ?_ | refine zne ?_ | refine zga ?_ | refine zxa ?_ | refine zca ?_ | refine zcb ?_ | refine zgb ?_ | refine zgc ?_ | refine zgd1 ?_ | refine zge ?_ | refine zgf ?_ | refine zgg ?_ | refine zgh ?_ | refine zgi ?_ | refine zgj ?_ | refine zgk ?_ | refine max2m ?_ | refine min2m ?_ | refine eqStr ?_ | refine neqStr ?_ | refine eqSlNil ?_ | refine neqSlNil ?_ | refine eqBool ?_ | refine neqBool ?_ | refine capSlice ?_ | refine zgl ?_ | refine zgm ?_ | refine zgn ?_ | refine zgo ?_ | refine zba ?_ | refine zbb ?_ | refine zbc ?_ | refine zbd ?_ | refine zbe ?_ | refine zbf ?_ | refine zia ?_ | refine zib ?_ | refine zic ?_ | refine zid1 ?_ | refine zie ?_ | refine zif1 ?_ | refine zig ?_ | refine zih ?_ | refine lint_u8_mod ?_ | refine lint_u32_mod ?_ | refine zii ?_ | refine zij ?_ | refine zua ?_ | refine zgs ?_ | refine zgu ?_ | refine eqMapNil ?_ | refine neqMapNil ?_ | refine LRes.mk ?_ | refine LIn.step ?_ | refine zdr ?_ | refine zna (fun _ => ?_) | refine znb (fun _ => ?_) | refine znc (fun _ => ?_) | refine newSlice0 (fun _ => ?_) | refine newMap (fun _ => ?_)))
    exact ⟨(n / 128, b ++ [UInt8.ofNat (n % 128 + 128)], some ⟨g, 0, none⟩, c), ⟨by dsimp only; omega, by dsimp only; rw [← he]; simp⟩, by dsimp only; omega, zSu, zEn⟩
instance : Inhabited (SlV UInt8) := ⟨⟨none, 0, []⟩⟩
def encP (p : SlV UInt8) : List Value := [.slice p.a p.xs.length p.cap]
theorem sRead_ct (M : List As) (a : Option Addr) (cap : Nat) (b : Bs) (hr : RdH M a 1 encU b) (hl : b.length ≤ 9223372036854775807) :
    Ctr Tryd.prog 77 #[.slice a b.length cap] M (fun v M' => v = .tuple #[.int .u64 ((rdS b).1 : Nat), .int .i64 ((rdS b).2 : Nat)] ∧ M' = M) := by
  refine Ctr.rd (okg fn77) hr (fun rx => ?_)
  refine ctr_of (Γ := tab) (vs := [_]) fn77 rfl ?_
  repeat ((conv => whnf); (first | refine ztx ?_ | refine LNext.nilr ?_ | refine zne ?_ | refine zga ?_ | refine zxa ?_ | refine zca ?_ | refine zcb ?_ | refine zgb ?_ | refine zgc ?_ | refine zgd1 ?_ | refine zge ?_ | refine zgf ?_ | refine zgg ?_ | refine zgh ?_ | refine zgi ?_ | refine zgj ?_ | refine zgk ?_ | refine max2m ?_ | refine min2m ?_ | refine eqStr ?_ | refine neqStr ?_ | refine eqSlNil ?_ | refine neqSlNil ?_ | refine eqBool ?_ | refine neqBool ?_ | refine capSlice ?_ | refine zgl ?_ | refine zgm ?_ | refine zgn ?_ | refine zgo ?_ | refine zba ?_ | refine zbb ?_ | refine zbc ?_ | refine zbd ?_ | refine zbe ?_ | refine zbf ?_ | refine zia ?_ | refine zib ?_ | refine zic ?_ | refine zid1 ?_ | refine zie ?_ | refine zif1 ?_ | refine zig ?_ | refine zih ?_ | refine lint_u8_mod ?_ | refine lint_u32_mod ?_ | refine zii ?_ | refine zij ?_ | refine zua ?_ | refine zgs ?_ | refine zgu ?_ | refine eqMapNil ?_ | refine neqMapNil ?_ | refine LRes.mk ?_ | refine LIn.step ?_ | refine zdr ?_ | refine zna (fun _ => ?_) | refine znb (fun _ => ?_) | refine znc (fun _ => ?_) | refine newSlice0 (fun _ => ?_) | refine newMap (fun _ => ?_)))
  refine LLoop.inv (Γ := tab) (fun x : Nat × Nat => [(4, .int .u64 x.2), (7, .slice a b.length cap), (8, .int .i64 b.length), (9, .int .i64 x.1)]) (fun _ => M) (fun x => x.1 ≤ b.length ∧ x.1 ≤ 10 ∧ (x.1 ≤ 9 → x.2 < 2 ^ (7 * x.1)) ∧ rdS b = rdGo x.1 x.2 (b.drop x.1)) (fun x => b.length - x.1) (0, 0) ⟨Nat.zero_le _, by dsimp only; omega, fun _ => by decide, rfl⟩ zSu zEn ?_
  rintro ⟨i, n⟩ ⟨hi, hi10, hn, he⟩
  dsimp only at hi hi10 hn he ⊢
  by_cases h1 : i < b.length
  · obtain ⟨g, o, rfl, l⟩ := rx.get h1
    rw [gd_drop h1, rdGo] at he
    have hx := (gd b i).toNat_lt
    by_cases c1 : (i = 9 ∧ 1 < (gd b i).toNat) ∨ 9 < i
    · rw [if_pos c1] at he
      rw [he]
      by_cases c2 : i = 9
      · have c3 : 1 < (gd b i).toNat := by omega
        repeat ((conv => whnf); (first | refine ztx ?_ | refine LNext.nilr ?_ | refine zne ?_ | refine zga ?_ | refine zxa ?_ | refine zca ?_ | refine zcb ?_ | refine zgb ?_ | refine zgc ?_ | refine zgd1 ?_ | refine zge ?_ | refine zgf ?_ | refine zgg ?_ | refine zgh ?_ | refine zgi ?_ | refine zgj ?_ | refine zgk ?_ | refine max2m ?_ | refine min2m ?_ | refine eqStr ?_ | refine neqStr ?_ | refine eqSlNil ?_ | refine neqSlNil ?_ | refine eqBool ?_ | refine neqBool ?_ | refine capSlice ?_ | refine zgl ?_ | refine zgm ?_ | refine zgn ?_ | refine zgo ?_ | refine zba ?_ | refine zbb ?_ | refine zbc ?_ | refine zbd ?_ | refine zbe ?_ | refine zbf ?_ | refine zia ?_ | refine zib ?_ | refine zic ?_ | refine zid1 ?_ | refine zie ?_ | refine zif1 ?_ | refine zig ?_ | refine zih ?_ | refine lint_u8_mod ?_ | refine lint_u32_mod ?_ | refine zii ?_ | refine zij ?_ | refine zua ?_ | refine zgs ?_ | refine zgu ?_ | refine eqMapNil ?_ | refine neqMapNil ?_ | refine LRes.mk ?_ | refine LIn.step ?_ | refine zdr ?_ | refine zna (fun _ => ?_) | refine znb (fun _ => ?_) | refine znc (fun _ => ?_) | refine newSlice0 (fun _ => ?_) | refine newMap (fun _ => ?_)))
        show Fin _ _ _; exact Fin.of M zEn ⟨rfl, rfl⟩
      · repeat ((conv => whnf); (first | refine ztx ?_ | refine LNext.nilr ?_ | refine zne ?_ | refine zga ?_ | refine zxa ?_ | refine zca ?_ | refine zcb ?_ | refine zgb ?_ | refine zgc ?_ | refine zgd1 ?_ | refine zge ?_ | refine zgf ?_ | refine zgg ?_ | refine zgh ?_ | refine zgi ?_ | refine zgj ?_ | refine zgk ?_ | refine max2m ?_ | refine min2m ?_ | refine eqStr ?_ | refine neqStr ?_ | refine eqSlNil ?_ | refine neqSlNil ?_ | refine eqBool ?_ | refine neqBool ?_ | refine capSlice ?_ | refine zgl ?_ | refine zgm ?_ | refine zgn ?_ | refine zgo ?_ | refine zba ?_ | refine zbb ?_ | refine zbc ?_ | refine zbd ?_ | refine zbe ?_ | refine zbf ?_ | refine zia ?_ | refine zib ?_ | refine zic ?_ | refine zid1 ?_ | refine zie ?_ | refine zif1 ?_ | refine zig ?_ | refine zih ?_ | refine lint_u8_mod ?_ | refine lint_u32_mod ?_ | refine zii ?_ | refine zij ?_ | refine zua ?_ | refine zgs ?_ | refine zgu ?_ | refine eqMapNil ?_ | refine neqMapNil ?_ | refine LRes.mk ?_ | refine LIn.step ?_ | refine zdr ?_ | refine zna (fun _ => ?_) | refine znb (fun _ => ?_) | refine znc (fun _ => ?_) | refine newSlice0 (fun _ => ?_) | refine newMap (fun _ => ?_)))
        show Fin _ _ _; exact Fin.of M zEn ⟨rfl, rfl⟩
    · rw [if_neg c1] at he
      have hi9 : i ≤ 9 := by omega
      have hn' := hn hi9
      have hp : (128 : Nat) ^ i = 2 ^ (7 * i) := by rw [Nat.pow_mul]
      rw [hp] at he
      have ha : (gd b i).toNat &&& 127 = (gd b i).toNat % 128 := Nat.and_two_pow_sub_one_eq_mod _ 7
      have hxl : (gd b i).toNat % 128 < 128 := Nat.mod_lt _ (by decide)
      have h64 : (gd b i).toNat % 128 * 2 ^ (7 * i) < 18446744073709551616 := by
        by_cases c2 : i = 9
        · subst c2
          have : (gd b 9).toNat % 128 ≤ 1 := by omega
          have e : (2 : Nat) ^ (7 * 9) = 9223372036854775808 := by decide
          rw [e]; omega
        · have e1 : (2 : Nat) ^ (7 * i) ≤ 2 ^ 56 := Nat.pow_le_pow_right (by decide) (by omega)
          have e2 : (gd b i).toNat % 128 * 2 ^ (7 * i) ≤ 127 * 2 ^ 56 := Nat.mul_le_mul (by omega) e1
          omega
      have hn64 : n < 18446744073709551616 := by
        have e1 : (2 : Nat) ^ (7 * i) ≤ 2 ^ 63 := Nat.pow_le_pow_right (by decide) (by omega)
        omega
      have hstep : n ||| (gd b i).toNat % 128 * 2 ^ (7 * i) = n + (gd b i).toNat % 128 * 2 ^ (7 * i) := or_add _ hn'
      by_cases c2 : i = 9
      · have c3 : (gd b i).toNat ≤ 1 := by omega
        repeat ((conv => whnf); (first | refine ztx ?_ | refine zby8 ?_ | refine zby32 ?_ | refine zby64 ?_ | refine zbyi ?_ | refine LNext.nilr ?_ | refine zne ?_ | refine zga ?_ | refine zxa ?_ | refine zca ?_ | refine zcb ?_ | refine zgb ?_ | refine zgc ?_ | refine zgd1 ?_ | refine zge ?_ | refine zgf ?_ | refine zgg ?_ | refine zgh ?_ | refine zgi ?_ | refine zgj ?_ | refine zgk ?_ | refine max2m ?_ | refine min2m ?_ | refine eqStr ?_ | refine neqStr ?_ | refine eqSlNil ?_ | refine neqSlNil ?_ | refine eqBool ?_ | refine neqBool ?_ | refine capSlice ?_ | refine zgl ?_ | refine zgm ?_ | refine zgn ?_ | refine zgo ?_ | refine zba ?_ | refine zbb ?_ | refine zbc ?_ | refine zbd ?_ | refine zbe ?_ | refine zbf ?_ | refine zia ?_ | refine zib ?_ | refine zic ?_ | refine zid1 ?_ | refine zie ?_ | refine zif1 ?_ | refine zig ?_ | refine zih ?_ | refine lint_u8_mod ?_ | refine lint_u32_mod ?_ | refine zii ?_ | refine zij ?_ | refine zua ?_ | refine zgs ?_ | refine zgu ?_ | refine eqMapNil ?_ | refine neqMapNil ?_ | refine LRes.mk ?_ | refine LIn.step ?_ | refine zdr ?_ | refine zna (fun _ => ?_) | refine znb (fun _ => ?_) | refine znc (fun _ => ?_) | refine newSlice0 (fun _ => ?_) | refine newMap (fun _ => ?_)))
        refine land8 (a := (gd b i).toNat) (b := 127) (by omega) (by decide) ?_
        rw [ha]
        repeat ((conv => whnf); (first | refine ztx ?_ | refine LNext.nilr ?_ | refine zne ?_ | refine zga ?_ | refine zxa ?_ | refine zca ?_ | refine zcb ?_ | refine zgb ?_ | refine zgc ?_ | refine zgd1 ?_ | refine zge ?_ | refine zgf ?_ | refine zgg ?_ | refine zgh ?_ | refine zgi ?_ | refine zgj ?_ | refine zgk ?_ | refine max2m ?_ | refine min2m ?_ | refine eqStr ?_ | refine neqStr ?_ | refine eqSlNil ?_ | refine neqSlNil ?_ | refine eqBool ?_ | refine neqBool ?_ | refine capSlice ?_ | refine zgl ?_ | refine zgm ?_ | refine zgn ?_ | refine zgo ?_ | refine zba ?_ | refine zbb ?_ | refine zbc ?_ | refine zbd ?_ | refine zbe ?_ | refine zbf ?_ | refine zia ?_ | refine zib ?_ | refine zic ?_ | refine zid1 ?_ | refine zie ?_ | refine zif1 ?_ | refine zig ?_ | refine zih ?_ | refine lint_u8_mod ?_ | refine lint_u32_mod ?_ | refine zii ?_ | refine zij ?_ | refine zua ?_ | refine zgs ?_ | refine zgu ?_ | refine eqMapNil ?_ | refine neqMapNil ?_ | refine LRes.mk ?_ | refine LIn.step ?_ | refine zdr ?_ | refine zna (fun _ => ?_) | refine znb (fun _ => ?_) | refine znc (fun _ => ?_) | refine newSlice0 (fun _ => ?_) | refine newMap (fun _ => ?_)))
        refine zu64 ?_ (by omega)
        repeat ((conv => whnf); (first | refine ztx ?_ | refine LNext.nilr ?_ | refine zne ?_ | refine zga ?_ | refine zxa ?_ | refine zca ?_ | refine zcb ?_ | refine zgb ?_ | refine zgc ?_ | refine zgd1 ?_ | refine zge ?_ | refine zgf ?_ | refine zgg ?_ | refine zgh ?_ | refine zgi ?_ | refine zgj ?_ | refine zgk ?_ | refine max2m ?_ | refine min2m ?_ | refine eqStr ?_ | refine neqStr ?_ | refine eqSlNil ?_ | refine neqSlNil ?_ | refine eqBool ?_ | refine neqBool ?_ | refine capSlice ?_ | refine zgl ?_ | refine zgm ?_ | refine zgn ?_ | refine zgo ?_ | refine zba ?_ | refine zbb ?_ | refine zbc ?_ | refine zbd ?_ | refine zbe ?_ | refine zbf ?_ | refine zia ?_ | refine zib ?_ | refine zic ?_ | refine zid1 ?_ | refine zie ?_ | refine zif1 ?_ | refine zig ?_ | refine zih ?_ | refine lint_u8_mod ?_ | refine lint_u32_mod ?_ | refine zii ?_ | refine zij ?_ | refine zua ?_ | refine zgs ?_ | refine zgu ?_ | refine eqMapNil ?_ | refine neqMapNil ?_ | refine LRes.mk ?_ | refine LIn.step ?_ | refine zdr ?_ | refine zna (fun _ => ?_) | refine znb (fun _ => ?_) | refine znc (fun _ => ?_) | refine newSlice0 (fun _ => ?_) | refine newMap (fun _ => ?_)))
        refine zu64 ?_ (by omega)
        repeat ((conv => whnf); (first | refine ztx ?_ | refine LNext.nilr ?_ | refine zne ?_ | refine zga ?_ | refine zxa ?_ | refine zca ?_ | refine zcb ?_ | refine zgb ?_ | refine zgc ?_ | refine zgd1 ?_ | refine zge ?_ | refine zgf ?_ | refine zgg ?_ | refine zgh ?_ | refine zgi ?_ | refine zgj ?_ | refine zgk ?_ | refine max2m ?_ | refine min2m ?_ | refine eqStr ?_ | refine neqStr ?_ | refine eqSlNil ?_ | refine neqSlNil ?_ | refine eqBool ?_ | refine neqBool ?_ | refine capSlice ?_ | refine zgl ?_ | refine zgm ?_ | refine zgn ?_ | refine zgo ?_ | refine zba ?_ | refine zbb ?_ | refine zbc ?_ | refine zbd ?_ | refine zbe ?_ | refine zbf ?_ | refine zia ?_ | refine zib ?_ | refine zic ?_ | refine zid1 ?_ | refine zie ?_ | refine zif1 ?_ | refine zig ?_ | refine zih ?_ | refine lint_u8_mod ?_ | refine lint_u32_mod ?_ | refine zii ?_ | refine zij ?_ | refine zua ?_ | refine zgs ?_ | refine zgu ?_ | refine eqMapNil ?_ | refine neqMapNil ?_ | refine LRes.mk ?_ | refine LIn.step ?_ | refine zdr ?_ | refine zna (fun _ => ?_) | refine znb (fun _ => ?_) | refine znc (fun _ => ?_) | refine newSlice0 (fun _ => ?_) | refine newMap (fun _ => ?_)))
        refine lint_u64 (m := ((7 * i : Nat) : Int)) (by omega) (by omega) ?_
        repeat ((conv => whnf); (first | refine ztx ?_ | refine LNext.nilr ?_ | refine zne ?_ | refine zga ?_ | refine zxa ?_ | refine zca ?_ | refine zcb ?_ | refine zgb ?_ | refine zgc ?_ | refine zgd1 ?_ | refine zge ?_ | refine zgf ?_ | refine zgg ?_ | refine zgh ?_ | refine zgi ?_ | refine zgj ?_ | refine zgk ?_ | refine max2m ?_ | refine min2m ?_ | refine eqStr ?_ | refine neqStr ?_ | refine eqSlNil ?_ | refine neqSlNil ?_ | refine eqBool ?_ | refine neqBool ?_ | refine capSlice ?_ | refine zgl ?_ | refine zgm ?_ | refine zgn ?_ | refine zgo ?_ | refine zba ?_ | refine zbb ?_ | refine zbc ?_ | refine zbd ?_ | refine zbe ?_ | refine zbf ?_ | refine zia ?_ | refine zib ?_ | refine zic ?_ | refine zid1 ?_ | refine zie ?_ | refine zif1 ?_ | refine zig ?_ | refine zih ?_ | refine lint_u8_mod ?_ | refine lint_u32_mod ?_ | refine zii ?_ | refine zij ?_ | refine zua ?_ | refine zgs ?_ | refine zgu ?_ | refine eqMapNil ?_ | refine neqMapNil ?_ | refine LRes.mk ?_ | refine LIn.step ?_ | refine zdr ?_ | refine zna (fun _ => ?_) | refine znb (fun _ => ?_) | refine znc (fun _ => ?_) | refine newSlice0 (fun _ => ?_) | refine newMap (fun _ => ?_)))
        refine lshl64 (a := (gd b i).toNat % 128) (7 * i) (by omega) h64 ?_
        repeat ((conv => whnf); (first | refine ztx ?_ | refine LNext.nilr ?_ | refine zne ?_ | refine zga ?_ | refine zxa ?_ | refine zca ?_ | refine zcb ?_ | refine zgb ?_ | refine zgc ?_ | refine zgd1 ?_ | refine zge ?_ | refine zgf ?_ | refine zgg ?_ | refine zgh ?_ | refine zgi ?_ | refine zgj ?_ | refine zgk ?_ | refine max2m ?_ | refine min2m ?_ | refine eqStr ?_ | refine neqStr ?_ | refine eqSlNil ?_ | refine neqSlNil ?_ | refine eqBool ?_ | refine neqBool ?_ | refine capSlice ?_ | refine zgl ?_ | refine zgm ?_ | refine zgn ?_ | refine zgo ?_ | refine zba ?_ | refine zbb ?_ | refine zbc ?_ | refine zbd ?_ | refine zbe ?_ | refine zbf ?_ | refine zia ?_ | refine zib ?_ | refine zic ?_ | refine zid1 ?_ | refine zie ?_ | refine zif1 ?_ | refine zig ?_ | refine zih ?_ | refine lint_u8_mod ?_ | refine lint_u32_mod ?_ | refine zii ?_ | refine zij ?_ | refine zua ?_ | refine zgs ?_ | refine zgu ?_ | refine eqMapNil ?_ | refine neqMapNil ?_ | refine LRes.mk ?_ | refine LIn.step ?_ | refine zdr ?_ | refine zna (fun _ => ?_) | refine znb (fun _ => ?_) | refine znc (fun _ => ?_) | refine newSlice0 (fun _ => ?_) | refine newMap (fun _ => ?_)))
        refine lor64 (a := n) (b := (gd b i).toNat % 128 * 2 ^ (7 * i)) (by omega) (by omega) ?_
        rw [hstep]
        by_cases c4 : (gd b i).toNat < 128
        · rw [if_pos c4] at he
          have hxm : (gd b i).toNat % 128 = (gd b i).toNat := Nat.mod_eq_of_lt c4
          rw [he, hxm]
          repeat ((conv => whnf); (first | refine ztx ?_ | refine LNext.nilr ?_ | refine zne ?_ | refine zga ?_ | refine zxa ?_ | refine zca ?_ | refine zcb ?_ | refine zgb ?_ | refine zgc ?_ | refine zgd1 ?_ | refine zge ?_ | refine zgf ?_ | refine zgg ?_ | refine zgh ?_ | refine zgi ?_ | refine zgj ?_ | refine zgk ?_ | refine max2m ?_ | refine min2m ?_ | refine eqStr ?_ | refine neqStr ?_ | refine eqSlNil ?_ | refine neqSlNil ?_ | refine eqBool ?_ | refine neqBool ?_ | refine capSlice ?_ | refine zgl ?_ | refine zgm ?_ | refine zgn ?_ | refine zgo ?_ | refine zba ?_ | refine zbb ?_ | refine zbc ?_ | refine zbd ?_ | refine zbe ?_ | refine zbf ?_ | refine zia ?_ | refine zib ?_ | refine zic ?_ | refine zid1 ?_ | refine zie ?_ | refine zif1 ?_ | refine zig ?_ | refine zih ?_ | refine lint_u8_mod ?_ | refine lint_u32_mod ?_ | refine zii ?_ | refine zij ?_ | refine zua ?_ | refine zgs ?_ | refine zgu ?_ | refine eqMapNil ?_ | refine neqMapNil ?_ | refine LRes.mk ?_ | refine LIn.step ?_ | refine zdr ?_ | refine zna (fun _ => ?_) | refine znb (fun _ => ?_) | refine znc (fun _ => ?_) | refine newSlice0 (fun _ => ?_) | refine newMap (fun _ => ?_)))
          show Fin _ _ _; exact Fin.of M zEn ⟨rfl, rfl⟩
        · omega
      · repeat ((conv => whnf); (first | refine ztx ?_ | refine zby8 ?_ | refine zby32 ?_ | refine zby64 ?_ | refine zbyi ?_ | refine LNext.nilr ?_ | refine zne ?_ | refine zga ?_ | refine zxa ?_ | refine zca ?_ | refine zcb ?_ | refine zgb ?_ | refine zgc ?_ | refine zgd1 ?_ | refine zge ?_ | refine zgf ?_ | refine zgg ?_ | refine zgh ?_ | refine zgi ?_ | refine zgj ?_ | refine zgk ?_ | refine max2m ?_ | refine min2m ?_ | refine eqStr ?_ | refine neqStr ?_ | refine eqSlNil ?_ | refine neqSlNil ?_ | refine eqBool ?_ | refine neqBool ?_ | refine capSlice ?_ | refine zgl ?_ | refine zgm ?_ | refine zgn ?_ | refine zgo ?_ | refine zba ?_ | refine zbb ?_ | refine zbc ?_ | refine zbd ?_ | refine zbe ?_ | refine zbf ?_ | refine zia ?_ | refine zib ?_ | refine zic ?_ | refine zid1 ?_ | refine zie ?_ | refine zif1 ?_ | refine zig ?_ | refine zih ?_ | refine lint_u8_mod ?_ | refine lint_u32_mod ?_ | refine zii ?_ | refine zij ?_ | refine zua ?_ | refine zgs ?_ | refine zgu ?_ | refine eqMapNil ?_ | refine neqMapNil ?_ | refine LRes.mk ?_ | refine LIn.step ?_ | refine zdr ?_ | refine zna (fun _ => ?_) | refine znb (fun _ => ?_) | refine znc (fun _ => ?_) | refine newSlice0 (fun _ => ?_) | refine newMap (fun _ => ?_)))
        refine land8 (a := (gd b i).toNat) (b := 127) (by omega) (by decide) ?_
        rw [ha]
        repeat ((conv => whnf); (first | refine ztx ?_ | refine LNext.nilr ?_ | refine zne ?_ | refine zga ?_ | refine zxa ?_ | refine zca ?_ | refine zcb ?_ | refine zgb ?_ | refine zgc ?_ | refine zgd1 ?_ | refine zge ?_ | refine zgf ?_ | refine zgg ?_ | refine zgh ?_ | refine zgi ?_ | refine zgj ?_ | refine zgk ?_ | refine max2m ?_ | refine min2m ?_ | refine eqStr ?_ | refine neqStr ?_ | refine eqSlNil ?_ | refine neqSlNil ?_ | refine eqBool ?_ | refine neqBool ?_ | refine capSlice ?_ | refine zgl ?_ | refine zgm ?_ | refine zgn ?_ | refine zgo ?_ | refine zba ?_ | refine zbb ?_ | refine zbc ?_ | refine zbd ?_ | refine zbe ?_ | refine zbf ?_ | refine zia ?_ | refine zib ?_ | refine zic ?_ | refine zid1 ?_ | refine zie ?_ | refine zif1 ?_ | refine zig ?_ | refine zih ?_ | refine lint_u8_mod ?_ | refine lint_u32_mod ?_ | refine zii ?_ | refine zij ?_ | refine zua ?_ | refine zgs ?_ | refine zgu ?_ | refine eqMapNil ?_ | refine neqMapNil ?_ | refine LRes.mk ?_ | refine LIn.step ?_ | refine zdr ?_ | refine zna (fun _ => ?_) | refine znb (fun _ => ?_) | refine znc (fun _ => ?_) | refine newSlice0 (fun _ => ?_) | refine newMap (fun _ => ?_)))
        refine zu64 ?_ (by omega)
        repeat ((conv => whnf); (first | refine ztx ?_ | refine LNext.nilr ?_ | refine zne ?_ | refine zga ?_ | refine zxa ?_ | refine zca ?_ | refine zcb ?_ | refine zgb ?_ | refine zgc ?_ | refine zgd1 ?_ | refine zge ?_ | refine zgf ?_ | refine zgg ?_ | refine zgh ?_ | refine zgi ?_ | refine zgj ?_ | refine zgk ?_ | refine max2m ?_ | refine min2m ?_ | refine eqStr ?_ | refine neqStr ?_ | refine eqSlNil ?_ | refine neqSlNil ?_ | refine eqBool ?_ | refine neqBool ?_ | refine capSlice ?_ | refine zgl ?_ | refine zgm ?_ | refine zgn ?_ | refine zgo ?_ | refine zba ?_ | refine zbb ?_ | refine zbc ?_ | refine zbd ?_ | refine zbe ?_ | refine zbf ?_ | refine zia ?_ | refine zib ?_ | refine zic ?_ | refine zid1 ?_ | refine zie ?_ | refine zif1 ?_ | refine zig ?_ | refine zih ?_ | refine lint_u8_mod ?_ | refine lint_u32_mod ?_ | refine zii ?_ | refine zij ?_ | refine zua ?_ | refine zgs ?_ | refine zgu ?_ | refine eqMapNil ?_ | refine neqMapNil ?_ | refine LRes.mk ?_ | refine LIn.step ?_ | refine zdr ?_ | refine zna (fun _ => ?_) | refine znb (fun _ => ?_) | refine znc (fun _ => ?_) | refine newSlice0 (fun _ => ?_) | refine newMap (fun _ => ?_)))
        refine zu64 ?_ (by omega)
        repeat ((conv => whnf); (first | refine ztx ?_ | refine LNext.nilr ?_ | refine zne ?_ | refine zga ?_ | refine zxa ?_ | refine zca ?_ | refine zcb ?_ | refine zgb ?_ | refine zgc ?_ | refine zgd1 ?_ | refine zge ?_ | refine zgf ?_ | refine zgg ?_ | refine zgh ?_ | refine zgi ?_ | refine zgj ?_ | refine zgk ?_ | refine max2m ?_ | refine min2m ?_ | refine eqStr ?_ | refine neqStr ?_ | refine eqSlNil ?_ | refine neqSlNil ?_ | refine eqBool ?_ | refine neqBool ?_ | refine capSlice ?_ | refine zgl ?_ | refine zgm ?_ | refine zgn ?_ | refine zgo ?_ | refine zba ?_ | refine zbb ?_ | refine zbc ?_ | refine zbd ?_ | refine zbe ?_ | refine zbf ?_ | refine zia ?_ | refine zib ?_ | refine zic ?_ | refine zid1 ?_ | refine zie ?_ | refine zif1 ?_ | refine zig ?_ | refine zih ?_ | refine lint_u8_mod ?_ | refine lint_u32_mod ?_ | refine zii ?_ | refine zij ?_ | refine zua ?_ | refine zgs ?_ | refine zgu ?_ | refine eqMapNil ?_ | refine neqMapNil ?_ | refine LRes.mk ?_ | refine LIn.step ?_ | refine zdr ?_ | refine zna (fun _ => ?_) | refine znb (fun _ => ?_) | refine znc (fun _ => ?_) | refine newSlice0 (fun _ => ?_) | refine newMap (fun _ => ?_)))
        refine lint_u64 (m := ((7 * i : Nat) : Int)) (by omega) (by omega) ?_
        repeat ((conv => whnf); (first | refine ztx ?_ | refine LNext.nilr ?_ | refine zne ?_ | refine zga ?_ | refine zxa ?_ | refine zca ?_ | refine zcb ?_ | refine zgb ?_ | refine zgc ?_ | refine zgd1 ?_ | refine zge ?_ | refine zgf ?_ | refine zgg ?_ | refine zgh ?_ | refine zgi ?_ | refine zgj ?_ | refine zgk ?_ | refine max2m ?_ | refine min2m ?_ | refine eqStr ?_ | refine neqStr ?_ | refine eqSlNil ?_ | refine neqSlNil ?_ | refine eqBool ?_ | refine neqBool ?_ | refine capSlice ?_ | refine zgl ?_ | refine zgm ?_ | refine zgn ?_ | refine zgo ?_ | refine zba ?_ | refine zbb ?_ | refine zbc ?_ | refine zbd ?_ | refine zbe ?_ | refine zbf ?_ | refine zia ?_ | refine zib ?_ | refine zic ?_ | refine zid1 ?_ | refine zie ?_ | refine zif1 ?_ | refine zig ?_ | refine zih ?_ | refine lint_u8_mod ?_ | refine lint_u32_mod ?_ | refine zii ?_ | refine zij ?_ | refine zua ?_ | refine zgs ?_ | refine zgu ?_ | refine eqMapNil ?_ | refine neqMapNil ?_ | refine LRes.mk ?_ | refine LIn.step ?_ | refine zdr ?_ | refine zna (fun _ => ?_) | refine znb (fun _ => ?_) | refine znc (fun _ => ?_) | refine newSlice0 (fun _ => ?_) | refine newMap (fun _ => ?_)))
        refine lshl64 (a := (gd b i).toNat % 128) (7 * i) (by omega) h64 ?_
        repeat ((conv => whnf); (first | refine ztx ?_ | refine LNext.nilr ?_ | refine zne ?_ | refine zga ?_ | refine zxa ?_ | refine zca ?_ | refine zcb ?_ | refine zgb ?_ | refine zgc ?_ | refine zgd1 ?_ | refine zge ?_ | refine zgf ?_ | refine zgg ?_ | refine zgh ?_ | refine zgi ?_ | refine zgj ?_ | refine zgk ?_ | refine max2m ?_ | refine min2m ?_ | refine eqStr ?_ | refine neqStr ?_ | refine eqSlNil ?_ | refine neqSlNil ?_ | refine eqBool ?_ | refine neqBool ?_ | refine capSlice ?_ | refine zgl ?_ | refine zgm ?_ | refine zgn ?_ | refine zgo ?_ | refine zba ?_ | refine zbb ?_ | refine zbc ?_ | refine zbd ?_ | refine zbe ?_ | refine zbf ?_ | refine zia ?_ | refine zib ?_ | refine zic ?_ | refine zid1 ?_ | refine zie ?_ | refine zif1 ?_ | refine zig ?_ | refine zih ?_ | refine lint_u8_mod ?_ | refine lint_u32_mod ?_ | refine zii ?_ | refine zij ?_ | refine zua ?_ | refine zgs ?_ | refine zgu ?_ | refine eqMapNil ?_ | refine neqMapNil ?_ | refine LRes.mk ?_ | refine LIn.step ?_ | refine zdr ?_ | refine zna (fun _ => ?_) | refine znb (fun _ => ?_) | refine znc (fun _ => ?_) | refine newSlice0 (fun _ => ?_) | refine newMap (fun _ => ?_)))
        refine lor64 (a := n) (b := (gd b i).toNat % 128 * 2 ^ (7 * i)) (by omega) (by omega) ?_
        rw [hstep]
        by_cases c4 : (gd b i).toNat < 128
        · rw [if_pos c4] at he
          have hxm : (gd b i).toNat % 128 = (gd b i).toNat := Nat.mod_eq_of_lt c4
          rw [he, hxm]
          repeat ((conv => whnf); (first | refine ztx ?_ | refine LNext.nilr ?_ | refine zne ?_ | refine zga ?_ | refine zxa ?_ | refine zca ?_ | refine zcb ?_ | refine zgb ?_ | refine zgc ?_ | refine zgd1 ?_ | refine zge ?_ | refine zgf ?_ | refine zgg ?_ | refine zgh ?_ | refine zgi ?_ | refine zgj ?_ | refine zgk ?_ | refine max2m ?_ | refine min2m ?_ | refine eqStr ?_ | refine neqStr ?_ | refine eqSlNil ?_ | refine neqSlNil ?_ | refine eqBool ?_ | refine neqBool ?_ | refine capSlice ?_ | refine zgl ?_ | refine zgm ?_ | refine zgn ?_ | refine zgo ?_ | refine zba ?_ | refine zbb ?_ | refine zbc ?_ | refine zbd ?_ | refine zbe ?_ | refine zbf ?_ | refine zia ?_ | refine zib ?_ | refine zic ?_ | refine zid1 ?_ | refine zie ?_ | refine zif1 ?_ | refine zig ?_ | refine zih ?_ | refine lint_u8_mod ?_ | refine lint_u32_mod ?_ | refine zii ?_ | refine zij ?_ | refine zua ?_ | refine zgs ?_ | refine zgu ?_ | refine eqMapNil ?_ | refine neqMapNil ?_ | refine LRes.mk ?_ | refine LIn.step ?_ | refine zdr ?_ | refine zna (fun _ => ?_) | refine znb (fun _ => ?_) | refine znc (fun _ => ?_) | refine newSlice0 (fun _ => ?_) | refine newMap (fun _ => ?_)))
          show Fin _ _ _; exact Fin.of M zEn ⟨rfl, rfl⟩
        · rw [if_neg c4] at he
          repeat ((conv => whnf); (first | refine ztx ?_ | refine LNext.nilr ?_ | refine zne ?_ | refine zga ?_ | refine zxa ?_ | refine zca ?_ | refine zcb ?_ | refine zgb ?_ | refine zgc ?_ | refine zgd1 ?_ | refine zge ?_ | refine zgf ?_ | refine zgg ?_ | refine zgh ?_ | refine zgi ?_ | refine zgj ?_ | refine zgk ?_ | refine max2m ?_ | refine min2m ?_ | refine eqStr ?_ | refine neqStr ?_ | refine eqSlNil ?_ | refine neqSlNil ?_ | refine eqBool ?_ | refine neqBool ?_ | refine capSlice ?_ | refine zgl ?_ | refine zgm ?_ | refine zgn ?_ | refine zgo ?_ | refine zba ?_ | refine zbb ?_ | refine zbc ?_ | refine zbd ?_ | refine zbe ?_ | refine zbf ?_ | refine zia ?_ | refine zib ?_ | refine zic ?_ | refine zid1 ?_ | refine zie ?_ | refine zif1 ?_ | refine zig ?_ | refine zih ?_ | refine lint_u8_mod ?_ | refine lint_u32_mod ?_ | refine zii ?_ | refine zij ?_ | refine zua ?_ | refine zgs ?_ | refine zgu ?_ | refine eqMapNil ?_ | refine neqMapNil ?_ | refine LRes.mk ?_ | refine LIn.step ?_ | refine zdr ?_ | refine zna (fun _ => ?_) | refine znb (fun _ => ?_) | refine znc (fun _ => ?_) | refine newSlice0 (fun _ => ?_) | refine newMap (fun _ => ?_)))
          refine ⟨(i + 1, n + (gd b i).toNat % 128 * 2 ^ (7 * i)), ⟨h1, by dsimp only; omega, fun h9 => ?_, he⟩, by dsimp only; omega, zSu, zEn⟩
          dsimp only at h9 ⊢
          have e1 : (2 : Nat) ^ (7 * (i + 1)) = 2 ^ (7 * i) * 128 := by rw [show 7 * (i + 1) = 7 * i + 7 by omega, Nat.pow_add]
          rw [e1]
          have e2 : (gd b i).toNat % 128 * 2 ^ (7 * i) ≤ 127 * 2 ^ (7 * i) := Nat.mul_le_mul_right _ (by omega)
          omega
  · have hd : b.drop i = [] := List.drop_of_length_le (by omega)
    rw [hd] at he
    rw [he]
    repeat ((conv => whnf); (first | refine ztx ?_ | refine LNext.nilr ?_ | refine zne ?_ | refine zga ?_ | refine zxa ?_ | refine zca ?_ | refine zcb ?_ | refine zgb ?_ | refine zgc ?_ | refine zgd1 ?_ | refine zge ?_ | refine zgf ?_ | refine zgg ?_ | refine zgh ?_ | refine zgi ?_ | refine zgj ?_ | refine zgk ?_ | refine max2m ?_ | refine min2m ?_ | refine eqStr ?_ | refine neqStr ?_ | refine eqSlNil ?_ | refine neqSlNil ?_ | refine eqBool ?_ | refine neqBool ?_ | refine capSlice ?_ | refine zgl ?_ | refine zgm ?_ | refine zgn ?_ | refine zgo ?_ | refine zba ?_ | refine zbb ?_ | refine zbc ?_ | refine zbd ?_ | refine zbe ?_ | refine zbf ?_ | refine zia ?_ | refine zib ?_ | refine zic ?_ | refine zid1 ?_ | refine zie ?_ | refine zif1 ?_ | refine zig ?_ | refine zih ?_ | refine lint_u8_mod ?_ | refine lint_u32_mod ?_ | refine zii ?_ | refine zij ?_ | refine zua ?_ | refine zgs ?_ | refine zgu ?_ | refine eqMapNil ?_ | refine neqMapNil ?_ | refine LRes.mk ?_ | refine LIn.step ?_ | refine zdr ?_ | refine zna (fun _ => ?_) | refine znb (fun _ => ?_) | refine znc (fun _ => ?_) | refine newSlice0 (fun _ => ?_) | refine newMap (fun _ => ?_)))
    show Fin _ _ _; exact Fin.of M zEn ⟨rfl, rfl⟩
end Go.Proofs.YtjmfnakplmmpnaaDoor

namespace Go.Proofs.YtjmfnakplmmpnaaDoor
open Go.Sl
set_option linter.unusedVariables false
set_option linter.unusedSimpArgs false
set_option maxRecDepth 100000
set_option maxHeartbeats 4000000
end Go.Proofs.YtjmfnakplmmpnaaDoor

namespace Go.Proofs.YtjmfnakplmmpnaaDoor
open Go.Sl
set_option linter.unusedVariables false
set_option linter.unusedSimpArgs false
set_option maxRecDepth 100000
set_option maxHeartbeats 4000000
theorem LCallPure {P : Program} {f : FuncId} {args : Array Value} {M : List As} {k : Value → List As → Prop} {p : Prop} (hM : ∀ h, Stars M h → p) (h : p → LCall P f args M k) : LCall P f args M k := by
  by_cases hp : p
  · exact h hp
  · exact ⟨fun _ _ => False, fun F w st => absurd (hM _ (st.ent Ent.dropr)) hp, fun _ _ q => q.elim⟩
theorem LCallRow {P : Program} {α : Type} {enc : α → List Value} {E : TypeId} {sz : Nat} {f : FuncId} {args : Array Value} {M N : List As} {k : Value → List As → Prop} {a : Option Addr} {n cap : Nat} {xs : List α} (tk : Take M (ERow E sz enc a n cap xs) N) (h : RowHd a n cap xs → LCall P f args M k) : LCall P f args M k := LCallPure (fun k s => RowHd.of tk s) h
structure Pcs (M : List As) (a : Option Addr) (ps : List (SlV UInt8)) : Prop where
  rd : RdH M a 1 encP ps
  each : ∀ p ∈ ps, RdH M p.a 1 encU p.xs
  nil : ∀ p ∈ ps, p.a = none → p.xs.length = 0
  le : ∀ p ∈ ps, p.xs.length ≤ 9223372036854775807
theorem Pcs.there {M : List As} {y : As} {a : Option Addr} {ps : List (SlV UInt8)} (h : Pcs M a ps) : Pcs (y :: M) a ps := ⟨h.rd.there, fun p hp => (h.each p hp).there, h.nil, h.le⟩
theorem hd_nil0 {α : Type} {a : Option Addr} {n cap : Nat} {xs : List α} (r : RowHd a n cap xs) (h : a = none) : xs = [] := by
  have h1 := r.nil h
  have h2 := r.le
  have h3 := r.len
  exact List.eq_nil_of_length_eq_zero (by omega)
theorem ext3 {P : Program} {f : FuncId} {args : Array Value} {M : List As} {R : Value → List As → Prop} {k : Value → List As → Prop} (hs : Ctr P f args M R) (hR : ∀ v M', R v M' → ∃ X, M' = X ++ M ∧ k v X) : LExt P f args M k :=
  ⟨k, (hs.weaken (Ent.refl _) (fun v M' h => by obtain ⟨X, e, hk⟩ := hR v M' h; exact ⟨X, hk, e⟩)).to, fun _ _ h => h⟩
theorem Pcs.app {M N : List As} {a : Option Addr} {ps : List (SlV UInt8)} (h : Pcs M a ps) : Pcs (M ++ N) a ps := ⟨h.rd.app, fun p hp => (h.each p hp).app, h.nil, h.le⟩
section
variable {P : Program} {α : Type} {enc : α → List Value} {E : TypeId} {sz : Nat}
end
end Go.Proofs.YtjmfnakplmmpnaaDoor

namespace Go.Proofs.YtjmfnakplmmpnaaDoor
open Go.Sl
set_option linter.unusedVariables false
set_option linter.unusedSimpArgs false
set_option maxRecDepth 100000
set_option maxHeartbeats 1000000
section
variable {P : Program} {M N : List As}
def conc : Option TypeDesc → Bool
  | some (.interface _) => false
  | some _ => true
  | none => false
theorem mkIface [Γ : Tab P] {t : TypeId} {v : Value} {k : Value → Prop} (hk : k (.iface t v)) (hu : conc (Γ.und t) = true := by rfl) : LGet P (Instr.makeInterface t v) M k :=
  ⟨.iface t v, fun w _ => by
    cases h : Γ.und t with
    | none => rw [h] at hu; cases hu
    | some d =>
      have h1 := Γ.und_ok _ _ h
      unfold Instr.makeInterface
      rw [Sem.run_bind, run_underlying h1]
      rw [h] at hu
      cases d <;> first | (cases hu; done) | rfl, hk⟩
theorem taYes [Γ : Tab P] {t xt : TypeId} {v : Value} {k : Value → Prop} (hk : k (.tuple #[v, .bool true])) (hu : conc (Γ.und t) = true := by rfl) : LGet P (Instr.typeAssert (.iface t v) xt t true) M k :=
  ⟨.tuple #[v, .bool true], fun w _ => by
    cases h : Γ.und t with
    | none => rw [h] at hu; cases hu
    | some d =>
      have h1 := Γ.und_ok _ _ h
      unfold Instr.typeAssert
      rw [Sem.run_bind, run_underlying h1]
      rw [h] at hu
      cases d <;> first | (cases hu; done) | simp, hk⟩
theorem taNo [Γ : Tab P] {t xt ta : TypeId} {v z : Value} {sz by' : Nat} {k : Value → Prop} (hk : k (.tuple #[z, .bool false])) (hne : Nat.beq t ta = false := by rfl) (hi : Γ.inf ta = some (z, sz, by') := by rfl) (hu : conc (Γ.und ta) = true := by rfl) : LGet P (Instr.typeAssert (.iface t v) xt ta true) M k :=
  ⟨.tuple #[z, .bool false], fun w _ => by
    have hne' : ¬ t = ta := fun e => by rw [e, Nat.beq_refl] at hne; cases hne
    have hz := zero_of Γ hi w
    cases h : Γ.und ta with
    | none => rw [h] at hu; cases hu
    | some d =>
      have h1 := Γ.und_ok _ _ h
      unfold Instr.typeAssert
      rw [Sem.run_bind, run_underlying h1]
      rw [h] at hu
      cases d <;> first | (cases hu; done) | simp [hne', hz], hk⟩
theorem taNil [Γ : Tab P] {xt ta : TypeId} {z : Value} {sz by' : Nat} {k : Value → Prop} (hk : k (.tuple #[z, .bool false])) (hi : Γ.inf ta = some (z, sz, by') := by rfl) (hu : conc (Γ.und ta) = true := by rfl) : LGet P (Instr.typeAssert .nilIface xt ta true) M k :=
  ⟨.tuple #[z, .bool false], fun w _ => by
    have hz := zero_of Γ hi w
    cases h : Γ.und ta with
    | none => rw [h] at hu; cases hu
    | some d =>
      have h1 := Γ.und_ok _ _ h
      unfold Instr.typeAssert
      rw [Sem.run_bind, run_underlying h1]
      rw [h] at hu
      cases d <;> first | (cases hu; done) | simp [hz], hk⟩
def methOf (P : Program) (t : TypeId) (m : String) : Option FuncId := match P.info? t with
  | some i => match i.methods.find? (·.name == m) with
    | some r => match r.func, r.path.toList with
      | some (f, false), [] => some f
      | _, _ => none
    | none => none
  | none => none
def notPtr : Option TypeDesc → Bool
  | some (.pointer _) => false
  | some _ => true
  | none => false
theorem invVal [Γ : Tab P] {t : TypeId} {v : Value} {m : String} {f : FuncId} {args : Array Value} {k : Value → List As → Prop} (hm : methOf P t m = some f) (hc : LCall P f (#[v] ++ args) M k) (hu : notPtr (Γ.und t) = true := by rfl) : LInv P (.iface t v) m args M k :=
  ⟨f, #[v] ++ args, (fun w => by
    cases h : Γ.und t with
    | none => rw [h] at hu; cases hu
    | some d =>
      have h1 := Γ.und_ok _ _ h
      rw [h] at hu
      unfold methOf at hm
      split at hm
      · rename_i i hi
        split at hm
        · rename_i r hr
          split at hm
          · rename_i f' hf hp
            injection hm with hm
            subst hm
            have hpe : r.path = #[] := by
              have := congrArg List.toArray hp
              simpa using this
            unfold callMethod
            rw [Sem.run_bind, run_program]
            simp only [Result.andThen_ok]
            obtain ⟨n, hn⟩ : ∃ n, P.types.size + Made.depth = n + 1 := ⟨P.types.size + Made.depth - 1, by
              have : 0 < Made.depth := by decide
              omega⟩
            rw [hn]
            rw [Sem.run_bind]
            have hmet : (method (n + 1) t v m).run P w = .ok (f', v) w := by
              unfold method
              simp [typeInfo, hi, hr, hp, follow, hf, receiverAt, run_underlying h1]
              cases d <;> first | (cases hu; done) | rfl | simp [Place.get]
            rw [hmet]
            rfl
          · cases hm
        · cases hm
      · cases hm), hc⟩
end
end Go.Proofs.YtjmfnakplmmpnaaDoor

namespace Go.Proofs.YtjmfnakplmmpnaaDoor
open Go.Sl
set_option linter.unusedVariables false
set_option linter.unusedSimpArgs false
set_option maxRecDepth 100000
set_option maxHeartbeats 1000000
theorem SameBytes_ct (M : List As) (a b : Option Addr) (ca cb : Nat) (xs ys : Bs) (hx : RdH M a 1 encU xs) (hy : RdH M b 1 encU ys) (hn : xs.length ≤ 9223372036854775807) (hm : ys.length ≤ 9223372036854775807) :
    Ctr Tryd.prog 18 #[.slice a xs.length ca, .slice b ys.length cb] M (fun v M' => v = .bool (decide (xs = ys)) ∧ M' = M) := by
  refine Ctr.rd (okg fn18) hx (fun rx => ?_)
  refine Ctr.rd (okg fn18) hy (fun ry => ?_)
  refine ctr_of (Γ := tab) (vs := [_, _]) fn18 rfl ?_
  by_cases hl : xs.length = ys.length
  · repeat ((conv => whnf); (first | refine ztx ?_ | refine LNext.nilr ?_ | refine zne ?_ | refine zga ?_ | refine zxa ?_ | refine zca ?_ | refine zcb ?_ | refine zgb ?_ | refine zgc ?_ | refine zgd1 ?_ | refine zge ?_ | refine zgf ?_ | refine zgg ?_ | refine zgh ?_ | refine zgi ?_ | refine zgj ?_ | refine zgk ?_ | refine max2m ?_ | refine min2m ?_ | refine eqStr ?_ | refine neqStr ?_ | refine eqSlNil ?_ | refine neqSlNil ?_ | refine eqBool ?_ | refine neqBool ?_ | refine capSlice ?_ | refine zgl ?_ | refine zgm ?_ | refine zgn ?_ | refine zgo ?_ | refine zba ?_ | refine zbb ?_ | refine zbc ?_ | refine zbd ?_ | refine zbe ?_ | refine zbf ?_ | refine zia ?_ | refine zib ?_ | refine zic ?_ | refine zid1 ?_ | refine zie ?_ | refine zif1 ?_ | refine zig ?_ | refine zih ?_ | refine lint_u8_mod ?_ | refine lint_u32_mod ?_ | refine zii ?_ | refine zij ?_ | refine zua ?_ | refine zgs ?_ | refine zgu ?_ | refine eqMapNil ?_ | refine neqMapNil ?_ | refine LRes.mk ?_ | refine LIn.step ?_ | refine zdr ?_ | refine zna (fun _ => ?_) | refine znb (fun _ => ?_) | refine znc (fun _ => ?_) | refine newSlice0 (fun _ => ?_) | refine newMap (fun _ => ?_)))
    refine LLoop.inv (Γ := tab) (fun i : Nat => [(0, .slice a xs.length ca), (1, .slice b ys.length cb), (5, .int .i64 i)]) (fun _ => M) (fun i => i ≤ xs.length ∧ ∀ j, j < i → gd xs j = gd ys j) (fun i => xs.length - i) 0 ⟨Nat.zero_le _, fun j hj => absurd hj (Nat.not_lt_zero _)⟩ zSu zEn ?_
    rintro i ⟨hi, hb⟩
    by_cases h1 : i < xs.length
    · obtain ⟨g, o, rfl, l1⟩ := rx.get h1
      obtain ⟨g', o', rfl, l2⟩ := ry.get (i := i) (by omega)
      by_cases he : gd xs i = gd ys i
      · have he' : (gd xs i).toNat = (gd ys i).toNat := by rw [he]
        repeat ((conv => whnf); (first | refine ztx ?_ | refine LNext.nilr ?_ | refine zne ?_ | refine zga ?_ | refine zxa ?_ | refine zca ?_ | refine zcb ?_ | refine zgb ?_ | refine zgc ?_ | refine zgd1 ?_ | refine zge ?_ | refine zgf ?_ | refine zgg ?_ | refine zgh ?_ | refine zgi ?_ | refine zgj ?_ | refine zgk ?_ | refine max2m ?_ | refine min2m ?_ | refine eqStr ?_ | refine neqStr ?_ | refine eqSlNil ?_ | refine neqSlNil ?_ | refine eqBool ?_ | refine neqBool ?_ | refine capSlice ?_ | refine zgl ?_ | refine zgm ?_ | refine zgn ?_ | refine zgo ?_ | refine zba ?_ | refine zbb ?_ | refine zbc ?_ | refine zbd ?_ | refine zbe ?_ | refine zbf ?_ | refine zia ?_ | refine zib ?_ | refine zic ?_ | refine zid1 ?_ | refine zie ?_ | refine zif1 ?_ | refine zig ?_ | refine zih ?_ | refine lint_u8_mod ?_ | refine lint_u32_mod ?_ | refine zii ?_ | refine zij ?_ | refine zua ?_ | refine zgs ?_ | refine zgu ?_ | refine eqMapNil ?_ | refine neqMapNil ?_ | refine LRes.mk ?_ | refine LIn.step ?_ | refine zdr ?_ | refine zna (fun _ => ?_) | refine znb (fun _ => ?_) | refine znc (fun _ => ?_) | refine newSlice0 (fun _ => ?_) | refine newMap (fun _ => ?_)))
        exact ⟨i + 1, ⟨h1, fun j hj => by
          by_cases q : j = i
          · subst q; exact he
          · exact hb j (by omega)⟩, by omega, zSu, zEn⟩
      · have he' : (gd xs i).toNat ≠ (gd ys i).toNat := fun q => he (UInt8.toNat_inj.1 q)
        repeat ((conv => whnf); (first | refine ztx ?_ | refine LNext.nilr ?_ | refine zne ?_ | refine zga ?_ | refine zxa ?_ | refine zca ?_ | refine zcb ?_ | refine zgb ?_ | refine zgc ?_ | refine zgd1 ?_ | refine zge ?_ | refine zgf ?_ | refine zgg ?_ | refine zgh ?_ | refine zgi ?_ | refine zgj ?_ | refine zgk ?_ | refine max2m ?_ | refine min2m ?_ | refine eqStr ?_ | refine neqStr ?_ | refine eqSlNil ?_ | refine neqSlNil ?_ | refine eqBool ?_ | refine neqBool ?_ | refine capSlice ?_ | refine zgl ?_ | refine zgm ?_ | refine zgn ?_ | refine zgo ?_ | refine zba ?_ | refine zbb ?_ | refine zbc ?_ | refine zbd ?_ | refine zbe ?_ | refine zbf ?_ | refine zia ?_ | refine zib ?_ | refine zic ?_ | refine zid1 ?_ | refine zie ?_ | refine zif1 ?_ | refine zig ?_ | refine zih ?_ | refine lint_u8_mod ?_ | refine lint_u32_mod ?_ | refine zii ?_ | refine zij ?_ | refine zua ?_ | refine zgs ?_ | refine zgu ?_ | refine eqMapNil ?_ | refine neqMapNil ?_ | refine LRes.mk ?_ | refine LIn.step ?_ | refine zdr ?_ | refine zna (fun _ => ?_) | refine znb (fun _ => ?_) | refine znc (fun _ => ?_) | refine newSlice0 (fun _ => ?_) | refine newMap (fun _ => ?_)))
        have hne : ¬ xs = ys := fun q => he (by rw [q])
        show Fin _ _ _; exact Fin.of M zEn ⟨by rw [decide_eq_false hne], rfl⟩
    · repeat ((conv => whnf); (first | refine ztx ?_ | refine LNext.nilr ?_ | refine zne ?_ | refine zga ?_ | refine zxa ?_ | refine zca ?_ | refine zcb ?_ | refine zgb ?_ | refine zgc ?_ | refine zgd1 ?_ | refine zge ?_ | refine zgf ?_ | refine zgg ?_ | refine zgh ?_ | refine zgi ?_ | refine zgj ?_ | refine zgk ?_ | refine max2m ?_ | refine min2m ?_ | refine eqStr ?_ | refine neqStr ?_ | refine eqSlNil ?_ | refine neqSlNil ?_ | refine eqBool ?_ | refine neqBool ?_ | refine capSlice ?_ | refine zgl ?_ | refine zgm ?_ | refine zgn ?_ | refine zgo ?_ | refine zba ?_ | refine zbb ?_ | refine zbc ?_ | refine zbd ?_ | refine zbe ?_ | refine zbf ?_ | refine zia ?_ | refine zib ?_ | refine zic ?_ | refine zid1 ?_ | refine zie ?_ | refine zif1 ?_ | refine zig ?_ | refine zih ?_ | refine lint_u8_mod ?_ | refine lint_u32_mod ?_ | refine zii ?_ | refine zij ?_ | refine zua ?_ | refine zgs ?_ | refine zgu ?_ | refine eqMapNil ?_ | refine neqMapNil ?_ | refine LRes.mk ?_ | refine LIn.step ?_ | refine zdr ?_ | refine zna (fun _ => ?_) | refine znb (fun _ => ?_) | refine znc (fun _ => ?_) | refine newSlice0 (fun _ => ?_) | refine newMap (fun _ => ?_)))
      have heq : xs = ys := gd_ext hl (fun k hk => hb k (by omega))
      show Fin _ _ _; exact Fin.of M zEn ⟨by rw [decide_eq_true heq], rfl⟩
  · repeat ((conv => whnf); (first | refine ztx ?_ | refine LNext.nilr ?_ | refine zne ?_ | refine zga ?_ | refine zxa ?_ | refine zca ?_ | refine zcb ?_ | refine zgb ?_ | refine zgc ?_ | refine zgd1 ?_ | refine zge ?_ | refine zgf ?_ | refine zgg ?_ | refine zgh ?_ | refine zgi ?_ | refine zgj ?_ | refine zgk ?_ | refine max2m ?_ | refine min2m ?_ | refine eqStr ?_ | refine neqStr ?_ | refine eqSlNil ?_ | refine neqSlNil ?_ | refine eqBool ?_ | refine neqBool ?_ | refine capSlice ?_ | refine zgl ?_ | refine zgm ?_ | refine zgn ?_ | refine zgo ?_ | refine zba ?_ | refine zbb ?_ | refine zbc ?_ | refine zbd ?_ | refine zbe ?_ | refine zbf ?_ | refine zia ?_ | refine zib ?_ | refine zic ?_ | refine zid1 ?_ | refine zie ?_ | refine zif1 ?_ | refine zig ?_ | refine zih ?_ | refine lint_u8_mod ?_ | refine lint_u32_mod ?_ | refine zii ?_ | refine zij ?_ | refine zua ?_ | refine zgs ?_ | refine zgu ?_ | refine eqMapNil ?_ | refine neqMapNil ?_ | refine LRes.mk ?_ | refine LIn.step ?_ | refine zdr ?_ | refine zna (fun _ => ?_) | refine znb (fun _ => ?_) | refine znc (fun _ => ?_) | refine newSlice0 (fun _ => ?_) | refine newMap (fun _ => ?_)))
    have hne : ¬ xs = ys := fun q => hl (by rw [q])
    show Fin _ _ _; exact Fin.of M zEn ⟨by rw [decide_eq_false hne], rfl⟩
section
variable {P : Program} {M N : List As}
theorem newMakeC (Γ : Tab P) {t el : TypeId} {n c : Nat} {z : Value} {sz by' : Nat} {k : Value → As → Prop} (hk : ∀ b, k (.slice (some ⟨b, 0, none⟩) n c) (Sl.pt b (.cells (sliceCells z.cells (c * sz)) el))) (hu : Γ.und t = some (.slice el)) (hi : Γ.inf el = some (z, sz, by')) (hnc : n ≤ c) (hn : c ≤ 9223372036854775807) (hb : by' * c ≤ 281474976710656) :
    LNew P (Instr.makeSlice t (.int .i64 n) (.int .i64 c)) k :=
  ⟨fun b => .slice (some ⟨b, 0, none⟩) n c, .cells (sliceCells z.cells (c * sz)) el, fun w => by
    have h1 := Γ.und_ok _ _ hu
    obtain ⟨i, hi1, hi2, hi3, hi4⟩ := Γ.inf_ok _ _ _ _ hi
    have hw : IntKind.i64.wrap (n : Int) = (n : Int) := IntWalk.i64_in _ (by omega)
    have hw2 : IntKind.i64.wrap (c : Int) = (c : Int) := IntWalk.i64_in _ (by omega)
    have hb' : ¬ ((by' : Int) * (c : Int) > 2 ^ 48) := by
      have : (by' : Int) * (c : Int) = ((by' * c : Nat) : Int) := by simp
      rw [this]; omega
    have hb3 : ¬ ((by' : Int) * (n : Int) > 2 ^ 48) := by
      have h9 : by' * n ≤ by' * c := Nat.mul_le_mul_left _ hnc
      have : (by' : Int) * (n : Int) = ((by' * n : Nat) : Int) := by simp
      rw [this]; omega
    unfold Instr.makeSlice
    have hneg : ¬ ((n : Int) < 0) := by omega
    have hneg2 : ¬ ((c : Int) < 0) := by omega
    have hlt : ¬ ((c : Int) < (n : Int)) := by omega
    have hb2 : ¬ (281474976710656 < (by' : Int) * (c : Int)) := by simpa using hb'
    have hb4 : ¬ (281474976710656 < (by' : Int) * (n : Int)) := by simpa using hb3
    have hz : (zeroValue el).run P w = .ok z w := zero_of Γ hi w
    have hsz : (sizeOf el).run P w = .ok sz w := size_of Γ hi w
    by_cases h0 : c * sz = 0
    · simp [run_underlying h1, asInt, asIntOf, typeInfo, hi1, hi4, hw, hw2, hb', hb2, hb4, hneg, hneg2, hlt, hsz, h0, newRow, sliceCells]
      congr 2
      apply Array.ext'
      simp
    · simp [run_underlying h1, asInt, asIntOf, typeInfo, hi1, hi4, hw, hw2, hb', hb2, hb4, hneg, hneg2, hlt, hsz, h0, hz, newRow, ← sliceCells_eq], hk⟩
theorem Take.room {α : Type} {enc : α → List Value} {z : Array Value} {sz c b n : Nat} {E : TypeId} {M : List As} (x0 : α) (he : ∀ x, (enc x).length = sz) (hz : z.toList = enc x0) (hs : 0 < sz) (hc : c ≤ maxLen) (hn : n ≤ c) : Take (Sl.pt b (.cells (sliceCells z (c * sz)) E) :: M) (ERow E sz enc (some ⟨b, 0, none⟩) n c (List.replicate n x0)) M := ⟨by
  have h1 := (Take.made (E := E) (enc := enc) (z := z) (sz := sz) (n := c) (b := b) (M := M) x0 hz (he x0) hs hc).h
  have h2 := ERow.shrink (E := E) (sz := sz) (enc := enc) he (a := some ⟨b, 0, none⟩) (n := c) (m := n) (cap := c) (xs := List.replicate c x0) (M := M) hn
  rw [List.take_replicate, Nat.min_eq_left hn] at h2
  exact Ent.trans h1 h2⟩
variable {α : Type} {enc : α → List Value} {E : TypeId} {sz : Nat}
theorem storeEnd (Γ : Tab P) {t : TypeId} {g o n cap : Nat} {v z : Value} {by' : Nat} {xs : List α} {k : List As → Prop} (x : α) (tk : Take M (ERow E sz enc (some ⟨g, 0, none⟩) n cap xs) N) (he : ∀ x, (enc x).length = sz) (h2 : Γ.inf t = some (z, sz, by')) (ho : o = n * sz) (hle : n < cap) (hv : v.cells.toList = enc x) (h1 : (enc x).all Value.oneC = true)
    (hk : k (ERow E sz enc (some ⟨g, 0, none⟩) (n + 1) cap (xs ++ [x]) :: N)) : LRunU P (Instr.storeAt t (.pointer (some ⟨g, o, none⟩)) v) M k :=
  ⟨fun M' => M' = ERow E sz enc (some ⟨g, 0, none⟩) (n + 1) cap (xs ++ [x]) :: N, fun F w s => by
    have s1 := s.ent (Ent.app tk.h (Ent.refl F))
    obtain ⟨w', hr, hs', hn⟩ := writeEnd_sat (P := P) (ys := [x]) he (fun y hy => by rw [List.mem_singleton] at hy; rw [hy]; exact h1) (by simp; omega) s1
    refine ⟨w', _, ?_, rfl, hs', hn⟩
    subst ho
    have hsz : v.cells.size = sz := by rw [← Array.length_toList, hv, he]
    have e : List.flatMap enc [x] = v.cells.toList := by simp [hv]
    rw [e] at hr
    simp [Instr.storeAt, Instr.sureAddr, storeVar, size_of Γ h2, hsz, hr], fun M' e => e ▸ hk⟩
theorem copyEndS (Γ : Tab P) {T T' ty : TypeId} {z : Value} {bytes g o n cap dl dc : Nat} {s : ByteArray} {xs : List UInt8} {k : Value → List As → Prop} (tk : Take M (ERow E 1 encU (some ⟨g, 0, none⟩) n cap xs) N) (hu : Γ.und T = some (.slice E)) (hi : Γ.inf E = some (z, 1, bytes))
    (ho : o = n) (hmd : s.size ≤ dl) (hle : n + s.size ≤ cap)
    (hk : k (.int .i64 s.size) (ERow E 1 encU (some ⟨g, 0, none⟩) (n + s.size) cap (xs ++ s.data.toList) :: N)) :
    LRun P (Builtin.copy_ #[T, T'] ty #[.slice (some ⟨g, o, none⟩) dl dc, .string s]) M k :=
  ⟨fun v M' => v = .int .i64 s.size ∧ M' = ERow E 1 encU (some ⟨g, 0, none⟩) (n + s.size) cap (xs ++ s.data.toList) :: N, fun F w st => by
    have s1 := st.ent (Ent.app tk.h (Ent.refl F))
    have hl : s.data.toList.length = s.size := by rw [Array.length_toList]; rfl
    obtain ⟨w', hr, hs', hn⟩ := writeEnd_sat (P := P) (ys := s.data.toList) encU_len (fun y hy => rfl) (by omega) s1
    rw [hl] at hs'
    refine ⟨_, w', _, ?_, ⟨rfl, rfl⟩, hs', hn⟩
    have hu' := Γ.und_ok _ _ hu
    have hmin : Nat.min s.size dl = s.size := Nat.min_eq_left hmd
    subst ho
    rw [Nat.mul_one] at hr
    have hex : s.extract 0 s.size = s := by simp
    have hf : ((s.extract 0 s.size).data.map fun b : UInt8 => Value.int .u8 (b.toNat : Int)).toList = s.data.toList.flatMap encU := by
      rw [hex, Array.toList_map]
      induction s.data.toList with
      | nil => rfl
      | cons a l ih => rw [List.map_cons, List.flatMap_cons, ih]; rfl
    have hf2 : ((s.extract 0 s.size).data.map fun b : UInt8 => Value.int .u8 (b.toNat : Int)) = (s.data.toList.flatMap encU).toArray := by rw [← hf]
    simp [Builtin.copy_, run_underlying hu', Builtin.lenOf, size_of Γ hi, hmin, Builtin.firstCells, hr, goInt]
    have e5 : List.take s.size (List.map (fun b : UInt8 => Value.int .u8 (b.toNat : Int)) s.data.toList) = s.data.toList.flatMap encU := by
      rw [List.take_of_length_le (by rw [List.length_map]; omega)]
      induction s.data.toList with
      | nil => rfl
      | cons a l ih => rw [List.map_cons, List.flatMap_cons, ih]; rfl
    rw [e5, hr]
    rfl, fun v M' ⟨e1, e2⟩ => by subst e1; subst e2; exact hk⟩
end
end Go.Proofs.YtjmfnakplmmpnaaDoor

namespace Go.Proofs.YtjmfnakplmmpnaaDoor
open Go.Sl
set_option linter.unusedVariables false
set_option linter.unusedSimpArgs false
set_option maxRecDepth 100000
set_option maxHeartbeats 1000000
abbrev BufC (wb : Nat) (a : Option Addr) (n cap : Nat) (lr : Int) : As := pt wb (.cells #[.slice a n cap, .int .i64 0, .int .i8 lr] 97)
theorem Len_ct (wb : Nat) (a : Option Addr) (n cap : Nat) (lr : Int) (h : n ≤ 9223372036854775807) : Ctr Tryd.prog 74 #[.pointer (some ⟨wb, 0, none⟩)] [BufC wb a n cap lr] (fun v M' => v = .int .i64 n ∧ M' = [BufC wb a n cap lr]) := by
  refine ctr_of (Γ := tab) (vs := [_]) fn74 rfl ?_
  repeat ((conv => whnf); (first | refine ztx ?_ | refine LNext.nilr ?_ | refine zne ?_ | refine zga ?_ | refine zxa ?_ | refine zca ?_ | refine zcb ?_ | refine zgb ?_ | refine zgc ?_ | refine zgd1 ?_ | refine zge ?_ | refine zgf ?_ | refine zgg ?_ | refine zgh ?_ | refine zgi ?_ | refine zgj ?_ | refine zgk ?_ | refine max2m ?_ | refine min2m ?_ | refine eqStr ?_ | refine neqStr ?_ | refine eqSlNil ?_ | refine neqSlNil ?_ | refine eqBool ?_ | refine neqBool ?_ | refine capSlice ?_ | refine zgl ?_ | refine zgm ?_ | refine zgn ?_ | refine zgo ?_ | refine zba ?_ | refine zbb ?_ | refine zbc ?_ | refine zbd ?_ | refine zbe ?_ | refine zbf ?_ | refine zia ?_ | refine zib ?_ | refine zic ?_ | refine zid1 ?_ | refine zie ?_ | refine zif1 ?_ | refine zig ?_ | refine zih ?_ | refine lint_u8_mod ?_ | refine lint_u32_mod ?_ | refine zii ?_ | refine zij ?_ | refine zua ?_ | refine zgs ?_ | refine zgu ?_ | refine eqMapNil ?_ | refine neqMapNil ?_ | refine LRes.mk ?_ | refine LIn.step ?_ | refine zdr ?_ | refine zna (fun _ => ?_) | refine znb (fun _ => ?_) | refine znc (fun _ => ?_) | refine newSlice0 (fun _ => ?_) | refine newMap (fun _ => ?_)))
  show Fin _ _ _; exact Fin.of [BufC wb a n cap lr] zEn ⟨by simp [tupled], rfl⟩
theorem tryYes_ct (wb : Nat) (a : Option Addr) (n cap m : Nat) (lr : Int) (h : n + m ≤ cap) (hc : cap ≤ 9223372036854775807) : Ctr Tryd.prog 57 #[.pointer (some ⟨wb, 0, none⟩), .int .i64 m] [BufC wb a n cap lr] (fun v M' => v = .tuple #[.int .i64 n, .bool true] ∧ M' = [BufC wb a (n + m) cap lr]) := by
  refine ctr_of (Γ := tab) (vs := [_, _]) fn57 rfl ?_
  repeat ((conv => whnf); (first | refine ztx ?_ | refine LNext.nilr ?_ | refine zne ?_ | refine zga ?_ | refine zxa ?_ | refine zca ?_ | refine zcb ?_ | refine zgb ?_ | refine zgc ?_ | refine zgd1 ?_ | refine zge ?_ | refine zgf ?_ | refine zgg ?_ | refine zgh ?_ | refine zgi ?_ | refine zgj ?_ | refine zgk ?_ | refine max2m ?_ | refine min2m ?_ | refine eqStr ?_ | refine neqStr ?_ | refine eqSlNil ?_ | refine neqSlNil ?_ | refine eqBool ?_ | refine neqBool ?_ | refine capSlice ?_ | refine zgl ?_ | refine zgm ?_ | refine zgn ?_ | refine zgo ?_ | refine zba ?_ | refine zbb ?_ | refine zbc ?_ | refine zbd ?_ | refine zbe ?_ | refine zbf ?_ | refine zia ?_ | refine zib ?_ | refine zic ?_ | refine zid1 ?_ | refine zie ?_ | refine zif1 ?_ | refine zig ?_ | refine zih ?_ | refine lint_u8_mod ?_ | refine lint_u32_mod ?_ | refine zii ?_ | refine zij ?_ | refine zua ?_ | refine zgs ?_ | refine zgu ?_ | refine eqMapNil ?_ | refine neqMapNil ?_ | refine LRes.mk ?_ | refine LIn.step ?_ | refine zdr ?_ | refine zna (fun _ => ?_) | refine znb (fun _ => ?_) | refine znc (fun _ => ?_) | refine newSlice0 (fun _ => ?_) | refine newMap (fun _ => ?_)))
  refine sliceHi2 tab (hi := n + m) rfl rfl (fun _ _ => h) ?_
  repeat ((conv => whnf); (first | refine ztx ?_ | refine LNext.nilr ?_ | refine zne ?_ | refine zga ?_ | refine zxa ?_ | refine zca ?_ | refine zcb ?_ | refine zgb ?_ | refine zgc ?_ | refine zgd1 ?_ | refine zge ?_ | refine zgf ?_ | refine zgg ?_ | refine zgh ?_ | refine zgi ?_ | refine zgj ?_ | refine zgk ?_ | refine max2m ?_ | refine min2m ?_ | refine eqStr ?_ | refine neqStr ?_ | refine eqSlNil ?_ | refine neqSlNil ?_ | refine eqBool ?_ | refine neqBool ?_ | refine capSlice ?_ | refine zgl ?_ | refine zgm ?_ | refine zgn ?_ | refine zgo ?_ | refine zba ?_ | refine zbb ?_ | refine zbc ?_ | refine zbd ?_ | refine zbe ?_ | refine zbf ?_ | refine zia ?_ | refine zib ?_ | refine zic ?_ | refine zid1 ?_ | refine zie ?_ | refine zif1 ?_ | refine zig ?_ | refine zih ?_ | refine lint_u8_mod ?_ | refine lint_u32_mod ?_ | refine zii ?_ | refine zij ?_ | refine zua ?_ | refine zgs ?_ | refine zgu ?_ | refine eqMapNil ?_ | refine neqMapNil ?_ | refine LRes.mk ?_ | refine LIn.step ?_ | refine zdr ?_ | refine zna (fun _ => ?_) | refine znb (fun _ => ?_) | refine znc (fun _ => ?_) | refine newSlice0 (fun _ => ?_) | refine newMap (fun _ => ?_)))
  show Fin _ _ _; exact Fin.of [BufC wb a (n + m) cap lr] zEn ⟨rfl, rfl⟩
theorem tryNo_ct (wb : Nat) (a : Option Addr) (n cap m : Nat) (lr : Int) (h : cap < n + m) (hn : n ≤ cap) (hc : cap ≤ 9223372036854775807) : Ctr Tryd.prog 57 #[.pointer (some ⟨wb, 0, none⟩), .int .i64 m] [BufC wb a n cap lr] (fun v M' => v = .tuple #[.int .i64 0, .bool false] ∧ M' = [BufC wb a n cap lr]) := by
  refine ctr_of (Γ := tab) (vs := [_, _]) fn57 rfl ?_
  repeat ((conv => whnf); (first | refine ztx ?_ | refine LNext.nilr ?_ | refine zne ?_ | refine zga ?_ | refine zxa ?_ | refine zca ?_ | refine zcb ?_ | refine zgb ?_ | refine zgc ?_ | refine zgd1 ?_ | refine zge ?_ | refine zgf ?_ | refine zgg ?_ | refine zgh ?_ | refine zgi ?_ | refine zgj ?_ | refine zgk ?_ | refine max2m ?_ | refine min2m ?_ | refine eqStr ?_ | refine neqStr ?_ | refine eqSlNil ?_ | refine neqSlNil ?_ | refine eqBool ?_ | refine neqBool ?_ | refine capSlice ?_ | refine zgl ?_ | refine zgm ?_ | refine zgn ?_ | refine zgo ?_ | refine zba ?_ | refine zbb ?_ | refine zbc ?_ | refine zbd ?_ | refine zbe ?_ | refine zbf ?_ | refine zia ?_ | refine zib ?_ | refine zic ?_ | refine zid1 ?_ | refine zie ?_ | refine zif1 ?_ | refine zig ?_ | refine zih ?_ | refine lint_u8_mod ?_ | refine lint_u32_mod ?_ | refine zii ?_ | refine zij ?_ | refine zua ?_ | refine zgs ?_ | refine zgu ?_ | refine eqMapNil ?_ | refine neqMapNil ?_ | refine LRes.mk ?_ | refine LIn.step ?_ | refine zdr ?_ | refine zna (fun _ => ?_) | refine znb (fun _ => ?_) | refine znc (fun _ => ?_) | refine newSlice0 (fun _ => ?_) | refine newMap (fun _ => ?_)))
  show Fin _ _ _; exact Fin.of [BufC wb a n cap lr] zEn ⟨rfl, rfl⟩
theorem grow0_ct (wb m : Nat) (lr : Int) (h0 : 0 < m) (h : m ≤ 64) : Ctr Tryd.prog 58 #[.pointer (some ⟨wb, 0, none⟩), .int .i64 m] [BufC wb none 0 0 lr] (fun v M' => ∃ g, v = .int .i64 0 ∧ M' = [BufC wb (some ⟨g, 0, none⟩) m 64 lr, BR (some ⟨g, 0, none⟩) 0 64 []]) := by
  refine ctr_of (Γ := tab) (vs := [_, _]) fn58 rfl ?_
  repeat ((conv => whnf); (first | refine ztx ?_ | refine LNext.nilr ?_ | refine zne ?_ | refine zga ?_ | refine zxa ?_ | refine zca ?_ | refine zcb ?_ | refine zgb ?_ | refine zgc ?_ | refine zgd1 ?_ | refine zge ?_ | refine zgf ?_ | refine zgg ?_ | refine zgh ?_ | refine zgi ?_ | refine zgj ?_ | refine zgk ?_ | refine max2m ?_ | refine min2m ?_ | refine eqStr ?_ | refine neqStr ?_ | refine eqSlNil ?_ | refine neqSlNil ?_ | refine eqBool ?_ | refine neqBool ?_ | refine capSlice ?_ | refine zgl ?_ | refine zgm ?_ | refine zgn ?_ | refine zgo ?_ | refine zba ?_ | refine zbb ?_ | refine zbc ?_ | refine zbd ?_ | refine zbe ?_ | refine zbf ?_ | refine zia ?_ | refine zib ?_ | refine zic ?_ | refine zid1 ?_ | refine zie ?_ | refine zif1 ?_ | refine zig ?_ | refine zih ?_ | refine lint_u8_mod ?_ | refine lint_u32_mod ?_ | refine zii ?_ | refine zij ?_ | refine zua ?_ | refine zgs ?_ | refine zgu ?_ | refine eqMapNil ?_ | refine neqMapNil ?_ | refine LRes.mk ?_ | refine LIn.step ?_ | refine zdr ?_ | refine zna (fun _ => ?_) | refine znb (fun _ => ?_) | refine znc (fun _ => ?_) | refine newSlice0 (fun _ => ?_) | refine newMap (fun _ => ?_)))
  (first | refine call2 (Len_ct wb none 0 0 lr (by decide)) zSq ?_ | refine ext2 (Len_ct wb none 0 0 lr (by decide)) zSq ?_)
  rintro v rfl
  repeat ((conv => whnf); (first | refine ztx ?_ | refine LNext.nilr ?_ | refine zne ?_ | refine zga ?_ | refine zxa ?_ | refine zca ?_ | refine zcb ?_ | refine zgb ?_ | refine zgc ?_ | refine zgd1 ?_ | refine zge ?_ | refine zgf ?_ | refine zgg ?_ | refine zgh ?_ | refine zgi ?_ | refine zgj ?_ | refine zgk ?_ | refine max2m ?_ | refine min2m ?_ | refine eqStr ?_ | refine neqStr ?_ | refine eqSlNil ?_ | refine neqSlNil ?_ | refine eqBool ?_ | refine neqBool ?_ | refine capSlice ?_ | refine zgl ?_ | refine zgm ?_ | refine zgn ?_ | refine zgo ?_ | refine zba ?_ | refine zbb ?_ | refine zbc ?_ | refine zbd ?_ | refine zbe ?_ | refine zbf ?_ | refine zia ?_ | refine zib ?_ | refine zic ?_ | refine zid1 ?_ | refine zie ?_ | refine zif1 ?_ | refine zig ?_ | refine zih ?_ | refine lint_u8_mod ?_ | refine lint_u32_mod ?_ | refine zii ?_ | refine zij ?_ | refine zua ?_ | refine zgs ?_ | refine zgu ?_ | refine eqMapNil ?_ | refine neqMapNil ?_ | refine LRes.mk ?_ | refine LIn.step ?_ | refine zdr ?_ | refine zna (fun _ => ?_) | refine znb (fun _ => ?_) | refine znc (fun _ => ?_) | refine newSlice0 (fun _ => ?_) | refine newMap (fun _ => ?_)))
  (first | refine call2 (tryNo_ct wb none 0 0 m lr (by omega) (by decide) (by decide)) zSq ?_ | refine ext2 (tryNo_ct wb none 0 0 m lr (by omega) (by decide) (by decide)) zSq ?_)
  rintro v rfl
  repeat ((conv => whnf); (first | refine ztx ?_ | refine LNext.nilr ?_ | refine zne ?_ | refine zga ?_ | refine zxa ?_ | refine zca ?_ | refine zcb ?_ | refine zgb ?_ | refine zgc ?_ | refine zgd1 ?_ | refine zge ?_ | refine zgf ?_ | refine zgg ?_ | refine zgh ?_ | refine zgi ?_ | refine zgj ?_ | refine zgk ?_ | refine max2m ?_ | refine min2m ?_ | refine eqStr ?_ | refine neqStr ?_ | refine eqSlNil ?_ | refine neqSlNil ?_ | refine eqBool ?_ | refine neqBool ?_ | refine capSlice ?_ | refine zgl ?_ | refine zgm ?_ | refine zgn ?_ | refine zgo ?_ | refine zba ?_ | refine zbb ?_ | refine zbc ?_ | refine zbd ?_ | refine zbe ?_ | refine zbf ?_ | refine zia ?_ | refine zib ?_ | refine zic ?_ | refine zid1 ?_ | refine zie ?_ | refine zif1 ?_ | refine zig ?_ | refine zih ?_ | refine lint_u8_mod ?_ | refine lint_u32_mod ?_ | refine zii ?_ | refine zij ?_ | refine zua ?_ | refine zgs ?_ | refine zgu ?_ | refine eqMapNil ?_ | refine neqMapNil ?_ | refine LRes.mk ?_ | refine LIn.step ?_ | refine zdr ?_ | refine zna (fun _ => ?_) | refine znb (fun _ => ?_) | refine znc (fun _ => ?_) | refine newSlice0 (fun _ => ?_) | refine newMap (fun _ => ?_)))
  refine newMakeC tab (n := m) (c := 64) (fun g => ?_) (by rfl) (by rfl) h (by decide) (by decide)
  repeat ((conv => whnf); (first | refine ztx ?_ | refine LNext.nilr ?_ | refine zne ?_ | refine zga ?_ | refine zxa ?_ | refine zca ?_ | refine zcb ?_ | refine zgb ?_ | refine zgc ?_ | refine zgd1 ?_ | refine zge ?_ | refine zgf ?_ | refine zgg ?_ | refine zgh ?_ | refine zgi ?_ | refine zgj ?_ | refine zgk ?_ | refine max2m ?_ | refine min2m ?_ | refine eqStr ?_ | refine neqStr ?_ | refine eqSlNil ?_ | refine neqSlNil ?_ | refine eqBool ?_ | refine neqBool ?_ | refine capSlice ?_ | refine zgl ?_ | refine zgm ?_ | refine zgn ?_ | refine zgo ?_ | refine zba ?_ | refine zbb ?_ | refine zbc ?_ | refine zbd ?_ | refine zbe ?_ | refine zbf ?_ | refine zia ?_ | refine zib ?_ | refine zic ?_ | refine zid1 ?_ | refine zie ?_ | refine zif1 ?_ | refine zig ?_ | refine zih ?_ | refine lint_u8_mod ?_ | refine lint_u32_mod ?_ | refine zii ?_ | refine zij ?_ | refine zua ?_ | refine zgs ?_ | refine zgu ?_ | refine eqMapNil ?_ | refine neqMapNil ?_ | refine LRes.mk ?_ | refine LIn.step ?_ | refine zdr ?_ | refine zna (fun _ => ?_) | refine znb (fun _ => ?_) | refine znc (fun _ => ?_) | refine newSlice0 (fun _ => ?_) | refine newMap (fun _ => ?_)))
  show Fin _ _ _; exact Fin.of [BufC wb (some ⟨g, 0, none⟩) m 64 lr, BR (some ⟨g, 0, none⟩) 0 64 []] (Ent.trans zEn (Ent.cons _ (Take.room (E := 5) (enc := encU) (n := 0) (c := 64) (0 : UInt8) encU_len rfl (by decide) (by decide) (by decide)).h)) ⟨g, rfl, rfl⟩
end Go.Proofs.YtjmfnakplmmpnaaDoor

namespace Go.Proofs
open Go.Shelf
def Tryd.lay290_ren : Go.Shelf.Ren := ⟨fun | 290 => 76 | 324 => 79 | n => n, fun | 37 => 41 | 3 => 3 | 0 => 0 | 4 => 4 | 20 => 20 | 75 => 99 | 5 => 5 | 80 => 139 | 9 => 9 | n => n, fun | 14 => 0 | n => n⟩
theorem Tryd.lay290 : Go.Proofs.LaysM.n290 Tryd.prog Tryd.lay290_ren := {
  mixed := by kernel_rfl
  f290 := Tryd.func76.trans (congrArg some (by kernel_rfl))
  f324 := Tryd.func79.trans (congrArg some (by kernel_rfl))
  t0 := Tryd.underlying0
  a0 := Tryd.isAgg0
  z0 := Tryd.sizeOf0
  v0 := Tryd.zeroValue0
  t3 := Tryd.underlying3
  a3 := Tryd.isAgg3
  z3 := Tryd.sizeOf3
  v3 := Tryd.zeroValue3
  t4 := Tryd.underlying4
  a4 := Tryd.isAgg4
  z4 := Tryd.sizeOf4
  v4 := Tryd.zeroValue4
  t20 := Tryd.underlying20
  a20 := Tryd.isAgg20
  z20 := Tryd.sizeOf20
  v20 := Tryd.zeroValue20
  t37 := Tryd.underlying41
  a37 := Tryd.isAgg41
  z37 := Tryd.sizeOf41
  v37 := Tryd.zeroValue41
  t75 := Tryd.underlying99
  a75 := Tryd.isAgg99
  z75 := Tryd.sizeOf99
  v75 := Tryd.zeroValue99
  g14 := by kernel_rfl
  t5 := Tryd.underlying5
  a5 := Tryd.isAgg5
  z5 := Tryd.sizeOf5
  v5 := Tryd.zeroValue5
  t9 := Tryd.underlying9
  a9 := Tryd.isAgg9
  z9 := Tryd.sizeOf9
  v9 := Tryd.zeroValue9
  t80 := Tryd.underlying139
  a80 := Tryd.isAgg139
  z80 := Tryd.sizeOf139
  v80 := Tryd.zeroValue139
  i0 := by kernel_rfl
  i3 := by kernel_rfl
  i4 := by kernel_rfl
  i5 := by kernel_rfl
  i9 := by kernel_rfl
  i20 := by kernel_rfl
  i37 := by kernel_rfl
  i75 := by kernel_rfl
  i80 := by kernel_rfl
  m14 := by kernel_rfl }
end Go.Proofs

namespace Go.Proofs.YtjmfnakplmmpnaaDoor
open Go.Sl
set_option linter.unusedVariables false
set_option linter.unusedSimpArgs false
set_option maxRecDepth 100000
set_option maxHeartbeats 1000000
theorem growS_ct (M N : List As) (g n cap m : Nat) (bs : Bs) (tk : Take M (BR (some ⟨g, 0, none⟩) n cap bs) N) (h1 : n ≤ cap) (hm : 1 ≤ m) (hs : n + m ≤ 1000000) (hc : cap ≤ 1000000) (hl : bs.length = n) :
    Ctr Tryd.prog 76 #[.slice (some ⟨g, 0, none⟩) n cap, .int .i64 m] M (fun v M' => ∃ g' cap', v = .slice (some ⟨g', 0, none⟩) n cap' ∧ n + m ≤ cap' ∧ M' = BR (some ⟨g', 0, none⟩) n cap' bs :: M) :=
  ⟨okg fn76, fun F w s => by
    have s0 := s.ent (Ent.app tk.h (Ent.refl F))
    obtain ⟨k1, k2, d, l1, l2, r, sF⟩ := s0
    have hr := r.2
    rcases hr.2 with ⟨h0, _⟩ | ⟨g', cur, ha, hg, hnc, hcm, hcs, htake⟩
    · cases h0
    cases ha
    have hwg : w.heap[g]? = some (.cells cur 5 (0, 0)) := l1 _ _ hg
    have hone : ∀ v ∈ cur.toList.take n, v.oneCell' = true := fun v hv => by
      rw [Nat.mul_one] at htake
      rw [htake] at hv
      obtain ⟨x, _, hx⟩ := List.mem_flatMap.1 hv
      simp [encU] at hx
      subst hx
      exact oneC_ok rfl
    refine Calls.mono (Any.bytes_growSlice_row Tryd.lay290 g n cap m cur w hwg (by rw [hcs, Nat.mul_one]) h1 hm (by omega) (by omega) hone) ?_
    rintro e w' ⟨cap2, cells, rfl, q1, q2, q3, q4, q5, q6⟩
    have hown : w'.ownsRow w.heap.size 5 1 (.slice (some ⟨w.heap.size, 0, none⟩) n cap2) n (bs.flatMap encU) := by
      refine ⟨by rw [flat_len encU_len, hl], .inr ⟨w.heap.size, cap2, cells, rfl, Nat.le_refl _, q1, by omega, q5, by rw [q2, Nat.mul_one], ?_⟩⟩
      rw [Nat.mul_one] at htake ⊢
      rw [q3, htake]
    obtain ⟨a, c, hv, s3⟩ := Sat.newRow s q6 hown
    injection hv with e1 e2 e3
    subst e1; subst e3
    exact ⟨_, _, rfl, ⟨w.heap.size, cap2, rfl, q4, rfl⟩, s3.ent (Ent.head fun h r => ⟨hl, r⟩), ⟨q6.os, q6.tape, q6.output, q6.size⟩⟩⟩
theorem offA0 (g cap : Nat) : offA (some ⟨g, 0, none⟩) 1 0 cap = some ⟨g, 0, none⟩ := by
  unfold offA
  split <;> rfl
theorem grow1_ct (wb g n cap m : Nat) (lr : Int) (bs : Bs) (h1 : n ≤ cap) (h2 : cap < n + m) (hm : 1 ≤ m) (hs : n + m ≤ 1000000) (hl : bs.length = n) :
    Ctr Tryd.prog 58 #[.pointer (some ⟨wb, 0, none⟩), .int .i64 m] [BufC wb (some ⟨g, 0, none⟩) n cap lr, BR (some ⟨g, 0, none⟩) n cap bs] (fun v M' => ∃ g' cap', v = .int .i64 n ∧ n + m ≤ cap' ∧ M' = [BufC wb (some ⟨g', 0, none⟩) (n + m) cap' lr, BR (some ⟨g', 0, none⟩) n cap' bs]) := by
  refine ctr_of (Γ := tab) (vs := [_, _]) fn58 rfl ?_
  have hcq : ((n : Int) == 0) = decide (n = 0) := by
    by_cases h : n = 0
    · subst h; rfl
    · rw [decide_eq_false h]; simpa using h
  repeat ((conv => whnf); (first | refine ztx ?_ | refine LNext.nilr ?_ | refine zne ?_ | refine zga ?_ | refine zxa ?_ | refine zca ?_ | refine zcb ?_ | refine zgb ?_ | refine zgc ?_ | refine zgd1 ?_ | refine zge ?_ | refine zgf ?_ | refine zgg ?_ | refine zgh ?_ | refine zgi ?_ | refine zgj ?_ | refine zgk ?_ | refine max2m ?_ | refine min2m ?_ | refine eqStr ?_ | refine neqStr ?_ | refine eqSlNil ?_ | refine neqSlNil ?_ | refine eqBool ?_ | refine neqBool ?_ | refine capSlice ?_ | refine zgl ?_ | refine zgm ?_ | refine zgn ?_ | refine zgo ?_ | refine zba ?_ | refine zbb ?_ | refine zbc ?_ | refine zbd ?_ | refine zbe ?_ | refine zbf ?_ | refine zia ?_ | refine zib ?_ | refine zic ?_ | refine zid1 ?_ | refine zie ?_ | refine zif1 ?_ | refine zig ?_ | refine zih ?_ | refine lint_u8_mod ?_ | refine lint_u32_mod ?_ | refine zii ?_ | refine zij ?_ | refine zua ?_ | refine zgs ?_ | refine zgu ?_ | refine eqMapNil ?_ | refine neqMapNil ?_ | refine LRes.mk ?_ | refine LIn.step ?_ | refine zdr ?_ | refine zna (fun _ => ?_) | refine znb (fun _ => ?_) | refine znc (fun _ => ?_) | refine newSlice0 (fun _ => ?_) | refine newMap (fun _ => ?_)))
  (first | refine call2 (Len_ct wb (some ⟨g, 0, none⟩) n cap lr (by omega)) zSq ?_ | refine ext2 (Len_ct wb (some ⟨g, 0, none⟩) n cap lr (by omega)) zSq ?_)
  rintro v rfl
  by_cases h0 : n = 0
  · repeat ((conv => whnf); (first | refine ztx ?_ | refine LNext.nilr ?_ | refine zne ?_ | refine zga ?_ | refine zxa ?_ | refine zca ?_ | refine zcb ?_ | refine zgb ?_ | refine zgc ?_ | refine zgd1 ?_ | refine zge ?_ | refine zgf ?_ | refine zgg ?_ | refine zgh ?_ | refine zgi ?_ | refine zgj ?_ | refine zgk ?_ | refine max2m ?_ | refine min2m ?_ | refine eqStr ?_ | refine neqStr ?_ | refine eqSlNil ?_ | refine neqSlNil ?_ | refine eqBool ?_ | refine neqBool ?_ | refine capSlice ?_ | refine zgl ?_ | refine zgm ?_ | refine zgn ?_ | refine zgo ?_ | refine zba ?_ | refine zbb ?_ | refine zbc ?_ | refine zbd ?_ | refine zbe ?_ | refine zbf ?_ | refine zia ?_ | refine zib ?_ | refine zic ?_ | refine zid1 ?_ | refine zie ?_ | refine zif1 ?_ | refine zig ?_ | refine zih ?_ | refine lint_u8_mod ?_ | refine lint_u32_mod ?_ | refine zii ?_ | refine zij ?_ | refine zua ?_ | refine zgs ?_ | refine zgu ?_ | refine eqMapNil ?_ | refine neqMapNil ?_ | refine LRes.mk ?_ | refine LIn.step ?_ | refine zdr ?_ | refine zna (fun _ => ?_) | refine znb (fun _ => ?_) | refine znc (fun _ => ?_) | refine newSlice0 (fun _ => ?_) | refine newMap (fun _ => ?_)))
    (first | refine call2 (tryNo_ct wb (some ⟨g, 0, none⟩) n cap m lr h2 h1 (by omega)) zSq ?_ | refine ext2 (tryNo_ct wb (some ⟨g, 0, none⟩) n cap m lr h2 h1 (by omega)) zSq ?_)
    rintro v rfl
    repeat ((conv => whnf); (first | refine ztx ?_ | refine LNext.nilr ?_ | refine zne ?_ | refine zga ?_ | refine zxa ?_ | refine zca ?_ | refine zcb ?_ | refine zgb ?_ | refine zgc ?_ | refine zgd1 ?_ | refine zge ?_ | refine zgf ?_ | refine zgg ?_ | refine zgh ?_ | refine zgi ?_ | refine zgj ?_ | refine zgk ?_ | refine max2m ?_ | refine min2m ?_ | refine eqStr ?_ | refine neqStr ?_ | refine eqSlNil ?_ | refine neqSlNil ?_ | refine eqBool ?_ | refine neqBool ?_ | refine capSlice ?_ | refine zgl ?_ | refine zgm ?_ | refine zgn ?_ | refine zgo ?_ | refine zba ?_ | refine zbb ?_ | refine zbc ?_ | refine zbd ?_ | refine zbe ?_ | refine zbf ?_ | refine zia ?_ | refine zib ?_ | refine zic ?_ | refine zid1 ?_ | refine zie ?_ | refine zif1 ?_ | refine zig ?_ | refine zih ?_ | refine lint_u8_mod ?_ | refine lint_u32_mod ?_ | refine zii ?_ | refine zij ?_ | refine zua ?_ | refine zgs ?_ | refine zgu ?_ | refine eqMapNil ?_ | refine neqMapNil ?_ | refine LRes.mk ?_ | refine LIn.step ?_ | refine zdr ?_ | refine zna (fun _ => ?_) | refine znb (fun _ => ?_) | refine znc (fun _ => ?_) | refine newSlice0 (fun _ => ?_) | refine newMap (fun _ => ?_)))
    refine ldiv (cap / 2) (by decide) (tdiv_nat cap 2) (by omega) ?_
    repeat ((conv => whnf); (first | refine ztx ?_ | refine LNext.nilr ?_ | refine zne ?_ | refine zga ?_ | refine zxa ?_ | refine zca ?_ | refine zcb ?_ | refine zgb ?_ | refine zgc ?_ | refine zgd1 ?_ | refine zge ?_ | refine zgf ?_ | refine zgg ?_ | refine zgh ?_ | refine zgi ?_ | refine zgj ?_ | refine zgk ?_ | refine max2m ?_ | refine min2m ?_ | refine eqStr ?_ | refine neqStr ?_ | refine eqSlNil ?_ | refine neqSlNil ?_ | refine eqBool ?_ | refine neqBool ?_ | refine capSlice ?_ | refine zgl ?_ | refine zgm ?_ | refine zgn ?_ | refine zgo ?_ | refine zba ?_ | refine zbb ?_ | refine zbc ?_ | refine zbd ?_ | refine zbe ?_ | refine zbf ?_ | refine zia ?_ | refine zib ?_ | refine zic ?_ | refine zid1 ?_ | refine zie ?_ | refine zif1 ?_ | refine zig ?_ | refine zih ?_ | refine lint_u8_mod ?_ | refine lint_u32_mod ?_ | refine zii ?_ | refine zij ?_ | refine zua ?_ | refine zgs ?_ | refine zgu ?_ | refine eqMapNil ?_ | refine neqMapNil ?_ | refine LRes.mk ?_ | refine LIn.step ?_ | refine zdr ?_ | refine zna (fun _ => ?_) | refine znb (fun _ => ?_) | refine znc (fun _ => ?_) | refine newSlice0 (fun _ => ?_) | refine newMap (fun _ => ?_)))
    refine sliceLo2 tab (lo := 0) rfl rfl (Nat.zero_le _) ?_
    rw [offA0]
    repeat ((conv => whnf); (first | refine ztx ?_ | refine LNext.nilr ?_ | refine zne ?_ | refine zga ?_ | refine zxa ?_ | refine zca ?_ | refine zcb ?_ | refine zgb ?_ | refine zgc ?_ | refine zgd1 ?_ | refine zge ?_ | refine zgf ?_ | refine zgg ?_ | refine zgh ?_ | refine zgi ?_ | refine zgj ?_ | refine zgk ?_ | refine max2m ?_ | refine min2m ?_ | refine eqStr ?_ | refine neqStr ?_ | refine eqSlNil ?_ | refine neqSlNil ?_ | refine eqBool ?_ | refine neqBool ?_ | refine capSlice ?_ | refine zgl ?_ | refine zgm ?_ | refine zgn ?_ | refine zgo ?_ | refine zba ?_ | refine zbb ?_ | refine zbc ?_ | refine zbd ?_ | refine zbe ?_ | refine zbf ?_ | refine zia ?_ | refine zib ?_ | refine zic ?_ | refine zid1 ?_ | refine zie ?_ | refine zif1 ?_ | refine zig ?_ | refine zih ?_ | refine lint_u8_mod ?_ | refine lint_u32_mod ?_ | refine zii ?_ | refine zij ?_ | refine zua ?_ | refine zgs ?_ | refine zgu ?_ | refine eqMapNil ?_ | refine neqMapNil ?_ | refine LRes.mk ?_ | refine LIn.step ?_ | refine zdr ?_ | refine zna (fun _ => ?_) | refine znb (fun _ => ?_) | refine znc (fun _ => ?_) | refine newSlice0 (fun _ => ?_) | refine newMap (fun _ => ?_)))
    rw [Int.zero_add]
    refine ext3 (growS_ct _ _ g n cap m bs zTk h1 hm hs (by omega) hl) ?_
    rintro v M' ⟨g', cap', rfl, hcap, rfl⟩
    refine ⟨[BR (some ⟨g', 0, none⟩) n cap' bs], rfl, ?_⟩
    repeat ((conv => whnf); (first | refine ztx ?_ | refine LNext.nilr ?_ | refine zne ?_ | refine zga ?_ | refine zxa ?_ | refine zca ?_ | refine zcb ?_ | refine zgb ?_ | refine zgc ?_ | refine zgd1 ?_ | refine zge ?_ | refine zgf ?_ | refine zgg ?_ | refine zgh ?_ | refine zgi ?_ | refine zgj ?_ | refine zgk ?_ | refine max2m ?_ | refine min2m ?_ | refine eqStr ?_ | refine neqStr ?_ | refine eqSlNil ?_ | refine neqSlNil ?_ | refine eqBool ?_ | refine neqBool ?_ | refine capSlice ?_ | refine zgl ?_ | refine zgm ?_ | refine zgn ?_ | refine zgo ?_ | refine zba ?_ | refine zbb ?_ | refine zbc ?_ | refine zbd ?_ | refine zbe ?_ | refine zbf ?_ | refine zia ?_ | refine zib ?_ | refine zic ?_ | refine zid1 ?_ | refine zie ?_ | refine zif1 ?_ | refine zig ?_ | refine zih ?_ | refine lint_u8_mod ?_ | refine lint_u32_mod ?_ | refine zii ?_ | refine zij ?_ | refine zua ?_ | refine zgs ?_ | refine zgu ?_ | refine eqMapNil ?_ | refine neqMapNil ?_ | refine LRes.mk ?_ | refine LIn.step ?_ | refine zdr ?_ | refine zna (fun _ => ?_) | refine znb (fun _ => ?_) | refine znc (fun _ => ?_) | refine newSlice0 (fun _ => ?_) | refine newMap (fun _ => ?_)))
    refine sliceHi2 tab (hi := n + m) rfl rfl (fun _ _ => hcap) ?_
    repeat ((conv => whnf); (first | refine ztx ?_ | refine LNext.nilr ?_ | refine zne ?_ | refine zga ?_ | refine zxa ?_ | refine zca ?_ | refine zcb ?_ | refine zgb ?_ | refine zgc ?_ | refine zgd1 ?_ | refine zge ?_ | refine zgf ?_ | refine zgg ?_ | refine zgh ?_ | refine zgi ?_ | refine zgj ?_ | refine zgk ?_ | refine max2m ?_ | refine min2m ?_ | refine eqStr ?_ | refine neqStr ?_ | refine eqSlNil ?_ | refine neqSlNil ?_ | refine eqBool ?_ | refine neqBool ?_ | refine capSlice ?_ | refine zgl ?_ | refine zgm ?_ | refine zgn ?_ | refine zgo ?_ | refine zba ?_ | refine zbb ?_ | refine zbc ?_ | refine zbd ?_ | refine zbe ?_ | refine zbf ?_ | refine zia ?_ | refine zib ?_ | refine zic ?_ | refine zid1 ?_ | refine zie ?_ | refine zif1 ?_ | refine zig ?_ | refine zih ?_ | refine lint_u8_mod ?_ | refine lint_u32_mod ?_ | refine zii ?_ | refine zij ?_ | refine zua ?_ | refine zgs ?_ | refine zgu ?_ | refine eqMapNil ?_ | refine neqMapNil ?_ | refine LRes.mk ?_ | refine LIn.step ?_ | refine zdr ?_ | refine zna (fun _ => ?_) | refine znb (fun _ => ?_) | refine znc (fun _ => ?_) | refine newSlice0 (fun _ => ?_) | refine newMap (fun _ => ?_)))
    show Fin _ _ _; exact Fin.of [BufC wb (some ⟨g', 0, none⟩) (n + m) cap' lr, BR (some ⟨g', 0, none⟩) n cap' bs] zEn ⟨g', cap', rfl, hcap, rfl⟩
  · repeat ((conv => whnf); (first | refine ztx ?_ | refine LNext.nilr ?_ | refine zne ?_ | refine zga ?_ | refine zxa ?_ | refine zca ?_ | refine zcb ?_ | refine zgb ?_ | refine zgc ?_ | refine zgd1 ?_ | refine zge ?_ | refine zgf ?_ | refine zgg ?_ | refine zgh ?_ | refine zgi ?_ | refine zgj ?_ | refine zgk ?_ | refine max2m ?_ | refine min2m ?_ | refine eqStr ?_ | refine neqStr ?_ | refine eqSlNil ?_ | refine neqSlNil ?_ | refine eqBool ?_ | refine neqBool ?_ | refine capSlice ?_ | refine zgl ?_ | refine zgm ?_ | refine zgn ?_ | refine zgo ?_ | refine zba ?_ | refine zbb ?_ | refine zbc ?_ | refine zbd ?_ | refine zbe ?_ | refine zbf ?_ | refine zia ?_ | refine zib ?_ | refine zic ?_ | refine zid1 ?_ | refine zie ?_ | refine zif1 ?_ | refine zig ?_ | refine zih ?_ | refine lint_u8_mod ?_ | refine lint_u32_mod ?_ | refine zii ?_ | refine zij ?_ | refine zua ?_ | refine zgs ?_ | refine zgu ?_ | refine eqMapNil ?_ | refine neqMapNil ?_ | refine LRes.mk ?_ | refine LIn.step ?_ | refine zdr ?_ | refine zna (fun _ => ?_) | refine znb (fun _ => ?_) | refine znc (fun _ => ?_) | refine newSlice0 (fun _ => ?_) | refine newMap (fun _ => ?_)))
    (first | refine call2 (tryNo_ct wb (some ⟨g, 0, none⟩) n cap m lr h2 h1 (by omega)) zSq ?_ | refine ext2 (tryNo_ct wb (some ⟨g, 0, none⟩) n cap m lr h2 h1 (by omega)) zSq ?_)
    rintro v rfl
    repeat ((conv => whnf); (first | refine ztx ?_ | refine LNext.nilr ?_ | refine zne ?_ | refine zga ?_ | refine zxa ?_ | refine zca ?_ | refine zcb ?_ | refine zgb ?_ | refine zgc ?_ | refine zgd1 ?_ | refine zge ?_ | refine zgf ?_ | refine zgg ?_ | refine zgh ?_ | refine zgi ?_ | refine zgj ?_ | refine zgk ?_ | refine max2m ?_ | refine min2m ?_ | refine eqStr ?_ | refine neqStr ?_ | refine eqSlNil ?_ | refine neqSlNil ?_ | refine eqBool ?_ | refine neqBool ?_ | refine capSlice ?_ | refine zgl ?_ | refine zgm ?_ | refine zgn ?_ | refine zgo ?_ | refine zba ?_ | refine zbb ?_ | refine zbc ?_ | refine zbd ?_ | refine zbe ?_ | refine zbf ?_ | refine zia ?_ | refine zib ?_ | refine zic ?_ | refine zid1 ?_ | refine zie ?_ | refine zif1 ?_ | refine zig ?_ | refine zih ?_ | refine lint_u8_mod ?_ | refine lint_u32_mod ?_ | refine zii ?_ | refine zij ?_ | refine zua ?_ | refine zgs ?_ | refine zgu ?_ | refine eqMapNil ?_ | refine neqMapNil ?_ | refine LRes.mk ?_ | refine LIn.step ?_ | refine zdr ?_ | refine zna (fun _ => ?_) | refine znb (fun _ => ?_) | refine znc (fun _ => ?_) | refine newSlice0 (fun _ => ?_) | refine newMap (fun _ => ?_)))
    refine ldiv (cap / 2) (by decide) (tdiv_nat cap 2) (by omega) ?_
    repeat ((conv => whnf); (first | refine ztx ?_ | refine LNext.nilr ?_ | refine zne ?_ | refine zga ?_ | refine zxa ?_ | refine zca ?_ | refine zcb ?_ | refine zgb ?_ | refine zgc ?_ | refine zgd1 ?_ | refine zge ?_ | refine zgf ?_ | refine zgg ?_ | refine zgh ?_ | refine zgi ?_ | refine zgj ?_ | refine zgk ?_ | refine max2m ?_ | refine min2m ?_ | refine eqStr ?_ | refine neqStr ?_ | refine eqSlNil ?_ | refine neqSlNil ?_ | refine eqBool ?_ | refine neqBool ?_ | refine capSlice ?_ | refine zgl ?_ | refine zgm ?_ | refine zgn ?_ | refine zgo ?_ | refine zba ?_ | refine zbb ?_ | refine zbc ?_ | refine zbd ?_ | refine zbe ?_ | refine zbf ?_ | refine zia ?_ | refine zib ?_ | refine zic ?_ | refine zid1 ?_ | refine zie ?_ | refine zif1 ?_ | refine zig ?_ | refine zih ?_ | refine lint_u8_mod ?_ | refine lint_u32_mod ?_ | refine zii ?_ | refine zij ?_ | refine zua ?_ | refine zgs ?_ | refine zgu ?_ | refine eqMapNil ?_ | refine neqMapNil ?_ | refine LRes.mk ?_ | refine LIn.step ?_ | refine zdr ?_ | refine zna (fun _ => ?_) | refine znb (fun _ => ?_) | refine znc (fun _ => ?_) | refine newSlice0 (fun _ => ?_) | refine newMap (fun _ => ?_)))
    refine sliceLo2 tab (lo := 0) rfl rfl (Nat.zero_le _) ?_
    rw [offA0]
    repeat ((conv => whnf); (first | refine ztx ?_ | refine LNext.nilr ?_ | refine zne ?_ | refine zga ?_ | refine zxa ?_ | refine zca ?_ | refine zcb ?_ | refine zgb ?_ | refine zgc ?_ | refine zgd1 ?_ | refine zge ?_ | refine zgf ?_ | refine zgg ?_ | refine zgh ?_ | refine zgi ?_ | refine zgj ?_ | refine zgk ?_ | refine max2m ?_ | refine min2m ?_ | refine eqStr ?_ | refine neqStr ?_ | refine eqSlNil ?_ | refine neqSlNil ?_ | refine eqBool ?_ | refine neqBool ?_ | refine capSlice ?_ | refine zgl ?_ | refine zgm ?_ | refine zgn ?_ | refine zgo ?_ | refine zba ?_ | refine zbb ?_ | refine zbc ?_ | refine zbd ?_ | refine zbe ?_ | refine zbf ?_ | refine zia ?_ | refine zib ?_ | refine zic ?_ | refine zid1 ?_ | refine zie ?_ | refine zif1 ?_ | refine zig ?_ | refine zih ?_ | refine lint_u8_mod ?_ | refine lint_u32_mod ?_ | refine zii ?_ | refine zij ?_ | refine zua ?_ | refine zgs ?_ | refine zgu ?_ | refine eqMapNil ?_ | refine neqMapNil ?_ | refine LRes.mk ?_ | refine LIn.step ?_ | refine zdr ?_ | refine zna (fun _ => ?_) | refine znb (fun _ => ?_) | refine znc (fun _ => ?_) | refine newSlice0 (fun _ => ?_) | refine newMap (fun _ => ?_)))
    rw [Int.zero_add]
    refine ext3 (growS_ct _ _ g n cap m bs zTk h1 hm hs (by omega) hl) ?_
    rintro v M' ⟨g', cap', rfl, hcap, rfl⟩
    refine ⟨[BR (some ⟨g', 0, none⟩) n cap' bs], rfl, ?_⟩
    repeat ((conv => whnf); (first | refine ztx ?_ | refine LNext.nilr ?_ | refine zne ?_ | refine zga ?_ | refine zxa ?_ | refine zca ?_ | refine zcb ?_ | refine zgb ?_ | refine zgc ?_ | refine zgd1 ?_ | refine zge ?_ | refine zgf ?_ | refine zgg ?_ | refine zgh ?_ | refine zgi ?_ | refine zgj ?_ | refine zgk ?_ | refine max2m ?_ | refine min2m ?_ | refine eqStr ?_ | refine neqStr ?_ | refine eqSlNil ?_ | refine neqSlNil ?_ | refine eqBool ?_ | refine neqBool ?_ | refine capSlice ?_ | refine zgl ?_ | refine zgm ?_ | refine zgn ?_ | refine zgo ?_ | refine zba ?_ | refine zbb ?_ | refine zbc ?_ | refine zbd ?_ | refine zbe ?_ | refine zbf ?_ | refine zia ?_ | refine zib ?_ | refine zic ?_ | refine zid1 ?_ | refine zie ?_ | refine zif1 ?_ | refine zig ?_ | refine zih ?_ | refine lint_u8_mod ?_ | refine lint_u32_mod ?_ | refine zii ?_ | refine zij ?_ | refine zua ?_ | refine zgs ?_ | refine zgu ?_ | refine eqMapNil ?_ | refine neqMapNil ?_ | refine LRes.mk ?_ | refine LIn.step ?_ | refine zdr ?_ | refine zna (fun _ => ?_) | refine znb (fun _ => ?_) | refine znc (fun _ => ?_) | refine newSlice0 (fun _ => ?_) | refine newMap (fun _ => ?_)))
    refine sliceHi2 tab (hi := n + m) rfl rfl (fun _ _ => hcap) ?_
    repeat ((conv => whnf); (first | refine ztx ?_ | refine LNext.nilr ?_ | refine zne ?_ | refine zga ?_ | refine zxa ?_ | refine zca ?_ | refine zcb ?_ | refine zgb ?_ | refine zgc ?_ | refine zgd1 ?_ | refine zge ?_ | refine zgf ?_ | refine zgg ?_ | refine zgh ?_ | refine zgi ?_ | refine zgj ?_ | refine zgk ?_ | refine max2m ?_ | refine min2m ?_ | refine eqStr ?_ | refine neqStr ?_ | refine eqSlNil ?_ | refine neqSlNil ?_ | refine eqBool ?_ | refine neqBool ?_ | refine capSlice ?_ | refine zgl ?_ | refine zgm ?_ | refine zgn ?_ | refine zgo ?_ | refine zba ?_ | refine zbb ?_ | refine zbc ?_ | refine zbd ?_ | refine zbe ?_ | refine zbf ?_ | refine zia ?_ | refine zib ?_ | refine zic ?_ | refine zid1 ?_ | refine zie ?_ | refine zif1 ?_ | refine zig ?_ | refine zih ?_ | refine lint_u8_mod ?_ | refine lint_u32_mod ?_ | refine zii ?_ | refine zij ?_ | refine zua ?_ | refine zgs ?_ | refine zgu ?_ | refine eqMapNil ?_ | refine neqMapNil ?_ | refine LRes.mk ?_ | refine LIn.step ?_ | refine zdr ?_ | refine zna (fun _ => ?_) | refine znb (fun _ => ?_) | refine znc (fun _ => ?_) | refine newSlice0 (fun _ => ?_) | refine newMap (fun _ => ?_)))
    show Fin _ _ _; exact Fin.of [BufC wb (some ⟨g', 0, none⟩) (n + m) cap' lr, BR (some ⟨g', 0, none⟩) n cap' bs] zEn ⟨g', cap', rfl, hcap, rfl⟩
end Go.Proofs.YtjmfnakplmmpnaaDoor
