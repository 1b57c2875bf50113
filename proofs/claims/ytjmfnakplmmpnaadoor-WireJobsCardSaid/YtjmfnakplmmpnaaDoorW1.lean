import Derived.Test.YtjmfnakplmmpnaaDoorW0
/-! Rows with room behind them; a buffer that grows: walked. -/
namespace Go.Proofs.YtjmfnakplmmpnaaDoor
open Go.Sl
set_option linter.unusedVariables false
set_option linter.unusedSimpArgs false
set_option maxRecDepth 100000
set_option maxHeartbeats 1000000

theorem SameBytes_ct (M : List As) (a b : Option Addr) (ca cb : Nat) (xs ys : Bs) (hx : RdH M a 1 encU xs) (hy : RdH M b 1 encU ys) (hn : xs.length ≤ 9223372036854775807) (hm : ys.length ≤ 9223372036854775807) :
    Ctr Tryd.prog 18 #[.slice a xs.length ca, .slice b ys.length cb] M (fun v M' => v = .bool (decide (xs = ys)) ∧ M' = M) := by
  refine Ctr.rd (okg fn18) hx (fun rx => ?_)
  refine Ctr.rd (okg fn18) hy (fun ry => ?_)
  refine ctr_of (Γ := tab) (vs := [_, _]) fn18 rfl ?_
  by_cases hl : xs.length = ys.length
  · repeat ((conv => whnf); (first | refine ztx ?_ | refine LNext.nilr ?_ | refine zne ?_ | refine zga ?_ | refine zxa ?_ | refine zca ?_ | refine zcb ?_ | refine zgb ?_ | refine zgc ?_ | refine zgd1 ?_ | refine zge ?_ | refine zgf ?_ | refine zgg ?_ | refine zgh ?_ | refine zgi ?_ | refine zgj ?_ | refine zgk ?_ | refine max2m ?_ | refine min2m ?_ | refine eqStr ?_ | refine neqStr ?_ | refine eqSlNil ?_ | refine neqSlNil ?_ | refine eqBool ?_ | refine neqBool ?_ | refine capSlice ?_ | refine zgl ?_ | refine zgm ?_ | refine zgn ?_ | refine zgo ?_ | refine zba ?_ | refine zbb ?_ | refine zbc ?_ | refine zbd ?_ | refine zbe ?_ | refine zbf ?_ | refine zia ?_ | refine zib ?_ | refine zic ?_ | refine zid1 ?_ | refine zie ?_ | refine zif1 ?_ | refine zig ?_ | refine zih ?_ | refine lint_u8_mod ?_ | refine lint_u32_mod ?_ | refine zii ?_ | refine zij ?_ | refine zua ?_ | refine zgs ?_ | refine zgu ?_ | refine eqMapNil ?_ | refine neqMapNil ?_ | refine LRes.mk ?_ | refine LIn.step ?_ | refine zdr ?_ | refine zna (fun _ => ?_) | refine znb (fun _ => ?_) | refine znc (fun _ => ?_) | refine newSlice0 (fun _ => ?_) | refine newMap (fun _ => ?_)))
    refine LLoop.inv (Γ := tab) (fun i : Nat => [(0, .slice a xs.length ca), (1, .slice b ys.length cb), (5, .int .i64 i)]) (fun _ => M) (fun i => i ≤ xs.length ∧ ∀ j, j < i → gd xs j = gd ys j) (fun i => xs.length - i) 0 ⟨Nat.zero_le _, fun j hj => absurd hj (Nat.not_lt_zero _)⟩ zSu zEn ?_
    rintro i ⟨hi, hb⟩
    by_cases h1 : i < xs.length
    · obtain ⟨g, o, rfl, l1⟩ := rx.get h1
      obtain ⟨g', o', rfl, l2⟩ := ry.get (i := i) (by omega)
      by_cases he : gd xs i = gd ys i
      · have he' : (gd xs i).toNat = (gd ys i).toNat := by rw [he]
        repeat ((conv => whnf); (first | refine ztx ?_ | refine LNext.nilr ?_ | refine zne ?_ | refine zga ?_ | refine zxa ?_ | refine zca ?_ | refine zcb ?_ | refine zgb ?_ | refine zgc ?_ | refine zgd1 ?_ | refine zge ?_ | refine zgf ?_ | refine zgg ?_ | refine zgh ?_ | refine zgi ?_ | refine zgj ?_ | refine zgk ?_ | refine max2m ?_ | refine min2m ?_ | refine eqStr ?_ | refine neqStr ?_ | refine eqSlNil ?_ | refine neqSlNil ?_ | refine eqBool ?_ | refine neqBool ?_ | refine capSlice ?_ | refine zgl ?_ | refine zgm ?_ | refine zgn ?_ | refine zgo ?_ | refine zba ?_ | refine zbb ?_ | refine zbc ?_ | refine zbd ?_ | refine zbe ?_ | refine zbf ?_ | refine zia ?_ | refine zib ?_ | refine zic ?_ | refine zid1 ?_ | refine zie ?_ | refine zif1 ?_ | refine zig ?_ | refine zih ?_ | refine lint_u8_mod ?_ | refine lint_u32_mod ?_ | refine zii ?_ | refine zij ?_ | refine zua ?_ | refine zgs ?_ | refine zgu ?_ | refine eqMapNil ?_ | refine neqMapNil ?_ | refine LRes.mk ?_ | refine LIn.step ?_ | refine zdr ?_ | refine zna (fun _ => ?_) | refine znb (fun _ => ?_) | refine znc (fun _ => ?_) | refine newSlice0 (fun _ => ?_) | refine newMap (fun _ => ?_)))
        exact ⟨i + 1, ⟨h1, fun j hj => by
          by_cases q : j = i
          · subst q; exact he
          · exact hb j (by omega)⟩, by omega, zSu, zEn⟩
      · have he' : (gd xs i).toNat ≠ (gd ys i).toNat := fun q => he (UInt8.toNat_inj.1 q)
        repeat ((conv => whnf); (first | refine ztx ?_ | refine LNext.nilr ?_ | refine zne ?_ | refine zga ?_ | refine zxa ?_ | refine zca ?_ | refine zcb ?_ | refine zgb ?_ | refine zgc ?_ | refine zgd1 ?_ | refine zge ?_ | refine zgf ?_ | refine zgg ?_ | refine zgh ?_ | refine zgi ?_ | refine zgj ?_ | refine zgk ?_ | refine max2m ?_ | refine min2m ?_ | refine eqStr ?_ | refine neqStr ?_ | refine eqSlNil ?_ | refine neqSlNil ?_ | refine eqBool ?_ | refine neqBool ?_ | refine capSlice ?_ | refine zgl ?_ | refine zgm ?_ | refine zgn ?_ | refine zgo ?_ | refine zba ?_ | refine zbb ?_ | refine zbc ?_ | refine zbd ?_ | refine zbe ?_ | refine zbf ?_ | refine zia ?_ | refine zib ?_ | refine zic ?_ | refine zid1 ?_ | refine zie ?_ | refine zif1 ?_ | refine zig ?_ | refine zih ?_ | refine lint_u8_mod ?_ | refine lint_u32_mod ?_ | refine zii ?_ | refine zij ?_ | refine zua ?_ | refine zgs ?_ | refine zgu ?_ | refine eqMapNil ?_ | refine neqMapNil ?_ | refine LRes.mk ?_ | refine LIn.step ?_ | refine zdr ?_ | refine zna (fun _ => ?_) | refine znb (fun _ => ?_) | refine znc (fun _ => ?_) | refine newSlice0 (fun _ => ?_) | refine newMap (fun _ => ?_)))
        have hne : ¬ xs = ys := fun q => he (by rw [q])
        show Fin _ _ _; exact Fin.of M zEn ⟨by rw [decide_eq_false hne], rfl⟩
    · repeat ((conv => whnf); (first | refine ztx ?_ | refine LNext.nilr ?_ | refine zne ?_ | refine zga ?_ | refine zxa ?_ | refine zca ?_ | refine zcb ?_ | refine zgb ?_ | refine zgc ?_ | refine zgd1 ?_ | refine zge ?_ | refine zgf ?_ | refine zgg ?_ | refine zgh ?_ | refine zgi ?_ | refine zgj ?_ | refine zgk ?_ | refine max2m ?_ | refine min2m ?_ | refine eqStr ?_ | refine neqStr ?_ | refine eqSlNil ?_ | refine neqSlNil ?_ | refine eqBool ?_ | refine neqBool ?_ | refine capSlice ?_ | refine zgl ?_ | refine zgm ?_ | refine zgn ?_ | refine zgo ?_ | refine zba ?_ | refine zbb ?_ | refine zbc ?_ | refine zbd ?_ | refine zbe ?_ | refine zbf ?_ | refine zia ?_ | refine zib ?_ | refine zic ?_ | refine zid1 ?_ | refine zie ?_ | refine zif1 ?_ | refine zig ?_ | refine zih ?_ | refine lint_u8_mod ?_ | refine lint_u32_mod ?_ | refine zii ?_ | refine zij ?_ | refine zua ?_ | refine zgs ?_ | refine zgu ?_ | refine eqMapNil ?_ | refine neqMapNil ?_ | refine LRes.mk ?_ | refine LIn.step ?_ | refine zdr ?_ | refine zna (fun _ => ?_) | refine znb (fun _ => ?_) | refine znc (fun _ => ?_) | refine newSlice0 (fun _ => ?_) | refine newMap (fun _ => ?_)))
      have heq : xs = ys := gd_ext hl (fun k hk => hb k (by omega))
      show Fin _ _ _; exact Fin.of M zEn ⟨by rw [decide_eq_true heq], rfl⟩
  · repeat ((conv => whnf); (first | refine ztx ?_ | refine LNext.nilr ?_ | refine zne ?_ | refine zga ?_ | refine zxa ?_ | refine zca ?_ | refine zcb ?_ | refine zgb ?_ | refine zgc ?_ | refine zgd1 ?_ | refine zge ?_ | refine zgf ?_ | refine zgg ?_ | refine zgh ?_ | refine zgi ?_ | refine zgj ?_ | refine zgk ?_ | refine max2m ?_ | refine min2m ?_ | refine eqStr ?_ | refine neqStr ?_ | refine eqSlNil ?_ | refine neqSlNil ?_ | refine eqBool ?_ | refine neqBool ?_ | refine capSlice ?_ | refine zgl ?_ | refine zgm ?_ | refine zgn ?_ | refine zgo ?_ | refine zba ?_ | refine zbb ?_ | refine zbc ?_ | refine zbd ?_ | refine zbe ?_ | refine zbf ?_ | refine zia ?_ | refine zib ?_ | refine zic ?_ | refine zid1 ?_ | refine zie ?_ | refine zif1 ?_ | refine zig ?_ | refine zih ?_ | refine lint_u8_mod ?_ | refine lint_u32_mod ?_ | refine zii ?_ | refine zij ?_ | refine zua ?_ | refine zgs ?_ | refine zgu ?_ | refine eqMapNil ?_ | refine neqMapNil ?_ | refine LRes.mk ?_ | refine LIn.step ?_ | refine zdr ?_ | refine zna (fun _ => ?_) | refine znb (fun _ => ?_) | refine znc (fun _ => ?_) | refine newSlice0 (fun _ => ?_) | refine newMap (fun _ => ?_)))
    have hne : ¬ xs = ys := fun q => hl (by rw [q])
    show Fin _ _ _; exact Fin.of M zEn ⟨by rw [decide_eq_false hne], rfl⟩
section
variable {P : Program} {M N : List As}
/-- make([]T, n, c) -/
theorem newMakeC (Γ : Tab P) {t el : TypeId} {n c : Nat} {z : Value} {sz by' : Nat} {k : Value → As → Prop} (hk : ∀ b, k (.slice (some ⟨b, 0, none⟩) n c) (Sl.pt b (.cells (sliceCells z.cells (c * sz)) el))) (hu : Γ.und t = some (.slice el)) (hi : Γ.inf el = some (z, sz, by')) (hnc : n ≤ c) (hn : c ≤ 9223372036854775807) (hb : by' * c ≤ 281474976710656) :
    LNew P (Instr.makeSlice t (.int .i64 n) (.int .i64 c)) k :=
  ⟨fun b => .slice (some ⟨b, 0, none⟩) n c, .cells (sliceCells z.cells (c * sz)) el, fun w => by
    have h1 := Γ.und_ok _ _ hu
    obtain ⟨i, hi1, hi2, hi3, hi4⟩ := Γ.inf_ok _ _ _ _ hi
    have hw : IntKind.i64.wrap (n : Int) = (n : Int) := IntWalk.i64_in _ (by omega)
    have hw2 : IntKind.i64.wrap (c : Int) = (c : Int) := IntWalk.i64_in _ (by omega)
    have hb' : ¬ ((by' : Int) * (c : Int) > 2 ^ 48) := by
      have : (by' : Int) * (c : Int) = ((by' * c : Nat) : Int) := by simp
      rw [this]; omega
    have hb3 : ¬ ((by' : Int) * (n : Int) > 2 ^ 48) := by
      have h9 : by' * n ≤ by' * c := Nat.mul_le_mul_left _ hnc
      have : (by' : Int) * (n : Int) = ((by' * n : Nat) : Int) := by simp
      rw [this]; omega
    unfold Instr.makeSlice
    have hneg : ¬ ((n : Int) < 0) := by omega
    have hneg2 : ¬ ((c : Int) < 0) := by omega
    have hlt : ¬ ((c : Int) < (n : Int)) := by omega
    have hb2 : ¬ (281474976710656 < (by' : Int) * (c : Int)) := by simpa using hb'
    have hb4 : ¬ (281474976710656 < (by' : Int) * (n : Int)) := by simpa using hb3
    have hz : (zeroValue el).run P w = .ok z w := zero_of Γ hi w
    have hsz : (sizeOf el).run P w = .ok sz w := size_of Γ hi w
    by_cases h0 : c * sz = 0
    · simp [run_underlying h1, asInt, asIntOf, typeInfo, hi1, hi4, hw, hw2, hb', hb2, hb4, hneg, hneg2, hlt, hsz, h0, newRow, sliceCells]
      congr 2
      apply Array.ext'
      simp
    · simp [run_underlying h1, asInt, asIntOf, typeInfo, hi1, hi4, hw, hw2, hb', hb2, hb4, hneg, hneg2, hlt, hsz, h0, hz, newRow, ← sliceCells_eq], hk⟩
/-- A slice of what was made, with room behind it. -/
theorem Take.room {α : Type} {enc : α → List Value} {z : Array Value} {sz c b n : Nat} {E : TypeId} {M : List As} (x0 : α) (he : ∀ x, (enc x).length = sz) (hz : z.toList = enc x0) (hs : 0 < sz) (hc : c ≤ maxLen) (hn : n ≤ c) : Take (Sl.pt b (.cells (sliceCells z (c * sz)) E) :: M) (ERow E sz enc (some ⟨b, 0, none⟩) n c (List.replicate n x0)) M := ⟨by
  have h1 := (Take.made (E := E) (enc := enc) (z := z) (sz := sz) (n := c) (b := b) (M := M) x0 hz (he x0) hs hc).h
  have h2 := ERow.shrink (E := E) (sz := sz) (enc := enc) he (a := some ⟨b, 0, none⟩) (n := c) (m := n) (cap := c) (xs := List.replicate c x0) (M := M) hn
  rw [List.take_replicate, Nat.min_eq_left hn] at h2
  exact Ent.trans h1 h2⟩
variable {α : Type} {enc : α → List Value} {E : TypeId} {sz : Nat}
/-- s[n] = x, where there is room behind the row's end. -/
theorem storeEnd (Γ : Tab P) {t : TypeId} {g o n cap : Nat} {v z : Value} {by' : Nat} {xs : List α} {k : List As → Prop} (x : α) (tk : Take M (ERow E sz enc (some ⟨g, 0, none⟩) n cap xs) N) (he : ∀ x, (enc x).length = sz) (h2 : Γ.inf t = some (z, sz, by')) (ho : o = n * sz) (hle : n < cap) (hv : v.cells.toList = enc x) (h1 : (enc x).all Value.oneC = true)
    (hk : k (ERow E sz enc (some ⟨g, 0, none⟩) (n + 1) cap (xs ++ [x]) :: N)) : LRunU P (Instr.storeAt t (.pointer (some ⟨g, o, none⟩)) v) M k :=
  ⟨fun M' => M' = ERow E sz enc (some ⟨g, 0, none⟩) (n + 1) cap (xs ++ [x]) :: N, fun F w s => by
    have s1 := s.ent (Ent.app tk.h (Ent.refl F))
    obtain ⟨w', hr, hs', hn⟩ := writeEnd_sat (P := P) (ys := [x]) he (fun y hy => by rw [List.mem_singleton] at hy; rw [hy]; exact h1) (by simp; omega) s1
    refine ⟨w', _, ?_, rfl, hs', hn⟩
    subst ho
    have hsz : v.cells.size = sz := by rw [← Array.length_toList, hv, he]
    have e : List.flatMap enc [x] = v.cells.toList := by simp [hv]
    rw [e] at hr
    simp [Instr.storeAt, Instr.sureAddr, storeVar, size_of Γ h2, hsz, hr], fun M' e => e ▸ hk⟩
/-- copy(s[n:n+m], text) -/
theorem copyEndS (Γ : Tab P) {T T' ty : TypeId} {z : Value} {bytes g o n cap dl dc : Nat} {s : ByteArray} {xs : List UInt8} {k : Value → List As → Prop} (tk : Take M (ERow E 1 encU (some ⟨g, 0, none⟩) n cap xs) N) (hu : Γ.und T = some (.slice E)) (hi : Γ.inf E = some (z, 1, bytes))
    (ho : o = n) (hmd : s.size ≤ dl) (hle : n + s.size ≤ cap)
    (hk : k (.int .i64 s.size) (ERow E 1 encU (some ⟨g, 0, none⟩) (n + s.size) cap (xs ++ s.data.toList) :: N)) :
    LRun P (Builtin.copy_ #[T, T'] ty #[.slice (some ⟨g, o, none⟩) dl dc, .string s]) M k :=
  ⟨fun v M' => v = .int .i64 s.size ∧ M' = ERow E 1 encU (some ⟨g, 0, none⟩) (n + s.size) cap (xs ++ s.data.toList) :: N, fun F w st => by
    have s1 := st.ent (Ent.app tk.h (Ent.refl F))
    have hl : s.data.toList.length = s.size := by rw [Array.length_toList]; rfl
    obtain ⟨w', hr, hs', hn⟩ := writeEnd_sat (P := P) (ys := s.data.toList) encU_len (fun y hy => rfl) (by omega) s1
    rw [hl] at hs'
    refine ⟨_, w', _, ?_, ⟨rfl, rfl⟩, hs', hn⟩
    have hu' := Γ.und_ok _ _ hu
    have hmin : Nat.min s.size dl = s.size := Nat.min_eq_left hmd
    subst ho
    rw [Nat.mul_one] at hr
    have hex : s.extract 0 s.size = s := by simp
    have hf : ((s.extract 0 s.size).data.map fun b : UInt8 => Value.int .u8 (b.toNat : Int)).toList = s.data.toList.flatMap encU := by
      rw [hex, Array.toList_map]
      induction s.data.toList with
      | nil => rfl
      | cons a l ih => rw [List.map_cons, List.flatMap_cons, ih]; rfl
    have hf2 : ((s.extract 0 s.size).data.map fun b : UInt8 => Value.int .u8 (b.toNat : Int)) = (s.data.toList.flatMap encU).toArray := by rw [← hf]
    simp [Builtin.copy_, run_underlying hu', Builtin.lenOf, size_of Γ hi, hmin, Builtin.firstCells, hr, goInt]
    have e5 : List.take s.size (List.map (fun b : UInt8 => Value.int .u8 (b.toNat : Int)) s.data.toList) = s.data.toList.flatMap encU := by
      rw [List.take_of_length_le (by rw [List.length_map]; omega)]
      induction s.data.toList with
      | nil => rfl
      | cons a l ih => rw [List.map_cons, List.flatMap_cons, ih]; rfl
    rw [e5, hr]
    rfl, fun v M' ⟨e1, e2⟩ => by subst e1; subst e2; exact hk⟩
end
end Go.Proofs.YtjmfnakplmmpnaaDoor
