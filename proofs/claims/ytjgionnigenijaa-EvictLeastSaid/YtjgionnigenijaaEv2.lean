import Derived.Test.YtjgionnigenijaaEv1
/-! The victims' turns: by the heap, and by the reference. -/
namespace Go.Proofs.Ytjgionnigenijaa
open Go.Sl
set_option linter.unusedVariables false
set_option linter.unusedSimpArgs false
set_option linter.unusedSectionVars false
set_option maxRecDepth 100000
set_option maxHeartbeats 4000000

def befV (a b : Vic) : Prop := a.prio < b.prio ∨ (a.prio = b.prio ∧ (b.start < a.start ∨ (a.start = b.start ∧ b.job < a.job)))
instance (a b : Vic) : Decidable (befV a b) := by unfold befV; infer_instance
theorem befV_trans {a b c : Vic} (h : befV a b) (k : befV b c) : befV a c := by unfold befV at *; omega
theorem befV_asymm {a b : Vic} (h : befV a b) : ¬ befV b a := by unfold befV at *; omega
theorem befV_tri {a b : Vic} (h : a.job ≠ b.job) : befV a b ∨ befV b a := by unfold befV; omega
theorem befV_le {a b c : Vic} (h : ¬ befV b a) (k : ¬ befV c b) : ¬ befV c a := by unfold befV at *; omega
def bef (VS : List Vic) (i j : Nat) : Prop := befV (gd VS i) (gd VS j)
instance (VS : List Vic) (i j : Nat) : Decidable (bef VS i j) := by unfold bef; infer_instance
structure IsOrdV (VS : List Vic) (l : List Nat) : Prop where
  pw : l.Pairwise (bef VS)
  pm : l.Perm (List.range VS.length)
theorem IsOrdV.unique {VS : List Vic} {l l' : List Nat} (h : IsOrdV VS l) (h' : IsOrdV VS l') : l = l' :=
  List.Perm.eq_of_pairwise (fun a b _ _ h1 h2 => absurd h2 (befV_asymm h1)) h.pw h'.pw (h.pm.trans h'.pm.symm)
theorem IsOrdV.nodup {VS : List Vic} {l : List Nat} (h : IsOrdV VS l) : l.Nodup := h.pm.nodup_iff.2 List.nodup_range
theorem IsOrdV.length {VS : List Vic} {l : List Nat} (h : IsOrdV VS l) : l.length = VS.length := by rw [h.pm.length_eq, List.length_range]
theorem IsOrdV.mem {VS : List Vic} {l : List Nat} (h : IsOrdV VS l) {i : Nat} : i ∈ l ↔ i < VS.length := by rw [h.pm.mem_iff, List.mem_range]
def ordV (VS : List Vic) : List Nat := (List.range VS.length).mergeSort (fun i j => !decide (bef VS j i))
theorem distJ.tri {VS : List Vic} (h : distJ VS) {i j : Nat} (hi : i < VS.length) (hj : j < VS.length) (hne : i ≠ j) : bef VS i j ∨ bef VS j i := by
  refine befV_tri ?_
  rcases Nat.lt_or_gt_of_ne hne with q | q
  · exact h i j q hj
  · exact fun e => h j i q hi e.symm
theorem ordV_is {VS : List Vic} (hd : distJ VS) : IsOrdV VS (ordV VS) := by
  have pm : (ordV VS).Perm (List.range VS.length) := List.mergeSort_perm _ _
  refine ⟨?_, pm⟩
  have nd : (ordV VS).Nodup := pm.nodup_iff.2 List.nodup_range
  have pw : (ordV VS).Pairwise (fun i j => (!decide (bef VS j i)) = true) := by
    refine List.pairwise_mergeSort ?_ ?_ _
    · intro a b c h1 h2
      simp only [Bool.not_eq_true', decide_eq_false_iff_not] at h1 h2 ⊢
      exact befV_le h1 h2
    · intro a b
      simp only [Bool.or_eq_true, Bool.not_eq_true', decide_eq_false_iff_not]
      by_cases h : bef VS b a
      · exact .inr (befV_asymm h)
      · exact .inl h
  rw [List.pairwise_iff_getElem] at pw ⊢
  intro i j hi hj hij
  have h1 := pw i j hi hj hij
  simp only [Bool.not_eq_true', decide_eq_false_iff_not] at h1
  have hne : (ordV VS)[i] ≠ (ordV VS)[j] := fun e => by
    have := (List.getElem_inj nd).1 e
    omega
  have m1 := List.mem_range.1 (pm.mem_iff.1 (List.getElem_mem hi))
  have m2 := List.mem_range.1 (pm.mem_iff.1 (List.getElem_mem hj))
  exact (hd.tri m1 m2 hne).resolve_right h1
/-- The first of those that are left. -/
theorem ordV_next {VS : List Vic} (hd : distJ VS) {k x : Nat} (hk : k < VS.length) (hx : x ∈ (ordV VS).drop k) (hm : ∀ y ∈ (ordV VS).drop k, y ≠ x → bef VS x y) : x = gd (ordV VS) k := by
  have io := ordV_is hd
  have hko : k < (ordV VS).length := by rw [io.length]; exact hk
  apply Classical.byContradiction
  intro hne
  have hin : gd (ordV VS) k ∈ (ordV VS).drop k := by rw [gd_drop hko]; exact List.mem_cons_self ..
  have q1 := hm _ hin (fun e => hne e.symm)
  rw [gd_drop hko] at hx
  rcases List.mem_cons.1 hx with e | hx
  · exact hne e
  have pw := io.pw
  rw [← List.take_append_drop k (ordV VS), gd_drop hko, List.pairwise_append, List.pairwise_cons] at pw
  exact befV_asymm q1 (pw.2.1.1 x hx)
theorem key_vk {VS : List Vic} {x : Nat} (hx : x < VS.length) : key (VS.map vkey) x = vkey (gd VS x) := by
  unfold key
  rw [List.getD_eq_getElem?_getD, List.getElem?_map, gd_get hx]; rfl
theorem max_bef {VS : List Vic} (hd : distJ VS) {x y : Nat} (hx : x < VS.length) (hy : y < VS.length) (hne : y ≠ x) (h : ltE (VS.map vkey) x y = false) : bef VS x y := by
  unfold ltE at h
  rw [key_vk hx, key_vk hy, ← Bool.not_eq_true, lt3_iff] at h
  have hj : (gd VS x).job ≠ (gd VS y).job := by
    rcases Nat.lt_or_gt_of_ne hne with q | q
    · exact fun e => hd y x q hx e.symm
    · exact hd x y q hy
  unfold vkey at h
  unfold bef befV
  dsimp only at h
  omega
/-! A hole in a list. -/
def midA {α : Type} (Q : List α) (x : α) (k : Nat) : List α := Q.take k ++ x :: Q.drop k
section
variable {α : Type} [Inhabited α] {Q : List α} {x y : α} {k : Nat}
theorem midA_len (hk : k ≤ Q.length) : (midA Q x k).length = Q.length + 1 := by simp [midA]; omega
theorem midA_pre (hk : k + 1 ≤ Q.length) : gd (midA Q x (k + 1)) k = gd Q k := by
  unfold midA
  rw [gd_app_left (by rw [List.length_take]; omega), gd_take_lt (by omega)]
theorem midA_set (hk : k ≤ Q.length) : (midA Q x k).set k y = midA Q y k := by
  unfold midA
  have hA : (Q.take k).length = k := by rw [List.length_take]; omega
  generalize Q.take k = A at *
  subst hA
  simp
theorem midA_down (hk : k + 1 ≤ Q.length) : midA Q (gd Q k) (k + 1) = midA Q (gd Q k) k := by
  unfold midA
  rw [gd_take (by omega), gd_drop (l := Q) (i := k) (by omega)]
  simp
end
theorem befV_ct (a b : Vic) (M : List As) : Ctr Try.prog 49 #[.agg (encVic a).toArray, .agg (encVic b).toArray] M (fun v M' => v = .bool (decide (befV a b)) ∧ M' = M) := by
  refine Ctr.anywhere ?_
  refine ctr_of (Γ := tab) (vs := [_, _]) fn49 rfl ?_
  unfold befV
  by_cases h1 : a.prio = b.prio
  · by_cases h2 : a.start = b.start
    · repeat ((conv => whnf); (first | refine ztx ?_ | refine LNext.nilr ?_ | refine zne ?_ | refine zga ?_ | refine zxa ?_ | refine zca ?_ | refine zcb ?_ | refine zgb ?_ | refine zgc ?_ | refine zgd1 ?_ | refine zge ?_ | refine zgf ?_ | refine zgg ?_ | refine zgh ?_ | refine zgi ?_ | refine zgj ?_ | refine zgk ?_ | refine max2m ?_ | refine min2m ?_ | refine eqStr ?_ | refine neqStr ?_ | refine eqSlNil ?_ | refine neqSlNil ?_ | refine eqBool ?_ | refine neqBool ?_ | refine zgl ?_ | refine zgm ?_ | refine zgn ?_ | refine zgo ?_ | refine zba ?_ | refine zbb ?_ | refine zbc ?_ | refine zbd ?_ | refine zbe ?_ | refine zbf ?_ | refine zia ?_ | refine zib ?_ | refine zic ?_ | refine zid1 ?_ | refine zie ?_ | refine zif1 ?_ | refine zig ?_ | refine zih ?_ | refine lint_u8_mod ?_ | refine lint_u32_mod ?_ | refine zii ?_ | refine zij ?_ | refine zua ?_ | refine LRes.mk ?_ | refine LIn.step ?_ | refine zdr ?_ | refine zna (fun _ => ?_) | refine znb (fun _ => ?_) | refine znc (fun _ => ?_) | refine newSlice0 (fun _ => ?_) | refine newMap (fun _ => ?_)))
      show Fin _ _ _; exact Fin.of [] zEn ⟨by simp [h1, h2], rfl⟩
    · repeat ((conv => whnf); (first | refine ztx ?_ | refine LNext.nilr ?_ | refine zne ?_ | refine zga ?_ | refine zxa ?_ | refine zca ?_ | refine zcb ?_ | refine zgb ?_ | refine zgc ?_ | refine zgd1 ?_ | refine zge ?_ | refine zgf ?_ | refine zgg ?_ | refine zgh ?_ | refine zgi ?_ | refine zgj ?_ | refine zgk ?_ | refine max2m ?_ | refine min2m ?_ | refine eqStr ?_ | refine neqStr ?_ | refine eqSlNil ?_ | refine neqSlNil ?_ | refine eqBool ?_ | refine neqBool ?_ | refine zgl ?_ | refine zgm ?_ | refine zgn ?_ | refine zgo ?_ | refine zba ?_ | refine zbb ?_ | refine zbc ?_ | refine zbd ?_ | refine zbe ?_ | refine zbf ?_ | refine zia ?_ | refine zib ?_ | refine zic ?_ | refine zid1 ?_ | refine zie ?_ | refine zif1 ?_ | refine zig ?_ | refine zih ?_ | refine lint_u8_mod ?_ | refine lint_u32_mod ?_ | refine zii ?_ | refine zij ?_ | refine zua ?_ | refine LRes.mk ?_ | refine LIn.step ?_ | refine zdr ?_ | refine zna (fun _ => ?_) | refine znb (fun _ => ?_) | refine znc (fun _ => ?_) | refine newSlice0 (fun _ => ?_) | refine newMap (fun _ => ?_)))
      show Fin _ _ _; exact Fin.of [] zEn ⟨by simp [h1, h2], rfl⟩
  · repeat ((conv => whnf); (first | refine ztx ?_ | refine LNext.nilr ?_ | refine zne ?_ | refine zga ?_ | refine zxa ?_ | refine zca ?_ | refine zcb ?_ | refine zgb ?_ | refine zgc ?_ | refine zgd1 ?_ | refine zge ?_ | refine zgf ?_ | refine zgg ?_ | refine zgh ?_ | refine zgi ?_ | refine zgj ?_ | refine zgk ?_ | refine max2m ?_ | refine min2m ?_ | refine eqStr ?_ | refine neqStr ?_ | refine eqSlNil ?_ | refine neqSlNil ?_ | refine eqBool ?_ | refine neqBool ?_ | refine zgl ?_ | refine zgm ?_ | refine zgn ?_ | refine zgo ?_ | refine zba ?_ | refine zbb ?_ | refine zbc ?_ | refine zbd ?_ | refine zbe ?_ | refine zbf ?_ | refine zia ?_ | refine zib ?_ | refine zic ?_ | refine zid1 ?_ | refine zie ?_ | refine zif1 ?_ | refine zig ?_ | refine zih ?_ | refine lint_u8_mod ?_ | refine lint_u32_mod ?_ | refine zii ?_ | refine zij ?_ | refine zua ?_ | refine LRes.mk ?_ | refine LIn.step ?_ | refine zdr ?_ | refine zna (fun _ => ?_) | refine znb (fun _ => ?_) | refine znc (fun _ => ?_) | refine newSlice0 (fun _ => ?_) | refine newMap (fun _ => ?_)))
    show Fin _ _ _; exact Fin.of [] zEn ⟨by simp [h1], rfl⟩
theorem plain17_ct (M : List As) (a : Option Addr) (cap : Nat) (S : List Vic) (hr : RdH M a 5 encVic S) (hn : S.length ≤ 1000000000) :
    Ctr Try.prog 13 #[.slice a S.length cap] M (fun v M' => ∃ a' cap', v = .slice a' S.length cap' ∧ M' = ERow 67 5 encVic a' S.length cap' S :: M) := by
  refine Ctr.rd (okf fn13) hr (fun hr => ?_)
  refine ctr_of (Γ := tab) (vs := [_]) fn13 rfl ?_
  repeat ((conv => whnf); (first | refine ztx ?_ | refine LNext.nilr ?_ | refine zne ?_ | refine zga ?_ | refine zxa ?_ | refine zca ?_ | refine zcb ?_ | refine zgb ?_ | refine zgc ?_ | refine zgd1 ?_ | refine zge ?_ | refine zgf ?_ | refine zgg ?_ | refine zgh ?_ | refine zgi ?_ | refine zgj ?_ | refine zgk ?_ | refine max2m ?_ | refine min2m ?_ | refine eqStr ?_ | refine neqStr ?_ | refine eqSlNil ?_ | refine neqSlNil ?_ | refine eqBool ?_ | refine neqBool ?_ | refine zgl ?_ | refine zgm ?_ | refine zgn ?_ | refine zgo ?_ | refine zba ?_ | refine zbb ?_ | refine zbc ?_ | refine zbd ?_ | refine zbe ?_ | refine zbf ?_ | refine zia ?_ | refine zib ?_ | refine zic ?_ | refine zid1 ?_ | refine zie ?_ | refine zif1 ?_ | refine zig ?_ | refine zih ?_ | refine lint_u8_mod ?_ | refine lint_u32_mod ?_ | refine zii ?_ | refine zij ?_ | refine zua ?_ | refine LRes.mk ?_ | refine LIn.step ?_ | refine zdr ?_ | refine zna (fun _ => ?_) | refine znb (fun _ => ?_) | refine znc (fun _ => ?_) | refine newSlice0 (fun _ => ?_) | refine newMap (fun _ => ?_)))
  refine LLoop.inv (Γ := tab) (fun x : CS => [(0, .slice a S.length cap), (3, .slice x.a x.i x.c), (4, .int .i64 x.i)]) (fun x => ERow 67 5 encVic x.a x.i x.c (S.take x.i) :: M) (fun x => x.i ≤ S.length) (fun x => S.length - x.i) ⟨0, none, 0⟩ (by simp) zSu ent_e0 ?_
  rintro ⟨k, oa, oc⟩ hk
  dsimp only at hk ⊢
  by_cases h1 : k < S.length
  · obtain ⟨b, o, rfl, hl⟩ := hr.get h1
    repeat ((conv => whnf); (first | refine ztx ?_ | refine LNext.nilr ?_ | refine zne ?_ | refine zga ?_ | refine zxa ?_ | refine zca ?_ | refine zcb ?_ | refine zgb ?_ | refine zgc ?_ | refine zgd1 ?_ | refine zge ?_ | refine zgf ?_ | refine zgg ?_ | refine zgh ?_ | refine zgi ?_ | refine zgj ?_ | refine zgk ?_ | refine max2m ?_ | refine min2m ?_ | refine eqStr ?_ | refine neqStr ?_ | refine eqSlNil ?_ | refine neqSlNil ?_ | refine eqBool ?_ | refine neqBool ?_ | refine zgl ?_ | refine zgm ?_ | refine zgn ?_ | refine zgo ?_ | refine zba ?_ | refine zbb ?_ | refine zbc ?_ | refine zbd ?_ | refine zbe ?_ | refine zbf ?_ | refine zia ?_ | refine zib ?_ | refine zic ?_ | refine zid1 ?_ | refine zie ?_ | refine zif1 ?_ | refine zig ?_ | refine zih ?_ | refine lint_u8_mod ?_ | refine lint_u32_mod ?_ | refine zii ?_ | refine zij ?_ | refine zua ?_ | refine LRes.mk ?_ | refine LIn.step ?_ | refine zdr ?_ | refine zna (fun _ => ?_) | refine znb (fun _ => ?_) | refine znc (fun _ => ?_) | refine newSlice0 (fun _ => ?_) | refine newMap (fun _ => ?_)))
    refine appendE tab (enc := encVic) (xs := S.take k) ([gd S k]) zTk (by intro _; rfl) rfl rfl rfl rfl rfl zCs (by intro x hx; simp at hx; subst hx; rfl) (by simp only [maxLen]; omega) (by omega) (by omega) (fun g c => ?_)
    repeat ((conv => whnf); (first | refine ztx ?_ | refine LNext.nilr ?_ | refine zne ?_ | refine zga ?_ | refine zxa ?_ | refine zca ?_ | refine zcb ?_ | refine zgb ?_ | refine zgc ?_ | refine zgd1 ?_ | refine zge ?_ | refine zgf ?_ | refine zgg ?_ | refine zgh ?_ | refine zgi ?_ | refine zgj ?_ | refine zgk ?_ | refine max2m ?_ | refine min2m ?_ | refine eqStr ?_ | refine neqStr ?_ | refine eqSlNil ?_ | refine neqSlNil ?_ | refine eqBool ?_ | refine neqBool ?_ | refine zgl ?_ | refine zgm ?_ | refine zgn ?_ | refine zgo ?_ | refine zba ?_ | refine zbb ?_ | refine zbc ?_ | refine zbd ?_ | refine zbe ?_ | refine zbf ?_ | refine zia ?_ | refine zib ?_ | refine zic ?_ | refine zid1 ?_ | refine zie ?_ | refine zif1 ?_ | refine zig ?_ | refine zih ?_ | refine lint_u8_mod ?_ | refine lint_u32_mod ?_ | refine zii ?_ | refine zij ?_ | refine zua ?_ | refine LRes.mk ?_ | refine LIn.step ?_ | refine zdr ?_ | refine zna (fun _ => ?_) | refine znb (fun _ => ?_) | refine znc (fun _ => ?_) | refine newSlice0 (fun _ => ?_) | refine newMap (fun _ => ?_)))
    rw [← gd_take h1]
    exact ⟨⟨k + 1, some ⟨g, 0, none⟩, c⟩, h1, by show S.length - (k + 1) < S.length - k; omega, zSu, zEn⟩
  · have : k = S.length := by omega
    subst this
    rw [List.take_length]
    repeat ((conv => whnf); (first | refine ztx ?_ | refine LNext.nilr ?_ | refine zne ?_ | refine zga ?_ | refine zxa ?_ | refine zca ?_ | refine zcb ?_ | refine zgb ?_ | refine zgc ?_ | refine zgd1 ?_ | refine zge ?_ | refine zgf ?_ | refine zgg ?_ | refine zgh ?_ | refine zgi ?_ | refine zgj ?_ | refine zgk ?_ | refine max2m ?_ | refine min2m ?_ | refine eqStr ?_ | refine neqStr ?_ | refine eqSlNil ?_ | refine neqSlNil ?_ | refine eqBool ?_ | refine neqBool ?_ | refine zgl ?_ | refine zgm ?_ | refine zgn ?_ | refine zgo ?_ | refine zba ?_ | refine zbb ?_ | refine zbc ?_ | refine zbd ?_ | refine zbe ?_ | refine zbf ?_ | refine zia ?_ | refine zib ?_ | refine zic ?_ | refine zid1 ?_ | refine zie ?_ | refine zif1 ?_ | refine zig ?_ | refine zih ?_ | refine lint_u8_mod ?_ | refine lint_u32_mod ?_ | refine zii ?_ | refine zij ?_ | refine zua ?_ | refine LRes.mk ?_ | refine LIn.step ?_ | refine zdr ?_ | refine zna (fun _ => ?_) | refine znb (fun _ => ?_) | refine znc (fun _ => ?_) | refine newSlice0 (fun _ => ?_) | refine newMap (fun _ => ?_)))
    show Fin _ _ _; exact Fin.of (ERow 67 5 encVic oa S.length oc S :: M) zEn ⟨oa, oc, rfl, rfl⟩
structure SS where
  i : Nat
  a : Option Addr
  c : Nat
  Q : List Nat
theorem sorted_ct (M : List As) (a : Option Addr) (cap : Nat) (VS : List Vic) (hr : RdH M a 5 encVic VS) (hn : VS.length ≤ 1000000) (hd : distJ VS) :
    Ctr Try.prog 28 #[.slice a VS.length cap] M (fun v M' => ∃ a' cap', v = .slice a' VS.length cap' ∧ M' = ERow 67 5 encVic a' VS.length cap' ((ordV VS).map (gd VS)) :: M) := by
  refine Ctr.rd (okf fn28) hr (fun hrd => ?_)
  refine ctr_of (Γ := tab) (vs := [_]) fn28 rfl ?_
  repeat ((conv => whnf); (first | refine ztx ?_ | refine LNext.nilr ?_ | refine zne ?_ | refine zga ?_ | refine zxa ?_ | refine zca ?_ | refine zcb ?_ | refine zgb ?_ | refine zgc ?_ | refine zgd1 ?_ | refine zge ?_ | refine zgf ?_ | refine zgg ?_ | refine zgh ?_ | refine zgi ?_ | refine zgj ?_ | refine zgk ?_ | refine max2m ?_ | refine min2m ?_ | refine eqStr ?_ | refine neqStr ?_ | refine eqSlNil ?_ | refine neqSlNil ?_ | refine eqBool ?_ | refine neqBool ?_ | refine zgl ?_ | refine zgm ?_ | refine zgn ?_ | refine zgo ?_ | refine zba ?_ | refine zbb ?_ | refine zbc ?_ | refine zbd ?_ | refine zbe ?_ | refine zbf ?_ | refine zia ?_ | refine zib ?_ | refine zic ?_ | refine zid1 ?_ | refine zie ?_ | refine zif1 ?_ | refine zig ?_ | refine zih ?_ | refine lint_u8_mod ?_ | refine lint_u32_mod ?_ | refine zii ?_ | refine zij ?_ | refine zua ?_ | refine LRes.mk ?_ | refine LIn.step ?_ | refine zdr ?_ | refine zna (fun _ => ?_) | refine znb (fun _ => ?_) | refine znc (fun _ => ?_) | refine newSlice0 (fun _ => ?_) | refine newMap (fun _ => ?_)))
  refine LLoop.inv (Γ := tab) (fun x : SS => [(0, .slice a VS.length cap), (3, .slice x.a x.i x.c), (4, .int .i64 x.i)]) (fun x => ERow 67 5 encVic x.a x.i x.c (x.Q.map (gd VS)) :: M)
    (fun x => x.i ≤ VS.length ∧ x.Q.Perm (List.range x.i) ∧ x.Q.Pairwise (bef VS)) (fun x => VS.length - x.i) ⟨0, none, 0, []⟩ ⟨by simp, List.Perm.refl _, List.Pairwise.nil⟩ zSu ent_e0 ?_
  rintro ⟨i, oa, oc, Q⟩ ⟨hi, hpm, hpw⟩
  dsimp only at hi hpm hpw ⊢
  have hQl : Q.length = i := by rw [hpm.length_eq, List.length_range]
  by_cases h1 : i < VS.length
  · obtain ⟨b, o, rfl, hl⟩ := hrd.get h1
    have hml : (Q.map (gd VS)).length = i := by rw [List.length_map]; exact hQl
    have hmi : Q.map (gd VS) ++ [gd VS i] = midA (Q.map (gd VS)) (gd VS i) i := by
      unfold midA
      rw [List.take_of_length_le (by omega), List.drop_of_length_le (by omega)]
    repeat ((conv => whnf); (first | refine ztx ?_ | refine LNext.nilr ?_ | refine zne ?_ | refine zga ?_ | refine zxa ?_ | refine zca ?_ | refine zcb ?_ | refine zgb ?_ | refine zgc ?_ | refine zgd1 ?_ | refine zge ?_ | refine zgf ?_ | refine zgg ?_ | refine zgh ?_ | refine zgi ?_ | refine zgj ?_ | refine zgk ?_ | refine max2m ?_ | refine min2m ?_ | refine eqStr ?_ | refine neqStr ?_ | refine eqSlNil ?_ | refine neqSlNil ?_ | refine eqBool ?_ | refine neqBool ?_ | refine zgl ?_ | refine zgm ?_ | refine zgn ?_ | refine zgo ?_ | refine zba ?_ | refine zbb ?_ | refine zbc ?_ | refine zbd ?_ | refine zbe ?_ | refine zbf ?_ | refine zia ?_ | refine zib ?_ | refine zic ?_ | refine zid1 ?_ | refine zie ?_ | refine zif1 ?_ | refine zig ?_ | refine zih ?_ | refine lint_u8_mod ?_ | refine lint_u32_mod ?_ | refine zii ?_ | refine zij ?_ | refine zua ?_ | refine LRes.mk ?_ | refine LIn.step ?_ | refine zdr ?_ | refine zna (fun _ => ?_) | refine znb (fun _ => ?_) | refine znc (fun _ => ?_) | refine newSlice0 (fun _ => ?_) | refine newMap (fun _ => ?_)))
    refine appendE tab (enc := encVic) (xs := Q.map (gd VS)) ([gd VS i]) zTk (by intro _; rfl) rfl rfl rfl rfl rfl zCs (by intro x hx; simp at hx; subst hx; rfl) (by simp only [maxLen]; omega) (by omega) (by omega) (fun g c => ?_)
    rw [hmi]
    repeat ((conv => whnf); (first | refine ztx ?_ | refine LNext.nilr ?_ | refine zne ?_ | refine zga ?_ | refine zxa ?_ | refine zca ?_ | refine zcb ?_ | refine zgb ?_ | refine zgc ?_ | refine zgd1 ?_ | refine zge ?_ | refine zgf ?_ | refine zgg ?_ | refine zgh ?_ | refine zgi ?_ | refine zgj ?_ | refine zgk ?_ | refine max2m ?_ | refine min2m ?_ | refine eqStr ?_ | refine neqStr ?_ | refine eqSlNil ?_ | refine neqSlNil ?_ | refine eqBool ?_ | refine neqBool ?_ | refine zgl ?_ | refine zgm ?_ | refine zgn ?_ | refine zgo ?_ | refine zba ?_ | refine zbb ?_ | refine zbc ?_ | refine zbd ?_ | refine zbe ?_ | refine zbf ?_ | refine zia ?_ | refine zib ?_ | refine zic ?_ | refine zid1 ?_ | refine zie ?_ | refine zif1 ?_ | refine zig ?_ | refine zih ?_ | refine lint_u8_mod ?_ | refine lint_u32_mod ?_ | refine zii ?_ | refine zij ?_ | refine zua ?_ | refine LRes.mk ?_ | refine LIn.step ?_ | refine zdr ?_ | refine zna (fun _ => ?_) | refine znb (fun _ => ?_) | refine znc (fun _ => ?_) | refine newSlice0 (fun _ => ?_) | refine newMap (fun _ => ?_)))
    refine LLoop.inv (Γ := tab) (fun x : Nat × Vic => [(0, .slice (some ⟨b, o, none⟩) VS.length cap), (3, .slice (some ⟨g, 0, none⟩) (i + 1) c), (4, .int .i64 i), (5, .int .i64 x.1)]) (fun x => ERow 67 5 encVic (some ⟨g, 0, none⟩) (i + 1) c (midA (Q.map (gd VS)) x.2 x.1) :: M)
      (fun x => x.1 ≤ i ∧ ∀ y ∈ Q.drop x.1, bef VS i y) (fun x => x.1) (i, gd VS i) ⟨Nat.le_refl _, by intro y hy; rw [List.drop_of_length_le (by omega)] at hy; simp at hy⟩ zSu zEn ?_
    rintro ⟨k, J⟩ ⟨hk, hR⟩
    dsimp only at hk hR ⊢
    have hmk := midA_len (Q := Q.map (gd VS)) (x := J) (k := k) (by omega)
    have fin : (k = 0 ∨ bef VS (gd Q (k - 1)) i) → (Q.take k ++ i :: Q.drop k).Perm (List.range (i + 1)) ∧ (Q.take k ++ i :: Q.drop k).Pairwise (bef VS) := fun h2 => ⟨ins_pm (k := k) hpm, ins_pw (R := bef VS) (Q := Q) (k := k) (x := i) befV_trans hpw (by omega) hR h2⟩
    have hfm : (midA (Q.map (gd VS)) J k).set k (gd VS i) = (Q.take k ++ i :: Q.drop k).map (gd VS) := by
      rw [midA_set (by omega)]
      unfold midA
      rw [List.map_append, List.map_cons, List.map_take, List.map_drop]
    cases k with
    | zero =>
      obtain ⟨f1, f2⟩ := fin (.inl rfl)
      repeat ((conv => whnf); (first | refine ztx ?_ | refine LNext.nilr ?_ | refine zne ?_ | refine zga ?_ | refine zxa ?_ | refine zca ?_ | refine zcb ?_ | refine zgb ?_ | refine zgc ?_ | refine zgd1 ?_ | refine zge ?_ | refine zgf ?_ | refine zgg ?_ | refine zgh ?_ | refine zgi ?_ | refine zgj ?_ | refine zgk ?_ | refine max2m ?_ | refine min2m ?_ | refine eqStr ?_ | refine neqStr ?_ | refine eqSlNil ?_ | refine neqSlNil ?_ | refine eqBool ?_ | refine neqBool ?_ | refine zgl ?_ | refine zgm ?_ | refine zgn ?_ | refine zgo ?_ | refine zba ?_ | refine zbb ?_ | refine zbc ?_ | refine zbd ?_ | refine zbe ?_ | refine zbf ?_ | refine zia ?_ | refine zib ?_ | refine zic ?_ | refine zid1 ?_ | refine zie ?_ | refine zif1 ?_ | refine zig ?_ | refine zih ?_ | refine lint_u8_mod ?_ | refine lint_u32_mod ?_ | refine zii ?_ | refine zij ?_ | refine zua ?_ | refine LRes.mk ?_ | refine LIn.step ?_ | refine zdr ?_ | refine zna (fun _ => ?_) | refine znb (fun _ => ?_) | refine znc (fun _ => ?_) | refine newSlice0 (fun _ => ?_) | refine newMap (fun _ => ?_)))
      refine storeE tab (gd VS i) zTk (by intro _; rfl) rfl (by first | exact Nat.zero_add _ | rfl | omega | simp) zOm (by rfl) (by rfl) ?_
      rw [hfm]
      repeat ((conv => whnf); (first | refine ztx ?_ | refine LNext.nilr ?_ | refine zne ?_ | refine zga ?_ | refine zxa ?_ | refine zca ?_ | refine zcb ?_ | refine zgb ?_ | refine zgc ?_ | refine zgd1 ?_ | refine zge ?_ | refine zgf ?_ | refine zgg ?_ | refine zgh ?_ | refine zgi ?_ | refine zgj ?_ | refine zgk ?_ | refine max2m ?_ | refine min2m ?_ | refine eqStr ?_ | refine neqStr ?_ | refine eqSlNil ?_ | refine neqSlNil ?_ | refine eqBool ?_ | refine neqBool ?_ | refine zgl ?_ | refine zgm ?_ | refine zgn ?_ | refine zgo ?_ | refine zba ?_ | refine zbb ?_ | refine zbc ?_ | refine zbd ?_ | refine zbe ?_ | refine zbf ?_ | refine zia ?_ | refine zib ?_ | refine zic ?_ | refine zid1 ?_ | refine zie ?_ | refine zif1 ?_ | refine zig ?_ | refine zih ?_ | refine lint_u8_mod ?_ | refine lint_u32_mod ?_ | refine zii ?_ | refine zij ?_ | refine zua ?_ | refine LRes.mk ?_ | refine LIn.step ?_ | refine zdr ?_ | refine zna (fun _ => ?_) | refine znb (fun _ => ?_) | refine znc (fun _ => ?_) | refine newSlice0 (fun _ => ?_) | refine newMap (fun _ => ?_)))
      exact ⟨⟨i + 1, some ⟨g, 0, none⟩, c, Q.take 0 ++ i :: Q.drop 0⟩, ⟨h1, f1, f2⟩, by show VS.length - (i + 1) < VS.length - i; omega, zSu, zEn⟩
    | succ k =>
      have e2 : gd (midA (Q.map (gd VS)) J (k + 1)) k = gd VS (gd Q k) := by rw [midA_pre (by omega), gd_map (by omega)]
      have hq : gd Q k < i := List.mem_range.1 (hpm.mem_iff.1 (gd_mem (by omega)))
      repeat ((conv => whnf); (first | refine ztx ?_ | refine LNext.nilr ?_ | refine zne ?_ | refine zga ?_ | refine zxa ?_ | refine zca ?_ | refine zcb ?_ | refine zgb ?_ | refine zgc ?_ | refine zgd1 ?_ | refine zge ?_ | refine zgf ?_ | refine zgg ?_ | refine zgh ?_ | refine zgi ?_ | refine zgj ?_ | refine zgk ?_ | refine max2m ?_ | refine min2m ?_ | refine eqStr ?_ | refine neqStr ?_ | refine eqSlNil ?_ | refine neqSlNil ?_ | refine eqBool ?_ | refine neqBool ?_ | refine zgl ?_ | refine zgm ?_ | refine zgn ?_ | refine zgo ?_ | refine zba ?_ | refine zbb ?_ | refine zbc ?_ | refine zbd ?_ | refine zbe ?_ | refine zbf ?_ | refine zia ?_ | refine zib ?_ | refine zic ?_ | refine zid1 ?_ | refine zie ?_ | refine zif1 ?_ | refine zig ?_ | refine zih ?_ | refine lint_u8_mod ?_ | refine lint_u32_mod ?_ | refine zii ?_ | refine zij ?_ | refine zua ?_ | refine LRes.mk ?_ | refine LIn.step ?_ | refine zdr ?_ | refine zna (fun _ => ?_) | refine znb (fun _ => ?_) | refine znc (fun _ => ?_) | refine newSlice0 (fun _ => ?_) | refine newMap (fun _ => ?_)))
      refine ext0 (p := fun v => v = .bool (decide (befV (gd VS i) (gd VS (gd Q k))))) ?_ ?_
      · rw [← e2]; exact befV_ct _ _ _
      rintro v rfl
      by_cases hb : befV (gd VS i) (gd VS (gd Q k))
      · rw [decide_eq_true hb]
        repeat ((conv => whnf); (first | refine ztx ?_ | refine LNext.nilr ?_ | refine zne ?_ | refine zga ?_ | refine zxa ?_ | refine zca ?_ | refine zcb ?_ | refine zgb ?_ | refine zgc ?_ | refine zgd1 ?_ | refine zge ?_ | refine zgf ?_ | refine zgg ?_ | refine zgh ?_ | refine zgi ?_ | refine zgj ?_ | refine zgk ?_ | refine max2m ?_ | refine min2m ?_ | refine eqStr ?_ | refine neqStr ?_ | refine eqSlNil ?_ | refine neqSlNil ?_ | refine eqBool ?_ | refine neqBool ?_ | refine zgl ?_ | refine zgm ?_ | refine zgn ?_ | refine zgo ?_ | refine zba ?_ | refine zbb ?_ | refine zbc ?_ | refine zbd ?_ | refine zbe ?_ | refine zbf ?_ | refine zia ?_ | refine zib ?_ | refine zic ?_ | refine zid1 ?_ | refine zie ?_ | refine zif1 ?_ | refine zig ?_ | refine zih ?_ | refine lint_u8_mod ?_ | refine lint_u32_mod ?_ | refine zii ?_ | refine zij ?_ | refine zua ?_ | refine LRes.mk ?_ | refine LIn.step ?_ | refine zdr ?_ | refine zna (fun _ => ?_) | refine znb (fun _ => ?_) | refine znc (fun _ => ?_) | refine newSlice0 (fun _ => ?_) | refine newMap (fun _ => ?_)))
        refine storeE tab (gd (midA (Q.map (gd VS)) J (k + 1)) k) zTk (by intro _; rfl) rfl (by first | exact Nat.zero_add _ | rfl | omega | simp) zOm (by rfl) (by rfl) ?_
        repeat ((conv => whnf); (first | refine ztx ?_ | refine LNext.nilr ?_ | refine zne ?_ | refine zga ?_ | refine zxa ?_ | refine zca ?_ | refine zcb ?_ | refine zgb ?_ | refine zgc ?_ | refine zgd1 ?_ | refine zge ?_ | refine zgf ?_ | refine zgg ?_ | refine zgh ?_ | refine zgi ?_ | refine zgj ?_ | refine zgk ?_ | refine max2m ?_ | refine min2m ?_ | refine eqStr ?_ | refine neqStr ?_ | refine eqSlNil ?_ | refine neqSlNil ?_ | refine eqBool ?_ | refine neqBool ?_ | refine zgl ?_ | refine zgm ?_ | refine zgn ?_ | refine zgo ?_ | refine zba ?_ | refine zbb ?_ | refine zbc ?_ | refine zbd ?_ | refine zbe ?_ | refine zbf ?_ | refine zia ?_ | refine zib ?_ | refine zic ?_ | refine zid1 ?_ | refine zie ?_ | refine zif1 ?_ | refine zig ?_ | refine zih ?_ | refine lint_u8_mod ?_ | refine lint_u32_mod ?_ | refine zii ?_ | refine zij ?_ | refine zua ?_ | refine LRes.mk ?_ | refine LIn.step ?_ | refine zdr ?_ | refine zna (fun _ => ?_) | refine znb (fun _ => ?_) | refine znc (fun _ => ?_) | refine newSlice0 (fun _ => ?_) | refine newMap (fun _ => ?_)))
        refine ⟨(k, gd VS (gd Q k)), ⟨by show k ≤ i; omega, fun y hy => ?_⟩, by show k < k + 1; omega, zSu, ?_⟩
        · rw [gd_drop (by omega)] at hy
          rcases List.mem_cons.1 hy with rfl | hy
          · exact hb
          · exact hR y hy
        · show Ent (ERow _ _ _ _ _ _ ((midA (Q.map (gd VS)) J (k + 1)).set (k + 1) (gd (midA (Q.map (gd VS)) J (k + 1)) k)) :: _) _
          have e3 : gd (Q.map (gd VS)) k = gd VS (gd Q k) := gd_map (by omega)
          rw [e2, midA_set (by omega), ← e3, midA_down (by omega)]
          exact zEn
      · rw [decide_eq_false hb]
        have hnb : bef VS (gd Q k) i := (hd.tri h1 (by omega) (by omega)).resolve_left hb
        obtain ⟨f1, f2⟩ := fin (.inr hnb)
        repeat ((conv => whnf); (first | refine ztx ?_ | refine LNext.nilr ?_ | refine zne ?_ | refine zga ?_ | refine zxa ?_ | refine zca ?_ | refine zcb ?_ | refine zgb ?_ | refine zgc ?_ | refine zgd1 ?_ | refine zge ?_ | refine zgf ?_ | refine zgg ?_ | refine zgh ?_ | refine zgi ?_ | refine zgj ?_ | refine zgk ?_ | refine max2m ?_ | refine min2m ?_ | refine eqStr ?_ | refine neqStr ?_ | refine eqSlNil ?_ | refine neqSlNil ?_ | refine eqBool ?_ | refine neqBool ?_ | refine zgl ?_ | refine zgm ?_ | refine zgn ?_ | refine zgo ?_ | refine zba ?_ | refine zbb ?_ | refine zbc ?_ | refine zbd ?_ | refine zbe ?_ | refine zbf ?_ | refine zia ?_ | refine zib ?_ | refine zic ?_ | refine zid1 ?_ | refine zie ?_ | refine zif1 ?_ | refine zig ?_ | refine zih ?_ | refine lint_u8_mod ?_ | refine lint_u32_mod ?_ | refine zii ?_ | refine zij ?_ | refine zua ?_ | refine LRes.mk ?_ | refine LIn.step ?_ | refine zdr ?_ | refine zna (fun _ => ?_) | refine znb (fun _ => ?_) | refine znc (fun _ => ?_) | refine newSlice0 (fun _ => ?_) | refine newMap (fun _ => ?_)))
        refine storeE tab (gd VS i) zTk (by intro _; rfl) rfl (by first | exact Nat.zero_add _ | rfl | omega | simp) zOm (by rfl) (by rfl) ?_
        rw [hfm]
        repeat ((conv => whnf); (first | refine ztx ?_ | refine LNext.nilr ?_ | refine zne ?_ | refine zga ?_ | refine zxa ?_ | refine zca ?_ | refine zcb ?_ | refine zgb ?_ | refine zgc ?_ | refine zgd1 ?_ | refine zge ?_ | refine zgf ?_ | refine zgg ?_ | refine zgh ?_ | refine zgi ?_ | refine zgj ?_ | refine zgk ?_ | refine max2m ?_ | refine min2m ?_ | refine eqStr ?_ | refine neqStr ?_ | refine eqSlNil ?_ | refine neqSlNil ?_ | refine eqBool ?_ | refine neqBool ?_ | refine zgl ?_ | refine zgm ?_ | refine zgn ?_ | refine zgo ?_ | refine zba ?_ | refine zbb ?_ | refine zbc ?_ | refine zbd ?_ | refine zbe ?_ | refine zbf ?_ | refine zia ?_ | refine zib ?_ | refine zic ?_ | refine zid1 ?_ | refine zie ?_ | refine zif1 ?_ | refine zig ?_ | refine zih ?_ | refine lint_u8_mod ?_ | refine lint_u32_mod ?_ | refine zii ?_ | refine zij ?_ | refine zua ?_ | refine LRes.mk ?_ | refine LIn.step ?_ | refine zdr ?_ | refine zna (fun _ => ?_) | refine znb (fun _ => ?_) | refine znc (fun _ => ?_) | refine newSlice0 (fun _ => ?_) | refine newMap (fun _ => ?_)))
        exact ⟨⟨i + 1, some ⟨g, 0, none⟩, c, Q.take (k + 1) ++ i :: Q.drop (k + 1)⟩, ⟨h1, f1, f2⟩, by show VS.length - (i + 1) < VS.length - i; omega, zSu, zEn⟩
  · have : i = VS.length := by omega
    subst this
    have hQ : Q = ordV VS := IsOrdV.unique ⟨hpw, hpm⟩ (ordV_is hd)
    subst hQ
    repeat ((conv => whnf); (first | refine ztx ?_ | refine LNext.nilr ?_ | refine zne ?_ | refine zga ?_ | refine zxa ?_ | refine zca ?_ | refine zcb ?_ | refine zgb ?_ | refine zgc ?_ | refine zgd1 ?_ | refine zge ?_ | refine zgf ?_ | refine zgg ?_ | refine zgh ?_ | refine zgi ?_ | refine zgj ?_ | refine zgk ?_ | refine max2m ?_ | refine min2m ?_ | refine eqStr ?_ | refine neqStr ?_ | refine eqSlNil ?_ | refine neqSlNil ?_ | refine eqBool ?_ | refine neqBool ?_ | refine zgl ?_ | refine zgm ?_ | refine zgn ?_ | refine zgo ?_ | refine zba ?_ | refine zbb ?_ | refine zbc ?_ | refine zbd ?_ | refine zbe ?_ | refine zbf ?_ | refine zia ?_ | refine zib ?_ | refine zic ?_ | refine zid1 ?_ | refine zie ?_ | refine zif1 ?_ | refine zig ?_ | refine zih ?_ | refine lint_u8_mod ?_ | refine lint_u32_mod ?_ | refine zii ?_ | refine zij ?_ | refine zua ?_ | refine LRes.mk ?_ | refine LIn.step ?_ | refine zdr ?_ | refine zna (fun _ => ?_) | refine znb (fun _ => ?_) | refine znc (fun _ => ?_) | refine newSlice0 (fun _ => ?_) | refine newMap (fun _ => ?_)))
    show Fin _ _ _; exact Fin.of (ERow 67 5 encVic oa VS.length oc ((ordV VS).map (gd VS)) :: M) zEn ⟨oa, oc, rfl, rfl⟩
end Go.Proofs.Ytjgionnigenijaa
