import Derived.Test.YtjgionnigenijaaMmTop2
namespace Go.Proofs.Ytjgionnigenijaa
open Go.Sl
set_option linter.unusedVariables false
set_option maxRecDepth 100000
set_option maxHeartbeats 4000000

theorem Kept.settle {K : List K3} {h : HS} (w : WF K h) {i : Nat} (hi : i < h.A.length) : Kept K h (settle K h i) := by
  have k0 := Kept.pairH w i
  have hl := k0.len
  rw [settle_eq]
  dsimp only
  have hx : ∀ x, some (at_ (Go.Proofs.Ytjgionnigenijaa.pairH K h i).A (lo i)) = some x → ∃ j, j < (Go.Proofs.Ytjgionnigenijaa.pairH K h i).A.length ∧ at_ (Go.Proofs.Ytjgionnigenijaa.pairH K h i).A j = x := fun x e => ⟨lo i, by unfold lo; omega, by injection e⟩
  have hy : ∀ x, settleY K (Go.Proofs.Ytjgionnigenijaa.pairH K h i) i = some x → ∃ j, j < (Go.Proofs.Ytjgionnigenijaa.pairH K h i).A.length ∧ at_ (Go.Proofs.Ytjgionnigenijaa.pairH K h i).A j = x := by
    intro x e
    unfold settleY at e
    split at e
    · rename_i hl
      exact ⟨_, hl, by injection e⟩
    · cases e
  exact k0.trans (Kept.downZ (Kept.downZ (Kept.upZ (Kept.upZ (Kept.refl k0.wf) hx) hy) hx) hy)

/-- The last place goes, and what stood at i. -/
def cut (h : HS) (i y : Nat) : HS := ⟨(swp h i (h.A.length - 1)).A.take (h.A.length - 1), (swp h i (h.A.length - 1)).S.set y 0⟩
def rmH (K : List K3) (h : HS) (i y : Nat) : HS := if i < h.A.length - 1 then settle K (cut h i y) i else cut h i y
theorem cut_len {K : List K3} {h : HS} (i y : Nat) : (cut h i y).A.length = h.A.length - 1 := by
  simp [cut, swp, swA_len]
theorem at_take {A : List Nat} {l j : Nat} (h : j < l) : at_ (A.take l) j = at_ A j := by
  unfold at_
  rw [List.getD_eq_getElem?_getD, List.getD_eq_getElem?_getD, List.getElem?_take, if_pos h]
theorem cut_last {h : HS} {i : Nat} (hi : i < h.A.length) : at_ (swp h i (h.A.length - 1)).A (h.A.length - 1) = at_ h.A i := by
  show at_ (swA h.A i (h.A.length - 1)) (h.A.length - 1) = _
  rw [at_swA hi (by omega)]; simp
theorem Okh.cut {K : List K3} {h : HS} (o : Okh K h) {i y : Nat} (hi : i < h.A.length) (hy : at_ h.A i = y) : Okh K (cut h i y) := by
  have k := Kept.swp o.wf hi (j := h.A.length - 1) (by omega)
  have o1 := o.kept k
  have hla := cut_last hi
  have hl := k.len
  have hyk := o.wf.lt i hi
  have hcl := cut_len (K := K) (h := h) i y
  generalize hh1 : swp h i (h.A.length - 1) = h1 at *
  have hks := o1.wf.ks
  have hA : ∀ j, j < h.A.length - 1 → at_ (Go.Proofs.Ytjgionnigenijaa.cut h i y).A j = at_ h1.A j := fun j hj => by unfold Go.Proofs.Ytjgionnigenijaa.cut; rw [hh1]; exact at_take hj
  have hS : ∀ x, at_ (Go.Proofs.Ytjgionnigenijaa.cut h i y).S x = if x = y then 0 else at_ h1.S x := fun x => by unfold Go.Proofs.Ytjgionnigenijaa.cut; rw [hh1]; exact at_set _ _ _ _ (by omega)
  refine ⟨⟨?_, o.wf.small, ?_, ?_⟩, ?_⟩
  · unfold Go.Proofs.Ytjgionnigenijaa.cut; rw [hh1]; simpa using o1.wf.ks
  · intro j hj
    rw [hcl] at hj
    rw [hA j hj]; exact o1.wf.lt j (by omega)
  · intro j hj
    rw [hcl] at hj
    rw [hA j hj, hS]
    rw [if_neg ?_]
    · exact o1.wf.sp j (by omega)
    · intro e
      have := o1.wf.inj (i := j) (j := h.A.length - 1) (by omega) (by omega) (by rw [e, hla, hy])
      omega
  · intro x hx
    rw [hS]
    split
    · rfl
    · rename_i hne
      apply o1.full
      rintro ⟨j, hj, e⟩
      by_cases hjl : j < h.A.length - 1
      · exact hx ⟨j, by rw [hcl]; exact hjl, by rw [hA j hjl]; exact e⟩
      · have : j = h.A.length - 1 := by omega
        subst this
        rw [hla, hy] at e
        exact hne e.symm
theorem Okh.rm {K : List K3} {h : HS} (o : Okh K h) {i y : Nat} (hi : i < h.A.length) (hy : at_ h.A i = y) : Okh K (rmH K h i y) := by
  have oc := o.cut hi hy
  unfold rmH
  split
  · rename_i hl
    exact oc.kept (Kept.settle oc.wf (by rw [cut_len (K := K)]; exact hl))
  · exact oc

/-- What taking x out leaves, and answers. -/
def remH (K : List K3) (h : HS) (x : Int) : HS := if plc h x < 0 then h else rmH K h (plc h x).toNat x.toNat
def remE (h : HS) (x : Int) : Int := if plc h x < 0 then 3 else 0
theorem Okh.rem {K : List K3} {h : HS} (o : Okh K h) (x : Int) : Okh K (remH K h x) := by
  unfold remH
  split
  · exact o
  · rename_i hp
    obtain ⟨y, i, rfl, hy, hi, e1, e2, e3⟩ := o.plc hp
    rw [e3]
    exact o.rm hi e1
theorem Remove_nil (x : Int) : Ctr Try.prog 41 #[.pointer none, .int .i64 x] [] (fun v M' => v = .int .i64 3 ∧ M' = []) := by
  refine ctr_of (Γ := tab) (vs := [_, _]) fn41 rfl ?_
  repeat (first | refine LNext.go tab ?_ | refine LText.all rfl ?_ | refine LDraw.all (by decide +kernel) ?_ | refine LRes.mk ?_ | refine load1 tab rfl zCe ?_ | refine lenSlice tab rfl ?_ | refine newBox rfl (fun _ => ?_) | refine newAlloc tab rfl (fun _ => ?_) | refine lbool (c := true) rfl ?_ | refine lbool (c := false) rfl ?_ | refine lcond_t rfl ?_ | refine lcond_f rfl ?_ | refine store1 tab rfl zTk rfl rfl rfl ?_ | refine lbool (c := true) (by assumption) ?_ | refine lbool (c := false) (by assumption) ?_ | refine lcond_t (by assumption) ?_ | refine lcond_f (by assumption) ?_ | refine build1 tab rfl ?_ | refine loadN tab rfl rfl zCs rfl ?_)
  refine call0 (place_nil x _) ?_
  rintro v rfl
  repeat (first | refine LNext.go tab ?_ | refine LText.all rfl ?_ | refine LDraw.all (by decide +kernel) ?_ | refine LRes.mk ?_ | refine load1 tab rfl zCe ?_ | refine lenSlice tab rfl ?_ | refine newBox rfl (fun _ => ?_) | refine newAlloc tab rfl (fun _ => ?_) | refine lbool (c := true) rfl ?_ | refine lbool (c := false) rfl ?_ | refine lcond_t rfl ?_ | refine lcond_f rfl ?_ | refine store1 tab rfl zTk rfl rfl rfl ?_ | refine lbool (c := true) (by assumption) ?_ | refine lbool (c := false) (by assumption) ?_ | refine lcond_t (by assumption) ?_ | refine lcond_f (by assumption) ?_ | refine build1 tab rfl ?_ | refine loadN tab rfl rfl zCs rfl ?_)
  show Fin _ _ _; exact Fin.of [] (Split.ent zSp) ⟨rfl, rfl⟩
theorem Remove_ct (q : Pq) (K : List K3) (h : HS) (o : Okh K h) (g : Good q K) (x : Int) :
    Ctr Try.prog 41 #[.pointer (some ⟨q.b, 0, none⟩), .int .i64 x] (HMq q K h) (fun v M' => v = .int .i64 (remE h x) ∧ M' = HMq q K (remH K h x)) := by
  have hn := o.wf.len
  have hs := o.wf.small
  have hks := o.wf.ks
  refine ctr_of (Γ := tab) (vs := [_, _]) fn41 rfl ?_
  repeat (first | refine LNext.go tab ?_ | refine LText.all rfl ?_ | refine LDraw.all (by decide +kernel) ?_ | refine LRes.mk ?_ | refine load1 tab rfl zCe ?_ | refine lenSlice tab rfl ?_ | refine newBox rfl (fun _ => ?_) | refine newAlloc tab rfl (fun _ => ?_) | refine lbool (c := true) rfl ?_ | refine lbool (c := false) rfl ?_ | refine lcond_t rfl ?_ | refine lcond_f rfl ?_ | refine store1 tab rfl zTk rfl rfl rfl ?_ | refine lbool (c := true) (by assumption) ?_ | refine lbool (c := false) (by assumption) ?_ | refine lcond_t (by assumption) ?_ | refine lcond_f (by assumption) ?_ | refine build1 tab rfl ?_ | refine loadN tab rfl rfl zCs rfl ?_)
  refine call1 (place_ct q K h o g x) zSp ?_
  rintro v M' ⟨rfl, rfl⟩
  repeat (first | refine LNext.go tab ?_ | refine LText.all rfl ?_ | refine LDraw.all (by decide +kernel) ?_ | refine LRes.mk ?_ | refine load1 tab rfl zCe ?_ | refine lenSlice tab rfl ?_ | refine newBox rfl (fun _ => ?_) | refine newAlloc tab rfl (fun _ => ?_) | refine lbool (c := true) rfl ?_ | refine lbool (c := false) rfl ?_ | refine lcond_t rfl ?_ | refine lcond_f rfl ?_ | refine store1 tab rfl zTk rfl rfl rfl ?_ | refine lbool (c := true) (by assumption) ?_ | refine lbool (c := false) (by assumption) ?_ | refine lcond_t (by assumption) ?_ | refine lcond_f (by assumption) ?_ | refine build1 tab rfl ?_ | refine loadN tab rfl rfl zCs rfl ?_)
  refine LCond.mk (fun hc => ?_) (fun hc => ?_)
  · have hc' : plc h x < 0 := by simpa using hc
    repeat (first | refine LNext.go tab ?_ | refine LText.all rfl ?_ | refine LDraw.all (by decide +kernel) ?_ | refine LRes.mk ?_ | refine load1 tab rfl zCe ?_ | refine lenSlice tab rfl ?_ | refine newBox rfl (fun _ => ?_) | refine newAlloc tab rfl (fun _ => ?_) | refine lbool (c := true) rfl ?_ | refine lbool (c := false) rfl ?_ | refine lcond_t rfl ?_ | refine lcond_f rfl ?_ | refine store1 tab rfl zTk rfl rfl rfl ?_ | refine lbool (c := true) (by assumption) ?_ | refine lbool (c := false) (by assumption) ?_ | refine lcond_t (by assumption) ?_ | refine lcond_f (by assumption) ?_ | refine build1 tab rfl ?_ | refine loadN tab rfl rfl zCs rfl ?_)
    refine Fin.of (HMq q K (remH K h x)) ?_ ⟨?_, rfl⟩
    · rw [remH, if_pos hc']; exact Split.ent zSp
    · rw [remE, if_pos hc']
  · have hc' : ¬ plc h x < 0 := by simpa using hc
    have he : remE h x = 0 := by rw [remE, if_neg hc']
    have hr : remH K h x = rmH K h (plc h x).toNat x.toNat := by rw [remH, if_neg hc']
    have oc := fun i y hi hy => o.cut (i := i) (y := y) hi hy
    obtain ⟨y, i, rfl, hy, hi, e1, e2, e3⟩ := o.plc hc'
    obtain ⟨p, rfl⟩ := g.get (by omega)
    rw [e3, Int.toNat_natCast, Int.toNat_natCast] at hr
    rw [e3]
    have oc := oc i y hi e1
    have hcl := cut_len (K := K) (h := h) i y
    repeat (first | refine LNext.go tab ?_ | refine LText.all rfl ?_ | refine LDraw.all (by decide +kernel) ?_ | refine LRes.mk ?_ | refine load1 tab rfl zCe ?_ | refine lenSlice tab rfl ?_ | refine newBox rfl (fun _ => ?_) | refine newAlloc tab rfl (fun _ => ?_) | refine lbool (c := true) rfl ?_ | refine lbool (c := false) rfl ?_ | refine lcond_t rfl ?_ | refine lcond_f rfl ?_ | refine store1 tab rfl zTk rfl rfl rfl ?_ | refine lbool (c := true) (by assumption) ?_ | refine lbool (c := false) (by assumption) ?_ | refine lcond_t (by assumption) ?_ | refine lcond_f (by assumption) ?_ | refine build1 tab rfl ?_ | refine loadN tab rfl rfl zCs rfl ?_)
    refine lnat (h.A.length - 1) (by first | rfl | exact tdiv_nat _ _ | omega) (by omega) ?_
    repeat (first | refine LNext.go tab ?_ | refine LText.all rfl ?_ | refine LDraw.all (by decide +kernel) ?_ | refine LRes.mk ?_ | refine load1 tab rfl zCe ?_ | refine lenSlice tab rfl ?_ | refine newBox rfl (fun _ => ?_) | refine newAlloc tab rfl (fun _ => ?_) | refine lbool (c := true) rfl ?_ | refine lbool (c := false) rfl ?_ | refine lcond_t rfl ?_ | refine lcond_f rfl ?_ | refine store1 tab rfl zTk rfl rfl rfl ?_ | refine lbool (c := true) (by assumption) ?_ | refine lbool (c := false) (by assumption) ?_ | refine lcond_t (by assumption) ?_ | refine lcond_f (by assumption) ?_ | refine build1 tab rfl ?_ | refine loadN tab rfl rfl zCs rfl ?_)
    refine call1 (swap_ct p K h o.wf i (h.A.length - 1) hi (by omega)) zSp ?_
    rintro v M' ⟨rfl, rfl⟩
    repeat (first | refine LNext.go tab ?_ | refine LText.all rfl ?_ | refine LDraw.all (by decide +kernel) ?_ | refine LRes.mk ?_ | refine load1 tab rfl zCe ?_ | refine lenSlice tab rfl ?_ | refine newBox rfl (fun _ => ?_) | refine newAlloc tab rfl (fun _ => ?_) | refine lbool (c := true) rfl ?_ | refine lbool (c := false) rfl ?_ | refine lcond_t rfl ?_ | refine lcond_f rfl ?_ | refine store1 tab rfl zTk rfl rfl rfl ?_ | refine lbool (c := true) (by assumption) ?_ | refine lbool (c := false) (by assumption) ?_ | refine lcond_t (by assumption) ?_ | refine lcond_f (by assumption) ?_ | refine build1 tab rfl ?_ | refine loadN tab rfl rfl zCs rfl ?_)
    have hl1 : (swp h i (h.A.length - 1)).A.length = h.A.length := swA_len _ _ _
    have hl2 : (swp h i (h.A.length - 1)).S.length = K.length := by rw [show (swp h i (h.A.length - 1)).S = swS h.A h.S i (h.A.length - 1) from rfl, swS_len, hks]
    have hcA : (cut h i y).A = (swp h i (h.A.length - 1)).A.take (h.A.length - 1) := rfl
    have hcS : (cut h i y).S = (swp h i (h.A.length - 1)).S.set y 0 := rfl
    generalize hh1 : swp h i (h.A.length - 1) = h1 at *
    refine sliceHi tab rfl rfl (ERow.capLe zTk (n := h1.A.length) (xs := h1.A) (by omega)) ?_
    repeat (first | refine LNext.go tab ?_ | refine LText.all rfl ?_ | refine LDraw.all (by decide +kernel) ?_ | refine LRes.mk ?_ | refine load1 tab rfl zCe ?_ | refine lenSlice tab rfl ?_ | refine newBox rfl (fun _ => ?_) | refine newAlloc tab rfl (fun _ => ?_) | refine lbool (c := true) rfl ?_ | refine lbool (c := false) rfl ?_ | refine lcond_t rfl ?_ | refine lcond_f rfl ?_ | refine store1 tab rfl zTk rfl rfl rfl ?_ | refine lbool (c := true) (by assumption) ?_ | refine lbool (c := false) (by assumption) ?_ | refine lcond_t (by assumption) ?_ | refine lcond_f (by assumption) ?_ | refine build1 tab rfl ?_ | refine loadN tab rfl rfl zCs rfl ?_)
    refine lidx y rfl (by omega) ?_
    refine storeERow tab encN_len (i := y) 0 rfl zTk (by omega) (by omega) rfl rfl ?_
    refine LNext.ent (N := HM p K (cut h i y)) ?_ ?_
    · unfold HM
      rw [hcA, hcS, List.length_set, List.length_take, Nat.min_eq_left (by omega)]
      exact Ent.trans (Split.ent (L := [ERow 3 1 encN (some ⟨p.ga, 0, none⟩) h1.A.length p.ca h1.A, pt p.b _, ERow 60 3 encK (some ⟨p.gk, 0, none⟩) K.length p.ck K, ERow 3 1 encN (some ⟨p.gs, 0, none⟩) h1.S.length p.cs (h1.S.set y 0)]) zSp) (Ent.trans (ERow.shrink encN_len (m := h.A.length - 1) (by omega)) (Split.ent zSp))
    repeat (first | refine LNext.go tab ?_ | refine LText.all rfl ?_ | refine LDraw.all (by decide +kernel) ?_ | refine LRes.mk ?_ | refine load1 tab rfl zCe ?_ | refine lenSlice tab rfl ?_ | refine newBox rfl (fun _ => ?_) | refine newAlloc tab rfl (fun _ => ?_) | refine lbool (c := true) rfl ?_ | refine lbool (c := false) rfl ?_ | refine lcond_t rfl ?_ | refine lcond_f rfl ?_ | refine store1 tab rfl zTk rfl rfl rfl ?_ | refine lbool (c := true) (by assumption) ?_ | refine lbool (c := false) (by assumption) ?_ | refine lcond_t (by assumption) ?_ | refine lcond_f (by assumption) ?_ | refine build1 tab rfl ?_ | refine loadN tab rfl rfl zCs rfl ?_)
    refine LCond.mk (fun hc2 => ?_) (fun hc2 => ?_)
    · have hl : i < h.A.length - 1 := by rw [lt_nat] at hc2; simpa using hc2
      repeat (first | refine LNext.go tab ?_ | refine LText.all rfl ?_ | refine LDraw.all (by decide +kernel) ?_ | refine LRes.mk ?_ | refine load1 tab rfl zCe ?_ | refine lenSlice tab rfl ?_ | refine newBox rfl (fun _ => ?_) | refine newAlloc tab rfl (fun _ => ?_) | refine lbool (c := true) rfl ?_ | refine lbool (c := false) rfl ?_ | refine lcond_t rfl ?_ | refine lcond_f rfl ?_ | refine store1 tab rfl zTk rfl rfl rfl ?_ | refine lbool (c := true) (by assumption) ?_ | refine lbool (c := false) (by assumption) ?_ | refine lcond_t (by assumption) ?_ | refine lcond_f (by assumption) ?_ | refine build1 tab rfl ?_ | refine loadN tab rfl rfl zCs rfl ?_)
      refine call1 (settle_ct p K (cut h i y) oc.wf i (by rw [hcl]; exact hl)) zSp ?_
      rintro v M' ⟨rfl, rfl⟩
      repeat (first | refine LNext.go tab ?_ | refine LText.all rfl ?_ | refine LDraw.all (by decide +kernel) ?_ | refine LRes.mk ?_ | refine load1 tab rfl zCe ?_ | refine lenSlice tab rfl ?_ | refine newBox rfl (fun _ => ?_) | refine newAlloc tab rfl (fun _ => ?_) | refine lbool (c := true) rfl ?_ | refine lbool (c := false) rfl ?_ | refine lcond_t rfl ?_ | refine lcond_f rfl ?_ | refine store1 tab rfl zTk rfl rfl rfl ?_ | refine lbool (c := true) (by assumption) ?_ | refine lbool (c := false) (by assumption) ?_ | refine lcond_t (by assumption) ?_ | refine lcond_f (by assumption) ?_ | refine build1 tab rfl ?_ | refine loadN tab rfl rfl zCs rfl ?_)
      refine Fin.of (HMq p.q K (remH K h y)) ?_ ⟨by rw [he], rfl⟩
      rw [hr, rmH, if_pos hl]
      exact Split.ent zSp
    · have hl : ¬ i < h.A.length - 1 := by rw [lt_nat] at hc2; simpa using hc2
      repeat (first | refine LNext.go tab ?_ | refine LText.all rfl ?_ | refine LDraw.all (by decide +kernel) ?_ | refine LRes.mk ?_ | refine load1 tab rfl zCe ?_ | refine lenSlice tab rfl ?_ | refine newBox rfl (fun _ => ?_) | refine newAlloc tab rfl (fun _ => ?_) | refine lbool (c := true) rfl ?_ | refine lbool (c := false) rfl ?_ | refine lcond_t rfl ?_ | refine lcond_f rfl ?_ | refine store1 tab rfl zTk rfl rfl rfl ?_ | refine lbool (c := true) (by assumption) ?_ | refine lbool (c := false) (by assumption) ?_ | refine lcond_t (by assumption) ?_ | refine lcond_f (by assumption) ?_ | refine build1 tab rfl ?_ | refine loadN tab rfl rfl zCs rfl ?_)
      refine Fin.of (HMq p.q K (remH K h y)) ?_ ⟨by rw [he], rfl⟩
      rw [hr, rmH, if_neg hl]
      exact Split.ent zSp

/-- What popping answers and leaves. -/
def popH (K : List K3) (h : HS) (r : Nat × K3 × Int) : HS := if r.2.2 = 0 then remH K h r.1 else h
theorem Okh.pop {K : List K3} {h : HS} (o : Okh K h) (r : Nat × K3 × Int) : Okh K (popH K h r) := by
  unfold popH
  split
  · exact o.rem _
  · exact o
theorem PopMax_nil : Ctr Try.prog 24 #[.pointer none] [] (fun v M' => v = ans3 noAns ∧ M' = []) := by
  refine ctr_of (Γ := tab) (vs := [_]) fn24 rfl ?_
  repeat (first | refine LNext.go tab ?_ | refine LText.all rfl ?_ | refine LDraw.all (by decide +kernel) ?_ | refine LRes.mk ?_ | refine load1 tab rfl zCe ?_ | refine lenSlice tab rfl ?_ | refine newBox rfl (fun _ => ?_) | refine newAlloc tab rfl (fun _ => ?_) | refine lbool (c := true) rfl ?_ | refine lbool (c := false) rfl ?_ | refine lcond_t rfl ?_ | refine lcond_f rfl ?_ | refine store1 tab rfl zTk rfl rfl rfl ?_ | refine lbool (c := true) (by assumption) ?_ | refine lbool (c := false) (by assumption) ?_ | refine lcond_t (by assumption) ?_ | refine lcond_f (by assumption) ?_ | refine build1 tab rfl ?_ | refine loadN tab rfl rfl zCs rfl ?_)
  refine call1 Max_nil zSp ?_
  rintro v M' ⟨rfl, rfl⟩
  repeat (first | refine LNext.go tab ?_ | refine LText.all rfl ?_ | refine LDraw.all (by decide +kernel) ?_ | refine LRes.mk ?_ | refine load1 tab rfl zCe ?_ | refine lenSlice tab rfl ?_ | refine newBox rfl (fun _ => ?_) | refine newAlloc tab rfl (fun _ => ?_) | refine lbool (c := true) rfl ?_ | refine lbool (c := false) rfl ?_ | refine lcond_t rfl ?_ | refine lcond_f rfl ?_ | refine store1 tab rfl zTk rfl rfl rfl ?_ | refine lbool (c := true) (by assumption) ?_ | refine lbool (c := false) (by assumption) ?_ | refine lcond_t (by assumption) ?_ | refine lcond_f (by assumption) ?_ | refine build1 tab rfl ?_ | refine loadN tab rfl rfl zCs rfl ?_)
  show Fin _ _ _; exact Fin.of [] (Split.ent zSp) ⟨rfl, rfl⟩
theorem PopMax_ct (q : Pq) (K : List K3) (h : HS) (o : Okh K h) (g : Good q K) : Ctr Try.prog 24 #[.pointer (some ⟨q.b, 0, none⟩)] (HMq q K h) (fun v M' => v = ans3 (maxR K h) ∧ M' = HMq q K (popH K h (maxR K h))) := by
  refine ctr_of (Γ := tab) (vs := [_]) fn24 rfl ?_
  repeat (first | refine LNext.go tab ?_ | refine LText.all rfl ?_ | refine LDraw.all (by decide +kernel) ?_ | refine LRes.mk ?_ | refine load1 tab rfl zCe ?_ | refine lenSlice tab rfl ?_ | refine newBox rfl (fun _ => ?_) | refine newAlloc tab rfl (fun _ => ?_) | refine lbool (c := true) rfl ?_ | refine lbool (c := false) rfl ?_ | refine lcond_t rfl ?_ | refine lcond_f rfl ?_ | refine store1 tab rfl zTk rfl rfl rfl ?_ | refine lbool (c := true) (by assumption) ?_ | refine lbool (c := false) (by assumption) ?_ | refine lcond_t (by assumption) ?_ | refine lcond_f (by assumption) ?_ | refine build1 tab rfl ?_ | refine loadN tab rfl rfl zCs rfl ?_)
  refine call1 (Max_ct q K h o.wf g) zSp ?_
  rintro v M' ⟨rfl, rfl⟩
  generalize maxR K h = r
  obtain ⟨x, ⟨k1, k2, k3⟩, e⟩ := r
  repeat (first | refine LNext.go tab ?_ | refine LText.all rfl ?_ | refine LDraw.all (by decide +kernel) ?_ | refine LRes.mk ?_ | refine load1 tab rfl zCe ?_ | refine lenSlice tab rfl ?_ | refine newBox rfl (fun _ => ?_) | refine newAlloc tab rfl (fun _ => ?_) | refine lbool (c := true) rfl ?_ | refine lbool (c := false) rfl ?_ | refine lcond_t rfl ?_ | refine lcond_f rfl ?_ | refine store1 tab rfl zTk rfl rfl rfl ?_ | refine lbool (c := true) (by assumption) ?_ | refine lbool (c := false) (by assumption) ?_ | refine lcond_t (by assumption) ?_ | refine lcond_f (by assumption) ?_ | refine build1 tab rfl ?_ | refine loadN tab rfl rfl zCs rfl ?_)
  refine LCond.mk (fun hc => ?_) (fun hc => ?_)
  · have he : e = 0 := by simpa using hc
    repeat (first | refine LNext.go tab ?_ | refine LText.all rfl ?_ | refine LDraw.all (by decide +kernel) ?_ | refine LRes.mk ?_ | refine load1 tab rfl zCe ?_ | refine lenSlice tab rfl ?_ | refine newBox rfl (fun _ => ?_) | refine newAlloc tab rfl (fun _ => ?_) | refine lbool (c := true) rfl ?_ | refine lbool (c := false) rfl ?_ | refine lcond_t rfl ?_ | refine lcond_f rfl ?_ | refine store1 tab rfl zTk rfl rfl rfl ?_ | refine lbool (c := true) (by assumption) ?_ | refine lbool (c := false) (by assumption) ?_ | refine lcond_t (by assumption) ?_ | refine lcond_f (by assumption) ?_ | refine build1 tab rfl ?_ | refine loadN tab rfl rfl zCs rfl ?_)
    refine call1 (Remove_ct q K h o g (x : Nat)) zSp ?_
    rintro v M' ⟨rfl, rfl⟩
    repeat (first | refine LNext.go tab ?_ | refine LText.all rfl ?_ | refine LDraw.all (by decide +kernel) ?_ | refine LRes.mk ?_ | refine load1 tab rfl zCe ?_ | refine lenSlice tab rfl ?_ | refine newBox rfl (fun _ => ?_) | refine newAlloc tab rfl (fun _ => ?_) | refine lbool (c := true) rfl ?_ | refine lbool (c := false) rfl ?_ | refine lcond_t rfl ?_ | refine lcond_f rfl ?_ | refine store1 tab rfl zTk rfl rfl rfl ?_ | refine lbool (c := true) (by assumption) ?_ | refine lbool (c := false) (by assumption) ?_ | refine lcond_t (by assumption) ?_ | refine lcond_f (by assumption) ?_ | refine build1 tab rfl ?_ | refine loadN tab rfl rfl zCs rfl ?_)
    refine Fin.of (HMq q K (popH K h (x, (k1, k2, k3), e))) ?_ ⟨rfl, rfl⟩
    rw [popH, if_pos he]
    exact Split.ent zSp
  · have he : ¬ e = 0 := by simpa using hc
    repeat (first | refine LNext.go tab ?_ | refine LText.all rfl ?_ | refine LDraw.all (by decide +kernel) ?_ | refine LRes.mk ?_ | refine load1 tab rfl zCe ?_ | refine lenSlice tab rfl ?_ | refine newBox rfl (fun _ => ?_) | refine newAlloc tab rfl (fun _ => ?_) | refine lbool (c := true) rfl ?_ | refine lbool (c := false) rfl ?_ | refine lcond_t rfl ?_ | refine lcond_f rfl ?_ | refine store1 tab rfl zTk rfl rfl rfl ?_ | refine lbool (c := true) (by assumption) ?_ | refine lbool (c := false) (by assumption) ?_ | refine lcond_t (by assumption) ?_ | refine lcond_f (by assumption) ?_ | refine build1 tab rfl ?_ | refine loadN tab rfl rfl zCs rfl ?_)
    refine Fin.of (HMq q K (popH K h (x, (k1, k2, k3), e))) ?_ ⟨rfl, rfl⟩
    rw [popH, if_neg he]
    exact Split.ent zSp
end Go.Proofs.Ytjgionnigenijaa
