import Derived.Test.YtjgionnigenijaaMmModel
namespace Go.Proofs.Ytjgionnigenijaa
open Go.Sl
set_option linter.unusedVariables false
set_option maxRecDepth 100000

def encN (x : Nat) : List Value := [.int .i64 x]
theorem encN_len (x : Nat) : (encN x).length = 1 := rfl
def encK (k : K3) : List Value := [.int .i64 k.1, .int .i64 k.2.1, .int .i64 k.2.2]
theorem encK_len (k : K3) : (encK k).length = 3 := rfl
/-- Where the heap's parts lie. -/
structure Pl where
  b : Nat
  ga : Nat
  ca : Nat
  gk : Nat
  ck : Nat
  gs : Nat
  cs : Nat
def hobj (p : Pl) (K : List K3) (na ns : Nat) : Obj := .cells #[.slice (some ⟨p.ga, 0, none⟩) na p.ca, .slice (some ⟨p.gk, 0, none⟩) K.length p.ck, .slice (some ⟨p.gs, 0, none⟩) ns p.cs] 86
def HM (p : Pl) (K : List K3) (h : HS) : List As :=
  [pt p.b (.cells #[.slice (some ⟨p.ga, 0, none⟩) h.A.length p.ca, .slice (some ⟨p.gk, 0, none⟩) K.length p.ck, .slice (some ⟨p.gs, 0, none⟩) h.S.length p.cs] 86),
   ERow 3 1 encN (some ⟨p.ga, 0, none⟩) h.A.length p.ca h.A, ERow 60 3 encK (some ⟨p.gk, 0, none⟩) K.length p.ck K, ERow 3 1 encN (some ⟨p.gs, 0, none⟩) h.S.length p.cs h.S]
theorem HM_eq {p : Pl} {K : List K3} {h h' : HS} (e : h = h') : HM p K h = HM p K h' := by rw [e]

theorem ccA (p : Pl) (K : List K3) (h : HS) {o i : Nat} (ho : o = i * 1) (hi : i < h.A.length) : Cell (HM p K h) p.ga o (.int .i64 (at_ h.A i : Nat)) :=
  (Cell.erow encN_len 0 (by omega) (at_get hi) rfl).there
theorem ccS (p : Pl) (K : List K3) (h : HS) {o i : Nat} (ho : o = i * 1) (hi : i < h.S.length) : Cell (HM p K h) p.gs o (.int .i64 (at_ h.S i : Nat)) :=
  (Cell.erow encN_len 0 (by omega) (at_get hi) rfl).there.there.there
theorem ccK (p : Pl) (K : List K3) (h : HS) {o i : Nat} (ho : o = i * 3) (hi : i < K.length) : Cells (HM p K h) p.gk o (ints (l3 (key K i))) :=
  (Cells.erow encK_len (by omega) (key_get hi)).there.there

theorem less_ct (p : Pl) (K : List K3) (h : HS) (w : WF K h) (i j : Nat) (hi : i < h.A.length) (hj : j < h.A.length) :
    Ctr Try.prog 71 #[.pointer (some ⟨p.b, 0, none⟩), .int .i64 i, .int .i64 j] (HM p K h) (fun v M' => v = .bool (ltP K h.A i j) ∧ M' = HM p K h) := by
  have ha := w.lt i hi
  have hb := w.lt j hj
  have hs := w.small
  refine ctr_of (Γ := tab) (vs := [_, _, _]) fn71 rfl ?_
  repeat (first | refine LNext.go tab ?_ | refine LText.all rfl ?_ | refine LDraw.all (by decide +kernel) ?_ | refine LRes.mk ?_ | refine load1 tab rfl zCe ?_ | refine lenSlice tab rfl ?_ | refine newBox rfl (fun _ => ?_) | refine newAlloc tab rfl (fun _ => ?_) | refine lbool (c := true) rfl ?_ | refine lbool (c := false) rfl ?_ | refine lcond_t rfl ?_ | refine lcond_f rfl ?_ | refine store1 tab rfl zTk rfl rfl rfl ?_ | refine lbool (c := true) (by assumption) ?_ | refine lbool (c := false) (by assumption) ?_ | refine lcond_t (by assumption) ?_ | refine lcond_f (by assumption) ?_ | refine build1 tab rfl ?_ | refine loadN tab rfl rfl zCs rfl ?_)
  refine lidx i rfl hi ?_
  refine load1 tab rfl (ccA p K h (by omega) hi) ?_
  repeat (first | refine LNext.go tab ?_ | refine LText.all rfl ?_ | refine LDraw.all (by decide +kernel) ?_ | refine LRes.mk ?_ | refine load1 tab rfl zCe ?_ | refine lenSlice tab rfl ?_ | refine newBox rfl (fun _ => ?_) | refine newAlloc tab rfl (fun _ => ?_) | refine lbool (c := true) rfl ?_ | refine lbool (c := false) rfl ?_ | refine lcond_t rfl ?_ | refine lcond_f rfl ?_ | refine store1 tab rfl zTk rfl rfl rfl ?_ | refine lbool (c := true) (by assumption) ?_ | refine lbool (c := false) (by assumption) ?_ | refine lcond_t (by assumption) ?_ | refine lcond_f (by assumption) ?_ | refine build1 tab rfl ?_ | refine loadN tab rfl rfl zCs rfl ?_)
  refine lidx j rfl hj ?_
  refine load1 tab rfl (ccA p K h (by omega) hj) ?_
  repeat (first | refine LNext.go tab ?_ | refine LText.all rfl ?_ | refine LDraw.all (by decide +kernel) ?_ | refine LRes.mk ?_ | refine load1 tab rfl zCe ?_ | refine lenSlice tab rfl ?_ | refine newBox rfl (fun _ => ?_) | refine newAlloc tab rfl (fun _ => ?_) | refine lbool (c := true) rfl ?_ | refine lbool (c := false) rfl ?_ | refine lcond_t rfl ?_ | refine lcond_f rfl ?_ | refine store1 tab rfl zTk rfl rfl rfl ?_ | refine lbool (c := true) (by assumption) ?_ | refine lbool (c := false) (by assumption) ?_ | refine lcond_t (by assumption) ?_ | refine lcond_f (by assumption) ?_ | refine build1 tab rfl ?_ | refine loadN tab rfl rfl zCs rfl ?_)
  refine lidx (at_ h.A i) rfl ha ?_
  refine sliceArr tab rfl rfl ?_
  repeat (first | refine LNext.go tab ?_ | refine LText.all rfl ?_ | refine LDraw.all (by decide +kernel) ?_ | refine LRes.mk ?_ | refine load1 tab rfl zCe ?_ | refine lenSlice tab rfl ?_ | refine newBox rfl (fun _ => ?_) | refine newAlloc tab rfl (fun _ => ?_) | refine lbool (c := true) rfl ?_ | refine lbool (c := false) rfl ?_ | refine lcond_t rfl ?_ | refine lcond_f rfl ?_ | refine store1 tab rfl zTk rfl rfl rfl ?_ | refine lbool (c := true) (by assumption) ?_ | refine lbool (c := false) (by assumption) ?_ | refine lcond_t (by assumption) ?_ | refine lcond_f (by assumption) ?_ | refine build1 tab rfl ?_ | refine loadN tab rfl rfl zCs rfl ?_)
  refine lidx (at_ h.A j) rfl hb ?_
  refine sliceArr tab rfl rfl ?_
  refine ext0 (sCmp_ct _ _ _ _ _ _ (l3 (key K (at_ h.A i))) (l3 (key K (at_ h.A j))) _ (by rw [List.append_nil]; exact ccK p K h (by omega) ha) (by rw [List.append_nil]; exact ccK p K h (by omega) hb) (by simp [l3]) (by simp [l3])) ?_
  rintro v rfl
  refine ext0 (cmp_i _ _ _) ?_
  rintro v rfl
  refine newSlice tab (cs := #[.int .i64 (cmpL (l3 (key K (at_ h.A i))) (l3 (key K (at_ h.A j)))), .int .i64 (cmpI (at_ h.A i) (at_ h.A j))]) rfl rfl rfl rfl rfl (fun b => ?_)
  refine ext0 (cmpOr_ct _ _ _ [cmpL (l3 (key K (at_ h.A i))) (l3 (key K (at_ h.A j))), cmpI (at_ h.A i) (at_ h.A j)] _ ?_ (by simp)) ?_
  · exact (Cells.pt (vs := ints [_, _])).there.there.there.there
  rintro v rfl
  repeat (first | refine LNext.go tab ?_ | refine LText.all rfl ?_ | refine LDraw.all (by decide +kernel) ?_ | refine LRes.mk ?_ | refine load1 tab rfl zCe ?_ | refine lenSlice tab rfl ?_ | refine newBox rfl (fun _ => ?_) | refine newAlloc tab rfl (fun _ => ?_) | refine lbool (c := true) rfl ?_ | refine lbool (c := false) rfl ?_ | refine lcond_t rfl ?_ | refine lcond_f rfl ?_ | refine store1 tab rfl zTk rfl rfl rfl ?_ | refine lbool (c := true) (by assumption) ?_ | refine lbool (c := false) (by assumption) ?_ | refine lcond_t (by assumption) ?_ | refine lcond_f (by assumption) ?_ | refine build1 tab rfl ?_ | refine loadN tab rfl rfl zCs rfl ?_)
  show Fin _ _ _; exact Fin.of (HM p K h) (Split.ent zSp) ⟨rfl, rfl⟩

theorem swap_ct (p : Pl) (K : List K3) (h : HS) (w : WF K h) (i j : Nat) (hi : i < h.A.length) (hj : j < h.A.length) :
    Ctr Try.prog 62 #[.pointer (some ⟨p.b, 0, none⟩), .int .i64 i, .int .i64 j] (HM p K h) (fun v M' => v = .tuple #[] ∧ M' = HM p K (swp h i j)) := by
  have ha := w.lt i hi
  have hb := w.lt j hj
  have hs := w.small
  have hk := w.ks
  have hn := w.len
  have hla : (swA h.A i j).length = h.A.length := swA_len _ _ _
  have e1 : at_ (swA h.A i j) i < K.length := by rw [at_swA hi hj]; split <;> simp_all
  have e2 : at_ (swA h.A i j) j < K.length := by rw [at_swA hi hj]; simp_all
  refine ctr_of (Γ := tab) (vs := [_, _, _]) fn62 rfl ?_
  repeat (first | refine LNext.go tab ?_ | refine LText.all rfl ?_ | refine LDraw.all (by decide +kernel) ?_ | refine LRes.mk ?_ | refine load1 tab rfl zCe ?_ | refine lenSlice tab rfl ?_ | refine newBox rfl (fun _ => ?_) | refine newAlloc tab rfl (fun _ => ?_) | refine lbool (c := true) rfl ?_ | refine lbool (c := false) rfl ?_ | refine lcond_t rfl ?_ | refine lcond_f rfl ?_ | refine store1 tab rfl zTk rfl rfl rfl ?_ | refine lbool (c := true) (by assumption) ?_ | refine lbool (c := false) (by assumption) ?_ | refine lcond_t (by assumption) ?_ | refine lcond_f (by assumption) ?_ | refine build1 tab rfl ?_ | refine loadN tab rfl rfl zCs rfl ?_)
  refine lidx j rfl hj ?_
  refine load1 tab rfl (ccA p K h (by omega) hj) ?_
  repeat (first | refine LNext.go tab ?_ | refine LText.all rfl ?_ | refine LDraw.all (by decide +kernel) ?_ | refine LRes.mk ?_ | refine load1 tab rfl zCe ?_ | refine lenSlice tab rfl ?_ | refine newBox rfl (fun _ => ?_) | refine newAlloc tab rfl (fun _ => ?_) | refine lbool (c := true) rfl ?_ | refine lbool (c := false) rfl ?_ | refine lcond_t rfl ?_ | refine lcond_f rfl ?_ | refine store1 tab rfl zTk rfl rfl rfl ?_ | refine lbool (c := true) (by assumption) ?_ | refine lbool (c := false) (by assumption) ?_ | refine lcond_t (by assumption) ?_ | refine lcond_f (by assumption) ?_ | refine build1 tab rfl ?_ | refine loadN tab rfl rfl zCs rfl ?_)
  refine lidx i rfl hi ?_
  refine load1 tab rfl (ccA p K h (by omega) hi) ?_
  refine lidx i rfl hi ?_
  refine storeERow tab encN_len (i := i) (at_ h.A j) rfl zTk (by omega) hi rfl rfl ?_
  refine lidx j rfl hj ?_
  refine storeERow tab encN_len (i := j) (at_ h.A i) rfl zTk (by omega) (by simpa using hj) rfl rfl ?_
  repeat (first | refine LNext.go tab ?_ | refine LText.all rfl ?_ | refine LDraw.all (by decide +kernel) ?_ | refine LRes.mk ?_ | refine load1 tab rfl zCe ?_ | refine lenSlice tab rfl ?_ | refine newBox rfl (fun _ => ?_) | refine newAlloc tab rfl (fun _ => ?_) | refine lbool (c := true) rfl ?_ | refine lbool (c := false) rfl ?_ | refine lcond_t rfl ?_ | refine lcond_f rfl ?_ | refine store1 tab rfl zTk rfl rfl rfl ?_ | refine lbool (c := true) (by assumption) ?_ | refine lbool (c := false) (by assumption) ?_ | refine lcond_t (by assumption) ?_ | refine lcond_f (by assumption) ?_ | refine build1 tab rfl ?_ | refine loadN tab rfl rfl zCs rfl ?_)
  refine lidx i rfl hi ?_
  refine load1 tab rfl (Cell.erow encN_len (i := i) 0 (by omega) (at_get (A := swA h.A i j) (by rw [hla]; exact hi)) rfl) ?_
  repeat (first | refine LNext.go tab ?_ | refine LText.all rfl ?_ | refine LDraw.all (by decide +kernel) ?_ | refine LRes.mk ?_ | refine load1 tab rfl zCe ?_ | refine lenSlice tab rfl ?_ | refine newBox rfl (fun _ => ?_) | refine newAlloc tab rfl (fun _ => ?_) | refine lbool (c := true) rfl ?_ | refine lbool (c := false) rfl ?_ | refine lcond_t rfl ?_ | refine lcond_f rfl ?_ | refine store1 tab rfl zTk rfl rfl rfl ?_ | refine lbool (c := true) (by assumption) ?_ | refine lbool (c := false) (by assumption) ?_ | refine lcond_t (by assumption) ?_ | refine lcond_f (by assumption) ?_ | refine build1 tab rfl ?_ | refine loadN tab rfl rfl zCs rfl ?_)
  refine lidx j rfl hj ?_
  refine load1 tab rfl (Cell.erow encN_len (i := j) 0 (by omega) (at_get (A := swA h.A i j) (by rw [hla]; exact hj)) rfl) ?_
  refine lint_i64 (m := ((i + 1 : Nat) : Int)) (by omega) rfl ?_
  refine lint_i64 (m := ((j + 1 : Nat) : Int)) (by omega) rfl ?_
  refine lidx (at_ (swA h.A i j) i) rfl (by omega) ?_
  refine storeERow tab encN_len (i := at_ (swA h.A i j) i) (i + 1) rfl zTk (by omega) (by omega) rfl rfl ?_
  refine lidx (at_ (swA h.A i j) j) rfl (by omega) ?_
  refine storeERow tab encN_len (i := at_ (swA h.A i j) j) (j + 1) rfl zTk (by omega) (by simp; omega) rfl rfl ?_
  repeat (first | refine LNext.go tab ?_ | refine LText.all rfl ?_ | refine LDraw.all (by decide +kernel) ?_ | refine LRes.mk ?_ | refine load1 tab rfl zCe ?_ | refine lenSlice tab rfl ?_ | refine newBox rfl (fun _ => ?_) | refine newAlloc tab rfl (fun _ => ?_) | refine lbool (c := true) rfl ?_ | refine lbool (c := false) rfl ?_ | refine lcond_t rfl ?_ | refine lcond_f rfl ?_ | refine store1 tab rfl zTk rfl rfl rfl ?_ | refine lbool (c := true) (by assumption) ?_ | refine lbool (c := false) (by assumption) ?_ | refine lcond_t (by assumption) ?_ | refine lcond_f (by assumption) ?_ | refine build1 tab rfl ?_ | refine loadN tab rfl rfl zCs rfl ?_)
  refine Fin.of (HM p K (swp h i j)) ?_ ⟨rfl, rfl⟩
  unfold HM swp swA swS
  simp only [List.length_set]
  exact Split.ent zSp

theorem WF.paird {K : List K3} {h : HS} (w : WF K h) (i : Nat) : WF K (pairH K h i) := by
  unfold pairH
  split
  · rename_i hb
    simp only [pairB, Bool.and_eq_true, decide_eq_true_eq] at hb
    exact w.swpd (by omega) hb.1
  · exact w
theorem pairH_len (K : List K3) (h : HS) (i : Nat) : (pairH K h i).A.length = h.A.length := by
  unfold pairH; split
  · simp [swp, swA_len]
  · rfl
theorem pairI_lt (K : List K3) (h : HS) (i : Nat) (hi : i < h.A.length) : pairI K h i < h.A.length := by
  unfold pairI; split
  · rename_i hb
    simp only [pairB, Bool.and_eq_true, decide_eq_true_eq] at hb
    unfold flip lo at *
    omega
  · exact hi
theorem paired_ct (p : Pl) (K : List K3) (h : HS) (w : WF K h) (i : Nat) (hi : i < h.A.length) :
    Ctr Try.prog 70 #[.pointer (some ⟨p.b, 0, none⟩), .int .i64 i] (HM p K h) (fun v M' => v = .int .i64 (pairI K h i : Nat) ∧ M' = HM p K (pairH K h i)) := by
  have hs := w.small
  have hn := w.len
  have hlo : lo i < h.A.length := by unfold lo; omega
  refine ctr_of (Γ := tab) (vs := [_, _]) fn70 rfl ?_
  repeat (first | refine LNext.go tab ?_ | refine LText.all rfl ?_ | refine LDraw.all (by decide +kernel) ?_ | refine LRes.mk ?_ | refine load1 tab rfl zCe ?_ | refine lenSlice tab rfl ?_ | refine newBox rfl (fun _ => ?_) | refine newAlloc tab rfl (fun _ => ?_) | refine lbool (c := true) rfl ?_ | refine lbool (c := false) rfl ?_ | refine lcond_t rfl ?_ | refine lcond_f rfl ?_ | refine store1 tab rfl zTk rfl rfl rfl ?_ | refine lbool (c := true) (by assumption) ?_ | refine lbool (c := false) (by assumption) ?_ | refine lcond_t (by assumption) ?_ | refine lcond_f (by assumption) ?_ | refine build1 tab rfl ?_ | refine loadN tab rfl rfl zCs rfl ?_)
  refine leq_ (m := ((lo i : Nat) : Int)) (bits_andNot1 (by omega)) ?_
  repeat (first | refine LNext.go tab ?_ | refine LText.all rfl ?_ | refine LDraw.all (by decide +kernel) ?_ | refine LRes.mk ?_ | refine load1 tab rfl zCe ?_ | refine lenSlice tab rfl ?_ | refine newBox rfl (fun _ => ?_) | refine newAlloc tab rfl (fun _ => ?_) | refine lbool (c := true) rfl ?_ | refine lbool (c := false) rfl ?_ | refine lcond_t rfl ?_ | refine lcond_f rfl ?_ | refine store1 tab rfl zTk rfl rfl rfl ?_ | refine lbool (c := true) (by assumption) ?_ | refine lbool (c := false) (by assumption) ?_ | refine lcond_t (by assumption) ?_ | refine lcond_f (by assumption) ?_ | refine build1 tab rfl ?_ | refine loadN tab rfl rfl zCs rfl ?_)
  refine lint_i64 (m := ((lo i + 1 : Nat) : Int)) (by omega) rfl ?_
  repeat (first | refine LNext.go tab ?_ | refine LText.all rfl ?_ | refine LDraw.all (by decide +kernel) ?_ | refine LRes.mk ?_ | refine load1 tab rfl zCe ?_ | refine lenSlice tab rfl ?_ | refine newBox rfl (fun _ => ?_) | refine newAlloc tab rfl (fun _ => ?_) | refine lbool (c := true) rfl ?_ | refine lbool (c := false) rfl ?_ | refine lcond_t rfl ?_ | refine lcond_f rfl ?_ | refine store1 tab rfl zTk rfl rfl rfl ?_ | refine lbool (c := true) (by assumption) ?_ | refine lbool (c := false) (by assumption) ?_ | refine lcond_t (by assumption) ?_ | refine lcond_f (by assumption) ?_ | refine build1 tab rfl ?_ | refine loadN tab rfl rfl zCs rfl ?_)
  by_cases hl : lo i + 1 < h.A.length
  · have hg : (decide (((lo i + 1 : Nat) : Int) < ((h.A.length : Nat) : Int)) == true) = true := by simp; omega
    repeat (first | refine LNext.go tab ?_ | refine LText.all rfl ?_ | refine LDraw.all (by decide +kernel) ?_ | refine LRes.mk ?_ | refine load1 tab rfl zCe ?_ | refine lenSlice tab rfl ?_ | refine newBox rfl (fun _ => ?_) | refine newAlloc tab rfl (fun _ => ?_) | refine lbool (c := true) rfl ?_ | refine lbool (c := false) rfl ?_ | refine lcond_t rfl ?_ | refine lcond_f rfl ?_ | refine store1 tab rfl zTk rfl rfl rfl ?_ | refine lbool (c := true) (by assumption) ?_ | refine lbool (c := false) (by assumption) ?_ | refine lcond_t (by assumption) ?_ | refine lcond_f (by assumption) ?_ | refine build1 tab rfl ?_ | refine loadN tab rfl rfl zCs rfl ?_)
    refine lint_i64 (m := ((lo i + 1 : Nat) : Int)) (by omega) rfl ?_
    repeat (first | refine LNext.go tab ?_ | refine LText.all rfl ?_ | refine LDraw.all (by decide +kernel) ?_ | refine LRes.mk ?_ | refine load1 tab rfl zCe ?_ | refine lenSlice tab rfl ?_ | refine newBox rfl (fun _ => ?_) | refine newAlloc tab rfl (fun _ => ?_) | refine lbool (c := true) rfl ?_ | refine lbool (c := false) rfl ?_ | refine lcond_t rfl ?_ | refine lcond_f rfl ?_ | refine store1 tab rfl zTk rfl rfl rfl ?_ | refine lbool (c := true) (by assumption) ?_ | refine lbool (c := false) (by assumption) ?_ | refine lcond_t (by assumption) ?_ | refine lcond_f (by assumption) ?_ | refine build1 tab rfl ?_ | refine loadN tab rfl rfl zCs rfl ?_)
    refine call0 (less_ct p K h w (lo i + 1) (lo i) hl hlo) ?_
    rintro v rfl
    have hg' : decide (((lo i + 1 : Nat) : Int) < ((h.A.length : Nat) : Int)) = true := by simp; omega
    repeat (first | refine LNext.go tab ?_ | refine LText.all rfl ?_ | refine LDraw.all (by decide +kernel) ?_ | refine LRes.mk ?_ | refine load1 tab rfl zCe ?_ | refine lenSlice tab rfl ?_ | refine newBox rfl (fun _ => ?_) | refine newAlloc tab rfl (fun _ => ?_) | refine lbool (c := true) rfl ?_ | refine lbool (c := false) rfl ?_ | refine lcond_t rfl ?_ | refine lcond_f rfl ?_ | refine store1 tab rfl zTk rfl rfl rfl ?_ | refine lbool (c := true) (by assumption) ?_ | refine lbool (c := false) (by assumption) ?_ | refine lcond_t (by assumption) ?_ | refine lcond_f (by assumption) ?_ | refine build1 tab rfl ?_ | refine loadN tab rfl rfl zCs rfl ?_)
    refine LCond.mk (fun hc => ?_) (fun hc => ?_)
    · have hpb : pairB K h i = true := by simp [pairB, hl, hc]
      repeat (first | refine LNext.go tab ?_ | refine LText.all rfl ?_ | refine LDraw.all (by decide +kernel) ?_ | refine LRes.mk ?_ | refine load1 tab rfl zCe ?_ | refine lenSlice tab rfl ?_ | refine newBox rfl (fun _ => ?_) | refine newAlloc tab rfl (fun _ => ?_) | refine lbool (c := true) rfl ?_ | refine lbool (c := false) rfl ?_ | refine lcond_t rfl ?_ | refine lcond_f rfl ?_ | refine store1 tab rfl zTk rfl rfl rfl ?_ | refine lbool (c := true) (by assumption) ?_ | refine lbool (c := false) (by assumption) ?_ | refine lcond_t (by assumption) ?_ | refine lcond_f (by assumption) ?_ | refine build1 tab rfl ?_ | refine loadN tab rfl rfl zCs rfl ?_)
      refine lint_i64 (m := ((lo i + 1 : Nat) : Int)) (by omega) rfl ?_
      refine call1 (swap_ct p K h w (lo i) (lo i + 1) hlo hl) zSp ?_
      rintro v M' ⟨rfl, rfl⟩
      repeat (first | refine LNext.go tab ?_ | refine LText.all rfl ?_ | refine LDraw.all (by decide +kernel) ?_ | refine LRes.mk ?_ | refine load1 tab rfl zCe ?_ | refine lenSlice tab rfl ?_ | refine newBox rfl (fun _ => ?_) | refine newAlloc tab rfl (fun _ => ?_) | refine lbool (c := true) rfl ?_ | refine lbool (c := false) rfl ?_ | refine lcond_t rfl ?_ | refine lcond_f rfl ?_ | refine store1 tab rfl zTk rfl rfl rfl ?_ | refine lbool (c := true) (by assumption) ?_ | refine lbool (c := false) (by assumption) ?_ | refine lcond_t (by assumption) ?_ | refine lcond_f (by assumption) ?_ | refine build1 tab rfl ?_ | refine loadN tab rfl rfl zCs rfl ?_)
      refine leq_ (m := ((flip i : Nat) : Int)) (bits_xor1 (by omega)) ?_
      repeat (first | refine LNext.go tab ?_ | refine LText.all rfl ?_ | refine LDraw.all (by decide +kernel) ?_ | refine LRes.mk ?_ | refine load1 tab rfl zCe ?_ | refine lenSlice tab rfl ?_ | refine newBox rfl (fun _ => ?_) | refine newAlloc tab rfl (fun _ => ?_) | refine lbool (c := true) rfl ?_ | refine lbool (c := false) rfl ?_ | refine lcond_t rfl ?_ | refine lcond_f rfl ?_ | refine store1 tab rfl zTk rfl rfl rfl ?_ | refine lbool (c := true) (by assumption) ?_ | refine lbool (c := false) (by assumption) ?_ | refine lcond_t (by assumption) ?_ | refine lcond_f (by assumption) ?_ | refine build1 tab rfl ?_ | refine loadN tab rfl rfl zCs rfl ?_)
      refine Fin.of (HM p K (swp h (lo i) (lo i + 1))) (Split.ent zSp) ?_
      unfold pairI pairH
      rw [if_pos hpb, if_pos hpb]
      exact ⟨rfl, rfl⟩
    · have hpb : ¬ pairB K h i = true := by simp [pairB, hc]
      repeat (first | refine LNext.go tab ?_ | refine LText.all rfl ?_ | refine LDraw.all (by decide +kernel) ?_ | refine LRes.mk ?_ | refine load1 tab rfl zCe ?_ | refine lenSlice tab rfl ?_ | refine newBox rfl (fun _ => ?_) | refine newAlloc tab rfl (fun _ => ?_) | refine lbool (c := true) rfl ?_ | refine lbool (c := false) rfl ?_ | refine lcond_t rfl ?_ | refine lcond_f rfl ?_ | refine store1 tab rfl zTk rfl rfl rfl ?_ | refine lbool (c := true) (by assumption) ?_ | refine lbool (c := false) (by assumption) ?_ | refine lcond_t (by assumption) ?_ | refine lcond_f (by assumption) ?_ | refine build1 tab rfl ?_ | refine loadN tab rfl rfl zCs rfl ?_)
      refine Fin.all ?_
      unfold pairI pairH
      rw [if_neg hpb, if_neg hpb]
      exact ⟨rfl, rfl⟩
  · have hpb : ¬ pairB K h i = true := by simp [pairB, hl]
    have hg : (decide (((lo i + 1 : Nat) : Int) < ((h.A.length : Nat) : Int)) == true) = false := by simp; omega
    have hg' : decide (((lo i + 1 : Nat) : Int) < ((h.A.length : Nat) : Int)) = false := by simp; omega
    repeat (first | refine LNext.go tab ?_ | refine LText.all rfl ?_ | refine LDraw.all (by decide +kernel) ?_ | refine LRes.mk ?_ | refine load1 tab rfl zCe ?_ | refine lenSlice tab rfl ?_ | refine newBox rfl (fun _ => ?_) | refine newAlloc tab rfl (fun _ => ?_) | refine lbool (c := true) rfl ?_ | refine lbool (c := false) rfl ?_ | refine lcond_t rfl ?_ | refine lcond_f rfl ?_ | refine store1 tab rfl zTk rfl rfl rfl ?_ | refine lbool (c := true) (by assumption) ?_ | refine lbool (c := false) (by assumption) ?_ | refine lcond_t (by assumption) ?_ | refine lcond_f (by assumption) ?_ | refine build1 tab rfl ?_ | refine loadN tab rfl rfl zCs rfl ?_)
    refine Fin.all ?_
    unfold pairI pairH
    rw [if_neg hpb, if_neg hpb]
    exact ⟨rfl, rfl⟩

theorem upL_fuel (K : List K3) : ∀ {j f f' : Nat}, j ≤ f → j ≤ f' → ∀ h, upL K f h j = upL K f' h j := by
  intro j
  induction j using Nat.strongRecOn with
  | _ j ih =>
    intro f f' hf hf' h
    by_cases h2 : j < 2
    · cases f <;> cases f' <;> simp [upL, h2]
    · obtain ⟨g, rfl⟩ : ∃ g, f = g + 1 := ⟨f - 1, by omega⟩
      obtain ⟨g', rfl⟩ : ∃ g, f' = g + 1 := ⟨f' - 1, by omega⟩
      rw [upL, upL, if_neg h2, if_neg h2]
      split
      · exact ih _ (by omega) (by omega) (by omega) _
      · split
        · exact ih _ (by omega) (by omega) (by omega) _
        · rfl
theorem WF.upLd {K : List K3} : ∀ (f : Nat) {h : HS} (i : Nat), WF K h → i < h.A.length → WF K (upL K f h i) ∧ (upL K f h i).A.length = h.A.length := by
  intro f
  induction f with
  | zero => intro h i w hi; exact ⟨w, rfl⟩
  | succ f ih =>
    intro h i w hi
    unfold upL
    have hl : ∀ a b, (swp h a b).A.length = h.A.length := fun a b => swA_len _ _ _
    split
    · exact ⟨w, rfl⟩
    · split
      · have := ih ((i / 2 - 1) / 2 * 2) (w.swpd (j := (i / 2 - 1) / 2 * 2) hi (by omega)) (by rw [hl]; omega)
        exact ⟨this.1, by rw [this.2, hl]⟩
      · split
        · have := ih ((i / 2 - 1) / 2 * 2 + 1) (w.swpd (j := (i / 2 - 1) / 2 * 2 + 1) hi (by omega)) (by rw [hl]; omega)
          exact ⟨this.1, by rw [this.2, hl]⟩
        · exact ⟨w, rfl⟩
theorem WF.upd {K : List K3} {h : HS} {i : Nat} (w : WF K h) (hi : i < h.A.length) : WF K (up K h i) ∧ (up K h i).A.length = h.A.length := by
  have := WF.upLd (pairI K h i) (pairI K h i) (w.paird i) (by rw [pairH_len]; exact pairI_lt K h i hi)
  exact ⟨this.1, by have h2 := this.2; rw [pairH_len] at h2; exact h2⟩

theorem up_ct (p : Pl) (K : List K3) (h : HS) (w : WF K h) (i : Nat) (hi : i < h.A.length) :
    Ctr Try.prog 59 #[.pointer (some ⟨p.b, 0, none⟩), .int .i64 i] (HM p K h) (fun v M' => v = .tuple #[] ∧ M' = HM p K (up K h i)) := by
  have hs := w.small
  have hn := w.len
  refine ctr_of (Γ := tab) (vs := [_, _]) fn59 rfl ?_
  repeat (first | refine LNext.go tab ?_ | refine LText.all rfl ?_ | refine LDraw.all (by decide +kernel) ?_ | refine LRes.mk ?_ | refine load1 tab rfl zCe ?_ | refine lenSlice tab rfl ?_ | refine newBox rfl (fun _ => ?_) | refine newAlloc tab rfl (fun _ => ?_) | refine lbool (c := true) rfl ?_ | refine lbool (c := false) rfl ?_ | refine lcond_t rfl ?_ | refine lcond_f rfl ?_ | refine store1 tab rfl zTk rfl rfl rfl ?_ | refine lbool (c := true) (by assumption) ?_ | refine lbool (c := false) (by assumption) ?_ | refine lcond_t (by assumption) ?_ | refine lcond_f (by assumption) ?_ | refine build1 tab rfl ?_ | refine loadN tab rfl rfl zCs rfl ?_)
  refine call1 (paired_ct p K h w i hi) zSp ?_
  rintro v M' ⟨rfl, rfl⟩
  repeat (first | refine LNext.go tab ?_ | refine LText.all rfl ?_ | refine LDraw.all (by decide +kernel) ?_ | refine LRes.mk ?_ | refine load1 tab rfl zCe ?_ | refine lenSlice tab rfl ?_ | refine newBox rfl (fun _ => ?_) | refine newAlloc tab rfl (fun _ => ?_) | refine lbool (c := true) rfl ?_ | refine lbool (c := false) rfl ?_ | refine lcond_t rfl ?_ | refine lcond_f rfl ?_ | refine store1 tab rfl zTk rfl rfl rfl ?_ | refine lbool (c := true) (by assumption) ?_ | refine lbool (c := false) (by assumption) ?_ | refine lcond_t (by assumption) ?_ | refine lcond_f (by assumption) ?_ | refine build1 tab rfl ?_ | refine loadN tab rfl rfl zCs rfl ?_)
  have hl0 := pairI_lt K h i hi
  refine LLoop.inv (Γ := tab) (fun x : HS × Nat => [(0, .pointer (some ⟨p.b, 0, none⟩)), (1, .int .i64 x.2)]) (fun x => HM p K x.1)
    (fun x => WF K x.1 ∧ x.1.A.length = h.A.length ∧ x.2 < h.A.length ∧ upL K x.2 x.1 x.2 = up K h i) (fun x => x.2) (pairH K h i, pairI K h i) ⟨w.paird i, pairH_len K h i, hl0, rfl⟩ ⟨rfl, rfl, trivial⟩ (Split.ent zSp) ?_
  rintro ⟨h1, j⟩ ⟨w1, hl1, hj, he⟩
  dsimp only at w1 hl1 hj he
  repeat (first | refine LNext.go tab ?_ | refine LText.all rfl ?_ | refine LDraw.all (by decide +kernel) ?_ | refine LRes.mk ?_ | refine load1 tab rfl zCe ?_ | refine lenSlice tab rfl ?_ | refine newBox rfl (fun _ => ?_) | refine newAlloc tab rfl (fun _ => ?_) | refine lbool (c := true) rfl ?_ | refine lbool (c := false) rfl ?_ | refine lcond_t rfl ?_ | refine lcond_f rfl ?_ | refine store1 tab rfl zTk rfl rfl rfl ?_ | refine lbool (c := true) (by assumption) ?_ | refine lbool (c := false) (by assumption) ?_ | refine lcond_t (by assumption) ?_ | refine lcond_f (by assumption) ?_ | refine build1 tab rfl ?_ | refine loadN tab rfl rfl zCs rfl ?_)
  refine LCond.mk (fun hc => ?_) (fun hc => ?_)
  · have hj2 : 2 ≤ j := by simp at hc; omega
    obtain ⟨f, rfl⟩ : ∃ f, j = f + 1 := ⟨j - 1, by omega⟩
    have low : (((f + 1) / 2 - 1) / 2 * 2) < f + 1 := by omega
    repeat (first | refine LNext.go tab ?_ | refine LText.all rfl ?_ | refine LDraw.all (by decide +kernel) ?_ | refine LRes.mk ?_ | refine load1 tab rfl zCe ?_ | refine lenSlice tab rfl ?_ | refine newBox rfl (fun _ => ?_) | refine newAlloc tab rfl (fun _ => ?_) | refine lbool (c := true) rfl ?_ | refine lbool (c := false) rfl ?_ | refine lcond_t rfl ?_ | refine lcond_f rfl ?_ | refine store1 tab rfl zTk rfl rfl rfl ?_ | refine lbool (c := true) (by assumption) ?_ | refine lbool (c := false) (by assumption) ?_ | refine lcond_t (by assumption) ?_ | refine lcond_f (by assumption) ?_ | refine build1 tab rfl ?_ | refine loadN tab rfl rfl zCs rfl ?_)
    refine LAnd.mk (by decide) ?_
    refine lint_i64 (m := (((f + 1) / 2 : Nat) : Int)) (by rw [show (2 : Int) = ((2 : Nat) : Int) from rfl, tdiv_nat]; omega) (tdiv_nat (f + 1) 2) ?_
    refine lint_i64 (m := (((f + 1) / 2 - 1 : Nat) : Int)) (by omega) (by omega) ?_
    refine LAnd.mk (by decide) ?_
    refine lint_i64 (m := ((((f + 1) / 2 - 1) / 2 : Nat) : Int)) (by rw [show (2 : Int) = ((2 : Nat) : Int) from rfl, tdiv_nat]; omega) (tdiv_nat ((f + 1) / 2 - 1) 2) ?_
    refine lint_i64 (m := ((((f + 1) / 2 - 1) / 2 * 2 : Nat) : Int)) (by omega) (by omega) ?_
    repeat (first | refine LNext.go tab ?_ | refine LText.all rfl ?_ | refine LDraw.all (by decide +kernel) ?_ | refine LRes.mk ?_ | refine load1 tab rfl zCe ?_ | refine lenSlice tab rfl ?_ | refine newBox rfl (fun _ => ?_) | refine newAlloc tab rfl (fun _ => ?_) | refine lbool (c := true) rfl ?_ | refine lbool (c := false) rfl ?_ | refine lcond_t rfl ?_ | refine lcond_f rfl ?_ | refine store1 tab rfl zTk rfl rfl rfl ?_ | refine lbool (c := true) (by assumption) ?_ | refine lbool (c := false) (by assumption) ?_ | refine lcond_t (by assumption) ?_ | refine lcond_f (by assumption) ?_ | refine build1 tab rfl ?_ | refine loadN tab rfl rfl zCs rfl ?_)
    refine call0 (less_ct p K h1 w1 (f + 1) (((f + 1) / 2 - 1) / 2 * 2) (by omega) (by omega)) ?_
    rintro v rfl
    repeat (first | refine LNext.go tab ?_ | refine LText.all rfl ?_ | refine LDraw.all (by decide +kernel) ?_ | refine LRes.mk ?_ | refine load1 tab rfl zCe ?_ | refine lenSlice tab rfl ?_ | refine newBox rfl (fun _ => ?_) | refine newAlloc tab rfl (fun _ => ?_) | refine lbool (c := true) rfl ?_ | refine lbool (c := false) rfl ?_ | refine lcond_t rfl ?_ | refine lcond_f rfl ?_ | refine store1 tab rfl zTk rfl rfl rfl ?_ | refine lbool (c := true) (by assumption) ?_ | refine lbool (c := false) (by assumption) ?_ | refine lcond_t (by assumption) ?_ | refine lcond_f (by assumption) ?_ | refine build1 tab rfl ?_ | refine loadN tab rfl rfl zCs rfl ?_)
    refine LCond.mk (fun hc => ?_) (fun hc => ?_)
    · repeat (first | refine LNext.go tab ?_ | refine LText.all rfl ?_ | refine LDraw.all (by decide +kernel) ?_ | refine LRes.mk ?_ | refine load1 tab rfl zCe ?_ | refine lenSlice tab rfl ?_ | refine newBox rfl (fun _ => ?_) | refine newAlloc tab rfl (fun _ => ?_) | refine lbool (c := true) rfl ?_ | refine lbool (c := false) rfl ?_ | refine lcond_t rfl ?_ | refine lcond_f rfl ?_ | refine store1 tab rfl zTk rfl rfl rfl ?_ | refine lbool (c := true) (by assumption) ?_ | refine lbool (c := false) (by assumption) ?_ | refine lcond_t (by assumption) ?_ | refine lcond_f (by assumption) ?_ | refine build1 tab rfl ?_ | refine loadN tab rfl rfl zCs rfl ?_)
      refine call1 (swap_ct p K h1 w1 (f + 1) (((f + 1) / 2 - 1) / 2 * 2) (by omega) (by omega)) zSp ?_
      rintro v M' ⟨rfl, rfl⟩
      repeat (first | refine LNext.go tab ?_ | refine LText.all rfl ?_ | refine LDraw.all (by decide +kernel) ?_ | refine LRes.mk ?_ | refine load1 tab rfl zCe ?_ | refine lenSlice tab rfl ?_ | refine newBox rfl (fun _ => ?_) | refine newAlloc tab rfl (fun _ => ?_) | refine lbool (c := true) rfl ?_ | refine lbool (c := false) rfl ?_ | refine lcond_t rfl ?_ | refine lcond_f rfl ?_ | refine store1 tab rfl zTk rfl rfl rfl ?_ | refine lbool (c := true) (by assumption) ?_ | refine lbool (c := false) (by assumption) ?_ | refine lcond_t (by assumption) ?_ | refine lcond_f (by assumption) ?_ | refine build1 tab rfl ?_ | refine loadN tab rfl rfl zCs rfl ?_)
      refine ⟨(swp h1 (f + 1) (((f + 1) / 2 - 1) / 2 * 2), ((f + 1) / 2 - 1) / 2 * 2), ⟨w1.swpd (by omega) (by omega), by simp [swp, swA_len, hl1], by omega, ?_⟩, low, ⟨rfl, rfl, trivial⟩, Split.ent zSp⟩
      dsimp only
      rw [← he, upL, if_neg (by omega), if_pos hc]
      exact upL_fuel K (Nat.le_refl _) (by omega) _
    · repeat (first | refine LNext.go tab ?_ | refine LText.all rfl ?_ | refine LDraw.all (by decide +kernel) ?_ | refine LRes.mk ?_ | refine load1 tab rfl zCe ?_ | refine lenSlice tab rfl ?_ | refine newBox rfl (fun _ => ?_) | refine newAlloc tab rfl (fun _ => ?_) | refine lbool (c := true) rfl ?_ | refine lbool (c := false) rfl ?_ | refine lcond_t rfl ?_ | refine lcond_f rfl ?_ | refine store1 tab rfl zTk rfl rfl rfl ?_ | refine lbool (c := true) (by assumption) ?_ | refine lbool (c := false) (by assumption) ?_ | refine lcond_t (by assumption) ?_ | refine lcond_f (by assumption) ?_ | refine build1 tab rfl ?_ | refine loadN tab rfl rfl zCs rfl ?_)
      refine lint_i64 (m := ((((f + 1) / 2 - 1) / 2 * 2 + 1 : Nat) : Int)) (by omega) rfl ?_
      repeat (first | refine LNext.go tab ?_ | refine LText.all rfl ?_ | refine LDraw.all (by decide +kernel) ?_ | refine LRes.mk ?_ | refine load1 tab rfl zCe ?_ | refine lenSlice tab rfl ?_ | refine newBox rfl (fun _ => ?_) | refine newAlloc tab rfl (fun _ => ?_) | refine lbool (c := true) rfl ?_ | refine lbool (c := false) rfl ?_ | refine lcond_t rfl ?_ | refine lcond_f rfl ?_ | refine store1 tab rfl zTk rfl rfl rfl ?_ | refine lbool (c := true) (by assumption) ?_ | refine lbool (c := false) (by assumption) ?_ | refine lcond_t (by assumption) ?_ | refine lcond_f (by assumption) ?_ | refine build1 tab rfl ?_ | refine loadN tab rfl rfl zCs rfl ?_)
      refine call0 (less_ct p K h1 w1 (((f + 1) / 2 - 1) / 2 * 2 + 1) (f + 1) (by omega) (by omega)) ?_
      rintro v rfl
      repeat (first | refine LNext.go tab ?_ | refine LText.all rfl ?_ | refine LDraw.all (by decide +kernel) ?_ | refine LRes.mk ?_ | refine load1 tab rfl zCe ?_ | refine lenSlice tab rfl ?_ | refine newBox rfl (fun _ => ?_) | refine newAlloc tab rfl (fun _ => ?_) | refine lbool (c := true) rfl ?_ | refine lbool (c := false) rfl ?_ | refine lcond_t rfl ?_ | refine lcond_f rfl ?_ | refine store1 tab rfl zTk rfl rfl rfl ?_ | refine lbool (c := true) (by assumption) ?_ | refine lbool (c := false) (by assumption) ?_ | refine lcond_t (by assumption) ?_ | refine lcond_f (by assumption) ?_ | refine build1 tab rfl ?_ | refine loadN tab rfl rfl zCs rfl ?_)
      refine LCond.mk (fun hc2 => ?_) (fun hc2 => ?_)
      · repeat (first | refine LNext.go tab ?_ | refine LText.all rfl ?_ | refine LDraw.all (by decide +kernel) ?_ | refine LRes.mk ?_ | refine load1 tab rfl zCe ?_ | refine lenSlice tab rfl ?_ | refine newBox rfl (fun _ => ?_) | refine newAlloc tab rfl (fun _ => ?_) | refine lbool (c := true) rfl ?_ | refine lbool (c := false) rfl ?_ | refine lcond_t rfl ?_ | refine lcond_f rfl ?_ | refine store1 tab rfl zTk rfl rfl rfl ?_ | refine lbool (c := true) (by assumption) ?_ | refine lbool (c := false) (by assumption) ?_ | refine lcond_t (by assumption) ?_ | refine lcond_f (by assumption) ?_ | refine build1 tab rfl ?_ | refine loadN tab rfl rfl zCs rfl ?_)
        refine Fin.of (HM p K (up K h i)) ?_ ⟨rfl, rfl⟩
        have hc2' : ltP K h1.A (((f + 1) / 2 - 1) / 2 * 2 + 1) (f + 1) = false := by simpa using hc2
        rw [← he, upL, if_neg (by omega), if_neg (by rw [hc]; simp), if_neg (by rw [hc2']; simp)]
        exact Split.ent zSp
      · have hc2' : ltP K h1.A (((f + 1) / 2 - 1) / 2 * 2 + 1) (f + 1) = true := by simpa using hc2
        repeat (first | refine LNext.go tab ?_ | refine LText.all rfl ?_ | refine LDraw.all (by decide +kernel) ?_ | refine LRes.mk ?_ | refine load1 tab rfl zCe ?_ | refine lenSlice tab rfl ?_ | refine newBox rfl (fun _ => ?_) | refine newAlloc tab rfl (fun _ => ?_) | refine lbool (c := true) rfl ?_ | refine lbool (c := false) rfl ?_ | refine lcond_t rfl ?_ | refine lcond_f rfl ?_ | refine store1 tab rfl zTk rfl rfl rfl ?_ | refine lbool (c := true) (by assumption) ?_ | refine lbool (c := false) (by assumption) ?_ | refine lcond_t (by assumption) ?_ | refine lcond_f (by assumption) ?_ | refine build1 tab rfl ?_ | refine loadN tab rfl rfl zCs rfl ?_)
        refine call1 (swap_ct p K h1 w1 (f + 1) (((f + 1) / 2 - 1) / 2 * 2 + 1) (by omega) (by omega)) zSp ?_
        rintro v M' ⟨rfl, rfl⟩
        repeat (first | refine LNext.go tab ?_ | refine LText.all rfl ?_ | refine LDraw.all (by decide +kernel) ?_ | refine LRes.mk ?_ | refine load1 tab rfl zCe ?_ | refine lenSlice tab rfl ?_ | refine newBox rfl (fun _ => ?_) | refine newAlloc tab rfl (fun _ => ?_) | refine lbool (c := true) rfl ?_ | refine lbool (c := false) rfl ?_ | refine lcond_t rfl ?_ | refine lcond_f rfl ?_ | refine store1 tab rfl zTk rfl rfl rfl ?_ | refine lbool (c := true) (by assumption) ?_ | refine lbool (c := false) (by assumption) ?_ | refine lcond_t (by assumption) ?_ | refine lcond_f (by assumption) ?_ | refine build1 tab rfl ?_ | refine loadN tab rfl rfl zCs rfl ?_)
        refine ⟨(swp h1 (f + 1) (((f + 1) / 2 - 1) / 2 * 2 + 1), ((f + 1) / 2 - 1) / 2 * 2 + 1), ⟨w1.swpd (by omega) (by omega), by simp [swp, swA_len, hl1], by omega, ?_⟩, by simp only; omega, ⟨rfl, rfl, trivial⟩, Split.ent zSp⟩
        dsimp only
        have e : upL K (f + 1) h1 (f + 1) = upL K f (swp h1 (f + 1) (((f + 1) / 2 - 1) / 2 * 2 + 1)) (((f + 1) / 2 - 1) / 2 * 2 + 1) := by
          rw [upL, if_neg (by omega), if_neg (by rw [hc]; simp), if_pos hc2']
        rw [← he, e]
        exact upL_fuel K (Nat.le_refl _) (by omega) _
  · repeat (first | refine LNext.go tab ?_ | refine LText.all rfl ?_ | refine LDraw.all (by decide +kernel) ?_ | refine LRes.mk ?_ | refine load1 tab rfl zCe ?_ | refine lenSlice tab rfl ?_ | refine newBox rfl (fun _ => ?_) | refine newAlloc tab rfl (fun _ => ?_) | refine lbool (c := true) rfl ?_ | refine lbool (c := false) rfl ?_ | refine lcond_t rfl ?_ | refine lcond_f rfl ?_ | refine store1 tab rfl zTk rfl rfl rfl ?_ | refine lbool (c := true) (by assumption) ?_ | refine lbool (c := false) (by assumption) ?_ | refine lcond_t (by assumption) ?_ | refine lcond_f (by assumption) ?_ | refine build1 tab rfl ?_ | refine loadN tab rfl rfl zCs rfl ?_)
    refine Fin.of (HM p K (up K h i)) ?_ ⟨rfl, rfl⟩
    have hj2 : j < 2 := by simp at hc; omega
    have : upL K j h1 j = h1 := by
      cases j with
      | zero => rfl
      | succ j => rw [upL, if_pos hj2]
    rw [← he, this]
    exact Split.ent zSp
end Go.Proofs.Ytjgionnigenijaa
