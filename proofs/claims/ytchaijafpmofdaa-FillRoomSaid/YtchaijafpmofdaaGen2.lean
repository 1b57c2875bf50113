import Derived.Test.YtchaijafpmofdaaSlN
import Derived.Test.YtchaijafpmofdaaSlT
import Derived.Test.YtchaijafpmofdaaTab
namespace Go.Proofs.Ytchaijafpmofdaa
open Go.Sl
set_option linter.unusedVariables false
set_option maxRecDepth 100000

def cmpI (a b : Int) : Int := if a < b then -1 else if a > b then 1 else 0
theorem isNaN_i (x : Int) (M : List As) : Ctr Try.prog 70 #[.int .i64 x] M (fun v M' => v = .bool false ∧ M' = M) := by
  refine ctr_of (Γ := tab) (vs := [_]) fn70 rfl ?_
  repeat (first | refine LNext.go tab ?_ | refine LText.all rfl ?_ | refine LDraw.all (by decide +kernel) ?_ | refine LRes.mk ?_ | refine load1 tab rfl zCe ?_ | refine lenSlice tab rfl ?_ | refine newBox rfl (fun _ => ?_) | refine newAlloc tab rfl (fun _ => ?_) | refine lbool (c := true) rfl ?_ | refine lbool (c := false) rfl ?_ | refine lcond_t rfl ?_ | refine lcond_f rfl ?_ | refine store1 tab rfl zTk rfl rfl rfl ?_ | refine lbool (c := true) (by assumption) ?_ | refine lbool (c := false) (by assumption) ?_ | refine lcond_t (by assumption) ?_ | refine lcond_f (by assumption) ?_ | refine build1 tab rfl ?_ | refine loadN tab rfl rfl zCs rfl ?_)
  refine Fin.all ?_
  exact ⟨by simp, rfl⟩
theorem isNaN_l (x : Int) (M : List As) : Ctr Try.prog 97 #[.int .i64 x] M (fun v M' => v = .bool false ∧ M' = M) := by
  refine ctr_of (Γ := tab) (vs := [_]) fn97 rfl ?_
  repeat (first | refine LNext.go tab ?_ | refine LText.all rfl ?_ | refine LDraw.all (by decide +kernel) ?_ | refine LRes.mk ?_ | refine load1 tab rfl zCe ?_ | refine lenSlice tab rfl ?_ | refine newBox rfl (fun _ => ?_) | refine newAlloc tab rfl (fun _ => ?_) | refine lbool (c := true) rfl ?_ | refine lbool (c := false) rfl ?_ | refine lcond_t rfl ?_ | refine lcond_f rfl ?_ | refine store1 tab rfl zTk rfl rfl rfl ?_ | refine lbool (c := true) (by assumption) ?_ | refine lbool (c := false) (by assumption) ?_ | refine lcond_t (by assumption) ?_ | refine lcond_f (by assumption) ?_ | refine build1 tab rfl ?_ | refine loadN tab rfl rfl zCs rfl ?_)
  refine Fin.all ?_
  exact ⟨by simp, rfl⟩
theorem cmp_i (x y : Int) (M : List As) : Ctr Try.prog 50 #[.int .i64 x, .int .i64 y] M (fun v M' => v = .int .i64 (cmpI x y) ∧ M' = M) := by
  refine ctr_of (Γ := tab) (vs := [_, _]) fn50 rfl ?_
  repeat (first | refine LNext.go tab ?_ | refine LText.all rfl ?_ | refine LDraw.all (by decide +kernel) ?_ | refine LRes.mk ?_ | refine load1 tab rfl zCe ?_ | refine lenSlice tab rfl ?_ | refine newBox rfl (fun _ => ?_) | refine newAlloc tab rfl (fun _ => ?_) | refine lbool (c := true) rfl ?_ | refine lbool (c := false) rfl ?_ | refine lcond_t rfl ?_ | refine lcond_f rfl ?_ | refine store1 tab rfl zTk rfl rfl rfl ?_ | refine lbool (c := true) (by assumption) ?_ | refine lbool (c := false) (by assumption) ?_ | refine lcond_t (by assumption) ?_ | refine lcond_f (by assumption) ?_ | refine build1 tab rfl ?_ | refine loadN tab rfl rfl zCs rfl ?_)
  refine call0 (isNaN_i _ _) ?_
  rintro v rfl
  repeat (first | refine LNext.go tab ?_ | refine LText.all rfl ?_ | refine LDraw.all (by decide +kernel) ?_ | refine LRes.mk ?_ | refine load1 tab rfl zCe ?_ | refine lenSlice tab rfl ?_ | refine newBox rfl (fun _ => ?_) | refine newAlloc tab rfl (fun _ => ?_) | refine lbool (c := true) rfl ?_ | refine lbool (c := false) rfl ?_ | refine lcond_t rfl ?_ | refine lcond_f rfl ?_ | refine store1 tab rfl zTk rfl rfl rfl ?_ | refine lbool (c := true) (by assumption) ?_ | refine lbool (c := false) (by assumption) ?_ | refine lcond_t (by assumption) ?_ | refine lcond_f (by assumption) ?_ | refine build1 tab rfl ?_ | refine loadN tab rfl rfl zCs rfl ?_)
  refine call0 (isNaN_i _ _) ?_
  rintro v rfl
  repeat (first | refine LNext.go tab ?_ | refine LText.all rfl ?_ | refine LDraw.all (by decide +kernel) ?_ | refine LRes.mk ?_ | refine load1 tab rfl zCe ?_ | refine lenSlice tab rfl ?_ | refine newBox rfl (fun _ => ?_) | refine newAlloc tab rfl (fun _ => ?_) | refine lbool (c := true) rfl ?_ | refine lbool (c := false) rfl ?_ | refine lcond_t rfl ?_ | refine lcond_f rfl ?_ | refine store1 tab rfl zTk rfl rfl rfl ?_ | refine lbool (c := true) (by assumption) ?_ | refine lbool (c := false) (by assumption) ?_ | refine lcond_t (by assumption) ?_ | refine lcond_f (by assumption) ?_ | refine build1 tab rfl ?_ | refine loadN tab rfl rfl zCs rfl ?_)
  refine LCond.mk (fun h => ?_) (fun h => ?_)
  · repeat (first | refine LNext.go tab ?_ | refine LText.all rfl ?_ | refine LDraw.all (by decide +kernel) ?_ | refine LRes.mk ?_ | refine load1 tab rfl zCe ?_ | refine lenSlice tab rfl ?_ | refine newBox rfl (fun _ => ?_) | refine newAlloc tab rfl (fun _ => ?_) | refine lbool (c := true) rfl ?_ | refine lbool (c := false) rfl ?_ | refine lcond_t rfl ?_ | refine lcond_f rfl ?_ | refine store1 tab rfl zTk rfl rfl rfl ?_ | refine lbool (c := true) (by assumption) ?_ | refine lbool (c := false) (by assumption) ?_ | refine lcond_t (by assumption) ?_ | refine lcond_f (by assumption) ?_ | refine build1 tab rfl ?_ | refine loadN tab rfl rfl zCs rfl ?_)
    refine Fin.all ?_
    exact ⟨by simp at h; simp [cmpI, h], rfl⟩
  · repeat (first | refine LNext.go tab ?_ | refine LText.all rfl ?_ | refine LDraw.all (by decide +kernel) ?_ | refine LRes.mk ?_ | refine load1 tab rfl zCe ?_ | refine lenSlice tab rfl ?_ | refine newBox rfl (fun _ => ?_) | refine newAlloc tab rfl (fun _ => ?_) | refine lbool (c := true) rfl ?_ | refine lbool (c := false) rfl ?_ | refine lcond_t rfl ?_ | refine lcond_f rfl ?_ | refine store1 tab rfl zTk rfl rfl rfl ?_ | refine lbool (c := true) (by assumption) ?_ | refine lbool (c := false) (by assumption) ?_ | refine lcond_t (by assumption) ?_ | refine lcond_f (by assumption) ?_ | refine build1 tab rfl ?_ | refine loadN tab rfl rfl zCs rfl ?_)
    refine LCond.mk (fun h2 => ?_) (fun h2 => ?_)
    · repeat (first | refine LNext.go tab ?_ | refine LText.all rfl ?_ | refine LDraw.all (by decide +kernel) ?_ | refine LRes.mk ?_ | refine load1 tab rfl zCe ?_ | refine lenSlice tab rfl ?_ | refine newBox rfl (fun _ => ?_) | refine newAlloc tab rfl (fun _ => ?_) | refine lbool (c := true) rfl ?_ | refine lbool (c := false) rfl ?_ | refine lcond_t rfl ?_ | refine lcond_f rfl ?_ | refine store1 tab rfl zTk rfl rfl rfl ?_ | refine lbool (c := true) (by assumption) ?_ | refine lbool (c := false) (by assumption) ?_ | refine lcond_t (by assumption) ?_ | refine lcond_f (by assumption) ?_ | refine build1 tab rfl ?_ | refine loadN tab rfl rfl zCs rfl ?_)
      refine Fin.all ?_
      exact ⟨by simp at h h2; simp [cmpI]; omega, rfl⟩
    · repeat (first | refine LNext.go tab ?_ | refine LText.all rfl ?_ | refine LDraw.all (by decide +kernel) ?_ | refine LRes.mk ?_ | refine load1 tab rfl zCe ?_ | refine lenSlice tab rfl ?_ | refine newBox rfl (fun _ => ?_) | refine newAlloc tab rfl (fun _ => ?_) | refine lbool (c := true) rfl ?_ | refine lbool (c := false) rfl ?_ | refine lcond_t rfl ?_ | refine lcond_f rfl ?_ | refine store1 tab rfl zTk rfl rfl rfl ?_ | refine lbool (c := true) (by assumption) ?_ | refine lbool (c := false) (by assumption) ?_ | refine lcond_t (by assumption) ?_ | refine lcond_f (by assumption) ?_ | refine build1 tab rfl ?_ | refine loadN tab rfl rfl zCs rfl ?_)
      refine Fin.all ?_
      exact ⟨by simp at h h2; simp [cmpI]; omega, rfl⟩
theorem cmp_l (x y : Int) (M : List As) : Ctr Try.prog 89 #[.int .i64 x, .int .i64 y] M (fun v M' => v = .int .i64 (cmpI x y) ∧ M' = M) := by
  refine ctr_of (Γ := tab) (vs := [_, _]) fn89 rfl ?_
  repeat (first | refine LNext.go tab ?_ | refine LText.all rfl ?_ | refine LDraw.all (by decide +kernel) ?_ | refine LRes.mk ?_ | refine load1 tab rfl zCe ?_ | refine lenSlice tab rfl ?_ | refine newBox rfl (fun _ => ?_) | refine newAlloc tab rfl (fun _ => ?_) | refine lbool (c := true) rfl ?_ | refine lbool (c := false) rfl ?_ | refine lcond_t rfl ?_ | refine lcond_f rfl ?_ | refine store1 tab rfl zTk rfl rfl rfl ?_ | refine lbool (c := true) (by assumption) ?_ | refine lbool (c := false) (by assumption) ?_ | refine lcond_t (by assumption) ?_ | refine lcond_f (by assumption) ?_ | refine build1 tab rfl ?_ | refine loadN tab rfl rfl zCs rfl ?_)
  refine call0 (isNaN_l _ _) ?_
  rintro v rfl
  repeat (first | refine LNext.go tab ?_ | refine LText.all rfl ?_ | refine LDraw.all (by decide +kernel) ?_ | refine LRes.mk ?_ | refine load1 tab rfl zCe ?_ | refine lenSlice tab rfl ?_ | refine newBox rfl (fun _ => ?_) | refine newAlloc tab rfl (fun _ => ?_) | refine lbool (c := true) rfl ?_ | refine lbool (c := false) rfl ?_ | refine lcond_t rfl ?_ | refine lcond_f rfl ?_ | refine store1 tab rfl zTk rfl rfl rfl ?_ | refine lbool (c := true) (by assumption) ?_ | refine lbool (c := false) (by assumption) ?_ | refine lcond_t (by assumption) ?_ | refine lcond_f (by assumption) ?_ | refine build1 tab rfl ?_ | refine loadN tab rfl rfl zCs rfl ?_)
  refine call0 (isNaN_l _ _) ?_
  rintro v rfl
  repeat (first | refine LNext.go tab ?_ | refine LText.all rfl ?_ | refine LDraw.all (by decide +kernel) ?_ | refine LRes.mk ?_ | refine load1 tab rfl zCe ?_ | refine lenSlice tab rfl ?_ | refine newBox rfl (fun _ => ?_) | refine newAlloc tab rfl (fun _ => ?_) | refine lbool (c := true) rfl ?_ | refine lbool (c := false) rfl ?_ | refine lcond_t rfl ?_ | refine lcond_f rfl ?_ | refine store1 tab rfl zTk rfl rfl rfl ?_ | refine lbool (c := true) (by assumption) ?_ | refine lbool (c := false) (by assumption) ?_ | refine lcond_t (by assumption) ?_ | refine lcond_f (by assumption) ?_ | refine build1 tab rfl ?_ | refine loadN tab rfl rfl zCs rfl ?_)
  refine LCond.mk (fun h => ?_) (fun h => ?_)
  · repeat (first | refine LNext.go tab ?_ | refine LText.all rfl ?_ | refine LDraw.all (by decide +kernel) ?_ | refine LRes.mk ?_ | refine load1 tab rfl zCe ?_ | refine lenSlice tab rfl ?_ | refine newBox rfl (fun _ => ?_) | refine newAlloc tab rfl (fun _ => ?_) | refine lbool (c := true) rfl ?_ | refine lbool (c := false) rfl ?_ | refine lcond_t rfl ?_ | refine lcond_f rfl ?_ | refine store1 tab rfl zTk rfl rfl rfl ?_ | refine lbool (c := true) (by assumption) ?_ | refine lbool (c := false) (by assumption) ?_ | refine lcond_t (by assumption) ?_ | refine lcond_f (by assumption) ?_ | refine build1 tab rfl ?_ | refine loadN tab rfl rfl zCs rfl ?_)
    refine Fin.all ?_
    exact ⟨by simp at h; simp [cmpI, h], rfl⟩
  · repeat (first | refine LNext.go tab ?_ | refine LText.all rfl ?_ | refine LDraw.all (by decide +kernel) ?_ | refine LRes.mk ?_ | refine load1 tab rfl zCe ?_ | refine lenSlice tab rfl ?_ | refine newBox rfl (fun _ => ?_) | refine newAlloc tab rfl (fun _ => ?_) | refine lbool (c := true) rfl ?_ | refine lbool (c := false) rfl ?_ | refine lcond_t rfl ?_ | refine lcond_f rfl ?_ | refine store1 tab rfl zTk rfl rfl rfl ?_ | refine lbool (c := true) (by assumption) ?_ | refine lbool (c := false) (by assumption) ?_ | refine lcond_t (by assumption) ?_ | refine lcond_f (by assumption) ?_ | refine build1 tab rfl ?_ | refine loadN tab rfl rfl zCs rfl ?_)
    refine LCond.mk (fun h2 => ?_) (fun h2 => ?_)
    · repeat (first | refine LNext.go tab ?_ | refine LText.all rfl ?_ | refine LDraw.all (by decide +kernel) ?_ | refine LRes.mk ?_ | refine load1 tab rfl zCe ?_ | refine lenSlice tab rfl ?_ | refine newBox rfl (fun _ => ?_) | refine newAlloc tab rfl (fun _ => ?_) | refine lbool (c := true) rfl ?_ | refine lbool (c := false) rfl ?_ | refine lcond_t rfl ?_ | refine lcond_f rfl ?_ | refine store1 tab rfl zTk rfl rfl rfl ?_ | refine lbool (c := true) (by assumption) ?_ | refine lbool (c := false) (by assumption) ?_ | refine lcond_t (by assumption) ?_ | refine lcond_f (by assumption) ?_ | refine build1 tab rfl ?_ | refine loadN tab rfl rfl zCs rfl ?_)
      refine Fin.all ?_
      exact ⟨by simp at h h2; simp [cmpI]; omega, rfl⟩
    · repeat (first | refine LNext.go tab ?_ | refine LText.all rfl ?_ | refine LDraw.all (by decide +kernel) ?_ | refine LRes.mk ?_ | refine load1 tab rfl zCe ?_ | refine lenSlice tab rfl ?_ | refine newBox rfl (fun _ => ?_) | refine newAlloc tab rfl (fun _ => ?_) | refine lbool (c := true) rfl ?_ | refine lbool (c := false) rfl ?_ | refine lcond_t rfl ?_ | refine lcond_f rfl ?_ | refine store1 tab rfl zTk rfl rfl rfl ?_ | refine lbool (c := true) (by assumption) ?_ | refine lbool (c := false) (by assumption) ?_ | refine lcond_t (by assumption) ?_ | refine lcond_f (by assumption) ?_ | refine build1 tab rfl ?_ | refine loadN tab rfl rfl zCs rfl ?_)
      refine Fin.all ?_
      exact ⟨by simp at h h2; simp [cmpI]; omega, rfl⟩

def ints (l : List Int) : List Value := l.map (.int .i64)
theorem ints_get {l : List Int} {i : Nat} {x : Int} (h : l[i]? = some x) : (ints l)[i]? = some (.int .i64 x) := by simp [ints, h]
/-- The order of lists. -/
def cmpL : List Int → List Int → Int
  | [], [] => 0
  | [], _ :: _ => -1
  | _ :: _, [] => 1
  | a :: x, b :: y => if cmpI a b ≠ 0 then cmpI a b else cmpL x y
theorem cmpL_drop {x y : List Int} {k : Nat} {a c : Int} (ha : x[k]? = some a) (hc : y[k]? = some c) : cmpL (x.drop k) (y.drop k) = if cmpI a c ≠ 0 then cmpI a c else cmpL (x.drop (k + 1)) (y.drop (k + 1)) := by
  have h1 := (List.getElem?_eq_some_iff.1 ha).1
  have h2 := (List.getElem?_eq_some_iff.1 hc).1
  rw [List.drop_eq_getElem_cons h1, List.drop_eq_getElem_cons h2]
  have e1 : x[k] = a := (List.getElem?_eq_some_iff.1 ha).2
  have e2 : y[k] = c := (List.getElem?_eq_some_iff.1 hc).2
  simp [cmpL, e1, e2]
theorem sCmp_ct (b o c b' o' c' : Nat) (us vs : List Int) (M : List As) (hc : Cells M b o (ints us)) (hc' : Cells M b' o' (ints vs)) (hn : us.length ≤ 4611686018427387904) (hn' : vs.length ≤ 4611686018427387904) :
    Ctr Try.prog 71 #[.slice (some ⟨b, o, none⟩) us.length c, .slice (some ⟨b', o', none⟩) vs.length c'] M (fun v M' => v = .int .i64 (cmpL us vs) ∧ M' = M) := by
  refine ctr_of (Γ := tab) (vs := [_, _]) fn71 rfl ?_
  repeat (first | refine LNext.go tab ?_ | refine LText.all rfl ?_ | refine LDraw.all (by decide +kernel) ?_ | refine LRes.mk ?_ | refine load1 tab rfl zCe ?_ | refine lenSlice tab rfl ?_ | refine newBox rfl (fun _ => ?_) | refine newAlloc tab rfl (fun _ => ?_) | refine lbool (c := true) rfl ?_ | refine lbool (c := false) rfl ?_ | refine lcond_t rfl ?_ | refine lcond_f rfl ?_ | refine store1 tab rfl zTk rfl rfl rfl ?_ | refine lbool (c := true) (by assumption) ?_ | refine lbool (c := false) (by assumption) ?_ | refine lcond_t (by assumption) ?_ | refine lcond_f (by assumption) ?_ | refine build1 tab rfl ?_ | refine loadN tab rfl rfl zCs rfl ?_)
  refine LLoop.inv (Γ := tab) (fun k : Nat => [(0, .slice (some ⟨b, o, none⟩) us.length c), (1, .slice (some ⟨b', o', none⟩) vs.length c'), (9, .slice (some ⟨b, o, none⟩) us.length c), (10, .int .i64 us.length), (11, .int .i64 k)]) (fun _ => M) (fun k => k ≤ us.length ∧ k ≤ vs.length ∧ cmpL (us.drop k) (vs.drop k) = cmpL us vs) (fun k => us.length - k) 0 ⟨by omega, by omega, rfl⟩ ⟨rfl, rfl, rfl, rfl, rfl, trivial⟩ (Ent.refl _) ?_
  rintro k ⟨hk, hk', hf⟩
  repeat (first | refine LNext.go tab ?_ | refine LText.all rfl ?_ | refine LDraw.all (by decide +kernel) ?_ | refine LRes.mk ?_ | refine load1 tab rfl zCe ?_ | refine lenSlice tab rfl ?_ | refine newBox rfl (fun _ => ?_) | refine newAlloc tab rfl (fun _ => ?_) | refine lbool (c := true) rfl ?_ | refine lbool (c := false) rfl ?_ | refine lcond_t rfl ?_ | refine lcond_f rfl ?_ | refine store1 tab rfl zTk rfl rfl rfl ?_ | refine lbool (c := true) (by assumption) ?_ | refine lbool (c := false) (by assumption) ?_ | refine lcond_t (by assumption) ?_ | refine lcond_f (by assumption) ?_ | refine build1 tab rfl ?_ | refine loadN tab rfl rfl zCs rfl ?_)
  refine LCond.mk (fun h => ?_) (fun h => ?_)
  · have hlt : k < us.length := by simpa using h
    obtain ⟨x, hx⟩ : ∃ x, us[k]? = some x := ⟨_, List.getElem?_eq_getElem hlt⟩
    repeat (first | refine LNext.go tab ?_ | refine LText.all rfl ?_ | refine LDraw.all (by decide +kernel) ?_ | refine LRes.mk ?_ | refine load1 tab rfl zCe ?_ | refine lenSlice tab rfl ?_ | refine newBox rfl (fun _ => ?_) | refine newAlloc tab rfl (fun _ => ?_) | refine lbool (c := true) rfl ?_ | refine lbool (c := false) rfl ?_ | refine lcond_t rfl ?_ | refine lcond_f rfl ?_ | refine store1 tab rfl zTk rfl rfl rfl ?_ | refine lbool (c := true) (by assumption) ?_ | refine lbool (c := false) (by assumption) ?_ | refine lcond_t (by assumption) ?_ | refine lcond_f (by assumption) ?_ | refine build1 tab rfl ?_ | refine loadN tab rfl rfl zCs rfl ?_)
    refine lidx k rfl hlt ?_
    refine load1 tab rfl (by rw [Nat.mul_one]; exact hc.h k _ (ints_get hx)) ?_
    repeat (first | refine LNext.go tab ?_ | refine LText.all rfl ?_ | refine LDraw.all (by decide +kernel) ?_ | refine LRes.mk ?_ | refine load1 tab rfl zCe ?_ | refine lenSlice tab rfl ?_ | refine newBox rfl (fun _ => ?_) | refine newAlloc tab rfl (fun _ => ?_) | refine lbool (c := true) rfl ?_ | refine lbool (c := false) rfl ?_ | refine lcond_t rfl ?_ | refine lcond_f rfl ?_ | refine store1 tab rfl zTk rfl rfl rfl ?_ | refine lbool (c := true) (by assumption) ?_ | refine lbool (c := false) (by assumption) ?_ | refine lcond_t (by assumption) ?_ | refine lcond_f (by assumption) ?_ | refine build1 tab rfl ?_ | refine loadN tab rfl rfl zCs rfl ?_)
    refine LCond.mk (fun h => ?_) (fun h => ?_)
    · repeat (first | refine LNext.go tab ?_ | refine LText.all rfl ?_ | refine LDraw.all (by decide +kernel) ?_ | refine LRes.mk ?_ | refine load1 tab rfl zCe ?_ | refine lenSlice tab rfl ?_ | refine newBox rfl (fun _ => ?_) | refine newAlloc tab rfl (fun _ => ?_) | refine lbool (c := true) rfl ?_ | refine lbool (c := false) rfl ?_ | refine lcond_t rfl ?_ | refine lcond_f rfl ?_ | refine store1 tab rfl zTk rfl rfl rfl ?_ | refine lbool (c := true) (by assumption) ?_ | refine lbool (c := false) (by assumption) ?_ | refine lcond_t (by assumption) ?_ | refine lcond_f (by assumption) ?_ | refine build1 tab rfl ?_ | refine loadN tab rfl rfl zCs rfl ?_)
      have : vs.length ≤ k := by simpa using h
      refine Fin.all ?_
      refine ⟨?_, rfl⟩
      rw [← hf, List.drop_eq_getElem_cons hlt, List.drop_of_length_le this]; rfl
    · have hlt' : k < vs.length := by simpa using h
      obtain ⟨y, hy⟩ : ∃ x, vs[k]? = some x := ⟨_, List.getElem?_eq_getElem hlt'⟩
      have hd := cmpL_drop hx hy
      repeat (first | refine LNext.go tab ?_ | refine LText.all rfl ?_ | refine LDraw.all (by decide +kernel) ?_ | refine LRes.mk ?_ | refine load1 tab rfl zCe ?_ | refine lenSlice tab rfl ?_ | refine newBox rfl (fun _ => ?_) | refine newAlloc tab rfl (fun _ => ?_) | refine lbool (c := true) rfl ?_ | refine lbool (c := false) rfl ?_ | refine lcond_t rfl ?_ | refine lcond_f rfl ?_ | refine store1 tab rfl zTk rfl rfl rfl ?_ | refine lbool (c := true) (by assumption) ?_ | refine lbool (c := false) (by assumption) ?_ | refine lcond_t (by assumption) ?_ | refine lcond_f (by assumption) ?_ | refine build1 tab rfl ?_ | refine loadN tab rfl rfl zCs rfl ?_)
      refine lidx k rfl hlt' ?_
      refine load1 tab rfl (by rw [Nat.mul_one]; exact hc'.h k _ (ints_get hy)) ?_
      repeat (first | refine LNext.go tab ?_ | refine LText.all rfl ?_ | refine LDraw.all (by decide +kernel) ?_ | refine LRes.mk ?_ | refine load1 tab rfl zCe ?_ | refine lenSlice tab rfl ?_ | refine newBox rfl (fun _ => ?_) | refine newAlloc tab rfl (fun _ => ?_) | refine lbool (c := true) rfl ?_ | refine lbool (c := false) rfl ?_ | refine lcond_t rfl ?_ | refine lcond_f rfl ?_ | refine store1 tab rfl zTk rfl rfl rfl ?_ | refine lbool (c := true) (by assumption) ?_ | refine lbool (c := false) (by assumption) ?_ | refine lcond_t (by assumption) ?_ | refine lcond_f (by assumption) ?_ | refine build1 tab rfl ?_ | refine loadN tab rfl rfl zCs rfl ?_)
      refine call0 (cmp_l _ _ _) ?_
      rintro v rfl
      repeat (first | refine LNext.go tab ?_ | refine LText.all rfl ?_ | refine LDraw.all (by decide +kernel) ?_ | refine LRes.mk ?_ | refine load1 tab rfl zCe ?_ | refine lenSlice tab rfl ?_ | refine newBox rfl (fun _ => ?_) | refine newAlloc tab rfl (fun _ => ?_) | refine lbool (c := true) rfl ?_ | refine lbool (c := false) rfl ?_ | refine lcond_t rfl ?_ | refine lcond_f rfl ?_ | refine store1 tab rfl zTk rfl rfl rfl ?_ | refine lbool (c := true) (by assumption) ?_ | refine lbool (c := false) (by assumption) ?_ | refine lcond_t (by assumption) ?_ | refine lcond_f (by assumption) ?_ | refine build1 tab rfl ?_ | refine loadN tab rfl rfl zCs rfl ?_)
      refine LCond.mk (fun h => ?_) (fun h => ?_)
      · repeat (first | refine LNext.go tab ?_ | refine LText.all rfl ?_ | refine LDraw.all (by decide +kernel) ?_ | refine LRes.mk ?_ | refine load1 tab rfl zCe ?_ | refine lenSlice tab rfl ?_ | refine newBox rfl (fun _ => ?_) | refine newAlloc tab rfl (fun _ => ?_) | refine lbool (c := true) rfl ?_ | refine lbool (c := false) rfl ?_ | refine lcond_t rfl ?_ | refine lcond_f rfl ?_ | refine store1 tab rfl zTk rfl rfl rfl ?_ | refine lbool (c := true) (by assumption) ?_ | refine lbool (c := false) (by assumption) ?_ | refine lcond_t (by assumption) ?_ | refine lcond_f (by assumption) ?_ | refine build1 tab rfl ?_ | refine loadN tab rfl rfl zCs rfl ?_)
        have : cmpI x y ≠ 0 := by simpa using h
        refine Fin.all ?_
        exact ⟨by rw [← hf, hd, if_pos this], rfl⟩
      · repeat (first | refine LNext.go tab ?_ | refine LText.all rfl ?_ | refine LDraw.all (by decide +kernel) ?_ | refine LRes.mk ?_ | refine load1 tab rfl zCe ?_ | refine lenSlice tab rfl ?_ | refine newBox rfl (fun _ => ?_) | refine newAlloc tab rfl (fun _ => ?_) | refine lbool (c := true) rfl ?_ | refine lbool (c := false) rfl ?_ | refine lcond_t rfl ?_ | refine lcond_f rfl ?_ | refine store1 tab rfl zTk rfl rfl rfl ?_ | refine lbool (c := true) (by assumption) ?_ | refine lbool (c := false) (by assumption) ?_ | refine lcond_t (by assumption) ?_ | refine lcond_f (by assumption) ?_ | refine build1 tab rfl ?_ | refine loadN tab rfl rfl zCs rfl ?_)
        have : ¬ (cmpI x y ≠ 0) := by simpa using h
        refine lint_i64 (m := ((k + 1 : Nat) : Int)) (by omega) rfl ?_
        exact ⟨k + 1, ⟨by omega, by omega, by rw [← hf, hd, if_neg this]⟩, by omega, ⟨rfl, rfl, rfl, rfl, rfl, trivial⟩, Ent.refl _⟩
  · repeat (first | refine LNext.go tab ?_ | refine LText.all rfl ?_ | refine LDraw.all (by decide +kernel) ?_ | refine LRes.mk ?_ | refine load1 tab rfl zCe ?_ | refine lenSlice tab rfl ?_ | refine newBox rfl (fun _ => ?_) | refine newAlloc tab rfl (fun _ => ?_) | refine lbool (c := true) rfl ?_ | refine lbool (c := false) rfl ?_ | refine lcond_t rfl ?_ | refine lcond_f rfl ?_ | refine store1 tab rfl zTk rfl rfl rfl ?_ | refine lbool (c := true) (by assumption) ?_ | refine lbool (c := false) (by assumption) ?_ | refine lcond_t (by assumption) ?_ | refine lcond_f (by assumption) ?_ | refine build1 tab rfl ?_ | refine loadN tab rfl rfl zCs rfl ?_)
    have hk2 : k = us.length := by have : us.length ≤ k := by simpa using h
                                   omega
    refine LCond.mk (fun h => ?_) (fun h => ?_)
    · repeat (first | refine LNext.go tab ?_ | refine LText.all rfl ?_ | refine LDraw.all (by decide +kernel) ?_ | refine LRes.mk ?_ | refine load1 tab rfl zCe ?_ | refine lenSlice tab rfl ?_ | refine newBox rfl (fun _ => ?_) | refine newAlloc tab rfl (fun _ => ?_) | refine lbool (c := true) rfl ?_ | refine lbool (c := false) rfl ?_ | refine lcond_t rfl ?_ | refine lcond_f rfl ?_ | refine store1 tab rfl zTk rfl rfl rfl ?_ | refine lbool (c := true) (by assumption) ?_ | refine lbool (c := false) (by assumption) ?_ | refine lcond_t (by assumption) ?_ | refine lcond_f (by assumption) ?_ | refine build1 tab rfl ?_ | refine loadN tab rfl rfl zCs rfl ?_)
      have h2 : us.length < vs.length := by simpa using h
      refine Fin.all ?_
      refine ⟨?_, rfl⟩
      rw [← hf, List.drop_of_length_le (by omega), List.drop_eq_getElem_cons (by omega : k < vs.length)]; rfl
    · repeat (first | refine LNext.go tab ?_ | refine LText.all rfl ?_ | refine LDraw.all (by decide +kernel) ?_ | refine LRes.mk ?_ | refine load1 tab rfl zCe ?_ | refine lenSlice tab rfl ?_ | refine newBox rfl (fun _ => ?_) | refine newAlloc tab rfl (fun _ => ?_) | refine lbool (c := true) rfl ?_ | refine lbool (c := false) rfl ?_ | refine lcond_t rfl ?_ | refine lcond_f rfl ?_ | refine store1 tab rfl zTk rfl rfl rfl ?_ | refine lbool (c := true) (by assumption) ?_ | refine lbool (c := false) (by assumption) ?_ | refine lcond_t (by assumption) ?_ | refine lcond_f (by assumption) ?_ | refine build1 tab rfl ?_ | refine loadN tab rfl rfl zCs rfl ?_)
      have h2 : vs.length ≤ us.length := by simpa using h
      refine Fin.all ?_
      refine ⟨?_, rfl⟩
      rw [← hf, List.drop_of_length_le (by omega), List.drop_of_length_le (by omega)]; rfl
end Go.Proofs.Ytchaijafpmofdaa
