import Derived.Test.YtjgionnigenijaaMmTop
namespace Go.Proofs.Ytjgionnigenijaa
open Go.Sl
set_option linter.unusedVariables false
set_option maxRecDepth 100000
set_option maxHeartbeats 4000000

/-- An answer: an entry, its key, and whether there is one. -/
def ans3 (r : Nat × K3 × Int) : Value := .tuple #[.int .i64 (r.1 : Nat), kv r.2.1, .int .i64 r.2.2]
def noAns : Nat × K3 × Int := (0, (0, 0, 0), 3)
def ansAt (K : List K3) (h : HS) (i : Nat) : Nat × K3 × Int := (at_ h.A i, key K (at_ h.A i), 0)
theorem told_nil (i : Int) : Ctr Try.prog 60 #[.pointer none, .int .i64 i] [] (fun v M' => v = ans3 noAns ∧ M' = []) := by
  refine ctr_of (Γ := tab) (vs := [_, _]) fn60 rfl ?_
  repeat (first | refine LNext.go tab ?_ | refine LText.all rfl ?_ | refine LDraw.all (by decide +kernel) ?_ | refine LRes.mk ?_ | refine load1 tab rfl zCe ?_ | refine lenSlice tab rfl ?_ | refine newBox rfl (fun _ => ?_) | refine newAlloc tab rfl (fun _ => ?_) | refine lbool (c := true) rfl ?_ | refine lbool (c := false) rfl ?_ | refine lcond_t rfl ?_ | refine lcond_f rfl ?_ | refine store1 tab rfl zTk rfl rfl rfl ?_ | refine lbool (c := true) (by assumption) ?_ | refine lbool (c := false) (by assumption) ?_ | refine lcond_t (by assumption) ?_ | refine lcond_f (by assumption) ?_ | refine build1 tab rfl ?_ | refine loadN tab rfl rfl zCs rfl ?_)
  refine call0 (Len_nil _) ?_
  rintro v rfl
  repeat (first | refine LNext.go tab ?_ | refine LText.all rfl ?_ | refine LDraw.all (by decide +kernel) ?_ | refine LRes.mk ?_ | refine load1 tab rfl zCe ?_ | refine lenSlice tab rfl ?_ | refine newBox rfl (fun _ => ?_) | refine newAlloc tab rfl (fun _ => ?_) | refine lbool (c := true) rfl ?_ | refine lbool (c := false) rfl ?_ | refine lcond_t rfl ?_ | refine lcond_f rfl ?_ | refine store1 tab rfl zTk rfl rfl rfl ?_ | refine lbool (c := true) (by assumption) ?_ | refine lbool (c := false) (by assumption) ?_ | refine lcond_t (by assumption) ?_ | refine lcond_f (by assumption) ?_ | refine build1 tab rfl ?_ | refine loadN tab rfl rfl zCs rfl ?_)
  show Fin _ _ _; exact Fin.of [] (Split.ent zSp) ⟨rfl, rfl⟩
theorem told_none (q : Pq) (K : List K3) (h : HS) (i : Int) (h0 : h.A.length = 0) : Ctr Try.prog 60 #[.pointer (some ⟨q.b, 0, none⟩), .int .i64 i] (HMq q K h) (fun v M' => v = ans3 noAns ∧ M' = HMq q K h) := by
  refine ctr_of (Γ := tab) (vs := [_, _]) fn60 rfl ?_
  repeat (first | refine LNext.go tab ?_ | refine LText.all rfl ?_ | refine LDraw.all (by decide +kernel) ?_ | refine LRes.mk ?_ | refine load1 tab rfl zCe ?_ | refine lenSlice tab rfl ?_ | refine newBox rfl (fun _ => ?_) | refine newAlloc tab rfl (fun _ => ?_) | refine lbool (c := true) rfl ?_ | refine lbool (c := false) rfl ?_ | refine lcond_t rfl ?_ | refine lcond_f rfl ?_ | refine store1 tab rfl zTk rfl rfl rfl ?_ | refine lbool (c := true) (by assumption) ?_ | refine lbool (c := false) (by assumption) ?_ | refine lcond_t (by assumption) ?_ | refine lcond_f (by assumption) ?_ | refine build1 tab rfl ?_ | refine loadN tab rfl rfl zCs rfl ?_)
  refine call1 (Len_ct q K h) zSp ?_
  rintro v M' ⟨rfl, rfl⟩
  have e1 : (((h.A.length : Nat) : Int) == 0) = true := by rw [h0]; rfl
  repeat (first | refine LNext.go tab ?_ | refine LText.all rfl ?_ | refine LDraw.all (by decide +kernel) ?_ | refine LRes.mk ?_ | refine load1 tab rfl zCe ?_ | refine lenSlice tab rfl ?_ | refine newBox rfl (fun _ => ?_) | refine newAlloc tab rfl (fun _ => ?_) | refine lbool (c := true) rfl ?_ | refine lbool (c := false) rfl ?_ | refine lcond_t rfl ?_ | refine lcond_f rfl ?_ | refine store1 tab rfl zTk rfl rfl rfl ?_ | refine lbool (c := true) (by assumption) ?_ | refine lbool (c := false) (by assumption) ?_ | refine lcond_t (by assumption) ?_ | refine lcond_f (by assumption) ?_ | refine build1 tab rfl ?_ | refine loadN tab rfl rfl zCs rfl ?_)
  show Fin _ _ _; exact Fin.of (HMq q K h) (Split.ent zSp) ⟨rfl, rfl⟩
theorem told_ct (q : Pq) (K : List K3) (h : HS) (w : WF K h) (g : Good q K) (i : Nat) (hi : i < h.A.length) : Ctr Try.prog 60 #[.pointer (some ⟨q.b, 0, none⟩), .int .i64 i] (HMq q K h) (fun v M' => v = ans3 (ansAt K h i) ∧ M' = HMq q K h) := by
  have hk := w.lt i hi
  obtain ⟨p, rfl⟩ := g.get (by omega)
  refine ctr_of (Γ := tab) (vs := [_, _]) fn60 rfl ?_
  repeat (first | refine LNext.go tab ?_ | refine LText.all rfl ?_ | refine LDraw.all (by decide +kernel) ?_ | refine LRes.mk ?_ | refine load1 tab rfl zCe ?_ | refine lenSlice tab rfl ?_ | refine newBox rfl (fun _ => ?_) | refine newAlloc tab rfl (fun _ => ?_) | refine lbool (c := true) rfl ?_ | refine lbool (c := false) rfl ?_ | refine lcond_t rfl ?_ | refine lcond_f rfl ?_ | refine store1 tab rfl zTk rfl rfl rfl ?_ | refine lbool (c := true) (by assumption) ?_ | refine lbool (c := false) (by assumption) ?_ | refine lcond_t (by assumption) ?_ | refine lcond_f (by assumption) ?_ | refine build1 tab rfl ?_ | refine loadN tab rfl rfl zCs rfl ?_)
  refine call1 (Len_ct p.q K h) zSp ?_
  rintro v M' ⟨rfl, rfl⟩
  have e1 : (((h.A.length : Nat) : Int) == 0) = false := by
    have := beq_nat h.A.length 0
    simp at this ⊢; intro e; rw [e] at hi; simp at hi
  repeat (first | refine LNext.go tab ?_ | refine LText.all rfl ?_ | refine LDraw.all (by decide +kernel) ?_ | refine LRes.mk ?_ | refine load1 tab rfl zCe ?_ | refine lenSlice tab rfl ?_ | refine newBox rfl (fun _ => ?_) | refine newAlloc tab rfl (fun _ => ?_) | refine lbool (c := true) rfl ?_ | refine lbool (c := false) rfl ?_ | refine lcond_t rfl ?_ | refine lcond_f rfl ?_ | refine store1 tab rfl zTk rfl rfl rfl ?_ | refine lbool (c := true) (by assumption) ?_ | refine lbool (c := false) (by assumption) ?_ | refine lcond_t (by assumption) ?_ | refine lcond_f (by assumption) ?_ | refine build1 tab rfl ?_ | refine loadN tab rfl rfl zCs rfl ?_)
  refine lidx i rfl hi ?_
  refine load1 tab rfl (Cell.there (Cell.erow encN_len (i := i) 0 (by omega) (at_get hi) rfl)) ?_
  repeat (first | refine LNext.go tab ?_ | refine LText.all rfl ?_ | refine LDraw.all (by decide +kernel) ?_ | refine LRes.mk ?_ | refine load1 tab rfl zCe ?_ | refine lenSlice tab rfl ?_ | refine newBox rfl (fun _ => ?_) | refine newAlloc tab rfl (fun _ => ?_) | refine lbool (c := true) rfl ?_ | refine lbool (c := false) rfl ?_ | refine lcond_t rfl ?_ | refine lcond_f rfl ?_ | refine store1 tab rfl zTk rfl rfl rfl ?_ | refine lbool (c := true) (by assumption) ?_ | refine lbool (c := false) (by assumption) ?_ | refine lcond_t (by assumption) ?_ | refine lcond_f (by assumption) ?_ | refine build1 tab rfl ?_ | refine loadN tab rfl rfl zCs rfl ?_)
  refine lidx i rfl hi ?_
  refine load1 tab rfl (Cell.there (Cell.erow encN_len (i := i) 0 (by omega) (at_get hi) rfl)) ?_
  repeat (first | refine LNext.go tab ?_ | refine LText.all rfl ?_ | refine LDraw.all (by decide +kernel) ?_ | refine LRes.mk ?_ | refine load1 tab rfl zCe ?_ | refine lenSlice tab rfl ?_ | refine newBox rfl (fun _ => ?_) | refine newAlloc tab rfl (fun _ => ?_) | refine lbool (c := true) rfl ?_ | refine lbool (c := false) rfl ?_ | refine lcond_t rfl ?_ | refine lcond_f rfl ?_ | refine store1 tab rfl zTk rfl rfl rfl ?_ | refine lbool (c := true) (by assumption) ?_ | refine lbool (c := false) (by assumption) ?_ | refine lcond_t (by assumption) ?_ | refine lcond_f (by assumption) ?_ | refine build1 tab rfl ?_ | refine loadN tab rfl rfl zCs rfl ?_)
  refine lidx (at_ h.A i) rfl hk ?_
  refine loadN tab rfl rfl (vs := encK (key K (at_ h.A i))) (Cells.there (Cells.there (Cells.erow encK_len (by omega) (key_get hk)))) rfl ?_
  repeat (first | refine LNext.go tab ?_ | refine LText.all rfl ?_ | refine LDraw.all (by decide +kernel) ?_ | refine LRes.mk ?_ | refine load1 tab rfl zCe ?_ | refine lenSlice tab rfl ?_ | refine newBox rfl (fun _ => ?_) | refine newAlloc tab rfl (fun _ => ?_) | refine lbool (c := true) rfl ?_ | refine lbool (c := false) rfl ?_ | refine lcond_t rfl ?_ | refine lcond_f rfl ?_ | refine store1 tab rfl zTk rfl rfl rfl ?_ | refine lbool (c := true) (by assumption) ?_ | refine lbool (c := false) (by assumption) ?_ | refine lcond_t (by assumption) ?_ | refine lcond_f (by assumption) ?_ | refine build1 tab rfl ?_ | refine loadN tab rfl rfl zCs rfl ?_)
  show Fin _ _ _; exact Fin.of (HMq p.q K h) (Split.ent zSp) ⟨rfl, rfl⟩

def minR (K : List K3) (h : HS) : Nat × K3 × Int := if h.A.length = 0 then noAns else ansAt K h 0
def maxR (K : List K3) (h : HS) : Nat × K3 × Int := if h.A.length = 0 then noAns else ansAt K h (min 1 (h.A.length - 1))
theorem told_min (q : Pq) (K : List K3) (h : HS) (w : WF K h) (g : Good q K) : Ctr Try.prog 60 #[.pointer (some ⟨q.b, 0, none⟩), .int .i64 0] (HMq q K h) (fun v M' => v = ans3 (minR K h) ∧ M' = HMq q K h) := by
  unfold minR
  split
  · rename_i h0
    exact told_none q K h 0 h0
  · exact told_ct q K h w g 0 (by omega)
theorem told_max (q : Pq) (K : List K3) (h : HS) (w : WF K h) (g : Good q K) {i : Int} (hi : i = min 1 ((h.A.length : Int) - 1)) : Ctr Try.prog 60 #[.pointer (some ⟨q.b, 0, none⟩), .int .i64 i] (HMq q K h) (fun v M' => v = ans3 (maxR K h) ∧ M' = HMq q K h) := by
  subst hi
  unfold maxR
  split
  · rename_i h0
    exact told_none q K h _ h0
  · have e : min 1 ((h.A.length : Int) - 1) = ((min 1 (h.A.length - 1) : Nat) : Int) := by omega
    rw [e]
    exact told_ct q K h w g _ (by omega)
theorem Max_nil : Ctr Try.prog 40 #[.pointer none] [] (fun v M' => v = ans3 noAns ∧ M' = []) := by
  refine ctr_of (Γ := tab) (vs := [_]) fn40 rfl ?_
  repeat (first | refine LNext.go tab ?_ | refine LText.all rfl ?_ | refine LDraw.all (by decide +kernel) ?_ | refine LRes.mk ?_ | refine load1 tab rfl zCe ?_ | refine lenSlice tab rfl ?_ | refine newBox rfl (fun _ => ?_) | refine newAlloc tab rfl (fun _ => ?_) | refine lbool (c := true) rfl ?_ | refine lbool (c := false) rfl ?_ | refine lcond_t rfl ?_ | refine lcond_f rfl ?_ | refine store1 tab rfl zTk rfl rfl rfl ?_ | refine lbool (c := true) (by assumption) ?_ | refine lbool (c := false) (by assumption) ?_ | refine lcond_t (by assumption) ?_ | refine lcond_f (by assumption) ?_ | refine build1 tab rfl ?_ | refine loadN tab rfl rfl zCs rfl ?_)
  refine call0 (Len_nil _) ?_
  rintro v rfl
  refine lint_i64 (m := -1) (by omega) rfl ?_
  refine min2i ?_
  refine call1 (told_nil _) zSp ?_
  rintro v M' ⟨rfl, rfl⟩
  repeat (first | refine LNext.go tab ?_ | refine LText.all rfl ?_ | refine LDraw.all (by decide +kernel) ?_ | refine LRes.mk ?_ | refine load1 tab rfl zCe ?_ | refine lenSlice tab rfl ?_ | refine newBox rfl (fun _ => ?_) | refine newAlloc tab rfl (fun _ => ?_) | refine lbool (c := true) rfl ?_ | refine lbool (c := false) rfl ?_ | refine lcond_t rfl ?_ | refine lcond_f rfl ?_ | refine store1 tab rfl zTk rfl rfl rfl ?_ | refine lbool (c := true) (by assumption) ?_ | refine lbool (c := false) (by assumption) ?_ | refine lcond_t (by assumption) ?_ | refine lcond_f (by assumption) ?_ | refine build1 tab rfl ?_ | refine loadN tab rfl rfl zCs rfl ?_)
  show Fin _ _ _; exact Fin.of [] (Split.ent zSp) ⟨rfl, rfl⟩
theorem Max_ct (q : Pq) (K : List K3) (h : HS) (w : WF K h) (g : Good q K) : Ctr Try.prog 40 #[.pointer (some ⟨q.b, 0, none⟩)] (HMq q K h) (fun v M' => v = ans3 (maxR K h) ∧ M' = HMq q K h) := by
  have := w.len
  have := w.small
  refine ctr_of (Γ := tab) (vs := [_]) fn40 rfl ?_
  repeat (first | refine LNext.go tab ?_ | refine LText.all rfl ?_ | refine LDraw.all (by decide +kernel) ?_ | refine LRes.mk ?_ | refine load1 tab rfl zCe ?_ | refine lenSlice tab rfl ?_ | refine newBox rfl (fun _ => ?_) | refine newAlloc tab rfl (fun _ => ?_) | refine lbool (c := true) rfl ?_ | refine lbool (c := false) rfl ?_ | refine lcond_t rfl ?_ | refine lcond_f rfl ?_ | refine store1 tab rfl zTk rfl rfl rfl ?_ | refine lbool (c := true) (by assumption) ?_ | refine lbool (c := false) (by assumption) ?_ | refine lcond_t (by assumption) ?_ | refine lcond_f (by assumption) ?_ | refine build1 tab rfl ?_ | refine loadN tab rfl rfl zCs rfl ?_)
  refine call1 (Len_ct q K h) zSp ?_
  rintro v M' ⟨rfl, rfl⟩
  refine lint_i64 (m := (h.A.length : Int) - 1) (by omega) rfl ?_
  refine min2i ?_
  refine call1 (told_max q K h w g (by omega)) zSp ?_
  rintro v M' ⟨rfl, rfl⟩
  repeat (first | refine LNext.go tab ?_ | refine LText.all rfl ?_ | refine LDraw.all (by decide +kernel) ?_ | refine LRes.mk ?_ | refine load1 tab rfl zCe ?_ | refine lenSlice tab rfl ?_ | refine newBox rfl (fun _ => ?_) | refine newAlloc tab rfl (fun _ => ?_) | refine lbool (c := true) rfl ?_ | refine lbool (c := false) rfl ?_ | refine lcond_t rfl ?_ | refine lcond_f rfl ?_ | refine store1 tab rfl zTk rfl rfl rfl ?_ | refine lbool (c := true) (by assumption) ?_ | refine lbool (c := false) (by assumption) ?_ | refine lcond_t (by assumption) ?_ | refine lcond_f (by assumption) ?_ | refine build1 tab rfl ?_ | refine loadN tab rfl rfl zCs rfl ?_)
  show Fin _ _ _; exact Fin.of (HMq q K h) (Split.ent zSp) ⟨rfl, rfl⟩
end Go.Proofs.Ytjgionnigenijaa
