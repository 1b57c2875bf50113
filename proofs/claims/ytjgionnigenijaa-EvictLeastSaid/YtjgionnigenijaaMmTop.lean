import Derived.Test.YtjgionnigenijaaMmSettle
namespace Go.Proofs.Ytjgionnigenijaa
open Go.Sl
set_option linter.unusedVariables false
set_option maxRecDepth 100000
set_option maxHeartbeats 4000000

structure Pq where
  b : Nat
  ga : Option Nat
  ca : Nat
  gk : Option Nat
  ck : Nat
  gs : Option Nat
  cs : Nat
def ad : Option Nat → Option Addr
  | some g => some ⟨g, 0, none⟩
  | none => none
def Pl.q (p : Pl) : Pq := ⟨p.b, some p.ga, p.ca, some p.gk, p.ck, some p.gs, p.cs⟩
def HMq (q : Pq) (K : List K3) (h : HS) : List As :=
  [pt q.b (.cells #[.slice (ad q.ga) h.A.length q.ca, .slice (ad q.gk) K.length q.ck, .slice (ad q.gs) h.S.length q.cs] 86),
   ERow 3 1 encN (ad q.ga) h.A.length q.ca h.A, ERow 60 3 encK (ad q.gk) K.length q.ck K, ERow 3 1 encN (ad q.gs) h.S.length q.cs h.S]
/-- A heap's places are all there, or nothing was ever in it. -/
def Good (q : Pq) (K : List K3) : Prop := K = [] ∨ ∃ p : Pl, q = p.q
theorem Good.get {q : Pq} {K : List K3} (g : Good q K) (h : 0 < K.length) : ∃ p : Pl, q = p.q := by
  rcases g with rfl | h
  · simp at h
  · exact h

theorem Len_ct (q : Pq) (K : List K3) (h : HS) : Ctr Try.prog 23 #[.pointer (some ⟨q.b, 0, none⟩)] (HMq q K h) (fun v M' => v = .int .i64 (h.A.length : Nat) ∧ M' = HMq q K h) := by
  refine ctr_of (Γ := tab) (vs := [_]) fn23 rfl ?_
  repeat (first | refine LNext.go tab ?_ | refine LText.all rfl ?_ | refine LDraw.all (by decide +kernel) ?_ | refine LRes.mk ?_ | refine load1 tab rfl zCe ?_ | refine lenSlice tab rfl ?_ | refine newBox rfl (fun _ => ?_) | refine newAlloc tab rfl (fun _ => ?_) | refine lbool (c := true) rfl ?_ | refine lbool (c := false) rfl ?_ | refine lcond_t rfl ?_ | refine lcond_f rfl ?_ | refine store1 tab rfl zTk rfl rfl rfl ?_ | refine lbool (c := true) (by assumption) ?_ | refine lbool (c := false) (by assumption) ?_ | refine lcond_t (by assumption) ?_ | refine lcond_f (by assumption) ?_ | refine build1 tab rfl ?_ | refine loadN tab rfl rfl zCs rfl ?_)
  refine eqPtrNil tab rfl ?_
  repeat (first | refine LNext.go tab ?_ | refine LText.all rfl ?_ | refine LDraw.all (by decide +kernel) ?_ | refine LRes.mk ?_ | refine load1 tab rfl zCe ?_ | refine lenSlice tab rfl ?_ | refine newBox rfl (fun _ => ?_) | refine newAlloc tab rfl (fun _ => ?_) | refine lbool (c := true) rfl ?_ | refine lbool (c := false) rfl ?_ | refine lcond_t rfl ?_ | refine lcond_f rfl ?_ | refine store1 tab rfl zTk rfl rfl rfl ?_ | refine lbool (c := true) (by assumption) ?_ | refine lbool (c := false) (by assumption) ?_ | refine lcond_t (by assumption) ?_ | refine lcond_f (by assumption) ?_ | refine build1 tab rfl ?_ | refine loadN tab rfl rfl zCs rfl ?_)
  exact Fin.all ⟨rfl, rfl⟩
theorem Len_nil (M : List As) : Ctr Try.prog 23 #[.pointer none] M (fun v M' => v = .int .i64 0 ∧ M' = M) := by
  refine ctr_of (Γ := tab) (vs := [_]) fn23 rfl ?_
  repeat (first | refine LNext.go tab ?_ | refine LText.all rfl ?_ | refine LDraw.all (by decide +kernel) ?_ | refine LRes.mk ?_ | refine load1 tab rfl zCe ?_ | refine lenSlice tab rfl ?_ | refine newBox rfl (fun _ => ?_) | refine newAlloc tab rfl (fun _ => ?_) | refine lbool (c := true) rfl ?_ | refine lbool (c := false) rfl ?_ | refine lcond_t rfl ?_ | refine lcond_f rfl ?_ | refine store1 tab rfl zTk rfl rfl rfl ?_ | refine lbool (c := true) (by assumption) ?_ | refine lbool (c := false) (by assumption) ?_ | refine lcond_t (by assumption) ?_ | refine lcond_f (by assumption) ?_ | refine build1 tab rfl ?_ | refine loadN tab rfl rfl zCs rfl ?_)
  refine eqPtrNil tab rfl ?_
  repeat (first | refine LNext.go tab ?_ | refine LText.all rfl ?_ | refine LDraw.all (by decide +kernel) ?_ | refine LRes.mk ?_ | refine load1 tab rfl zCe ?_ | refine lenSlice tab rfl ?_ | refine newBox rfl (fun _ => ?_) | refine newAlloc tab rfl (fun _ => ?_) | refine lbool (c := true) rfl ?_ | refine lbool (c := false) rfl ?_ | refine lcond_t rfl ?_ | refine lcond_f rfl ?_ | refine store1 tab rfl zTk rfl rfl rfl ?_ | refine lbool (c := true) (by assumption) ?_ | refine lbool (c := false) (by assumption) ?_ | refine lcond_t (by assumption) ?_ | refine lcond_f (by assumption) ?_ | refine build1 tab rfl ?_ | refine loadN tab rfl rfl zCs rfl ?_)
  exact Fin.all ⟨rfl, rfl⟩
def plc (h : HS) (x : Int) : Int := if 0 ≤ x ∧ x < h.S.length then (at_ h.S x.toNat : Int) - 1 else -1
theorem place_nil (x : Int) (M : List As) : Ctr Try.prog 61 #[.pointer none, .int .i64 x] M (fun v M' => v = .int .i64 (-1) ∧ M' = M) := by
  refine ctr_of (Γ := tab) (vs := [_, _]) fn61 rfl ?_
  repeat (first | refine LNext.go tab ?_ | refine LText.all rfl ?_ | refine LDraw.all (by decide +kernel) ?_ | refine LRes.mk ?_ | refine load1 tab rfl zCe ?_ | refine lenSlice tab rfl ?_ | refine newBox rfl (fun _ => ?_) | refine newAlloc tab rfl (fun _ => ?_) | refine lbool (c := true) rfl ?_ | refine lbool (c := false) rfl ?_ | refine lcond_t rfl ?_ | refine lcond_f rfl ?_ | refine store1 tab rfl zTk rfl rfl rfl ?_ | refine lbool (c := true) (by assumption) ?_ | refine lbool (c := false) (by assumption) ?_ | refine lcond_t (by assumption) ?_ | refine lcond_f (by assumption) ?_ | refine build1 tab rfl ?_ | refine loadN tab rfl rfl zCs rfl ?_)
  refine eqPtrNil tab rfl ?_
  repeat (first | refine LNext.go tab ?_ | refine LText.all rfl ?_ | refine LDraw.all (by decide +kernel) ?_ | refine LRes.mk ?_ | refine load1 tab rfl zCe ?_ | refine lenSlice tab rfl ?_ | refine newBox rfl (fun _ => ?_) | refine newAlloc tab rfl (fun _ => ?_) | refine lbool (c := true) rfl ?_ | refine lbool (c := false) rfl ?_ | refine lcond_t rfl ?_ | refine lcond_f rfl ?_ | refine store1 tab rfl zTk rfl rfl rfl ?_ | refine lbool (c := true) (by assumption) ?_ | refine lbool (c := false) (by assumption) ?_ | refine lcond_t (by assumption) ?_ | refine lcond_f (by assumption) ?_ | refine build1 tab rfl ?_ | refine loadN tab rfl rfl zCs rfl ?_)
  exact Fin.all ⟨rfl, rfl⟩
/-- All that is asked of a heap for a run without a panic. -/
structure Okh (K : List K3) (h : HS) : Prop where
  wf : WF K h
  full : ∀ x, ¬ In h x → at_ h.S x = 0
theorem Okh.kept {K : List K3} {h h' : HS} (o : Okh K h) (k : Kept K h h') : Okh K h' := ⟨k.wf, fun x hx => (k.out x (fun h => hx (k.mem x h))).trans (o.full x (fun h => hx (k.mem x h)))⟩
theorem Okh.spot {K : List K3} {h : HS} (o : Okh K h) (x : Nat) : at_ h.S x = 0 ∨ (∃ i, i < h.A.length ∧ at_ h.A i = x ∧ at_ h.S x = i + 1) := by
  by_cases hx : In h x
  · obtain ⟨i, hi, rfl⟩ := hx
    exact .inr ⟨i, hi, rfl, o.wf.sp i hi⟩
  · exact .inl (o.full x hx)
theorem Okh.le {K : List K3} {h : HS} (o : Okh K h) (x : Nat) : at_ h.S x ≤ 1048576 := by
  have := o.wf.len
  have := o.wf.small
  rcases o.spot x with h | ⟨i, hi, h1, h2⟩ <;> omega
theorem place_ct (q : Pq) (K : List K3) (h : HS) (o : Okh K h) (g : Good q K) (x : Int) :
    Ctr Try.prog 61 #[.pointer (some ⟨q.b, 0, none⟩), .int .i64 x] (HMq q K h) (fun v M' => v = .int .i64 (plc h x) ∧ M' = HMq q K h) := by
  have hks := o.wf.ks
  refine ctr_of (Γ := tab) (vs := [_, _]) fn61 rfl ?_
  repeat (first | refine LNext.go tab ?_ | refine LText.all rfl ?_ | refine LDraw.all (by decide +kernel) ?_ | refine LRes.mk ?_ | refine load1 tab rfl zCe ?_ | refine lenSlice tab rfl ?_ | refine newBox rfl (fun _ => ?_) | refine newAlloc tab rfl (fun _ => ?_) | refine lbool (c := true) rfl ?_ | refine lbool (c := false) rfl ?_ | refine lcond_t rfl ?_ | refine lcond_f rfl ?_ | refine store1 tab rfl zTk rfl rfl rfl ?_ | refine lbool (c := true) (by assumption) ?_ | refine lbool (c := false) (by assumption) ?_ | refine lcond_t (by assumption) ?_ | refine lcond_f (by assumption) ?_ | refine build1 tab rfl ?_ | refine loadN tab rfl rfl zCs rfl ?_)
  refine eqPtrNil tab rfl ?_
  by_cases h0 : x < 0
  · have e1 : decide (x < 0) = true := by simpa using h0
    have e2 : (decide (x < 0) == false) = false := by rw [e1]; rfl
    repeat (first | refine LNext.go tab ?_ | refine LText.all rfl ?_ | refine LDraw.all (by decide +kernel) ?_ | refine LRes.mk ?_ | refine load1 tab rfl zCe ?_ | refine lenSlice tab rfl ?_ | refine newBox rfl (fun _ => ?_) | refine newAlloc tab rfl (fun _ => ?_) | refine lbool (c := true) rfl ?_ | refine lbool (c := false) rfl ?_ | refine lcond_t rfl ?_ | refine lcond_f rfl ?_ | refine store1 tab rfl zTk rfl rfl rfl ?_ | refine lbool (c := true) (by assumption) ?_ | refine lbool (c := false) (by assumption) ?_ | refine lcond_t (by assumption) ?_ | refine lcond_f (by assumption) ?_ | refine build1 tab rfl ?_ | refine loadN tab rfl rfl zCs rfl ?_)
    exact Fin.all ⟨by rw [plc, if_neg (by omega)], rfl⟩
  · have e1 : decide (x < 0) = false := by simpa using h0
    have e2 : (decide (x < 0) == false) = true := by rw [e1]; rfl
    repeat (first | refine LNext.go tab ?_ | refine LText.all rfl ?_ | refine LDraw.all (by decide +kernel) ?_ | refine LRes.mk ?_ | refine load1 tab rfl zCe ?_ | refine lenSlice tab rfl ?_ | refine newBox rfl (fun _ => ?_) | refine newAlloc tab rfl (fun _ => ?_) | refine lbool (c := true) rfl ?_ | refine lbool (c := false) rfl ?_ | refine lcond_t rfl ?_ | refine lcond_f rfl ?_ | refine store1 tab rfl zTk rfl rfl rfl ?_ | refine lbool (c := true) (by assumption) ?_ | refine lbool (c := false) (by assumption) ?_ | refine lcond_t (by assumption) ?_ | refine lcond_f (by assumption) ?_ | refine build1 tab rfl ?_ | refine loadN tab rfl rfl zCs rfl ?_)
    refine LCond.mk (fun hc => ?_) (fun hc => ?_)
    · repeat (first | refine LNext.go tab ?_ | refine LText.all rfl ?_ | refine LDraw.all (by decide +kernel) ?_ | refine LRes.mk ?_ | refine load1 tab rfl zCe ?_ | refine lenSlice tab rfl ?_ | refine newBox rfl (fun _ => ?_) | refine newAlloc tab rfl (fun _ => ?_) | refine lbool (c := true) rfl ?_ | refine lbool (c := false) rfl ?_ | refine lcond_t rfl ?_ | refine lcond_f rfl ?_ | refine store1 tab rfl zTk rfl rfl rfl ?_ | refine lbool (c := true) (by assumption) ?_ | refine lbool (c := false) (by assumption) ?_ | refine lcond_t (by assumption) ?_ | refine lcond_f (by assumption) ?_ | refine build1 tab rfl ?_ | refine loadN tab rfl rfl zCs rfl ?_)
      have : (h.S.length : Int) ≤ x := by simpa using hc
      exact Fin.all ⟨by rw [plc, if_neg (by omega)], rfl⟩
    · have hlt : x < (h.S.length : Int) := by simpa using hc
      obtain ⟨i, rfl⟩ : ∃ i : Nat, x = (i : Int) := ⟨x.toNat, by omega⟩
      obtain ⟨p, rfl⟩ := g.get (by omega)
      have := o.le i
      repeat (first | refine LNext.go tab ?_ | refine LText.all rfl ?_ | refine LDraw.all (by decide +kernel) ?_ | refine LRes.mk ?_ | refine load1 tab rfl zCe ?_ | refine lenSlice tab rfl ?_ | refine newBox rfl (fun _ => ?_) | refine newAlloc tab rfl (fun _ => ?_) | refine lbool (c := true) rfl ?_ | refine lbool (c := false) rfl ?_ | refine lcond_t rfl ?_ | refine lcond_f rfl ?_ | refine store1 tab rfl zTk rfl rfl rfl ?_ | refine lbool (c := true) (by assumption) ?_ | refine lbool (c := false) (by assumption) ?_ | refine lcond_t (by assumption) ?_ | refine lcond_f (by assumption) ?_ | refine build1 tab rfl ?_ | refine loadN tab rfl rfl zCs rfl ?_)
      refine lidx i rfl (by omega) ?_
      refine load1 tab rfl (ccS p K h (i := i) (by omega) (by omega)) ?_
      refine lint_i64 (m := ((at_ h.S i : Nat) : Int) - 1) (by omega) rfl ?_
      repeat (first | refine LNext.go tab ?_ | refine LText.all rfl ?_ | refine LDraw.all (by decide +kernel) ?_ | refine LRes.mk ?_ | refine load1 tab rfl zCe ?_ | refine lenSlice tab rfl ?_ | refine newBox rfl (fun _ => ?_) | refine newAlloc tab rfl (fun _ => ?_) | refine lbool (c := true) rfl ?_ | refine lbool (c := false) rfl ?_ | refine lcond_t rfl ?_ | refine lcond_f rfl ?_ | refine store1 tab rfl zTk rfl rfl rfl ?_ | refine lbool (c := true) (by assumption) ?_ | refine lbool (c := false) (by assumption) ?_ | refine lcond_t (by assumption) ?_ | refine lcond_f (by assumption) ?_ | refine build1 tab rfl ?_ | refine loadN tab rfl rfl zCs rfl ?_)
      exact Fin.all ⟨by rw [plc, if_pos (by omega)]; rfl, rfl⟩
theorem Okh.plc {K : List K3} {h : HS} (o : Okh K h) {x : Int} (hp : ¬ plc h x < 0) : ∃ y i : Nat, x = (y : Int) ∧ y < K.length ∧ i < h.A.length ∧ at_ h.A i = y ∧ at_ h.S y = i + 1 ∧ plc h x = (i : Int) := by
  have hks := o.wf.ks
  unfold Go.Proofs.Ytjgionnigenijaa.plc at hp ⊢
  split at hp
  · rename_i hx
    obtain ⟨y, rfl⟩ : ∃ i : Nat, x = (i : Int) := ⟨x.toNat, by omega⟩
    rw [Int.toNat_natCast] at hp
    rcases o.spot y with h1 | ⟨i, hi, h1, h2⟩
    · omega
    · refine ⟨y, i, rfl, by omega, hi, h1, h2, ?_⟩
      rw [if_pos hx, Int.toNat_natCast]; omega
  · omega
def getR (K : List K3) (h : HS) (x : Int) : K3 × Int := if plc h x < 0 then ((0, 0, 0), 3) else (key K x.toNat, 0)
def kv (k : K3) : Value := .agg (encK k).toArray
end Go.Proofs.Ytjgionnigenijaa
