import Derived.Test.YtjgionnigenijaaSlJ
import Derived.Test.YtjgionnigenijaaMmTop3
namespace Go.Proofs.Ytjgionnigenijaa
open Go.Sl
set_option linter.unusedVariables false
set_option maxRecDepth 100000
set_option maxHeartbeats 4000000

theorem WF.keys {K K' : List K3} {h : HS} (w : WF K h) (e : K'.length = K.length) : WF K' h := ⟨by rw [e]; exact w.ks, by rw [e]; exact w.small, fun i hi => by rw [e]; exact w.lt i hi, w.sp⟩
theorem Okh.keys {K K' : List K3} {h : HS} (o : Okh K h) (e : K'.length = K.length) : Okh K' h := ⟨o.wf.keys e, o.full⟩
def updK (K : List K3) (h : HS) (x : Int) (k : K3) : List K3 := if plc h x < 0 then K else K.set x.toNat k
def updH (K : List K3) (h : HS) (x : Int) (k : K3) : HS := if plc h x < 0 then h else settle (K.set x.toNat k) h (plc h x).toNat
theorem updK_len (K : List K3) (h : HS) (x : Int) (k : K3) : (updK K h x k).length = K.length := by unfold updK; split <;> simp
theorem Okh.upd {K : List K3} {h : HS} (o : Okh K h) (x : Int) (k : K3) : Okh (updK K h x k) (updH K h x k) := by
  unfold updK updH
  split
  · exact o
  · rename_i hp
    obtain ⟨y, i, rfl, hy, hi, e1, e2, e3⟩ := o.plc hp
    have o' := o.keys (K' := K.set (((y : Nat) : Int)).toNat k) (by simp)
    rw [e3]
    exact o'.kept (Kept.settle o'.wf hi)
def addH (K : List K3) (h : HS) : HS := ⟨h.A ++ [K.length], h.S ++ [h.A.length + 1]⟩
def insH (K : List K3) (h : HS) (k : K3) : HS := up (K ++ [k]) (addH K h) h.A.length
theorem at_app (A : List Nat) (v j : Nat) : at_ (A ++ [v]) j = if j < A.length then at_ A j else if j = A.length then v else 0 := by
  unfold at_
  rw [List.getD_eq_getElem?_getD, List.getD_eq_getElem?_getD, List.getElem?_append]
  by_cases h1 : j < A.length
  · simp [h1]
  · by_cases h2 : j = A.length
    · subst h2; simp
    · have : [v][j - A.length]? = none := by rw [List.getElem?_eq_none]; simp; omega
      simp [h1, h2, this]
theorem at_none {A : List Nat} {j : Nat} (h : ¬ j < A.length) : at_ A j = 0 := by
  unfold at_
  rw [List.getD_eq_getElem?_getD, List.getElem?_eq_none (by omega)]; rfl
theorem Okh.add {K : List K3} {h : HS} (o : Okh K h) (k : K3) (hlt : K.length < 1048576) : Okh (K ++ [k]) (addH K h) := by
  have hks := o.wf.ks
  have hl : (addH K h).A.length = h.A.length + 1 := by simp [addH]
  have hA : ∀ j, at_ (addH K h).A j = if j < h.A.length then at_ h.A j else if j = h.A.length then K.length else 0 := fun j => at_app _ _ _
  have hS : ∀ j, at_ (addH K h).S j = if j < h.S.length then at_ h.S j else if j = h.S.length then h.A.length + 1 else 0 := fun j => at_app _ _ _
  refine ⟨⟨by simp [addH, hks], by simp; omega, ?_, ?_⟩, ?_⟩
  · intro i hi
    rw [hl] at hi
    rw [hA, List.length_append]
    split
    · have := o.wf.lt i (by omega); omega
    · split <;> simp
  · intro i hi
    rw [hl] at hi
    rw [hA]
    split
    · rename_i h1
      have h2 := o.wf.lt i h1
      rw [hS, if_pos (by omega)]
      exact o.wf.sp i h1
    · have : i = h.A.length := by omega
      rw [if_pos this, hS, if_neg (by omega), if_pos (by omega), this]
  · intro x hx
    rw [hS]
    have h1 : ¬ x = K.length := fun e => hx ⟨h.A.length, by rw [hl]; omega, by rw [hA, if_neg (by omega), if_pos rfl, e]⟩
    have h2 : ¬ In h x := fun ⟨j, hj, e⟩ => hx ⟨j, by rw [hl]; omega, by rw [hA, if_pos hj, e]⟩
    split
    · exact o.full x h2
    · rw [if_neg (by omega)]
theorem Okh.ins {K : List K3} {h : HS} (o : Okh K h) (k : K3) (hlt : K.length < 1048576) : Okh (K ++ [k]) (insH K h k) :=
  have o' := o.add k hlt
  o'.kept (Kept.up o'.wf (by simp [addH]))

theorem Insert_nil (k : K3) : Ctr Try.prog 39 #[.pointer none, kv k] [] (fun v M' => v = .tuple #[.int .i64 0, .int .i64 10] ∧ M' = []) := by
  obtain ⟨k1, k2, k3⟩ := k
  refine ctr_of (Γ := tab) (vs := [_, _]) fn39 rfl ?_
  repeat (first | refine LNext.go tab ?_ | refine LText.all rfl ?_ | refine LDraw.all (by decide +kernel) ?_ | refine LRes.mk ?_ | refine load1 tab rfl zCe ?_ | refine lenSlice tab rfl ?_ | refine newBox rfl (fun _ => ?_) | refine newAlloc tab rfl (fun _ => ?_) | refine lbool (c := true) rfl ?_ | refine lbool (c := false) rfl ?_ | refine lcond_t rfl ?_ | refine lcond_f rfl ?_ | refine store1 tab rfl zTk rfl rfl rfl ?_ | refine lbool (c := true) (by assumption) ?_ | refine lbool (c := false) (by assumption) ?_ | refine lcond_t (by assumption) ?_ | refine lcond_f (by assumption) ?_ | refine build1 tab rfl ?_ | refine loadN tab rfl rfl zCs rfl ?_)
  refine eqPtrNil tab rfl ?_
  repeat (first | refine LNext.go tab ?_ | refine LText.all rfl ?_ | refine LDraw.all (by decide +kernel) ?_ | refine LRes.mk ?_ | refine load1 tab rfl zCe ?_ | refine lenSlice tab rfl ?_ | refine newBox rfl (fun _ => ?_) | refine newAlloc tab rfl (fun _ => ?_) | refine lbool (c := true) rfl ?_ | refine lbool (c := false) rfl ?_ | refine lcond_t rfl ?_ | refine lcond_f rfl ?_ | refine store1 tab rfl zTk rfl rfl rfl ?_ | refine lbool (c := true) (by assumption) ?_ | refine lbool (c := false) (by assumption) ?_ | refine lcond_t (by assumption) ?_ | refine lcond_f (by assumption) ?_ | refine build1 tab rfl ?_ | refine loadN tab rfl rfl zCs rfl ?_)
  show Fin _ _ _; exact Fin.of [] (Split.ent zSp) ⟨rfl, rfl⟩
theorem Insert_full (q : Pq) (K : List K3) (h : HS) (k : K3) (hf : 1048576 ≤ K.length) : Ctr Try.prog 39 #[.pointer (some ⟨q.b, 0, none⟩), kv k] (HMq q K h) (fun v M' => v = .tuple #[.int .i64 0, .int .i64 6] ∧ M' = HMq q K h) := by
  obtain ⟨k1, k2, k3⟩ := k
  have hd : decide (((K.length : Nat) : Int) ≥ 1048576) = true := by simp; omega
  refine ctr_of (Γ := tab) (vs := [_, _]) fn39 rfl ?_
  repeat (first | refine LNext.go tab ?_ | refine LText.all rfl ?_ | refine LDraw.all (by decide +kernel) ?_ | refine LRes.mk ?_ | refine load1 tab rfl zCe ?_ | refine lenSlice tab rfl ?_ | refine newBox rfl (fun _ => ?_) | refine newAlloc tab rfl (fun _ => ?_) | refine lbool (c := true) rfl ?_ | refine lbool (c := false) rfl ?_ | refine lcond_t rfl ?_ | refine lcond_f rfl ?_ | refine store1 tab rfl zTk rfl rfl rfl ?_ | refine lbool (c := true) (by assumption) ?_ | refine lbool (c := false) (by assumption) ?_ | refine lcond_t (by assumption) ?_ | refine lcond_f (by assumption) ?_ | refine build1 tab rfl ?_ | refine loadN tab rfl rfl zCs rfl ?_)
  refine eqPtrNil tab rfl ?_
  repeat (first | refine LNext.go tab ?_ | refine LText.all rfl ?_ | refine LDraw.all (by decide +kernel) ?_ | refine LRes.mk ?_ | refine load1 tab rfl zCe ?_ | refine lenSlice tab rfl ?_ | refine newBox rfl (fun _ => ?_) | refine newAlloc tab rfl (fun _ => ?_) | refine lbool (c := true) rfl ?_ | refine lbool (c := false) rfl ?_ | refine lcond_t rfl ?_ | refine lcond_f rfl ?_ | refine store1 tab rfl zTk rfl rfl rfl ?_ | refine lbool (c := true) (by assumption) ?_ | refine lbool (c := false) (by assumption) ?_ | refine lcond_t (by assumption) ?_ | refine lcond_f (by assumption) ?_ | refine build1 tab rfl ?_ | refine loadN tab rfl rfl zCs rfl ?_)
  show Fin _ _ _; exact Fin.of (HMq q K h) (Split.ent zSp) ⟨rfl, rfl⟩
theorem Insert_ct (q : Pq) (K : List K3) (h : HS) (o : Okh K h) (k : K3) (hlt : K.length < 1048576) : Ctr Try.prog 39 #[.pointer (some ⟨q.b, 0, none⟩), kv k] (HMq q K h) (fun v M' => v = .tuple #[.int .i64 (K.length : Nat), .int .i64 0] ∧ ∃ p : Pl, p.b = q.b ∧ M' = HMq p.q (K ++ [k]) (insH K h k)) := by
  obtain ⟨k1, k2, k3⟩ := k
  have hks := o.wf.ks
  have hn := o.wf.len
  have hd : decide (((K.length : Nat) : Int) ≥ 1048576) = false := by simp; omega
  refine ctr_of (Γ := tab) (vs := [_, _]) fn39 rfl ?_
  repeat (first | refine LNext.go tab ?_ | refine LText.all rfl ?_ | refine LDraw.all (by decide +kernel) ?_ | refine LRes.mk ?_ | refine load1 tab rfl zCe ?_ | refine lenSlice tab rfl ?_ | refine newBox rfl (fun _ => ?_) | refine newAlloc tab rfl (fun _ => ?_) | refine lbool (c := true) rfl ?_ | refine lbool (c := false) rfl ?_ | refine lcond_t rfl ?_ | refine lcond_f rfl ?_ | refine store1 tab rfl zTk rfl rfl rfl ?_ | refine lbool (c := true) (by assumption) ?_ | refine lbool (c := false) (by assumption) ?_ | refine lcond_t (by assumption) ?_ | refine lcond_f (by assumption) ?_ | refine build1 tab rfl ?_ | refine loadN tab rfl rfl zCs rfl ?_)
  refine eqPtrNil tab rfl ?_
  repeat (first | refine LNext.go tab ?_ | refine LText.all rfl ?_ | refine LDraw.all (by decide +kernel) ?_ | refine LRes.mk ?_ | refine load1 tab rfl zCe ?_ | refine lenSlice tab rfl ?_ | refine newBox rfl (fun _ => ?_) | refine newAlloc tab rfl (fun _ => ?_) | refine lbool (c := true) rfl ?_ | refine lbool (c := false) rfl ?_ | refine lcond_t rfl ?_ | refine lcond_f rfl ?_ | refine store1 tab rfl zTk rfl rfl rfl ?_ | refine lbool (c := true) (by assumption) ?_ | refine lbool (c := false) (by assumption) ?_ | refine lcond_t (by assumption) ?_ | refine lcond_f (by assumption) ?_ | refine build1 tab rfl ?_ | refine loadN tab rfl rfl zCs rfl ?_)
  refine newSlice tab (cs := #[.int .i64 k1, .int .i64 k2, .int .i64 k3]) rfl rfl rfl rfl rfl (fun b => ?_)
  refine appendERow tab encK_len (ys := [(k1, k2, k3)]) rfl rfl rfl rfl zTk rfl zCs (by intro x hx; simp at hx; subst hx; rfl) (by simp only [maxLen]; omega) (by omega) (by omega) (fun g c => ?_)
  repeat (first | refine LNext.go tab ?_ | refine LText.all rfl ?_ | refine LDraw.all (by decide +kernel) ?_ | refine LRes.mk ?_ | refine load1 tab rfl zCe ?_ | refine lenSlice tab rfl ?_ | refine newBox rfl (fun _ => ?_) | refine newAlloc tab rfl (fun _ => ?_) | refine lbool (c := true) rfl ?_ | refine lbool (c := false) rfl ?_ | refine lcond_t rfl ?_ | refine lcond_f rfl ?_ | refine store1 tab rfl zTk rfl rfl rfl ?_ | refine lbool (c := true) (by assumption) ?_ | refine lbool (c := false) (by assumption) ?_ | refine lcond_t (by assumption) ?_ | refine lcond_f (by assumption) ?_ | refine build1 tab rfl ?_ | refine loadN tab rfl rfl zCs rfl ?_)
  refine newSlice tab (cs := #[.int .i64 (K.length : Nat)]) rfl rfl rfl rfl rfl (fun b2 => ?_)
  refine appendERow tab encN_len (ys := [K.length]) rfl rfl rfl rfl zTk rfl zCs (by intro x hx; simp at hx; subst hx; rfl) (by simp only [maxLen]; omega) (by omega) (by omega) (fun g2 c2 => ?_)
  repeat (first | refine LNext.go tab ?_ | refine LText.all rfl ?_ | refine LDraw.all (by decide +kernel) ?_ | refine LRes.mk ?_ | refine load1 tab rfl zCe ?_ | refine lenSlice tab rfl ?_ | refine newBox rfl (fun _ => ?_) | refine newAlloc tab rfl (fun _ => ?_) | refine lbool (c := true) rfl ?_ | refine lbool (c := false) rfl ?_ | refine lcond_t rfl ?_ | refine lcond_f rfl ?_ | refine store1 tab rfl zTk rfl rfl rfl ?_ | refine lbool (c := true) (by assumption) ?_ | refine lbool (c := false) (by assumption) ?_ | refine lcond_t (by assumption) ?_ | refine lcond_f (by assumption) ?_ | refine build1 tab rfl ?_ | refine loadN tab rfl rfl zCs rfl ?_)
  refine newSlice tab (cs := #[.int .i64 (h.A.length + 1 : Nat)]) rfl rfl rfl rfl rfl (fun b3 => ?_)
  refine appendERow tab encN_len (ys := [h.A.length + 1]) rfl rfl rfl rfl zTk rfl zCs (by intro x hx; simp at hx; subst hx; rfl) (by simp only [maxLen]; omega) (by omega) (by omega) (fun g3 c3 => ?_)
  refine store1 tab rfl zTk rfl rfl rfl ?_
  have oa := o.add (k1, k2, k3) hlt
  refine LNext.ent (N := HM ⟨q.b, g2, c2, g, c, g3, c3⟩ (K ++ [(k1, k2, k3)]) (addH K h)) ?_ ?_
  · unfold HM addH
    simp only [List.length_append, List.length_singleton]
    exact Split.ent zSp
  have hl : (addH K h).A.length = h.A.length + 1 := by simp [addH]
  have hir : insH K h (k1, k2, k3) = up (K ++ [(k1, k2, k3)]) (addH K h) h.A.length := rfl
  generalize addH K h = ha at *
  repeat (first | refine LNext.go tab ?_ | refine LText.all rfl ?_ | refine LDraw.all (by decide +kernel) ?_ | refine LRes.mk ?_ | refine load1 tab rfl zCe ?_ | refine lenSlice tab rfl ?_ | refine newBox rfl (fun _ => ?_) | refine newAlloc tab rfl (fun _ => ?_) | refine lbool (c := true) rfl ?_ | refine lbool (c := false) rfl ?_ | refine lcond_t rfl ?_ | refine lcond_f rfl ?_ | refine store1 tab rfl zTk rfl rfl rfl ?_ | refine lbool (c := true) (by assumption) ?_ | refine lbool (c := false) (by assumption) ?_ | refine lcond_t (by assumption) ?_ | refine lcond_f (by assumption) ?_ | refine build1 tab rfl ?_ | refine loadN tab rfl rfl zCs rfl ?_)
  refine lnat (h.A.length) (by first | rfl | exact tdiv_nat _ _ | omega) (by omega) ?_
  refine call1 (up_ct ⟨q.b, g2, c2, g, c, g3, c3⟩ (K ++ [(k1, k2, k3)]) ha oa.wf h.A.length (by omega)) zSp ?_
  rintro v M' ⟨rfl, rfl⟩
  repeat (first | refine LNext.go tab ?_ | refine LText.all rfl ?_ | refine LDraw.all (by decide +kernel) ?_ | refine LRes.mk ?_ | refine load1 tab rfl zCe ?_ | refine lenSlice tab rfl ?_ | refine newBox rfl (fun _ => ?_) | refine newAlloc tab rfl (fun _ => ?_) | refine lbool (c := true) rfl ?_ | refine lbool (c := false) rfl ?_ | refine lcond_t rfl ?_ | refine lcond_f rfl ?_ | refine store1 tab rfl zTk rfl rfl rfl ?_ | refine lbool (c := true) (by assumption) ?_ | refine lbool (c := false) (by assumption) ?_ | refine lcond_t (by assumption) ?_ | refine lcond_f (by assumption) ?_ | refine build1 tab rfl ?_ | refine loadN tab rfl rfl zCs rfl ?_)
  refine Fin.of (HMq (Pl.q ⟨q.b, g2, c2, g, c, g3, c3⟩) (K ++ [(k1, k2, k3)]) (insH K h (k1, k2, k3))) ?_ ⟨rfl, _, rfl, rfl⟩
  rw [hir]
  exact Split.ent zSp

def q0 (b : Nat) : Pq := ⟨b, none, 0, none, 0, none, 0⟩
def h0 : HS := ⟨[], []⟩
theorem Okh.h0 : Okh [] h0 := ⟨⟨rfl, by simp, (by intro i hi; simp [Go.Proofs.Ytjgionnigenijaa.h0] at hi), (by intro i hi; simp [Go.Proofs.Ytjgionnigenijaa.h0] at hi)⟩, (by intro x hx; simp [Go.Proofs.Ytjgionnigenijaa.h0, at_])⟩
theorem ent_enil {α : Type} {E : TypeId} {sz : Nat} {enc : α → List Value} {M : List As} : Ent M (ERow E sz enc none 0 0 [] :: M) := Ent.trans ent_nil (Ent.head (fun h r => ⟨rfl, r⟩))
theorem HM_new (b : Nat) {M : List As} : Ent (pt b (.cells #[.slice none 0 0, .slice none 0 0, .slice none 0 0] 86) :: M) (HMq (q0 b) [] h0 ++ M) := by
  have e1 : Ent (pt b (.cells #[.slice none 0 0, .slice none 0 0, .slice none 0 0] 86) :: M) (ERow 3 1 encN none 0 0 [] :: ERow 60 3 encK none 0 0 [] :: ERow 3 1 encN none 0 0 [] :: pt b (.cells #[.slice none 0 0, .slice none 0 0, .slice none 0 0] 86) :: M) := Ent.trans ent_enil (Ent.trans ent_enil ent_enil)
  refine Ent.trans e1 ?_
  exact Ent.app (L := [ERow 3 1 encN none 0 0 [], ERow 60 3 encK none 0 0 [], ERow 3 1 encN none 0 0 [], pt b (.cells #[.slice none 0 0, .slice none 0 0, .slice none 0 0] 86)]) (Split.ent (L := HMq (q0 b) [] h0) zSp) (Ent.refl M)
theorem New_ct : Ctr Try.prog 38 #[] [] (fun v M' => ∃ b, v = .pointer (some ⟨b, 0, none⟩) ∧ M' = HMq (q0 b) [] h0) := by
  refine ctr_of (Γ := tab) (vs := []) fn38 rfl ?_
  repeat (first | refine LNext.go tab ?_ | refine LText.all rfl ?_ | refine LDraw.all (by decide +kernel) ?_ | refine LRes.mk ?_ | refine load1 tab rfl zCe ?_ | refine lenSlice tab rfl ?_ | refine newBox rfl (fun _ => ?_) | refine newAlloc tab rfl (fun _ => ?_) | refine lbool (c := true) rfl ?_ | refine lbool (c := false) rfl ?_ | refine lcond_t rfl ?_ | refine lcond_f rfl ?_ | refine store1 tab rfl zTk rfl rfl rfl ?_ | refine lbool (c := true) (by assumption) ?_ | refine lbool (c := false) (by assumption) ?_ | refine lcond_t (by assumption) ?_ | refine lcond_f (by assumption) ?_ | refine build1 tab rfl ?_ | refine loadN tab rfl rfl zCs rfl ?_)
  rename_i b
  show Fin _ _ _; exact Fin.of (HMq (q0 b) [] h0) (Ent.trans (HM_new b) Ent.dropr) ⟨b, rfl, rfl⟩
end Go.Proofs.Ytjgionnigenijaa
