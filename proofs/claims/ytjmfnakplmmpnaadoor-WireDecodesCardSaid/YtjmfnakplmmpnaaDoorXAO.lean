import Derived.Test.YtjmfnakplmmpnaaDoorXAN
import Derived.Lib.Overlaps
namespace Go.Sl
set_option linter.unusedVariables false
set_option linter.unusedSimpArgs false
set_option linter.unusedSectionVars false
section
variable {P : Program} {α : Type} {enc : α → List Value} {E : TypeId} {sz : Nat}
theorem rd_cells (he : ∀ x, (enc x).length = sz) (hsz : 0 < sz) {N : List As} {w : World} (s : Sat w N) {sad : Addr} {ys : List α} (hsrc : RdH N (some sad) sz enc ys) : ∀ j u, (ys.flatMap enc)[j]? = some u → w.cell? (sad.add j) = some u := by
  intro j u hj
  rcases (hsrc.pure s).h with h | ⟨b, o, e, hl⟩
  · subst h; simp at hj
  · cases e
    have hlt := (List.getElem?_eq_some_iff.1 hj).1
    rw [flat_len he] at hlt
    have hd : j / sz < ys.length := by rw [Nat.div_lt_iff_lt_mul hsz]; exact hlt
    have h1 := flat_get he (List.getElem?_eq_getElem hd) (Nat.mod_lt j hsz)
    rw [show j / sz * sz + j % sz = j from Nat.div_add_mod' j sz, hj] at h1
    have h3 := ((hl.h _ _ (List.getElem?_eq_getElem hd)).h _ _ h1.symm).get s
    have hadd : (⟨b, o, none⟩ : Addr).add j = ⟨b, o + j, none⟩ := by unfold Addr.add; split <;> simp_all
    rw [hadd]
    rw [Nat.add_assoc, Nat.div_add_mod'] at h3
    exact h3
theorem writeEnd_sat (he : ∀ x, (enc x).length = sz) {w : World} {g n cap : Nat} {xs ys : List α} {L F : List As} (h1 : ∀ x ∈ ys, (enc x).all Value.oneC = true) (hle : n + ys.length ≤ cap) (s : Sat w ((ERow E sz enc (some ⟨g, 0, none⟩) n cap xs :: L) ++ F)) :
    ∃ w', (storeCells ⟨g, n * sz, none⟩ (ys.flatMap enc) 0).run P w = .ok () w' ∧ Sat w' ((ERow E sz enc (some ⟨g, 0, none⟩) (n + ys.length) cap (xs ++ ys) :: L) ++ F) ∧ Nx w w' := by
  obtain ⟨k1, k2, d, l1, l2, ⟨hxl, r⟩, sL⟩ := s
  rcases r.2 with ⟨h0, _⟩ | ⟨g', cur, ha, hg, hnc, hcm, hcs, htake⟩
  · cases h0
  cases ha
  have hone : ∀ u ∈ ys.flatMap enc, u.oneCell' = true := fun u hu => by
    obtain ⟨x, hx, hux⟩ := List.mem_flatMap.1 hu
    exact oneC_ok (List.all_eq_true.1 (h1 x hx) u hux)
  have hyl := flat_len he ys
  have hb2 : (n + ys.length) * sz ≤ cur.toList.length := by simp [hcs]; exact Nat.mul_le_mul_right _ hle
  have hb1 : n * sz + (ys.flatMap enc).length = (n + ys.length) * sz := by rw [hyl, ← Nat.add_mul]
  have s2 : Sat w ((Sl.pt g (.cells cur E (0, 0)) :: L) ++ F) := ⟨k1, k2, d, l1, l2, hg, sL⟩
  obtain ⟨w', hr, hs', hn⟩ := storeCells_sat (P := P) (n * sz) hone (by simp at hb2; omega) s2
  refine ⟨w', hr, hs'.ent (Ent.app (Ent.head ?_) (Ent.refl F)), hn⟩
  intro h hp
  have hlen : (xs ++ ys).length = n + ys.length := by simp only [List.length_append]; omega
  refine ⟨hlen, by rw [flat_len he, hlen], .inr ⟨g, _, rfl, hp, hle, hcm, ?_, ?_⟩⟩
  · simp only [wr, List.size_toArray, List.length_append, List.length_take, List.length_drop, Array.length_toList] at hb2 ⊢; omega
  · show ((cur.toList.take (n * sz) ++ ys.flatMap enc ++ cur.toList.drop (n * sz + (ys.flatMap enc).length))).take ((n + ys.length) * sz) = _
    rw [htake, List.flatMap_append]
    have hl : (xs.flatMap enc ++ ys.flatMap enc).length = (n + ys.length) * sz := by rw [List.length_append, flat_len he, hyl, hxl, ← Nat.add_mul]
    rw [← hl]
    exact List.take_left
theorem copyEnd (Γ : Tab P) {T T' ty : TypeId} {z : Value} {bytes g o n cap dl dc m c : Nat} {sa : Option Addr} {xs : List α} (ys : List α) {M N : List As} {k : Value → List As → Prop} (tk : Take M (ERow E sz enc (some ⟨g, 0, none⟩) n cap xs) N) (he : ∀ x, (enc x).length = sz) (hu : Γ.und T = some (.slice E)) (hi : Γ.inf E = some (z, sz, bytes)) (hsz : Nat.blt 0 sz = true)
    (ho : o = n * sz) (hm : ys.length = m) (hmd : m ≤ dl) (hle : n + m ≤ cap) (hsa : sa = none → m = 0) (hsrc : RdH N sa sz enc ys) (h1 : ∀ x ∈ ys, (enc x).all Value.oneC = true)
    (hk : k (.int .i64 m) (ERow E sz enc (some ⟨g, 0, none⟩) (n + ys.length) cap (xs ++ ys) :: N)) :
    LRun P (Builtin.copy_ #[T, T'] ty #[.slice (some ⟨g, o, none⟩) dl dc, .slice sa m c]) M k :=
  ⟨fun v M' => v = .int .i64 m ∧ M' = ERow E sz enc (some ⟨g, 0, none⟩) (n + ys.length) cap (xs ++ ys) :: N, fun F w s => by
    have s1 := s.ent (Ent.app tk.h (Ent.refl F))
    have sN : Sat w N := (s1.ent (Ent.drop _)).ent Ent.dropr
    obtain ⟨w', hr, hs', hn⟩ := writeEnd_sat (P := P) he h1 (by omega) s1
    refine ⟨_, w', _, ?_, ⟨rfl, rfl⟩, hs', hn⟩
    have hu' := Γ.und_ok _ _ hu
    have hmin : Nat.min m dl = m := Nat.min_eq_left hmd
    subst ho
    cases sa with
    | none =>
      have h0 := hsa rfl
      subst h0
      have hys : ys = [] := List.eq_nil_of_length_eq_zero hm
      subst hys
      simp [storeCells] at hr
      subst hr
      simp [Builtin.copy_, run_underlying hu', Builtin.lenOf, size_of Γ hi, Builtin.firstCells, storeCells, goInt]
    | some sad =>
      have hf := run_firstCells_some (P := P) w sz m sad m c (ys.flatMap enc) (by rw [flat_len he, hm]) (rd_cells he (by simpa [Nat.blt_eq] using hsz) sN hsrc)
      simp [Builtin.copy_, run_underlying hu', Builtin.lenOf, size_of Γ hi, hmin, hf, hr, goInt], fun v M' ⟨e1, e2⟩ => by subst e1; subst e2; exact hk⟩
end
theorem zu64 {n : Int} {k : Int → Prop} (hk : k n) (h : 0 ≤ n ∧ n ≤ 18446744073709551615 := by omega) : LInt .u64 n k := lint_u64_id h hk
theorem RdH.take {α : Type} {enc : α → List Value} {M : List As} {a : Option Addr} {sz : Nat} {xs : List α} (r : RdH M a sz enc xs) (k : Nat) : RdH M a sz enc (xs.take k) := ⟨fun h s => by
  rcases r.h h s with e | ⟨b, o, e, l⟩
  · left; rw [e]; simp
  · right
    refine ⟨b, o, e, fun i x hx => ?_⟩
    rw [List.getElem?_take] at hx
    split at hx
    · exact l i x hx
    · cases hx⟩
theorem RdH.drop {α : Type} {enc : α → List Value} {M : List As} {b o o' sz : Nat} {xs : List α} (k : Nat) (r : RdH M (some ⟨b, o, none⟩) sz enc xs) (ho : o' = o + k * sz) : RdH M (some ⟨b, o', none⟩) sz enc (xs.drop k) := ⟨fun h s => by
  rcases r.h h s with e | ⟨b', o2, e, l⟩
  · left; rw [e]; simp
  · right
    cases e
    refine ⟨b, o', rfl, fun i x hx j v hj => ?_⟩
    rw [List.getElem?_drop] at hx
    obtain ⟨cs, T, fr, q1, q2⟩ := l _ x hx j v hj
    refine ⟨cs, T, fr, q1, ?_⟩
    rw [ho, show o + k * sz + i * sz + j = o + (k + i) * sz + j from by rw [Nat.add_mul]; omega]
    exact q2⟩
section
variable {P : Program} {α : Type} {enc : α → List Value} {E : TypeId} {sz : Nat}
end
end Go.Sl
