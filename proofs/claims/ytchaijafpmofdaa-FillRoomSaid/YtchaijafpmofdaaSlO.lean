import Derived.Test.YtchaijafpmofdaaSlN
import Derived.Lib.Overlaps
/-! copy, clear, append of zeros, and a call of no Go text. -/
namespace Go.Sl
set_option linter.unusedVariables false
set_option linter.unusedSimpArgs false
set_option linter.unusedSectionVars false
section
variable {P : Program} {α : Type} {enc : α → List Value} {E : TypeId} {sz : Nat}
theorem flat_drop (he : ∀ x, (enc x).length = sz) : ∀ (xs : List α) (m : Nat), (xs.flatMap enc).drop (m * sz) = (xs.drop m).flatMap enc := by
  intro xs
  induction xs with
  | nil => intro m; simp
  | cons x xs ih =>
    intro m
    cases m with
    | zero => simp
    | succ m =>
      rw [List.flatMap_cons, List.drop_succ_cons, ← ih m, List.drop_append, he]
      have e1 : (m + 1) * sz - sz = m * sz := by rw [Nat.succ_mul]; omega
      have e2 : (enc x).drop ((m + 1) * sz) = [] := by rw [List.drop_of_length_le]; rw [he, Nat.succ_mul]; omega
      rw [e1, e2, List.nil_append]
theorem flat_splice (he : ∀ x, (enc x).length = sz) (xs ys : List α) (i : Nat) : splice (xs.flatMap enc) (i * sz) (ys.flatMap enc) = (xs.take i ++ ys ++ xs.drop (i + ys.length)).flatMap enc := by
  unfold splice
  rw [flat_len he, ← Nat.add_mul, flat_take he, flat_drop he, List.flatMap_append, List.flatMap_append]
theorem rd_cells (he : ∀ x, (enc x).length = sz) (hsz : 0 < sz) {N : List As} {w : World} (s : Sat w N) {sad : Addr} {ys : List α} (hsrc : RdH N (some sad) sz enc ys) : ∀ j u, (ys.flatMap enc)[j]? = some u → w.cell? (sad.add j) = some u := by
  intro j u hj
  rcases (hsrc.pure s).h with h | ⟨b, o, e, hl⟩
  · subst h; simp at hj
  · cases e
    have hlt := (List.getElem?_eq_some_iff.1 hj).1
    rw [flat_len he] at hlt
    have hd : j / sz < ys.length := by rw [Nat.div_lt_iff_lt_mul hsz]; exact hlt
    have h1 := flat_get he (List.getElem?_eq_getElem hd) (Nat.mod_lt j hsz)
    rw [show j / sz * sz + j % sz = j from Nat.div_add_mod' j sz, hj] at h1
    have h3 := ((hl.h _ _ (List.getElem?_eq_getElem hd)).h _ _ h1.symm).get s
    have hadd : (⟨b, o, none⟩ : Addr).add j = ⟨b, o + j, none⟩ := by unfold Addr.add; split <;> simp_all
    rw [hadd]
    rw [Nat.add_assoc, Nat.div_add_mod'] at h3
    exact h3
/-- Elements are laid over a part of a row. -/
theorem write_sat (he : ∀ x, (enc x).length = sz) {w : World} {g n cap i : Nat} {xs ys : List α} {L F : List As} (h1 : ∀ x ∈ ys, (enc x).all Value.oneC = true) (hle : i + ys.length ≤ n) (s : Sat w ((ERow E sz enc (some ⟨g, 0, none⟩) n cap xs :: L) ++ F)) :
    ∃ w', (storeCells ⟨g, i * sz, none⟩ (ys.flatMap enc) 0).run P w = .ok () w' ∧ Sat w' ((ERow E sz enc (some ⟨g, 0, none⟩) n cap (xs.take i ++ ys ++ xs.drop (i + ys.length)) :: L) ++ F) ∧ Nx w w' := by
  obtain ⟨k1, k2, d, l1, l2, ⟨hxl, r⟩, sL⟩ := s
  rcases r.2 with ⟨h0, _⟩ | ⟨g', cur, ha, hg, hnc, hcm, hcs, htake⟩
  · cases h0
  cases ha
  have hone : ∀ u ∈ ys.flatMap enc, u.oneCell' = true := fun u hu => by
    obtain ⟨x, hx, hux⟩ := List.mem_flatMap.1 hu
    exact oneC_ok (List.all_eq_true.1 (h1 x hx) u hux)
  have hyl := flat_len he ys
  have hb1 : i * sz + (ys.flatMap enc).length ≤ n * sz := by rw [hyl, ← Nat.add_mul]; exact Nat.mul_le_mul_right _ hle
  have hb2 : n * sz ≤ cur.toList.length := by simp [hcs]; exact Nat.mul_le_mul_right _ hnc
  have s2 : Sat w ((Sl.pt g (.cells cur E (0, 0)) :: L) ++ F) := ⟨k1, k2, d, l1, l2, hg, sL⟩
  obtain ⟨w', hr, hs', hn⟩ := storeCells_sat (P := P) (i * sz) hone (by simp at hb2; omega) s2
  refine ⟨w', hr, hs'.ent (Ent.app (Ent.head ?_) (Ent.refl F)), hn⟩
  intro h hp
  have hlen : (xs.take i ++ ys ++ xs.drop (i + ys.length)).length = n := by simp only [List.length_append, List.length_take, List.length_drop]; omega
  refine ⟨hlen, by rw [flat_len he, hlen], .inr ⟨g, _, rfl, hp, hnc, hcm, ?_, ?_⟩⟩
  · simp only [wr, List.size_toArray, List.length_append, List.length_take, List.length_drop, Array.length_toList] at hb2 ⊢; omega
  · rw [← flat_splice he, ← htake]
    exact take_wr hb1 hb2
/-- .. behind its last. -/
theorem writeEnd_sat (he : ∀ x, (enc x).length = sz) {w : World} {g n cap : Nat} {xs ys : List α} {L F : List As} (h1 : ∀ x ∈ ys, (enc x).all Value.oneC = true) (hle : n + ys.length ≤ cap) (s : Sat w ((ERow E sz enc (some ⟨g, 0, none⟩) n cap xs :: L) ++ F)) :
    ∃ w', (storeCells ⟨g, n * sz, none⟩ (ys.flatMap enc) 0).run P w = .ok () w' ∧ Sat w' ((ERow E sz enc (some ⟨g, 0, none⟩) (n + ys.length) cap (xs ++ ys) :: L) ++ F) ∧ Nx w w' := by
  obtain ⟨k1, k2, d, l1, l2, ⟨hxl, r⟩, sL⟩ := s
  rcases r.2 with ⟨h0, _⟩ | ⟨g', cur, ha, hg, hnc, hcm, hcs, htake⟩
  · cases h0
  cases ha
  have hone : ∀ u ∈ ys.flatMap enc, u.oneCell' = true := fun u hu => by
    obtain ⟨x, hx, hux⟩ := List.mem_flatMap.1 hu
    exact oneC_ok (List.all_eq_true.1 (h1 x hx) u hux)
  have hyl := flat_len he ys
  have hb2 : (n + ys.length) * sz ≤ cur.toList.length := by simp [hcs]; exact Nat.mul_le_mul_right _ hle
  have hb1 : n * sz + (ys.flatMap enc).length = (n + ys.length) * sz := by rw [hyl, ← Nat.add_mul]
  have s2 : Sat w ((Sl.pt g (.cells cur E (0, 0)) :: L) ++ F) := ⟨k1, k2, d, l1, l2, hg, sL⟩
  obtain ⟨w', hr, hs', hn⟩ := storeCells_sat (P := P) (n * sz) hone (by simp at hb2; omega) s2
  refine ⟨w', hr, hs'.ent (Ent.app (Ent.head ?_) (Ent.refl F)), hn⟩
  intro h hp
  have hlen : (xs ++ ys).length = n + ys.length := by simp only [List.length_append]; omega
  refine ⟨hlen, by rw [flat_len he, hlen], .inr ⟨g, _, rfl, hp, hle, hcm, ?_, ?_⟩⟩
  · simp only [wr, List.size_toArray, List.length_append, List.length_take, List.length_drop, Array.length_toList] at hb2 ⊢; omega
  · show ((cur.toList.take (n * sz) ++ ys.flatMap enc ++ cur.toList.drop (n * sz + (ys.flatMap enc).length))).take ((n + ys.length) * sz) = _
    rw [htake, List.flatMap_append]
    have hl : (xs.flatMap enc ++ ys.flatMap enc).length = (n + ys.length) * sz := by rw [List.length_append, flat_len he, hyl, hxl, ← Nat.add_mul]
    rw [← hl]
    exact List.take_left
/-- copy(s[i:], ys), within what s holds. -/
theorem copyIn (Γ : Tab P) {T T' ty : TypeId} {z : Value} {bytes g o i n cap dl dc m c : Nat} {sa : Option Addr} {xs : List α} (ys : List α) {M N : List As} {k : Value → List As → Prop} (tk : Take M (ERow E sz enc (some ⟨g, 0, none⟩) n cap xs) N) (he : ∀ x, (enc x).length = sz) (hu : Γ.und T = some (.slice E)) (hi : Γ.inf E = some (z, sz, bytes)) (hsz : Nat.blt 0 sz = true)
    (ho : o = i * sz) (hm : ys.length = m) (hmd : m ≤ dl) (hle : i + m ≤ n) (hsa : sa = none → m = 0) (hsrc : RdH N sa sz enc ys) (h1 : ∀ x ∈ ys, (enc x).all Value.oneC = true)
    (hk : k (.int .i64 m) (ERow E sz enc (some ⟨g, 0, none⟩) n cap (xs.take i ++ ys ++ xs.drop (i + ys.length)) :: N)) :
    LRun P (Builtin.copy_ #[T, T'] ty #[.slice (some ⟨g, o, none⟩) dl dc, .slice sa m c]) M k :=
  ⟨fun v M' => v = .int .i64 m ∧ M' = ERow E sz enc (some ⟨g, 0, none⟩) n cap (xs.take i ++ ys ++ xs.drop (i + ys.length)) :: N, fun F w s => by
    have s1 := s.ent (Ent.app tk.h (Ent.refl F))
    have sN : Sat w N := (s1.ent (Ent.drop _)).ent Ent.dropr
    obtain ⟨w', hr, hs', hn⟩ := write_sat (P := P) he (i := i) h1 (by omega) s1
    refine ⟨_, w', _, ?_, ⟨rfl, rfl⟩, hs', hn⟩
    have hu' := Γ.und_ok _ _ hu
    have hmin : Nat.min m dl = m := Nat.min_eq_left hmd
    subst ho
    cases sa with
    | none =>
      have h0 := hsa rfl
      subst h0
      have hys : ys = [] := List.eq_nil_of_length_eq_zero hm
      subst hys
      simp [storeCells] at hr
      subst hr
      simp [Builtin.copy_, run_underlying hu', Builtin.lenOf, size_of Γ hi, Builtin.firstCells, storeCells, goInt]
    | some sad =>
      have hf := run_firstCells_some (P := P) w sz m sad m c (ys.flatMap enc) (by rw [flat_len he, hm]) (rd_cells he (by simpa [Nat.blt_eq] using hsz) sN hsrc)
      simp [Builtin.copy_, run_underlying hu', Builtin.lenOf, size_of Γ hi, hmin, hf, hr, goInt], fun v M' ⟨e1, e2⟩ => by subst e1; subst e2; exact hk⟩
/-- copy(s[n:n+m], ys), where there is room. -/
theorem copyEnd (Γ : Tab P) {T T' ty : TypeId} {z : Value} {bytes g o n cap dl dc m c : Nat} {sa : Option Addr} {xs : List α} (ys : List α) {M N : List As} {k : Value → List As → Prop} (tk : Take M (ERow E sz enc (some ⟨g, 0, none⟩) n cap xs) N) (he : ∀ x, (enc x).length = sz) (hu : Γ.und T = some (.slice E)) (hi : Γ.inf E = some (z, sz, bytes)) (hsz : Nat.blt 0 sz = true)
    (ho : o = n * sz) (hm : ys.length = m) (hmd : m ≤ dl) (hle : n + m ≤ cap) (hsa : sa = none → m = 0) (hsrc : RdH N sa sz enc ys) (h1 : ∀ x ∈ ys, (enc x).all Value.oneC = true)
    (hk : k (.int .i64 m) (ERow E sz enc (some ⟨g, 0, none⟩) (n + ys.length) cap (xs ++ ys) :: N)) :
    LRun P (Builtin.copy_ #[T, T'] ty #[.slice (some ⟨g, o, none⟩) dl dc, .slice sa m c]) M k :=
  ⟨fun v M' => v = .int .i64 m ∧ M' = ERow E sz enc (some ⟨g, 0, none⟩) (n + ys.length) cap (xs ++ ys) :: N, fun F w s => by
    have s1 := s.ent (Ent.app tk.h (Ent.refl F))
    have sN : Sat w N := (s1.ent (Ent.drop _)).ent Ent.dropr
    obtain ⟨w', hr, hs', hn⟩ := writeEnd_sat (P := P) he h1 (by omega) s1
    refine ⟨_, w', _, ?_, ⟨rfl, rfl⟩, hs', hn⟩
    have hu' := Γ.und_ok _ _ hu
    have hmin : Nat.min m dl = m := Nat.min_eq_left hmd
    subst ho
    cases sa with
    | none =>
      have h0 := hsa rfl
      subst h0
      have hys : ys = [] := List.eq_nil_of_length_eq_zero hm
      subst hys
      simp [storeCells] at hr
      subst hr
      simp [Builtin.copy_, run_underlying hu', Builtin.lenOf, size_of Γ hi, Builtin.firstCells, storeCells, goInt]
    | some sad =>
      have hf := run_firstCells_some (P := P) w sz m sad m c (ys.flatMap enc) (by rw [flat_len he, hm]) (rd_cells he (by simpa [Nat.blt_eq] using hsz) sN hsrc)
      simp [Builtin.copy_, run_underlying hu', Builtin.lenOf, size_of Γ hi, hmin, hf, hr, goInt], fun v M' ⟨e1, e2⟩ => by subst e1; subst e2; exact hk⟩
theorem zeroCells_flat {z : Array Value} {x0 : α} (hz : z.toList = enc x0) (hsz : z.size = sz) (hs : 0 < sz) (n : Nat) : (Builtin.zeroCells z n).toList = (List.replicate n x0).flatMap enc := by
  have h1 : Builtin.zeroCells z n = sliceCells z (n * sz) := by
    unfold Builtin.zeroCells
    rw [sliceCells_eq, hsz]
  rw [h1, sliceCells_flat hsz hs]
  clear h1
  induction n with
  | zero => rfl
  | succ m ih => rw [List.replicate_succ, List.replicate_succ, List.flatMap_cons, List.flatMap_cons, ih, hz]
/-- clear(s[i:]) -/
theorem clearW (Γ : Tab P) {T ty : TypeId} {z : Value} {bytes g o i n cap m c : Nat} {xs : List α} (x0 : α) {M N : List As} {k : Value → List As → Prop} (tk : Take M (ERow E sz enc (some ⟨g, 0, none⟩) n cap xs) N) (he : ∀ x, (enc x).length = sz) (hu : Γ.und T = some (.slice E)) (hi : Γ.inf E = some (z, sz, bytes)) (hsz : Nat.blt 0 sz = true)
    (ho : m = 0 ∨ o = i * sz) (hle : i + m ≤ n) (hz : z.cells.toList = enc x0) (h1 : (enc x0).all Value.oneC = true)
    (hk : k (.tuple #[]) (ERow E sz enc (some ⟨g, 0, none⟩) n cap (xs.take i ++ List.replicate m x0 ++ xs.drop (i + m)) :: N)) :
    LRun P (Builtin.clear_ #[T] ty #[.slice (some ⟨g, o, none⟩) m c]) M k :=
  ⟨fun v M' => v = .tuple #[] ∧ M' = ERow E sz enc (some ⟨g, 0, none⟩) n cap (xs.take i ++ List.replicate m x0 ++ xs.drop (i + m)) :: N, fun F w s => by
    have hsz' : 0 < sz := by simpa [Nat.blt_eq] using hsz
    have s1 := s.ent (Ent.app tk.h (Ent.refl F))
    have hu' := Γ.und_ok _ _ hu
    cases m with
    | zero =>
      refine ⟨_, w, _, ?_, ⟨rfl, rfl⟩, ?_, Nx.refl _⟩
      · simp [Builtin.clear_, run_underlying hu']
      · have : xs.take i ++ List.replicate 0 x0 ++ xs.drop (i + 0) = xs := by simp
        rw [this]; exact s1
    | succ m =>
      have ho' : o = i * sz := ho.resolve_left (by omega)
      subst ho'
      have hzs : z.cells.size = sz := by rw [← he x0, ← hz]; simp
      obtain ⟨w', hr, hs', hn⟩ := write_sat (P := P) he (i := i) (ys := List.replicate (m + 1) x0) (fun x hx => by rw [List.eq_of_mem_replicate hx]; exact h1) (by rw [List.length_replicate]; exact hle) s1
      rw [List.length_replicate] at hs'
      refine ⟨_, w', _, ?_, ⟨rfl, rfl⟩, hs', hn⟩
      have hf := zeroCells_flat (enc := enc) hz hzs hsz' (m + 1)
      have hzv : (zeroValue E).run P w = .ok z w := zero_of Γ hi w
      rw [← hf] at hr
      simp [Builtin.clear_, run_underlying hu', hzv, hr], fun v M' ⟨e1, e2⟩ => by subst e1; subst e2; exact hk⟩
/-- append(s[:i], make([]T, m)...), where there is no room: a new row. -/
theorem appendZ (Γ : Tab P) {T Tn ty : TypeId} {kn : IntKind} {z : Value} {bytes i cap m : Nat} {ad : Addr} {xs : List α} (x0 : α) {M : List As} {k : Value → List As → Prop} (hr : RdH M (some ad) sz enc xs) (he : ∀ x, (enc x).length = sz) (hu : Γ.und T = some (.slice E)) (hun : Γ.und Tn = some (.int kn)) (hi : Γ.inf E = some (z, sz, bytes)) (hsz : Nat.blt 0 sz = true)
    (hx : xs.length = i) (hz : z.cells.toList = enc x0) (hg : cap < i + m) (h63 : i + m ≤ maxLen) (hb : (i + m) * bytes ≤ 140737488355328) (hm : m * bytes ≤ 281474976710656)
    (hk : ∀ g cap', i + m ≤ cap' → k (.slice (some ⟨g, 0, none⟩) (i + m) cap') (ERow E sz enc (some ⟨g, 0, none⟩) (i + m) cap' (xs ++ List.replicate m x0) :: M)) :
    LRun P (Builtin.append_ #[T, Tn] ty #[.slice (some ad) i cap, .int .i64 m]) M k :=
  ⟨fun v M' => ∃ g cap', i + m ≤ cap' ∧ v = .slice (some ⟨g, 0, none⟩) (i + m) cap' ∧ M' = ERow E sz enc (some ⟨g, 0, none⟩) (i + m) cap' (xs ++ List.replicate m x0) :: M, fun F w s => by
    have hsz' : 0 < sz := by simpa [Nat.blt_eq] using hsz
    have sM : Sat w M := s.ent Ent.dropr
    obtain ⟨inf, hi1, hi2, hi3, hi4⟩ := Γ.inf_ok _ _ _ _ hi
    have hu' := Γ.und_ok _ _ hu
    have hun' := Γ.und_ok _ _ hun
    subst hi3
    subst hi4
    have hzs : z.cells.size = inf.size := by rw [← he x0, ← hz]; simp
    have hmax : i + m ≤ 9223372036854775807 := by simp only [maxLen] at h63; omega
    have hn : ¬ (i + m ≤ cap) := by omega
    have h63' : ¬ (9223372036854775807 < ((i : Int) + (m : Int))) := by omega
    have h48' : ¬ (281474976710656 < Builtin.nextslicecap (i + m) cap * inf.bytes) := by have := growslice_fits (bytes := inf.bytes) hg hb; omega
    have hwm : IntKind.i64.wrap (m : Int) = m := IntWalk.i64_in _ (by omega)
    have hneg : ¬ ((m : Int) < 0) := by omega
    have h48i : ¬ (281474976710656 < (m : Int) * (inf.bytes : Int)) := by rw [← Int.natCast_mul]; omega
    have hfo := run_firstCells_some (P := P) w.drew inf.size i ad i cap (xs.flatMap enc) (by rw [flat_len he, hx]) (by have := rd_cells he hsz' sM hr; simpa using this)
    have hm0 : 0 < m ∨ m = 0 := by omega
    have hge := grownCap_ge w (i + m) cap E
    have hcm := grownCap_le_maxLen w (i + m) cap E h63
    have hrun : (Builtin.append_ #[T, Tn] ty #[.slice (some ad) i cap, .int .i64 m]).run P w = .ok (.slice (some ⟨w.heap.size, 0, none⟩) (i + m) (grownCap w (i + m) cap E)) (w.drew.alloc (.cells ((xs.flatMap enc).toArray ++ (if m * inf.size = 0 then #[] else Builtin.zeroCells z.cells m) ++ Builtin.zeroCells z.cells (grownCap w (i + m) cap E - (i + m))) E)) := by
      by_cases h0 : m * inf.size = 0
      · simp [Builtin.append_, run_underlying hu', run_underlying hun', sizeOf, typeInfo, zeroValue, hi1, hi2, asInt, asIntOf, hwm, hneg, h48i, hn, h63', h48', h0, Question.forced, hfo, newRow, grownCap]
      · simp [Builtin.append_, run_underlying hu', run_underlying hun', sizeOf, typeInfo, zeroValue, hi1, hi2, asInt, asIntOf, hwm, hneg, h48i, hn, h63', h48', h0, Question.forced, hfo, newRow, grownCap]
    refine ⟨_, _, _, hrun, ⟨_, _, hge, rfl, rfl⟩, ((s.same (w' := w.drew) rfl).alloc _).ent (Ent.head ?_), ⟨rfl, rfl, rfl, by simp⟩⟩
    have hmid : (if m * inf.size = 0 then #[] else Builtin.zeroCells z.cells m).toList = (List.replicate m x0).flatMap enc := by
      by_cases h0 : m * inf.size = 0
      · have : m = 0 := by
          rcases Nat.mul_eq_zero.1 h0 with h | h
          · exact h
          · omega
        subst this
        simp
      · rw [if_neg h0]; exact zeroCells_flat (enc := enc) hz hzs hsz' m
    have hml : (if m * inf.size = 0 then #[] else Builtin.zeroCells z.cells m).size = m * inf.size := by rw [← Array.length_toList, hmid, flat_len he, List.length_replicate]
    intro h hp
    refine ⟨by simp [hx], by rw [flat_len he]; congr 1; simp [hx], .inr ⟨w.heap.size, _, rfl, hp, hge, hcm, ?_, ?_⟩⟩
    · simp only [Array.size_append, List.size_toArray, hml, size_zeroCells, hzs, flat_len he, hx, ← Nat.add_mul]
      congr 1
      omega
    · simp only [Array.toList_append, hmid, List.flatMap_append]
      have hl : (xs.flatMap enc ++ (List.replicate m x0).flatMap enc).length = (i + m) * inf.size := by rw [List.length_append, flat_len he, flat_len he, hx, List.length_replicate, ← Nat.add_mul]
      rw [← hl]
      exact List.take_left, fun v M' ⟨g, cap', e0, e1, e2⟩ => by subst e1; subst e2; exact hk g cap' e0⟩
end
theorem callX {P : Program} {f : FuncId} {args : Array Value} {M : List As} {v : Value} {k : Value → List As → Prop} (h : ∀ F w, Sat w (M ++ F) → (callFunc f args).run P w = .ok (.value v) w) (hk : k v M) : LCall P f args M k :=
  ⟨fun u M' => u = v ∧ M' = M, fun F w hs => by rw [h F w hs]; exact ⟨M, ⟨rfl, rfl⟩, hs, Nx.refl w⟩, fun u M' ⟨e1, e2⟩ => by subst e1; subst e2; exact hk⟩
theorem two_blocks {α : Type} {enc : α → List Value} {E T : TypeId} {sz vb g n cap : Nat} {cs : Array Value} {xs : List α} {M R F : List As} {w : World} (sp : Split M [Sl.pt vb (.cells cs T (0, 0)), ERow E sz enc (some ⟨g, 0, none⟩) n cap xs] R) (hs : Sat w (M ++ F)) (hk : 0 < cap * sz) :
    vb ≠ g ∧ w.shape? vb = some (T, cs.size) ∧ (∃ k, k ≠ 0 ∧ w.shape? g = some (E, k)) ∧ (∀ o, w.frozen? ⟨vb, o, none⟩ = false) := by
  have s1 := hs.ent (Ent.app sp.h (Ent.refl F))
  obtain ⟨h1, h2, d, l1, l2, a, k1, k2, dk, m1, m2, ⟨hx, r⟩, s⟩ := s1
  have hv : w.heap[vb]? = some (.cells cs T (0, 0)) := l1 _ _ a
  rcases r.2 with ⟨h0, _⟩ | ⟨g', cur, ha, hg, hnc, hcm, hcs, htake⟩
  · cases h0
  cases ha
  have hgw : w.heap[g]? = some (.cells cur E (0, 0)) := l2 _ _ (m1 _ _ hg)
  refine ⟨?_, ?_, ⟨cur.size, by omega, ?_⟩, fun o => ?_⟩
  · rintro rfl
    rcases d vb with hc | hc
    · rw [Sl.pt] at a; rw [a] at hc; cases hc
    · rw [m1 _ _ hg] at hc; cases hc
  · simp [World.shape?, hv]
  · simp [World.shape?, hgw]
  · simp [World.frozen?, hv]
theorem zu64 {n : Int} {k : Int → Prop} (hk : k n) (h : 0 ≤ n ∧ n ≤ 18446744073709551615 := by omega) : LInt .u64 n k := lint_u64_id h hk
theorem zsh1 {a : Nat} {k : Int → Prop} (hk : k ((a / 2 : Nat) : Int)) : LAnd (0 ≤ (1 : Int)) (LEq ((a : Int).fdiv (2 ^ (min (1 : Int).toNat IntKind.u64.bits))) k) := ⟨by decide, by
  have e : (2 : Int) ^ (min (1 : Int).toNat IntKind.u64.bits) = ((2 : Nat) : Int) := by decide
  refine leq_ (m := ((a / 2 : Nat) : Int)) ?_ hk
  rw [e, Int.fdiv_eq_ediv_of_nonneg _ (by omega)]
  rfl⟩
theorem sliceNone {P : Program} (Γ : Tab P) {t el : TypeId} {kd : IntKind} {z : Value} {sz by' : Nat} {M : List As} {k : Value → Prop} (hu : Γ.und t = some (.slice el)) (hi' : Γ.inf el = some (z, sz, by')) (hk : k (.slice none 0 0)) : LGet P (Instr.sliceAt t (.slice none 0 0) (some (.int kd 0)) none none) M k :=
  ⟨_, fun w s => by
    have h1 := Γ.und_ok _ _ hu
    have hb : (Instr.sliceBound (.int kd 0) 0 .sliceB).run P w = .ok 0 w := by simp [Instr.sliceBound, asIntOf]
    have hs : (Instr.sliceBounds true 0 0 (some (.int kd 0)) none none).run P w = .ok (0, 0, 0) w := by simp [Instr.sliceBounds, hb]
    unfold Instr.sliceAt
    simp only [Sem.run_bind, run_underlying h1, Result.andThen_ok]
    unfold Instr.slice
    simp only [Sem.run_bind, run_underlying h1, Result.andThen_ok, hs, size_of Γ hi']
    simp, hk⟩
theorem RdH.take {α : Type} {enc : α → List Value} {M : List As} {a : Option Addr} {sz : Nat} {xs : List α} (r : RdH M a sz enc xs) (k : Nat) : RdH M a sz enc (xs.take k) := ⟨fun h s => by
  rcases r.h h s with e | ⟨b, o, e, l⟩
  · left; rw [e]; simp
  · right
    refine ⟨b, o, e, fun i x hx => ?_⟩
    rw [List.getElem?_take] at hx
    split at hx
    · exact l i x hx
    · cases hx⟩
theorem RdH.drop {α : Type} {enc : α → List Value} {M : List As} {b o o' sz : Nat} {xs : List α} (k : Nat) (r : RdH M (some ⟨b, o, none⟩) sz enc xs) (ho : o' = o + k * sz) : RdH M (some ⟨b, o', none⟩) sz enc (xs.drop k) := ⟨fun h s => by
  rcases r.h h s with e | ⟨b', o2, e, l⟩
  · left; rw [e]; simp
  · right
    cases e
    refine ⟨b, o', rfl, fun i x hx j v hj => ?_⟩
    rw [List.getElem?_drop] at hx
    obtain ⟨cs, T, fr, q1, q2⟩ := l _ x hx j v hj
    refine ⟨cs, T, fr, q1, ?_⟩
    rw [ho, show o + k * sz + i * sz + j = o + (k + i) * sz + j from by rw [Nat.add_mul]; omega]
    exact q2⟩
section
variable {P : Program} {α : Type} {enc : α → List Value} {E : TypeId} {sz : Nat}
/-- Elements are laid over a row's end, and beyond. -/
theorem writeTail_sat (he : ∀ x, (enc x).length = sz) {w : World} {g n cap i : Nat} {xs ys : List α} {L F : List As} (h1 : ∀ x ∈ ys, (enc x).all Value.oneC = true) (hi : i ≤ n) (hle : i + ys.length ≤ cap) (hge : n ≤ i + ys.length) (s : Sat w ((ERow E sz enc (some ⟨g, 0, none⟩) n cap xs :: L) ++ F)) :
    ∃ w', (storeCells ⟨g, i * sz, none⟩ (ys.flatMap enc) 0).run P w = .ok () w' ∧ Sat w' ((ERow E sz enc (some ⟨g, 0, none⟩) (i + ys.length) cap (xs.take i ++ ys) :: L) ++ F) ∧ Nx w w' := by
  obtain ⟨k1, k2, d, l1, l2, ⟨hxl, r⟩, sL⟩ := s
  rcases r.2 with ⟨h0, _⟩ | ⟨g', cur, ha, hg, hnc, hcm, hcs, htake⟩
  · cases h0
  cases ha
  have hone : ∀ u ∈ ys.flatMap enc, u.oneCell' = true := fun u hu => by
    obtain ⟨x, hx, hux⟩ := List.mem_flatMap.1 hu
    exact oneC_ok (List.all_eq_true.1 (h1 x hx) u hux)
  have hyl := flat_len he ys
  have hb2 : (i + ys.length) * sz ≤ cur.toList.length := by simp [hcs]; exact Nat.mul_le_mul_right _ hle
  have hb1 : i * sz + (ys.flatMap enc).length = (i + ys.length) * sz := by rw [hyl, ← Nat.add_mul]
  have s2 : Sat w ((Sl.pt g (.cells cur E (0, 0)) :: L) ++ F) := ⟨k1, k2, d, l1, l2, hg, sL⟩
  obtain ⟨w', hr, hs', hn⟩ := storeCells_sat (P := P) (i * sz) hone (by simp only [Array.length_toList] at hb2; omega) s2
  refine ⟨w', hr, hs'.ent (Ent.app (Ent.head ?_) (Ent.refl F)), hn⟩
  intro h hp
  have hlen : (xs.take i ++ ys).length = i + ys.length := by simp only [List.length_append, List.length_take]; omega
  refine ⟨hlen, by rw [flat_len he, hlen], .inr ⟨g, _, rfl, hp, hle, hcm, ?_, ?_⟩⟩
  · simp only [wr, List.size_toArray, List.length_append, List.length_take, List.length_drop, Array.length_toList] at hb2 ⊢; omega
  · show ((cur.toList.take (i * sz) ++ ys.flatMap enc ++ cur.toList.drop (i * sz + (ys.flatMap enc).length))).take ((i + ys.length) * sz) = _
    have ht : cur.toList.take (i * sz) = (xs.take i).flatMap enc := by
      rw [← flat_take he, ← htake, List.take_take, Nat.min_eq_left (Nat.mul_le_mul_right _ hi)]
    rw [ht, List.flatMap_append]
    have hl : ((xs.take i).flatMap enc ++ ys.flatMap enc).length = (i + ys.length) * sz := by rw [List.length_append, flat_len he, hyl, List.length_take, ← Nat.add_mul]; congr 1; omega
    rw [← hl]
    exact List.take_left
/-- copy(s[i+1:], s[i:]), where there is room for one more. -/
theorem copyUp (Γ : Tab P) {T T' ty : TypeId} {z : Value} {bytes g o o' i n cap dl dc m c : Nat} {xs : List α} {M N : List As} {k : Value → List As → Prop} (tk : Take M (ERow E sz enc (some ⟨g, 0, none⟩) n cap xs) N) (he : ∀ x, (enc x).length = sz) (hu : Γ.und T = some (.slice E)) (hi : Γ.inf E = some (z, sz, bytes)) (hsz : Nat.blt 0 sz = true)
    (ho : o = (i + 1) * sz) (ho' : o' = i * sz) (hin : i < n) (hnc : n + 1 ≤ cap) (hx : xs.length = n) (hdl : dl = n - i) (hm : n - i ≤ m) (h1 : ∀ x ∈ xs, (enc x).all Value.oneC = true)
    (hk : k (.int .i64 ((n - i : Nat) : Int)) (ERow E sz enc (some ⟨g, 0, none⟩) (n + 1) cap (xs.take (i + 1) ++ xs.drop i) :: N)) :
    LRun P (Builtin.copy_ #[T, T'] ty #[.slice (some ⟨g, o, none⟩) dl dc, .slice (some ⟨g, o', none⟩) m c]) M k :=
  ⟨fun v M' => v = .int .i64 ((n - i : Nat) : Int) ∧ M' = ERow E sz enc (some ⟨g, 0, none⟩) (n + 1) cap (xs.take (i + 1) ++ xs.drop i) :: N, fun F w s => by
    have hsz' : 0 < sz := by simpa [Nat.blt_eq] using hsz
    have s1 := s.ent (Ent.app tk.h (Ent.refl F))
    have hyl : (xs.drop i).length = n - i := by rw [List.length_drop, hx]
    obtain ⟨w', hr, hs', hn⟩ := writeTail_sat (P := P) he (i := i + 1) (ys := xs.drop i) (fun x hx => h1 x (List.mem_of_mem_drop hx)) (by omega) (by omega) (by omega) s1
    rw [show i + 1 + (xs.drop i).length = n + 1 from by omega] at hs'
    refine ⟨_, w', _, ?_, ⟨rfl, rfl⟩, hs', hn⟩
    have hu' := Γ.und_ok _ _ hu
    have hmin : Nat.min m dl = n - i := by rw [hdl]; exact Nat.min_eq_right hm
    have hsrc : RdH (ERow E sz enc (some ⟨g, 0, none⟩) n cap xs :: N ++ F) (some ⟨g, o', none⟩) sz enc (xs.drop i) := RdH.drop (o := 0) i (RdH.erow he) (by omega)
    have hf := run_firstCells_some (P := P) w sz (n - i) ⟨g, o', none⟩ m c ((xs.drop i).flatMap enc) (by rw [flat_len he, hyl]) (rd_cells he hsz' s1 hsrc)
    subst ho
    simp [Builtin.copy_, run_underlying hu', Builtin.lenOf, size_of Γ hi, hmin, hf, hr, goInt], fun v M' ⟨e1, e2⟩ => by subst e1; subst e2; exact hk⟩
end
end Go.Sl
