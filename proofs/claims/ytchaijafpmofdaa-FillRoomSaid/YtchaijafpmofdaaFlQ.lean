import Derived.Test.YtchaijafpmofdaaFlP
/-! A profile of which is taken from now on: plain. -/
namespace Go.Proofs.Ytchaijafpmofdaa
open Go.Sl
set_option linter.unusedVariables false
set_option linter.unusedSimpArgs false
set_option maxRecDepth 100000

theorem sum_split {α : Type} (f : α → V4) (p : α → Bool) : ∀ l : List α, add4 (sumV ((l.filter p).map f)) (sumV ((l.filter (fun x => !p x)).map f)) = sumV (l.map f)
  | [] => by show add4 z4 z4 = z4; rw [add4_zero]
  | x :: l => by
    have ih := sum_split f p l
    cases h : p x with
    | true =>
      rw [List.filter_cons_of_pos h, List.filter_cons_of_neg (by simp [h]), List.map_cons, List.map_cons]
      show add4 (add4 (f x) _) _ = add4 (f x) _
      rw [add4_assoc, ih]
    | false =>
      rw [List.filter_cons_of_neg (by simp [h]), List.filter_cons_of_pos (by simp [h]), List.map_cons, List.map_cons]
      show add4 _ (add4 (f x) _) = add4 (f x) _
      rw [← add4_assoc, add4_comm _ (f x), add4_assoc, ih]
theorem sum_filter_le {α : Type} {f : α → V4} {p : α → Bool} {l : List α} (h : ∀ x ∈ l, nn (f x)) (v : V4) : fits (add4 (sumV ((l.filter p).map f)) v) (add4 (sumV (l.map f)) v) = true := by
  have h1 := sum_split f p l
  have h2 : nn (sumV ((l.filter (fun x => !p x)).map f)) := sumV_nn (fun v hv => by
    obtain ⟨x, hx, rfl⟩ := List.mem_map.1 hv
    exact h x (List.mem_filter.1 hx).1)
  rw [← h1]
  unfold nn at h2
  rw [fits_iff]
  simp only [add4]
  omega
theorem sub4_zero (a : V4) : sub4 a z4 = a := by simp [sub4, z4]
/-- What was taken of a profile, each from now to its end. -/
structure Taken (c : V4) (now : Int) (L : List StepT) (k : Nat) (W : List (Int × V4)) : Prop where
  inv : PInv c L k
  cnt : k ≤ W.length
  nn : ∀ w ∈ W, Go.Proofs.Ytchaijafpmofdaa.nn w.2
  fr : ∀ t, now ≤ t → fr c L t = sub4 c (sumV ((W.filter (fun w => decide (t < w.1))).map Prod.snd))
theorem Taken.zero {c : V4} {now : Int} (h : formed c = true) : Taken c now [] 0 [] := ⟨PInv.zero h, Nat.le_refl _, by simp, fun t _ => by
  show Go.Proofs.Ytchaijafpmofdaa.fr c [] t = sub4 c z4
  rw [sub4_zero]
  exact (PInv.zero h).last t (by simp)⟩
theorem Taken.take {c : V4} {now : Int} {L : List StepT} {k : Nat} {W : List (Int × V4)} (h : Taken c now L k W) {e : Int} {v : V4} (h0 : 0 ≤ now) (h1 : now < e) (h2 : e ≤ 1099511627776) (hv : formed v = true) (hw : W.length < 4096) (hf : fits (add4 (sumV (W.map Prod.snd)) v) c = true) :
    takeE c L k now e v = 0 ∧ Taken c now (lessL c L now e v) (k + 1) (W ++ [(e, v)]) := by
  have he : takeE c L k now e v = 0 := takeE_ok.2 ⟨hv, by unfold spanB; simp; omega, by have := h.cnt; omega, (lst_fits h.inv.ris h1).2 (fun t q1 q2 => by
    rw [h.fr t q1, fits_sub]
    exact fits_trans (sum_filter_le h.nn v) hf)⟩
  refine ⟨he, h.inv.take he, by rw [List.length_append]; have := h.cnt; simp; omega, fun w hw => ?_, fun t q => ?_⟩
  · rcases List.mem_append.1 hw with hw | hw
    · exact h.nn w hw
    · rw [List.mem_singleton] at hw; rw [hw]; exact formed_nn hv
  · rw [fr_lessL h.inv he, h.fr t q, List.filter_append, List.map_append, sumV_app]
    by_cases z : t < e
    · rw [if_pos ⟨q, z⟩, List.filter_cons_of_pos (by simpa using z)]
      show _ = sub4 c (add4 _ (sumV [v]))
      rw [sumV_one, sub4_add]
    · rw [if_neg (fun y => z y.2), List.filter_cons_of_neg (by simpa using z)]
      show _ = sub4 c (add4 _ z4)
      rw [add4_zero]
/-- When a run ends. -/
def endR (now : Int) (r : RunV) : Int := max r.fin (now + 1)
/-- What runs take on a node, with their ends. -/
def takN (now : Int) (rs : List RunV) (nm : ByteArray) : List (Int × V4) := rs.flatMap (fun r => (onN r.T r.N r.T.length nm).map (fun v => (endR now r, v)))
theorem takN_snd (now : Int) (rs : List RunV) (nm : ByteArray) : (takN now rs nm).map Prod.snd = gotN rs nm := by
  unfold takN gotN
  rw [List.map_flatMap]
  congr 1
  funext r
  rw [List.map_map]
  exact List.map_id' _
theorem takN_ended (now t : Int) : ∀ (rs : List RunV) (nm : ByteArray), ((takN now rs nm).filter (fun w => !decide (t < w.1))).map Prod.snd = gotN (rs.filter (fun r => decide (endR now r ≤ t))) nm
  | [], nm => rfl
  | r :: rs, nm => by
    have ih := takN_ended now t rs nm
    unfold takN gotN at ih ⊢
    rw [List.flatMap_cons, List.filter_append, List.map_append, ih]
    by_cases h : endR now r ≤ t
    · rw [List.filter_cons_of_pos (by simpa using h), List.flatMap_cons]
      congr 1
      rw [List.filter_eq_self.2 (fun w hw => by
        obtain ⟨v, _, rfl⟩ := List.mem_map.1 hw
        simp
        omega), List.map_map]
      exact List.map_id' _
    · rw [List.filter_cons_of_neg (by simpa using h)]
      rw [List.filter_eq_nil_iff.2 (fun w hw => by
        obtain ⟨v, _, rfl⟩ := List.mem_map.1 hw
        simp
        omega)]
      rfl
/-- What is free behind all takes: what was free, and what has ended. -/
theorem taken_free {f : V4} {now t : Int} {rs : List RunV} {nm : ByteArray} {L : List StepT} {k : Nat} (h : Taken (add4 f (sumV (gotN rs nm))) now L k (takN now rs nm)) (ht : now ≤ t) : fr (add4 f (sumV (gotN rs nm))) L t = add4 f (sumV (gotN (rs.filter (fun r => decide (endR now r ≤ t))) nm)) := by
  rw [h.fr t ht, ← takN_ended now t rs nm, ← takN_snd now rs nm, ← sum_split Prod.snd (fun w : Int × V4 => decide (t < w.1)) (takN now rs nm)]
  simp only [sub4, add4]
  refine Prod.ext ?_ (Prod.ext ?_ (Prod.ext ?_ ?_)) <;> (dsimp only; omega)
end Go.Proofs.Ytchaijafpmofdaa
