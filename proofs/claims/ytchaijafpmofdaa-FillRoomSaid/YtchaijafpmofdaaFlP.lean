import Derived.Test.YtchaijafpmofdaaBack16
import Derived.Test.YtchaijafpmofdaaPrI
/-! Runs that give back what they took: plain. -/
namespace Go.Proofs.Ytchaijafpmofdaa
open Go.Sl
set_option linter.unusedVariables false
set_option linter.unusedSimpArgs false
set_option maxRecDepth 100000

/-- What the first n of a gang's tasks take on a node. -/
def onN (T : List V4) (N : List ByteArray) (n : Nat) (nm : ByteArray) : List V4 := ((List.range n).filter (fun t => decide (gd N t = nm))).map (gd T)
theorem onN_succ (T : List V4) (N : List ByteArray) (n : Nat) (nm : ByteArray) : onN T N (n + 1) nm = onN T N n nm ++ (if gd N n = nm then [gd T n] else []) := by
  unfold onN
  rw [List.range_succ, List.filter_append, List.map_append]
  by_cases h : gd N n = nm <;> simp [h]
theorem addR_val {a b : V4} (h : (addR a b).2 = 0) : (addR a b).1 = add4 a b ∧ formed a = true ∧ formed b = true ∧ formed (add4 a b) = true := by
  unfold addR at h ⊢
  split at h
  · rename_i q
    split at h
    · rename_i q2
      rw [if_pos q, if_pos q2]
      simp only [Bool.and_eq_true] at q
      exact ⟨rfl, q.1, q.2, q2⟩
    · exact absurd h (by decide)
  · exact absurd h (by decide)
theorem bef_go {T : List V4} {N : List ByteArray} {S : List Slot} (hd : dist S) : ∀ {n : Nat} {L : List Slot}, movedGo addR T N n S = some L →
    L.length = S.length ∧ (∀ i, i < S.length → gd L i = ((gd S i).1, add4 (gd S i).2 (sumV (onN T N n (gd S i).1)))) ∧ ((∀ i, i < S.length → formed (gd S i).2 = true) → ∀ i, i < S.length → formed (gd L i).2 = true) ∧ (∀ t, t < n → ∃ i, i < S.length ∧ (gd S i).1 = gd N t)
  | 0, L, h => by
    injection h with h
    subst h
    refine ⟨rfl, fun i hi => ?_, fun h => h, fun t ht => absurd ht (Nat.not_lt_zero _)⟩
    show gd S i = ((gd S i).1, add4 (gd S i).2 z4)
    rw [add4_zero]
  | n + 1, L, h => by
    unfold movedGo at h
    split at h
    · cases h
    rename_i L1 h1
    obtain ⟨hl, hv, hf, hn⟩ := bef_go hd h1
    split at h
    · cases h
    rename_i k hk
    rw [List.findIdx?_eq_some_iff_getElem] at hk
    obtain ⟨k1, k2, _⟩ := hk
    rw [← gd_eq k1] at k2
    have k2 : (gd L1 k).1 = gd N n := by simpa using k2
    have k3 : k < S.length := by omega
    split at h
    · rename_i q
      injection h with h
      subst h
      obtain ⟨v1, v2, v3, v4⟩ := addR_val q
      have hkS : (gd S k).1 = gd N n := by rw [← k2, hv k k3]
      refine ⟨by rw [List.length_set, hl], fun i hi => ?_, fun hS i hi => ?_, fun t ht => ?_⟩
      · rw [gd_set (by omega), onN_succ]
        by_cases e : i = k
        · subst e
          rw [if_pos rfl, if_pos hkS.symm, v1, hv i hi, sumV_app, sumV_one, add4_assoc]
        · have hne : ¬ gd N n = (gd S i).1 := fun q2 => by
            rw [← hkS] at q2
            rcases Nat.lt_or_gt_of_ne e with z | z
            · exact hd i k z k3 q2.symm
            · exact hd k i z hi q2
          rw [if_neg e, if_neg hne, List.append_nil, hv i hi]
      · rw [gd_set (by omega)]
        by_cases e : i = k
        · rw [if_pos e, v1]; exact v4
        · rw [if_neg e]; exact hf hS i hi
      · by_cases e : t = n
        · exact ⟨k, k3, by rw [e]; exact hkS⟩
        · exact hn t (by omega)
    · cases h
/-- A run. -/
structure RunV where
  job : Int
  fin : Int
  T : List V4
  N : List ByteArray
/-- What a list of runs has on a node. -/
def gotN (rs : List RunV) (nm : ByteArray) : List V4 := rs.flatMap (fun r => onN r.T r.N r.T.length nm)
/-- All given back, one behind the other. -/
def givR : List RunV → List Slot → List Slot × Int
  | [], S => (S, 0)
  | r :: rs, S => if (movedR addR r.T r.N S).2 = 0 then givR rs (movedR addR r.T r.N S).1 else ([], (movedR addR r.T r.N S).2)
/-- A run that is right for these slots. -/
structure RunOk (S : List Slot) (r : RunV) : Prop where
  form : ∀ v ∈ r.T, formed v = true
  len : r.N.length = r.T.length
  one : 1 ≤ r.T.length
  six : r.T.length ≤ 6
  has : ∀ t, t < r.T.length → ∃ i, i < S.length ∧ (gd S i).1 = gd r.N t
/-- What is behind, slot by slot. -/
structure Gave (S L : List Slot) (g : ByteArray → List V4) : Prop where
  len : L.length = S.length
  at' : ∀ i, i < S.length → gd L i = ((gd S i).1, add4 (gd S i).2 (sumV (g (gd S i).1)))
theorem Gave.dist {S L : List Slot} {g : ByteArray → List V4} (h : Gave S L g) (hd : dist S) : dist L := dist_names hd h.len (fun i hi => by rw [h.at' i hi])
theorem moved0 {T : List V4} {N : List ByteArray} {S L : List Slot} (h : movedR addR T N S = (L, 0)) : RunOk S ⟨0, 0, T, N⟩ ∧ (∀ i, i < S.length → formed (gd S i).2 = true) ∧ dist S ∧ Gave S L (onN T N T.length) ∧ ∀ i, i < S.length → formed (gd L i).2 = true := by
  unfold movedR at h
  split at h
  · rename_i q; exact absurd (congrArg Prod.snd h) q
  rename_i q
  have q0 : wrongR T S = 0 := by simpa using q
  obtain ⟨w1, w2, w3, w4, w5⟩ := wrong0.1 q0
  split at h
  · exact absurd (congrArg Prod.snd h) (by simp)
  rename_i q2
  have q2 : N.length = T.length := by simpa using q2
  split at h
  · exact absurd (congrArg Prod.snd h) (by simp)
  split at h
  · exact absurd (congrArg Prod.snd h) (by simp)
  rename_i L1 hL
  obtain ⟨rfl, _⟩ := Prod.mk.inj h
  obtain ⟨a1, a2, a3, a4⟩ := bef_go w3 hL
  have hS : ∀ i, i < S.length → formed (gd S i).2 = true := fun i hi => w2 _ (gd_mem hi)
  rw [q2] at a2 a4
  exact ⟨⟨w1, q2, w4, w5, a4⟩, hS, w3, ⟨a1, a2⟩, a3 hS⟩
theorem sumV_le {l : List V4} (h : ∀ v ∈ l, nn v) (m : List V4) (hm : ∀ v ∈ m, nn v) (a : V4) : fits (add4 a (sumV l)) (add4 a (sumV (l ++ m))) = true := by
  have h2 := sumV_nn hm
  rw [sumV_app]
  unfold nn at h2
  rw [fits_iff]
  simp only [add4]
  omega
theorem formed_le {a b : V4} (ha : nn a) (h : fits a b = true) (hb : formed b = true) : formed a = true := by
  rw [fits_iff] at h
  rw [formed_iff] at hb ⊢
  unfold nn at ha
  omega
theorem add_nn {a b : V4} (ha : nn a) (hb : nn b) : nn (add4 a b) := by
  unfold nn at *
  simp only [add4]
  omega
theorem onN_form {T : List V4} {N : List ByteArray} {n : Nat} {nm : ByteArray} (h : ∀ v ∈ T, formed v = true) (hn : n ≤ T.length) : ∀ v ∈ onN T N n nm, nn v := by
  intro v hv
  unfold onN at hv
  obtain ⟨t, ht, rfl⟩ := List.mem_map.1 hv
  have := List.mem_range.1 (List.mem_filter.1 ht).1
  exact formed_nn (h _ (gd_mem (by omega)))
/-- What can be given back is. -/
theorem bef_ok {T : List V4} {N : List ByteArray} {S : List Slot} (hd : dist S) (ho : RunOk S ⟨0, 0, T, N⟩) (hS : ∀ i, i < S.length → formed (gd S i).2 = true) (hb : ∀ i, i < S.length → formed (add4 (gd S i).2 (sumV (onN T N T.length (gd S i).1))) = true) :
    ∀ n, n ≤ T.length → ∃ L, movedGo addR T N n S = some L
  | 0, _ => ⟨S, rfl⟩
  | n + 1, hn => by
    obtain ⟨L1, h1⟩ := bef_ok hd ho hS hb n (by omega)
    obtain ⟨a1, a2, a3, a4⟩ := bef_go hd h1
    obtain ⟨k, k1, k2⟩ := ho.has n (show n < T.length by omega)
    dsimp only at k2
    have hdL : dist L1 := dist_names hd a1 (fun i hi => by rw [a2 i hi])
    have hnm : (gd L1 k).1 = gd N n := by rw [a2 k k1]; exact k2
    have hf : L1.findIdx? (fun s => decide (s.1 = gd N n)) = some k := by rw [← hnm]; exact find_name hdL (by omega)
    have hadd : addR (gd L1 k).2 (gd T n) = (add4 (gd L1 k).2 (gd T n), 0) := by
      refine addR_ok (a3 hS k k1) (ho.form _ (gd_mem (by show n < T.length; omega))) ?_
      have hT := ho.form
      have e : add4 (gd L1 k).2 (gd T n) = add4 (gd S k).2 (sumV (onN T N (n + 1) (gd S k).1)) := by
        rw [onN_succ, if_pos k2.symm, sumV_app, sumV_one, ← add4_assoc, a2 k k1]
      rw [e]
      have hsp : ∃ m, onN T N T.length (gd S k).1 = onN T N (n + 1) (gd S k).1 ++ m ∧ ∀ v ∈ m, nn v := by
        have hgo : ∀ d, n + 1 + d ≤ T.length → ∃ m, onN T N (n + 1 + d) (gd S k).1 = onN T N (n + 1) (gd S k).1 ++ m ∧ ∀ v ∈ m, nn v := by
          intro d
          induction d with
          | zero => intro _; exact ⟨[], by simp, by simp⟩
          | succ d ih =>
            intro hdl
            obtain ⟨m, e1, e2⟩ := ih (by omega)
            rw [← Nat.add_assoc, onN_succ, e1]
            split
            · refine ⟨m ++ [gd T (n + 1 + d)], by rw [List.append_assoc], fun v hv => ?_⟩
              rcases List.mem_append.1 hv with hv | hv
              · exact e2 v hv
              · rw [List.mem_singleton] at hv; rw [hv]; exact formed_nn (hT _ (gd_mem (by show _ < T.length; omega)))
            · exact ⟨m, by rw [List.append_nil], e2⟩
        obtain ⟨m, e1, e2⟩ := hgo (T.length - (n + 1)) (by omega)
        rw [show n + 1 + (T.length - (n + 1)) = T.length by omega] at e1
        exact ⟨m, e1, e2⟩
      obtain ⟨m, e1, e2⟩ := hsp
      have hb2 := hb k k1
      rw [e1] at hb2
      exact formed_le (add_nn (formed_nn (hS k k1)) (sumV_nn (onN_form hT hn))) (sumV_le (onN_form hT hn) m e2 _) hb2
    unfold movedGo
    rw [h1]
    dsimp only
    rw [hf]
    dsimp only
    rw [hadd, if_pos rfl]
    exact ⟨_, rfl⟩
theorem gave_trans {S L L2 : List Slot} {g g2 : ByteArray → List V4} (h : Gave S L g) (h2 : Gave L L2 g2) : Gave S L2 (fun nm => g nm ++ g2 nm) := ⟨h2.len.trans h.len, fun i hi => by
  rw [h2.at' i (by rw [h.len]; exact hi), h.at' i hi]
  dsimp only
  rw [sumV_app, add4_assoc]⟩
theorem RunOk.to {S L : List Slot} {g : ByteArray → List V4} {r : RunV} (h : RunOk L r) (hg : Gave S L g) : RunOk S r := ⟨h.form, h.len, h.one, h.six, fun t ht => by
  obtain ⟨i, hi, e⟩ := h.has t ht
  have hi2 : i < S.length := by rw [← hg.len]; exact hi
  exact ⟨i, hi2, by rw [← e, hg.at' i hi2]⟩⟩
theorem RunOk.back {S L : List Slot} {g : ByteArray → List V4} {r : RunV} (h : RunOk S r) (hg : Gave S L g) : RunOk L r := ⟨h.form, h.len, h.one, h.six, fun t ht => by
  obtain ⟨i, hi, e⟩ := h.has t ht
  exact ⟨i, by rw [hg.len]; exact hi, by rw [← e, hg.at' i hi]⟩⟩
theorem giv_spec : ∀ {rs : List RunV} {S L : List Slot}, dist S → (∀ i, i < S.length → formed (gd S i).2 = true) → givR rs S = (L, 0) →
    Gave S L (gotN rs) ∧ (∀ i, i < S.length → formed (gd L i).2 = true) ∧ ∀ r ∈ rs, RunOk S r
  | [], S, L, hd, hS, h => by
    obtain ⟨rfl, _⟩ := Prod.mk.inj h
    refine ⟨⟨rfl, fun i hi => ?_⟩, hS, by simp⟩
    show gd S i = ((gd S i).1, add4 (gd S i).2 z4)
    rw [add4_zero]
  | r :: rs, S, L, hd, hS, h => by
    unfold givR at h
    split at h
    · rename_i q
      cases hm : movedR addR r.T r.N S with
      | mk L1 e =>
      rw [hm] at q h
      dsimp only at q h
      subst q
      obtain ⟨o1, o2, o3, o4, o5⟩ := moved0 hm
      have o5' : ∀ i, i < L1.length → formed (gd L1 i).2 = true := fun i hi => o5 i (by rw [← o4.len]; exact hi)
      obtain ⟨g1, g2, g3⟩ := giv_spec (o4.dist hd) o5' h
      refine ⟨gave_trans o4 g1, fun i hi => g2 i (by rw [o4.len]; exact hi), fun x hx => ?_⟩
      rcases List.mem_cons.1 hx with rfl | hx
      · exact ⟨o1.form, o1.len, o1.one, o1.six, o1.has⟩
      · exact (g3 x hx).to o4
    · rename_i q
      exact absurd (congrArg Prod.snd h) q
end Go.Proofs.Ytchaijafpmofdaa
