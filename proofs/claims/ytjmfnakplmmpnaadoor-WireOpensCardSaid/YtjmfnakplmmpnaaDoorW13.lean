import Derived.Test.YtjmfnakplmmpnaaDoorW10
/-! A frame with one byte turned. -/
namespace Go.Proofs.YtjmfnakplmmpnaaDoor
open Go.Sl
theorem gd_take_at {l : Bs} {k m : Nat} (h : k < m) : gd (l.take m) k = gd l k := gd_take_lt h
theorem gd_set_self {l : Bs} {k : Nat} {y : UInt8} (h : k < l.length) : gd (l.set k y) k = y := by
  unfold gd; simp [h]
theorem of4_eq {l m : Bs} (hl : 4 ≤ l.length) (hm : 4 ≤ m.length) (h : of4 l = of4 m) {j : Nat} (hj : j < 4) : gd l j = gd m j := by
  have e : l.take 4 = m.take 4 := by rw [← four_of4 hl, ← four_of4 hm, h]
  rw [← gd_take_at hj, e, gd_take_at hj]
theorem gd_drop_at {l : Bs} {k m : Nat} (h : m ≤ k) : gd (l.drop m) (k - m) = gd l k := by
  unfold gd; simp; congr 2; omega
theorem set_split {l : Bs} {j : Nat} {y : UInt8} (h : j < l.length) : l.set j y = l.take j ++ y :: l.drop (j + 1) ∧ l = l.take j ++ gd l j :: l.drop (j + 1) := by
  refine ⟨List.set_eq_take_append_cons_drop .. |>.trans (by rw [if_pos h]), ?_⟩
  have : gd l j = l[j] := by unfold gd; simp [h]
  rw [this]
  simp
theorem turn_open {b r : Bs} {k : Nat} (hk : k < b.length + 8) (hb : b.length ≤ 4096) {y : UInt8} (hy : y ≠ gd (frameB b ++ r) k) {x' r' : Bs} (h : openB ((frameB b ++ r).set k y) = some (x', r')) : k < 4 ∧ x' ≠ b := by
  have hl : (frameB b ++ r).length = b.length + 8 + r.length := by rw [List.length_append, frameB_len]
  have e0 : frameB b ++ r = four b.length ++ (four (crc (four b.length ++ b)) ++ (b ++ r)) := by unfold frameB; simp
  have h1 : of4 (frameB b ++ r) = b.length := by rw [e0]; exact of4_four _ (by omega)
  have h2 : of4 ((frameB b ++ r).drop 4) = crc (four b.length ++ b) := by
    have : (frameB b ++ r).drop 4 = four (crc (four b.length ++ b)) ++ (b ++ r) := by rw [e0]; rfl
    rw [this]; exact of4_four _ (crc_lt _)
  have h3 : (frameB b ++ r).take 4 = four b.length := by rw [e0]; rfl
  have h4 : (frameB b ++ r).drop 8 = b ++ r := by rw [e0]; rfl
  generalize frameB b ++ r = A at *
  clear e0
  have hl' : (A.set k y).length = A.length := List.length_set ..
  have hgs : gd (A.set k y) k = y := gd_set_self (by omega)
  unfold openB at h
  split at h
  · cases h
  split at h
  · cases h
  split at h
  · cases h
  rename_i q1 q2 q3
  have q3 := Classical.not_not.1 q3
  injection h with h
  injection h with hx hr
  by_cases k4 : k < 4
  · refine ⟨k4, fun e => hy ?_⟩
    have hxl : x'.length = of4 (A.set k y) := by rw [← hx, List.length_take, List.length_drop]; omega
    have he : of4 (A.set k y) = of4 A := by rw [← hxl, e, h1]
    rw [← of4_eq (by omega) (by omega) he k4, hgs]
  · exfalso
    have t4 : (A.set k y).take 4 = A.take 4 := by rw [List.take_set_of_le (by omega)]
    have o4 : of4 (A.set k y) = of4 A := by rw [← of4_take (by omega), t4, of4_take (by omega)]
    rw [t4, o4, h1, h3] at q3
    by_cases k8 : k < 8
    · have d8 : (A.set k y).drop 8 = A.drop 8 := List.drop_set_of_lt (by omega)
      rw [d8, h4, List.take_left, ← h2] at q3
      apply hy
      have := of4_eq (by rw [List.length_drop]; omega) (by rw [List.length_drop]; omega) q3 (j := k - 4) (by omega)
      rw [gd_drop_at (by omega), gd_drop_at (by omega), hgs] at this
      exact this
    · have d4 : of4 ((A.set k y).drop 4) = of4 (A.drop 4) := by
        rw [← of4_take (by rw [List.length_drop]; omega), ← of4_take (b := A.drop 4) (by rw [List.length_drop]; omega)]
        congr 1
        rw [List.drop_set, if_neg (by omega), List.take_set_of_le (by omega)]
      have d8 : (A.set k y).drop 8 = (A.drop 8).set (k - 8) y := by rw [List.drop_set, if_neg (by omega)]
      rw [d4, h2, d8, h4, List.take_set, List.take_left] at q3
      have hj : k - 8 < b.length := by omega
      obtain ⟨s1, s2⟩ := set_split (l := b) (j := k - 8) (y := y) hj
      rw [s1] at q3
      have q4 : crc (four b.length ++ (b.take (k - 8) ++ gd b (k - 8) :: b.drop (k - 8 + 1))) = crc (four b.length ++ (b.take (k - 8) ++ y :: b.drop (k - 8 + 1))) := by rw [← s2]; exact q3
      rw [← List.append_assoc, ← List.append_assoc] at q4
      have := crc_turn q4
      apply hy
      rw [← this, ← gd_drop_at (l := A) (m := 8) (by omega), h4]
      unfold gd
      rw [List.getD_eq_getElem?_getD, List.getD_eq_getElem?_getD, List.getElem?_append_left hj]
end Go.Proofs.YtjmfnakplmmpnaaDoor
