import Derived.Test.YtlhcdfennipikaaDkQ
import Derived.Test.YtlhcdfennipikaaWrP
/-! A log's file, and what a crash leaves of it: plain. -/
namespace Go.Proofs.Ytlhcdfennipikaa
open Go.Sl
set_option linter.unusedVariables false
set_option linter.unusedSimpArgs false

theorem openB_len {b x r : Bs} (h : openB b = some (x, r)) : r.length < b.length := by
  unfold openB at h
  by_cases h1 : b.length < 8
  · rw [if_pos h1] at h; cases h
  rw [if_neg h1] at h
  by_cases h2 : 4096 < of4 b ∨ b.length - 8 < of4 b
  · rw [if_pos h2] at h; cases h
  rw [if_neg h2] at h
  by_cases h3 : of4 (b.drop 4) ≠ crc (b.take 4 ++ (b.drop 8).take (of4 b))
  · rw [if_pos h3] at h; cases h
  rw [if_neg h3] at h
  injection h with h
  injection h with _ h
  rw [← h, List.length_drop]; omega
/-- The frames with which bytes begin, and what stands behind them. -/
def decF (b : Bs) : List Bs × Bs := match h : openB b with
  | none => ([], b)
  | some (x, r) => (x :: (decF r).1, (decF r).2)
termination_by b.length
decreasing_by all_goals exact openB_len h
theorem decF_none {b : Bs} (h : openB b = none) : decF b = ([], b) := by
  rw [decF]; split
  · rfl
  · rename_i h2; rw [h] at h2; cases h2
theorem decF_some {b x r : Bs} (h : openB b = some (x, r)) : decF b = (x :: (decF r).1, (decF r).2) := by
  rw [decF]; split
  · rename_i h2; rw [h] at h2; cases h2
  · rename_i h2; rw [h] at h2; injection h2 with h2; injection h2 with e1 e2; subst e1; subst e2; rfl
def Small (ps : List Bs) : Prop := ∀ p ∈ ps, List.length p ≤ 4096
theorem decF_frames : ∀ {ps : List Bs} {q : Bs}, Small ps → openB q = none → decF (ps.flatMap frameB ++ q) = (ps, q)
  | [], q, _, h => decF_none h
  | p :: ps, q, hs, h => by
    have e : (p :: ps).flatMap frameB ++ q = frameB p ++ (ps.flatMap frameB ++ q) := by rw [List.flatMap_cons, List.append_assoc]
    rw [e, decF_some (open_frame _ (hs p (List.mem_cons_self ..))), decF_frames (fun x hx => hs x (List.mem_cons_of_mem _ hx)) h]
theorem openB_nil : openB [] = none := rfl
/-! A cut, with the last byte turned or not. -/
def turnL (b : Bs) : Bs := b.set (b.length - 1) (255 - gd b (b.length - 1))
theorem turnL_len (b : Bs) : (turnL b).length = b.length := by unfold turnL; simp
def cutB (f : Bool) (b : Bs) : Bs := if f = true ∧ 0 < b.length then turnL b else b
theorem cutB_len (f : Bool) (b : Bs) : (cutB f b).length = b.length := by unfold cutB; split <;> simp [turnL_len]
theorem ne255 (x : UInt8) : 255 - x ≠ x := by
  intro h
  have h1 := congrArg UInt8.toNat h
  rw [sub255] at h1
  have := x.toNat_lt
  omega
theorem gd_turnL {b : Bs} {i : Nat} (h : i ≠ b.length - 1) : gd (turnL b) i = gd b i := gd_set_ne h
theorem of4_congr {a b : Bs} (h : ∀ i, i < 4 → gd a i = gd b i) : of4 a = of4 b := by
  unfold of4; rw [h 0 (by omega), h 1 (by omega), h 2 (by omega), h 3 (by omega)]
theorem of4_frame (x r : Bs) (h : x.length ≤ 4096) : of4 (frameB x ++ r) = x.length := by
  have e0 : frameB x ++ r = four x.length ++ (four (crc (four x.length ++ x)) ++ (x ++ r)) := by unfold frameB; simp
  rw [e0]; exact of4_four _ (by omega)
/-- A part of a frame is none, whatever its last byte. -/
theorem torn {x : Bs} (hx : x.length ≤ 4096) (t : Nat) (ht : t ≤ (frameB x).length) (f : Bool) (hf : t < (frameB x).length ∨ f = true) : openB (cutB f ((frameB x).take t)) = none := by
  have hl := frameB_len x
  have htl : ((frameB x).take t).length = t := by rw [List.length_take]; omega
  have hcl := cutB_len f ((frameB x).take t)
  unfold openB
  rw [hcl, htl]
  by_cases h8 : t < 8
  · rw [if_pos h8]
  rw [if_neg h8]
  have hbytes : ∀ i, i < t - 1 → gd (cutB f ((frameB x).take t)) i = gd (frameB x) i := by
    intro i hi
    have h1 : gd ((frameB x).take t) i = gd (frameB x) i := gd_take_lt (by omega)
    unfold cutB
    split
    · rw [gd_turnL (by rw [htl]; omega), h1]
    · exact h1
  have hn : of4 (cutB f ((frameB x).take t)) = x.length := by
    rw [of4_congr (b := frameB x) (fun i hi => hbytes i (by omega))]
    have := of4_frame x [] hx
    rwa [List.append_nil] at this
  rw [hn]
  by_cases hlt : t < (frameB x).length
  · rw [if_pos (.inr (by omega))]
  have hte : t = x.length + 8 := by omega
  have hft : f = true := by rcases hf with h | h; exact absurd h hlt; exact h
  have hfull : (frameB x).take t = frameB x := List.take_of_length_le (by omega)
  rw [hfull] at hbytes ⊢
  have hc : cutB f (frameB x) = turnL (frameB x) := by unfold cutB; rw [if_pos ⟨hft, by omega⟩]
  rw [hc] at hbytes ⊢
  rw [if_neg (by omega)]
  have htlen := turnL_len (frameB x)
  have hlast : gd (turnL (frameB x)) (x.length + 7) = 255 - gd (frameB x) (x.length + 7) := by
    unfold turnL
    rw [hl, show x.length + 8 - 1 = x.length + 7 by omega, gd_set_self (by omega)]
  have e4 : (turnL (frameB x)).take 4 = four x.length := by
    refine gd_ext (by rw [List.length_take, htlen]; show min 4 _ = 4; omega) (fun k hk => ?_)
    rw [List.length_take, htlen] at hk
    rw [gd_take_lt (by omega), hbytes k (by omega)]
    unfold frameB
    rw [gd_app_left (by show k < 4; omega)]
  rw [e4]
  rw [if_pos]
  intro heq
  cases hxs : x with
  | nil =>
    subst hxs
    have h0 : ((turnL (frameB [])).drop 8).take ([] : Bs).length = [] := rfl
    rw [h0, List.append_nil] at heq
    have hd : of4 ((turnL (frameB [])).drop 4) = (gd (frameB []) 4).toNat + 256 * (gd (frameB []) 5).toNat + 65536 * (gd (frameB []) 6).toNat + 16777216 * (255 - gd (frameB []) 7).toNat := by
      unfold of4
      rw [gd_drop_add, gd_drop_add, gd_drop_add, gd_drop_add, hbytes 4 (by omega), hbytes 5 (by omega), hbytes 6 (by omega), show gd (turnL (frameB [])) (4 + 3) = 255 - gd (frameB []) 7 from hlast]
    have hd2 : of4 ((frameB []).drop 4) = (gd (frameB []) 4).toNat + 256 * (gd (frameB []) 5).toNat + 65536 * (gd (frameB []) 6).toNat + 16777216 * (gd (frameB []) 7).toNat := by
      unfold of4
      rw [gd_drop_add, gd_drop_add, gd_drop_add, gd_drop_add]
    have hd3 : of4 ((frameB []).drop 4) = crc (four 0) := by
      have e : (frameB []).drop 4 = four (crc (four 0)) ++ [] := by rfl
      rw [e]; exact of4_four _ (crc_lt _)
    have hz : four ([] : Bs).length = four 0 := rfl
    rw [hz, ← hd3, hd2, hd] at heq
    have : (255 - gd (frameB []) 7).toNat = (gd (frameB []) 7).toNat := by omega
    exact ne255 _ (UInt8.toNat_inj.1 this)
  | cons y0 ys =>
    have hpos : 0 < x.length := by rw [hxs]; simp
    have hd : of4 ((turnL (frameB x)).drop 4) = crc (four x.length ++ x) := by
      have e1 : of4 ((turnL (frameB x)).drop 4) = of4 ((frameB x).drop 4) := of4_congr (fun i hi => by rw [gd_drop_add, gd_drop_add, hbytes (4 + i) (by omega)])
      rw [e1]
      have e : (frameB x).drop 4 = four (crc (four x.length ++ x)) ++ x := rfl
      rw [e]; exact of4_four _ (crc_lt _)
    have hb : ((turnL (frameB x)).drop 8).take x.length = x.set (x.length - 1) (255 - gd x (x.length - 1)) := by
      refine gd_ext (by rw [List.length_take, List.length_drop, htlen, List.length_set]; omega) (fun k hk => ?_)
      rw [List.length_take, List.length_drop, htlen] at hk
      have hx8 : gd (frameB x) (8 + k) = gd x k := by
        have e : (frameB x).drop 8 = x := rfl
        rw [← gd_drop_add, e]
      rw [gd_take_lt (by omega), gd_drop_add]
      by_cases hk2 : k = x.length - 1
      · subst hk2
        rw [show 8 + (x.length - 1) = x.length + 7 by omega, hlast, gd_set_self (by omega), ← hx8, show 8 + (x.length - 1) = x.length + 7 by omega]
      · rw [hbytes (8 + k) (by omega), hx8, gd_set_ne hk2]
    have e4' : (turnL (frameB x)).take 4 = four x.length := e4
    rw [hd, hb] at heq
    have hsplit : ∀ v : UInt8, x.set (x.length - 1) v = x.take (x.length - 1) ++ v :: [] := by
      intro v
      rw [List.set_eq_take_append_cons_drop, if_pos (by omega), List.drop_of_length_le (by omega)]
    have hxe : x = x.take (x.length - 1) ++ gd x (x.length - 1) :: [] := by
      have := gd_take (l := x) (i := x.length - 1) (by omega)
      rw [show x.length - 1 + 1 = x.length by omega, List.take_length] at this
      exact this
    rw [hsplit] at heq
    conv at heq => lhs; rw [hxe]
    rw [← List.append_assoc, ← List.append_assoc] at heq
    have hlen2 : (x.take (x.length - 1) ++ [gd x (x.length - 1)]).length = x.length := by rw [← hxe]
    rw [hlen2] at heq
    exact ne255 _ (crc_turn heq).symm
abbrev fr (ps : List Bs) : Bs := ps.flatMap frameB
theorem cutB_app (f : Bool) (a : Bs) {b : Bs} (h : 0 < b.length) : cutB f (a ++ b) = a ++ cutB f b := by
  unfold cutB
  rw [List.length_append]
  cases f with
  | false => rw [if_neg (by simp), if_neg (by simp)]
  | true =>
    rw [if_pos ⟨rfl, by omega⟩, if_pos ⟨rfl, h⟩]
    unfold turnL
    rw [List.length_append]
    have e1 : gd (a ++ b) (a.length + b.length - 1) = gd b (b.length - 1) := by
      rw [gd_app_right (by omega), show a.length + b.length - 1 - a.length = b.length - 1 by omega]
    rw [e1, List.set_append_right _ _ (by omega), show a.length + b.length - 1 - a.length = b.length - 1 by omega]
theorem cutB_false (b : Bs) : cutB false b = b := by unfold cutB; rw [if_neg (by simp)]
theorem cutB_nil (f : Bool) : cutB f [] = [] := by unfold cutB; rw [if_neg (by simp)]
/-- What is left of frames that are cut. -/
theorem cut_frames (f : Bool) : ∀ {ps : List Bs}, Small ps → ∀ t, t ≤ (fr ps).length → ∃ m q, m ≤ ps.length ∧ cutB f ((fr ps).take t) = fr (ps.take m) ++ q ∧ openB q = none
  | [], _, t, _ => ⟨0, [], Nat.le_refl _, by
      have e : (fr ([] : List Bs)).take t = [] := by cases t <;> rfl
      rw [e, cutB_nil]; rfl, openB_nil⟩
  | p :: ps, hs, t, ht => by
    have hp := hs p (List.mem_cons_self ..)
    have e0 : fr (p :: ps) = frameB p ++ fr ps := List.flatMap_cons ..
    have hl := frameB_len p
    rw [e0] at ht ⊢
    rw [List.length_append] at ht
    by_cases h1 : t < (frameB p).length
    · refine ⟨0, cutB f ((frameB p).take t), Nat.zero_le _, ?_, torn hp t (by omega) f (.inl h1)⟩
      rw [List.take_append_of_le_length (by omega)]; rfl
    by_cases h2 : t = (frameB p).length
    · have e1 : (frameB p ++ fr ps).take t = frameB p := by rw [h2, List.take_left]
      rw [e1]
      cases f with
      | true =>
        refine ⟨0, cutB true (frameB p), Nat.zero_le _, rfl, ?_⟩
        have := torn hp t (by omega) true (.inr rfl)
        rwa [h2, List.take_length] at this
      | false =>
        refine ⟨1, [], by simp, ?_, openB_nil⟩
        rw [cutB_false, List.append_nil]
        show frameB p = fr [p]
        simp [fr]
    · have e1 : (frameB p ++ fr ps).take t = frameB p ++ (fr ps).take (t - (frameB p).length) := by
        rw [List.take_append, List.take_of_length_le (by omega)]
      obtain ⟨m, q, hm, e2, hq⟩ := cut_frames f (ps := ps) (fun x hx => hs x (List.mem_cons_of_mem _ hx)) (t - (frameB p).length) (by omega)
      refine ⟨m + 1, q, by simp; omega, ?_, hq⟩
      rw [e1, cutB_app f _ (by rw [List.length_take]; omega), e2, List.take_succ_cons]
      have e3 : fr (p :: ps.take m) = frameB p ++ fr (ps.take m) := List.flatMap_cons ..
      rw [e3, List.append_assoc]
theorem rs1_cut (c : UInt8) (a b : Bs) : rs1 c (a ++ b) a.length = a ++ cutB (decide (128 ≤ c.toNat)) (b.take (c.toNat % (b.length + 1))) := by
  have hl : (a ++ b).length - a.length = b.length := by rw [List.length_append]; omega
  unfold rs1
  rw [hl]
  have hk := Nat.mod_lt c.toNat (y := b.length + 1) (by omega)
  generalize c.toNat % (b.length + 1) = k at hk ⊢
  have ht : (a ++ b).take (a.length + k) = a ++ b.take k := by rw [List.take_append, List.take_of_length_le (by omega)]; congr 2; omega
  have htl : (b.take k).length = k := by rw [List.length_take]; omega
  unfold cutB
  rw [htl, ht]
  by_cases h1 : 128 ≤ c.toNat
  · rw [decide_eq_true h1]
    by_cases h2 : 0 < k
    · rw [if_pos ⟨h1, h2⟩, if_pos ⟨rfl, h2⟩]
      unfold turnL
      rw [htl]
      have e1 : gd (a ++ b) (a.length + k - 1) = gd (b.take k) (k - 1) := by
        rw [gd_app_right (by omega), gd_take_lt (by omega), show a.length + k - 1 - a.length = k - 1 by omega]
      rw [e1, List.set_append_right _ _ (by omega), show a.length + k - 1 - a.length = k - 1 by omega]
    · rw [if_neg (fun h => h2 h.2), if_neg (fun h => h2 h.2)]
  · rw [decide_eq_false h1, if_neg (fun h => h1 h.1), if_neg (by simp)]
theorem fr_split (ps : List Bs) (j : Nat) : fr ps = fr (ps.take j) ++ fr (ps.drop j) := by
  unfold fr; rw [← List.flatMap_append, List.take_append_drop]
/-- A LOG's FILE BEHIND A CRASH: the first so many frames, no fewer than were synced, and a rest that is none. -/
theorem log_cut {ps : List Bs} (hs : Small ps) (j : Nat) (hj : j ≤ ps.length) (c : UInt8) :
    ∃ m q, j ≤ m ∧ m ≤ ps.length ∧ rs1 c (fr ps) (fr (ps.take j)).length = fr (ps.take m) ++ q ∧ openB q = none := by
  have hk := Nat.mod_lt c.toNat (y := (fr (ps.drop j)).length + 1) (by omega)
  obtain ⟨m, q, hm, e, hq⟩ := cut_frames (decide (128 ≤ c.toNat)) (ps := ps.drop j) (fun x hx => hs x (List.mem_of_mem_drop hx)) (c.toNat % ((fr (ps.drop j)).length + 1)) (by omega)
  rw [List.length_drop] at hm
  refine ⟨j + m, q, by omega, by omega, ?_, hq⟩
  conv => lhs; rw [fr_split ps j]
  rw [rs1_cut, e, List.take_add]
  show fr (ps.take j) ++ (fr ((ps.drop j).take m) ++ q) = fr (ps.take j ++ (ps.drop j).take m) ++ q
  rw [← List.append_assoc]
  congr 1
  unfold fr
  rw [List.flatMap_append]
end Go.Proofs.Ytlhcdfennipikaa
