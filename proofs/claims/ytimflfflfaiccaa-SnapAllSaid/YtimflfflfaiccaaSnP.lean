import Derived.Test.YtimflfflfaiccaaDkQ
import Derived.Test.YtimflfflfaiccaaDk4
import Derived.Test.YtimflfflfaiccaaWrP
/-! Checkpoints: plain. -/
namespace Go.Proofs.Ytimflfflfaiccaa
open Go.Sl
set_option linter.unusedVariables false
set_option linter.unusedSimpArgs false

abbrev nS : ByteArray := ⟨#[115, 110, 97, 112]⟩
abbrev nSn : ByteArray := ⟨#[115, 110, 97, 112, 46, 110, 101, 119]⟩
def headB (n : Nat) (k : Nat) : Bs := seven n ++ seven k
def wrB (n : Nat) (ps : List Bs) : Bs := frameB (headB n ps.length) ++ ps.flatMap frameB
def sumB (ps : List Bs) : Nat := (ps.map List.length).sum
def fitC (n : Int) (ps : List Bs) : Int := if n < 0 ∨ n > 4611686018427387904 then 2 else if ∃ p ∈ ps, 4096 < List.length p then 1 else if 524288 < sumB ps ∨ 16384 < ps.length then 6 else 0
instance {ps : List Bs} : Decidable (∃ p ∈ ps, 4096 < List.length p) := inferInstance
theorem flat_frames : ∀ (ps : List Bs), (ps.flatMap frameB).length = sumB ps + 8 * ps.length
  | [] => rfl
  | p :: ps => by
    have := flat_frames ps
    unfold sumB at *
    rw [List.flatMap_cons, List.length_append, frameB_len, this, List.map_cons, List.sum_cons, List.length_cons]; omega
structure Fit0 (n : Int) (ps : List Bs) : Prop where
  n0 : 0 ≤ n
  n1 : n ≤ 4611686018427387904
  long : ∀ p ∈ ps, List.length p ≤ 4096
  sum : sumB ps ≤ 524288
  cnt : ps.length ≤ 16384
theorem fit0 {n : Int} {ps : List Bs} (h : fitC n ps = 0) : Fit0 n ps := by
  unfold fitC at h
  by_cases h1 : n < 0 ∨ n > 4611686018427387904
  · rw [if_pos h1] at h; cases h
  rw [if_neg h1] at h
  by_cases h2 : ∃ p ∈ ps, 4096 < List.length p
  · rw [if_pos h2] at h; cases h
  rw [if_neg h2] at h
  by_cases h3 : 524288 < sumB ps ∨ 16384 < ps.length
  · rw [if_pos h3] at h; cases h
  exact ⟨by omega, by omega, fun p hp => by
    rcases Nat.lt_or_ge 4096 p.length with q | q
    · exact absurd ⟨p, hp, q⟩ h2
    · exact q, by omega, by omega⟩
theorem wrB_len {n : Int} {ps : List Bs} (h : Fit0 n ps) : (wrB n.toNat ps).length ≤ 700000 := by
  have h1 := seven_len (n := n.toNat) (by have := h.n1; omega)
  have h2 := seven_len (n := ps.length) (by have := h.cnt; omega)
  unfold wrB headB
  rw [List.length_append, frameB_len, flat_frames, List.length_append]
  have := h.sum; have := h.cnt
  omega
/-! What Save does to a disk. -/
def svS (S : DS) (n : Int) (ps : List Bs) : Int × DS :=
  if S.down = true then (11, S) else if fitC n ps ≠ 0 then (fitC n ps, S) else
  let r1 := goI S (rmC S.F nSn) (delF S.F nSn)
  if r1.1 = 11 then (11, r1.2) else
  let r2 := goI r1.2 (apC r1.2.F nSn (wrB n.toNat ps)) (apF r1.2.F nSn (wrB n.toNat ps))
  if r2.1 ≠ 0 then r2 else
  let r3 := goI r2.2 (syC r2.2.F nSn) (syF r2.2.F nSn)
  if r3.1 ≠ 0 then r3 else goI r3.2 (reC r3.2.F nSn nS) (reF r3.2.F nSn nS)
/-- The files but those of a checkpoint. -/
def othF (F : Fs) : Fs := delF (delF F nSn) nS
/-- The disk's checkpoint is w, synced; all other files are O. -/
structure SInv (S : DS) (w : Option (Int × List Bs)) (O : Fs) : Prop where
  snap : getL S.F nS = w.map (fun x => (wrB x.1.toNat x.2, (wrB x.1.toNat x.2).length))
  oth : othF S.F = O
  few : O.length ≤ 60
  srt : srt S.F
theorem delF_comm (F : Fs) (n m : ByteArray) : delF (delF F n) m = delF (delF F m) n := by
  unfold delF; rw [List.filter_filter, List.filter_filter]; exact List.filter_congr (fun x _ => Bool.and_comm _ _)
theorem delF_twice (F : Fs) (n : ByteArray) : delF (delF F n) n = delF F n := delF_none (fun p hp => (delF_mem.1 hp).2)
theorem delF_put {F : Fs} (h : srt F) (n : ByteArray) (x : Bs × Nat) : delF (putF F n x) n = delF F n := by
  induction F with
  | nil => simp [putF, delF]
  | cons p F ih =>
    obtain ⟨h1, h2⟩ := List.pairwise_cons.1 h
    unfold putF
    split
    · rename_i e
      unfold delF
      rw [List.filter_cons_of_neg (by simp), List.filter_cons_of_neg (by simpa using e)]
    · rename_i e
      split
      · unfold delF
        rw [List.filter_cons_of_neg (by simp)]
      · have := ih h2
        unfold delF at this ⊢
        rw [List.filter_cons, this, List.filter_cons]
theorem oth_del (F : Fs) : othF (delF F nSn) = othF F := by unfold othF; rw [delF_twice]
theorem oth_put {F : Fs} (h : srt F) (x : Bs × Nat) : othF (putF F nSn x) = othF F := by unfold othF; rw [delF_put h]
theorem oth_ren {F : Fs} (h : srt F) (x : Bs × Nat) : othF (putF (delF F nSn) nS x) = othF F := by
  unfold othF
  rw [delF_comm, delF_put (delF_srt h _), delF_comm, delF_twice]
theorem len_del (F : Fs) (n : ByteArray) (h : srt F) : F.length ≤ (delF F n).length + 1 := by
  cases e : getL F n with
  | none => rw [delF_none (getL_none.1 e)]; omega
  | some x => have := delF_len h e; omega
theorem SInv.len {S : DS} {w : Option (Int × List Bs)} {O : Fs} (h : SInv S w O) : S.F.length ≤ 62 := by
  have h1 := len_del S.F nSn h.srt
  have h2 := len_del (delF S.F nSn) nS (delF_srt h.srt _)
  have h3 := h.few
  rw [← h.oth] at h3
  unfold othF at h3
  omega
theorem SInv.same {S S' : DS} {w : Option (Int × List Bs)} {O : Fs} (h : SInv S w O) (e : S'.F = S.F) : SInv S' w O := ⟨by rw [e]; exact h.snap, by rw [e]; exact h.oth, h.few, by rw [e]; exact h.srt⟩
theorem nS_ne : (nS : ByteArray) ≠ nSn := by decide
/-- What a step with the file that is being made leaves. -/
theorem SInv.rm {S : DS} {w : Option (Int × List Bs)} {O : Fs} (h : SInv S w O) : ∀ {S' : DS}, S'.F = delF S.F nSn → SInv S' w O := fun e =>
  ⟨by rw [e, getL_del h.srt, if_neg nS_ne]; exact h.snap, by rw [e, oth_del]; exact h.oth, h.few, by rw [e]; exact delF_srt h.srt _⟩
theorem SInv.put {S : DS} {w : Option (Int × List Bs)} {O : Fs} (h : SInv S w O) (x : Bs × Nat) : ∀ {S' : DS}, S'.F = putF S.F nSn x → SInv S' w O := fun e =>
  ⟨by rw [e, getL_put h.srt, if_neg nS_ne]; exact h.snap, by rw [e, oth_put h.srt]; exact h.oth, h.few, by rw [e]; exact putF_srt h.srt _ _⟩
/-- An operation that has no error of its own: done, or lost. -/
theorem go0 (S : DS) (F : Fs) (hd : S.down = false) : (goI S 0 F).1 = 0 ∧ (goI S 0 F).2.F = F ∧ (goI S 0 F).2.down = false ∧ (S.left = 0 → (goI S 0 F).2.left = 0) ∧ (S.left = 0 ∨ (goI S 0 F).2.left + 1 = S.left) ∨ (S.left = 1 ∧ (goI S 0 F).1 = 11 ∧ (goI S 0 F).2.F = S.F ∧ (goI S 0 F).2.down = true) := by
  obtain ⟨G, l, d⟩ := S
  dsimp only at hd
  subst hd
  by_cases h : l = 1
  · subst h; right; rw [goI_lost rfl]; exact ⟨rfl, rfl, rfl, rfl⟩
  · left; rw [goI_ok h rfl]; exact ⟨rfl, rfl, rfl, fun h => by dsimp only at h ⊢; omega, by dsimp only; omega⟩
theorem goC (S : DS) (c : Int) (F : Fs) (hd : S.down = false) (hc : c ≠ 0) : goI S c F = (c, S) := by
  obtain ⟨G, l, d⟩ := S
  dsimp only at hd
  subst hd
  exact goI_err hc
/-- SAVE: what is answered, and what is there behind it. -/
theorem sv_spec {S : DS} {w : Option (Int × List Bs)} {O : Fs} (h : SInv S w O) (n : Int) (ps : List Bs) :
    (S.down = true → svS S n ps = (11, S)) ∧ (S.down = false → fitC n ps ≠ 0 → svS S n ps = (fitC n ps, S)) ∧
    (S.down = false → fitC n ps = 0 → ((svS S n ps).1 = 0 ∧ SInv (svS S n ps).2 (some (n, ps)) O ∧ (svS S n ps).2.down = false ∧ (S.left = 0 → (svS S n ps).2.left = 0)) ∨ ((svS S n ps).1 = 11 ∧ SInv (svS S n ps).2 w O ∧ (svS S n ps).2.down = true ∧ S.left ≠ 0)) := by
  refine ⟨fun hd => by unfold svS; rw [if_pos hd], fun hd hf => by unfold svS; rw [if_neg (by rw [hd]; simp), if_pos hf], fun hd hf => ?_⟩
  have hfit := fit0 hf
  have hwl := wrB_len hfit
  have e0 : svS S n ps = (
    let r1 := goI S (rmC S.F nSn) (delF S.F nSn)
    if r1.1 = 11 then (11, r1.2) else
    let r2 := goI r1.2 (apC r1.2.F nSn (wrB n.toNat ps)) (apF r1.2.F nSn (wrB n.toNat ps))
    if r2.1 ≠ 0 then r2 else
    let r3 := goI r2.2 (syC r2.2.F nSn) (syF r2.2.F nSn)
    if r3.1 ≠ 0 then r3 else goI r3.2 (reC r3.2.F nSn nS) (reF r3.2.F nSn nS)) := by
    unfold svS; rw [if_neg (by rw [hd]; simp), if_neg (by simpa using hf)]
  rw [e0]
  dsimp only
  generalize hW : wrB n.toNat ps = W at *
  -- Remove
  have s1 : ((goI S (rmC S.F nSn) (delF S.F nSn)).1 ≠ 11 ∧ SInv (goI S (rmC S.F nSn) (delF S.F nSn)).2 w O ∧ (goI S (rmC S.F nSn) (delF S.F nSn)).2.down = false ∧ getL (goI S (rmC S.F nSn) (delF S.F nSn)).2.F nSn = none ∧ (S.left = 0 → (goI S (rmC S.F nSn) (delF S.F nSn)).2.left = 0)) ∨
      ((goI S (rmC S.F nSn) (delF S.F nSn)).1 = 11 ∧ SInv (goI S (rmC S.F nSn) (delF S.F nSn)).2 w O ∧ (goI S (rmC S.F nSn) (delF S.F nSn)).2.down = true ∧ S.left ≠ 0) := by
    unfold rmC
    cases e : getL S.F nSn with
    | none =>
      left
      dsimp only
      rw [goC S 3 _ hd (by decide)]
      exact ⟨by show (3 : Int) ≠ 11; decide, h, hd, e, fun h => h⟩
    | some x =>
      dsimp only
      rcases go0 S (delF S.F nSn) hd with ⟨q1, q2, q3, q4, _⟩ | ⟨q0, q1, q2, q3⟩
      · left
        exact ⟨by rw [q1]; decide, h.rm q2, q3, by rw [q2, getL_del h.srt, if_pos rfl], q4⟩
      · right
        exact ⟨q1, h.same q2, q3, by omega⟩
  rcases s1 with ⟨a1, a2, a3, a4, a5⟩ | ⟨a1, a2, a3, a4⟩
  · rw [if_neg a1]
    generalize (goI S (rmC S.F nSn) (delF S.F nSn)).2 = S1 at a2 a3 a4 a5 ⊢
    have hc : apC S1.F nSn W = 0 := by
      unfold apC
      rw [if_pos (by decide), a4]
      dsimp only
      have := a2.len
      rw [if_neg (by omega), if_neg (by omega)]
    have hF : apF S1.F nSn W = putF S1.F nSn (W, 0) := by unfold apF; rw [a4]
    rw [hc, hF]
    rcases go0 S1 (putF S1.F nSn (W, 0)) a3 with ⟨q1, q2, q3, q4, _⟩ | ⟨q0, q1, q2, q3⟩
    · rw [if_neg (by rw [q1]; simp)]
      have b2 := a2.put (W, 0) q2
      have b4 : getL (goI S1 0 (putF S1.F nSn (W, 0))).2.F nSn = some (W, 0) := by rw [q2, getL_put a2.srt, if_pos rfl]
      generalize (goI S1 0 (putF S1.F nSn (W, 0))).2 = S2 at b2 b4 q3 q4 ⊢
      have hc2 : syC S2.F nSn = 0 := by unfold syC; rw [b4]
      have hF2 : syF S2.F nSn = putF S2.F nSn (W, W.length) := by unfold syF; rw [b4]
      rw [hc2, hF2]
      rcases go0 S2 (putF S2.F nSn (W, W.length)) q3 with ⟨r1, r2, r3, r4, _⟩ | ⟨r0, r1, r2, r3⟩
      · rw [if_neg (by rw [r1]; simp)]
        have c2 := b2.put (W, W.length) r2
        have c4 : getL (goI S2 0 (putF S2.F nSn (W, W.length))).2.F nSn = some (W, W.length) := by rw [r2, getL_put b2.srt, if_pos rfl]
        generalize (goI S2 0 (putF S2.F nSn (W, W.length))).2 = S3 at c2 c4 r3 r4 ⊢
        have hc3 : reC S3.F nSn nS = 0 := by unfold reC; rw [c4]; rfl
        have hF3 : reF S3.F nSn nS = putF (delF S3.F nSn) nS (W, W.length) := by unfold reF; rw [c4]
        rw [hc3, hF3]
        rcases go0 S3 (putF (delF S3.F nSn) nS (W, W.length)) r3 with ⟨t1, t2, t3, t4, _⟩ | ⟨t0, t1, t2, t3⟩
        · left
          refine ⟨t1, ⟨?_, by rw [t2, oth_ren c2.srt]; exact c2.oth, h.few, by rw [t2]; exact putF_srt (delF_srt c2.srt _) _ _⟩, t3, fun h0 => t4 (r4 (q4 (a5 h0)))⟩
          rw [t2, getL_put (delF_srt c2.srt _), if_pos rfl]
          simp only [Option.map_some]
          rw [hW]
        · right
          exact ⟨t1, c2.same t2, t3, fun h0 => by have := r4 (q4 (a5 h0)); omega⟩
      · rw [if_pos (by rw [r1]; decide)]
        right
        exact ⟨r1, b2.same r2, r3, fun h0 => by have := q4 (a5 h0); omega⟩
    · rw [if_pos (by rw [q1]; decide)]
      right
      exact ⟨q1, a2.same q2, q3, fun h0 => by have := a5 h0; omega⟩
  · rw [if_pos a1]
    right
    exact ⟨rfl, a2, a3, a4⟩
/-! A crash. -/
theorem rsL_get {n : ByteArray} {b : Bs} : ∀ {F : Fs} (ch : Bs), getL F n = some (b, b.length) → getL (rsL F ch) n = some (b, b.length)
  | [], _, h => by cases h
  | (m, c, s) :: F, ch, h => by
    unfold getL at h
    by_cases e : m = n
    · rw [if_pos e] at h
      injection h with h
      injection h with h1 h2
      subst h1; subst h2
      rw [rsL, if_pos rfl, getL, if_pos e]
    · rw [if_neg e] at h
      rw [rsL]
      split
      · rw [getL, if_neg e]; exact rsL_get ch h
      · rw [getL, if_neg e]; exact rsL_get _ h
theorem rsL_none {n : ByteArray} {F : Fs} (ch : Bs) (h : getL F n = none) : getL (rsL F ch) n = none := by
  rw [getL_none] at h ⊢
  intro p hp e
  have h1 : p.1 ∈ (rsL F ch).map (·.1) := List.mem_map.2 ⟨p, hp, rfl⟩
  rw [rsL_names] at h1
  obtain ⟨q, hq, e2⟩ := List.mem_map.1 h1
  exact h q hq (e2.trans e)
theorem rsL_srt {F : Fs} (ch : Bs) (h : srt F) : srt (rsL F ch) := by
  have h1 : (F.map (·.1)).Pairwise (fun a b => ltS a b = true) := by rw [List.pairwise_map]; exact h
  rw [← rsL_names F ch, List.pairwise_map] at h1
  exact h1
theorem oth_names (F : Fs) : (othF F).map (·.1) = (F.map (·.1)).filter (fun n => decide (n ≠ nS) && decide (n ≠ nSn)) := by
  unfold othF delF
  rw [List.filter_filter]
  induction F with
  | nil => rfl
  | cons p F ih =>
    rw [List.filter_cons, List.map_cons, List.filter_cons]
    split
    · rw [List.map_cons, ih]
    · rw [ih]
theorem SInv.restart {S : DS} {w : Option (Int × List Bs)} {O : Fs} (h : SInv S w O) (ch : Bs) : SInv (rsS S ch) w (othF (rsL S.F ch)) := by
  have hn : (othF (rsL S.F ch)).map (·.1) = O.map (·.1) := by rw [oth_names, rsL_names, ← oth_names, h.oth]
  refine ⟨?_, rfl, ?_, rsL_srt ch h.srt⟩
  · have h1 := h.snap
    show getL (rsL S.F ch) nS = _
    cases w with
    | none => exact rsL_none ch h1
    | some x => exact rsL_get ch h1
  · have := congrArg List.length hn
    rw [List.length_map, List.length_map] at this
    rw [this]; exact h.few
theorem SInv.restart0 {S : DS} {w : Option (Int × List Bs)} (h : SInv S w []) (ch : Bs) : SInv (rsS S ch) w [] := by
  have h1 := h.restart ch
  have h2 : (othF (rsL S.F ch)).map (·.1) = [] := by rw [oth_names, rsL_names, ← oth_names, h.oth]; rfl
  rw [List.map_eq_nil_iff.1 h2] at h1
  exact h1
theorem SInv.init : SInv ⟨[], 0, false⟩ none [] := ⟨rfl, rfl, Nat.zero_le _, List.Pairwise.nil⟩
/-! What Load reads. -/
theorem SInv.read {S : DS} {w : Option (Int × List Bs)} {O : Fs} (h : SInv S w O) : rdA S nS = if S.down = true then (([] : Bs), (11 : Int)) else match w with | none => (([] : Bs), (3 : Int)) | some x => (wrB x.1.toNat x.2, (0 : Int)) := by
  unfold rdA rdB rdC
  rw [h.snap]
  cases w with
  | none => rfl
  | some x => rfl
theorem wrB_open {n : Nat} {ps : List Bs} (hn : n < 9223372036854775808) (hk : ps.length < 9223372036854775808) : openB (wrB n ps) = some (headB n ps.length, ps.flatMap frameB) := by
  have h1 := seven_len hn
  have h2 := seven_len hk
  exact open_frame _ (by unfold headB; rw [List.length_append]; omega)
theorem head_read1 {n k : Nat} (hn : n < 9223372036854775808) : rdS (headB n k) = (n, (seven n).length) := rdS_seven n _ hn
theorem head_read2 {n k : Nat} (hk : k < 9223372036854775808) : rdS ((headB n k).drop (seven n).length) = (k, (seven k).length) := by
  unfold headB
  rw [List.drop_left]
  have := rdS_seven k [] hk
  rwa [List.append_nil] at this
theorem frames_open {p : Bs} {ps : List Bs} (h : p.length ≤ 4096) : openB ((p :: ps).flatMap frameB) = some (p, ps.flatMap frameB) := by
  rw [List.flatMap_cons]; exact open_frame _ h
end Go.Proofs.Ytimflfflfaiccaa
