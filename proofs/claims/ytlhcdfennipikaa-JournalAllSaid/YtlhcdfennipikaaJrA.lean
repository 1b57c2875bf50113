import Derived.Test.YtlhcdfennipikaaJrP
import Derived.Test.YtlhcdfennipikaaDk4
/-! A log's calls on a disk: plain. -/
namespace Go.Proofs.Ytlhcdfennipikaa
open Go.Sl
set_option linter.unusedVariables false
set_option linter.unusedSimpArgs false

abbrev nL : ByteArray := ⟨#[108, 111, 103]⟩
abbrev nLn : ByteArray := ⟨#[108, 111, 103, 46, 110, 101, 119]⟩
def hdB (n : Nat) : Bs := 35 :: seven n
abbrev lgP (n : Nat) (rs : List Bs) : List Bs := hdB n :: rs
def lgB (n : Nat) (rs : List Bs) : Bs := fr (lgP n rs)
theorem hdB_len {n : Nat} (h : n < 9223372036854775808) : 2 ≤ (hdB n).length ∧ (hdB n).length ≤ 10 := by
  have := seven_len h
  unfold hdB; rw [List.length_cons]; omega
def sumL (ps : List Bs) : Nat := (ps.map List.length).sum
theorem fr_len : ∀ (ps : List Bs), (fr ps).length = sumL ps + 8 * ps.length
  | [] => rfl
  | p :: ps => by
    have := fr_len ps
    unfold sumL fr at *
    rw [List.flatMap_cons, List.length_append, frameB_len, this, List.map_cons, List.sum_cons, List.length_cons]; omega
theorem fr_app (ps qs : List Bs) : fr (ps ++ qs) = fr ps ++ fr qs := List.flatMap_append ..
theorem fr_one (p : Bs) : fr [p] = frameB p := by simp [fr]
theorem lgB_snoc (n : Nat) (rs : List Bs) (b : Bs) : lgB n (rs ++ [b]) = lgB n rs ++ frameB b := by
  unfold lgB lgP
  rw [← List.cons_append, fr_app, fr_one]
theorem lgB_nil (n : Nat) : lgB n [] = frameB (hdB n) := fr_one _
/-! The files but those of a log. -/
def oth2 (F : Fs) : Fs := delF (delF F nLn) nL
theorem nL_ne : (nL : ByteArray) ≠ nLn := by decide
theorem delF_commJ (F : Fs) (n m : ByteArray) : delF (delF F n) m = delF (delF F m) n := by
  unfold delF; rw [List.filter_filter, List.filter_filter]; exact List.filter_congr (fun x _ => Bool.and_comm _ _)
theorem delF_twiceJ (F : Fs) (n : ByteArray) : delF (delF F n) n = delF F n := delF_none (fun p hp => (delF_mem.1 hp).2)
theorem delF_putJ {F : Fs} (h : srt F) (n : ByteArray) (x : Bs × Nat) : delF (putF F n x) n = delF F n := by
  induction F with
  | nil => simp [putF, delF]
  | cons p F ih =>
    obtain ⟨h1, h2⟩ := List.pairwise_cons.1 h
    unfold putF
    split
    · rename_i e
      unfold delF
      rw [List.filter_cons_of_neg (by simp), List.filter_cons_of_neg (by simpa using e)]
    · rename_i e
      split
      · unfold delF
        rw [List.filter_cons_of_neg (by simp)]
      · have := ih h2
        unfold delF at this ⊢
        rw [List.filter_cons, this, List.filter_cons]
theorem oth2_delN (F : Fs) : oth2 (delF F nLn) = oth2 F := by unfold oth2; rw [delF_twiceJ]
theorem oth2_delL (F : Fs) : oth2 (delF F nL) = oth2 F := by unfold oth2; rw [delF_commJ, delF_twiceJ, delF_commJ]
theorem oth2_putN {F : Fs} (h : srt F) (x : Bs × Nat) : oth2 (putF F nLn x) = oth2 F := by unfold oth2; rw [delF_putJ h]
theorem oth2_putL {F : Fs} (h : srt F) (x : Bs × Nat) : oth2 (putF F nL x) = oth2 F := by unfold oth2; rw [delF_commJ, delF_putJ h, delF_commJ]
theorem len_delJ (F : Fs) (n : ByteArray) (h : srt F) : F.length ≤ (delF F n).length + 1 := by
  cases e : getL F n with
  | none => rw [delF_none (getL_none.1 e)]; omega
  | some x => have := delF_len h e; omega
/-- The log's file is x, all others are O. -/
structure DInv (S : DS) (x : Option (Bs × Nat)) (O : Fs) : Prop where
  file : getL S.F nL = x
  oth : oth2 S.F = O
  few : O.length ≤ 60
  srt : srt S.F
theorem DInv.len {S : DS} {x : Option (Bs × Nat)} {O : Fs} (h : DInv S x O) : S.F.length ≤ 62 := by
  have h1 := len_delJ S.F nLn h.srt
  have h2 := len_delJ (delF S.F nLn) nL (delF_srt h.srt _)
  have h3 := h.few
  rw [← h.oth] at h3
  unfold oth2 at h3
  omega
theorem DInv.same {S S' : DS} {x : Option (Bs × Nat)} {O : Fs} (h : DInv S x O) (e : S'.F = S.F) : DInv S' x O := ⟨by rw [e]; exact h.file, by rw [e]; exact h.oth, h.few, by rw [e]; exact h.srt⟩
theorem DInv.rmN {S : DS} {x : Option (Bs × Nat)} {O : Fs} (h : DInv S x O) {S' : DS} (e : S'.F = delF S.F nLn) : DInv S' x O :=
  ⟨by rw [e, getL_del h.srt, if_neg nL_ne]; exact h.file, by rw [e, oth2_delN]; exact h.oth, h.few, by rw [e]; exact delF_srt h.srt _⟩
theorem DInv.putN {S : DS} {x : Option (Bs × Nat)} {O : Fs} (h : DInv S x O) (y : Bs × Nat) {S' : DS} (e : S'.F = putF S.F nLn y) : DInv S' x O :=
  ⟨by rw [e, getL_put h.srt, if_neg nL_ne]; exact h.file, by rw [e, oth2_putN h.srt]; exact h.oth, h.few, by rw [e]; exact putF_srt h.srt _ _⟩
theorem DInv.putL {S : DS} {x : Option (Bs × Nat)} {O : Fs} (h : DInv S x O) (y : Bs × Nat) {S' : DS} (e : S'.F = putF S.F nL y) : DInv S' (some y) O :=
  ⟨by rw [e, getL_put h.srt, if_pos rfl], by rw [e, oth2_putL h.srt]; exact h.oth, h.few, by rw [e]; exact putF_srt h.srt _ _⟩
theorem DInv.rmL {S : DS} {x : Option (Bs × Nat)} {O : Fs} (h : DInv S x O) {S' : DS} (e : S'.F = delF S.F nL) : DInv S' none O :=
  ⟨by rw [e, getL_del h.srt, if_pos rfl], by rw [e, oth2_delL]; exact h.oth, h.few, by rw [e]; exact delF_srt h.srt _⟩
theorem DInv.ren {S : DS} {x : Option (Bs × Nat)} {O : Fs} (h : DInv S x O) (y : Bs × Nat) {S' : DS} (e : S'.F = putF (delF S.F nLn) nL y) : DInv S' (some y) O :=
  (h.rmN (S' := ⟨delF S.F nLn, S.left, S.down⟩) rfl).putL y (S' := S') e
/-- An operation that has no error of its own: done, or lost. -/
theorem goJ (S : DS) (F : Fs) (hd : S.down = false) : ((goI S 0 F).1 = 0 ∧ (goI S 0 F).2.F = F ∧ (goI S 0 F).2.down = false ∧ (S.left = 0 → (goI S 0 F).2.left = 0)) ∨ (S.left = 1 ∧ (goI S 0 F).1 = 11 ∧ (goI S 0 F).2.F = S.F ∧ (goI S 0 F).2.down = true) := by
  obtain ⟨G, l, d⟩ := S
  dsimp only at hd
  subst hd
  by_cases h : l = 1
  · subst h; right; rw [goI_lost rfl]; exact ⟨rfl, rfl, rfl, rfl⟩
  · left; rw [goI_ok h rfl]; exact ⟨rfl, rfl, rfl, fun h => by dsimp only at h ⊢; omega⟩
theorem goE (S : DS) (c : Int) (F : Fs) (hd : S.down = false) (hc : c ≠ 0) : goI S c F = (c, S) := by
  obtain ⟨G, l, d⟩ := S
  dsimp only at hd
  subst hd
  exact goI_err hc
/-! The file made anew. -/
def mkS (S : DS) (W : Bs) : Int × DS :=
  let r1 := goI S (rmC S.F nLn) (delF S.F nLn)
  if r1.1 = 11 then (11, r1.2) else
  let r2 := goI r1.2 (apC r1.2.F nLn W) (apF r1.2.F nLn W)
  if r2.1 ≠ 0 then r2 else
  let r3 := goI r2.2 (syC r2.2.F nLn) (syF r2.2.F nLn)
  if r3.1 ≠ 0 then r3 else goI r3.2 (reC r3.2.F nLn nL) (reF r3.2.F nLn nL)
theorem mk_spec {S : DS} {x : Option (Bs × Nat)} {O : Fs} (h : DInv S x O) (hd : S.down = false) (W : Bs) (hwl : W.length ≤ 1048576) :
    ((mkS S W).1 = 0 ∧ DInv (mkS S W).2 (some (W, W.length)) O ∧ (mkS S W).2.down = false ∧ (S.left = 0 → (mkS S W).2.left = 0)) ∨ ((mkS S W).1 = 11 ∧ DInv (mkS S W).2 x O ∧ (mkS S W).2.down = true ∧ S.left ≠ 0) := by
  unfold mkS
  dsimp only
  have s1 : ((goI S (rmC S.F nLn) (delF S.F nLn)).1 ≠ 11 ∧ DInv (goI S (rmC S.F nLn) (delF S.F nLn)).2 x O ∧ (goI S (rmC S.F nLn) (delF S.F nLn)).2.down = false ∧ getL (goI S (rmC S.F nLn) (delF S.F nLn)).2.F nLn = none ∧ (S.left = 0 → (goI S (rmC S.F nLn) (delF S.F nLn)).2.left = 0)) ∨
      ((goI S (rmC S.F nLn) (delF S.F nLn)).1 = 11 ∧ DInv (goI S (rmC S.F nLn) (delF S.F nLn)).2 x O ∧ (goI S (rmC S.F nLn) (delF S.F nLn)).2.down = true ∧ S.left ≠ 0) := by
    unfold rmC
    cases e : getL S.F nLn with
    | none =>
      left
      dsimp only
      rw [goE S 3 _ hd (by decide)]
      exact ⟨by show (3 : Int) ≠ 11; decide, h, hd, e, fun h => h⟩
    | some y =>
      dsimp only
      rcases goJ S (delF S.F nLn) hd with ⟨q1, q2, q3, q4⟩ | ⟨q0, q1, q2, q3⟩
      · left
        exact ⟨by rw [q1]; decide, h.rmN q2, q3, by rw [q2, getL_del h.srt, if_pos rfl], q4⟩
      · right
        exact ⟨q1, h.same q2, q3, by omega⟩
  rcases s1 with ⟨a1, a2, a3, a4, a5⟩ | ⟨a1, a2, a3, a4⟩
  · rw [if_neg a1]
    generalize (goI S (rmC S.F nLn) (delF S.F nLn)).2 = S1 at a2 a3 a4 a5 ⊢
    have hc : apC S1.F nLn W = 0 := by
      unfold apC
      rw [if_pos (by decide), a4]
      dsimp only
      have := a2.len
      rw [if_neg (by omega), if_neg (by omega)]
    have hF : apF S1.F nLn W = putF S1.F nLn (W, 0) := by unfold apF; rw [a4]
    rw [hc, hF]
    rcases goJ S1 (putF S1.F nLn (W, 0)) a3 with ⟨q1, q2, q3, q4⟩ | ⟨q0, q1, q2, q3⟩
    · rw [if_neg (by rw [q1]; simp)]
      have b2 := a2.putN (W, 0) q2
      have b4 : getL (goI S1 0 (putF S1.F nLn (W, 0))).2.F nLn = some (W, 0) := by rw [q2, getL_put a2.srt, if_pos rfl]
      generalize (goI S1 0 (putF S1.F nLn (W, 0))).2 = S2 at b2 b4 q3 q4 ⊢
      have hc2 : syC S2.F nLn = 0 := by unfold syC; rw [b4]
      have hF2 : syF S2.F nLn = putF S2.F nLn (W, W.length) := by unfold syF; rw [b4]
      rw [hc2, hF2]
      rcases goJ S2 (putF S2.F nLn (W, W.length)) q3 with ⟨r1, r2, r3, r4⟩ | ⟨r0, r1, r2, r3⟩
      · rw [if_neg (by rw [r1]; simp)]
        have c2 := b2.putN (W, W.length) r2
        have c4 : getL (goI S2 0 (putF S2.F nLn (W, W.length))).2.F nLn = some (W, W.length) := by rw [r2, getL_put b2.srt, if_pos rfl]
        generalize (goI S2 0 (putF S2.F nLn (W, W.length))).2 = S3 at c2 c4 r3 r4 ⊢
        have hc3 : reC S3.F nLn nL = 0 := by unfold reC; rw [c4]; rfl
        have hF3 : reF S3.F nLn nL = putF (delF S3.F nLn) nL (W, W.length) := by unfold reF; rw [c4]
        rw [hc3, hF3]
        rcases goJ S3 (putF (delF S3.F nLn) nL (W, W.length)) r3 with ⟨t1, t2, t3, t4⟩ | ⟨t0, t1, t2, t3⟩
        · left
          exact ⟨t1, c2.ren _ t2, t3, fun h0 => t4 (r4 (q4 (a5 h0)))⟩
        · right
          exact ⟨t1, c2.same t2, t3, fun h0 => by have := r4 (q4 (a5 h0)); omega⟩
      · rw [if_pos (by rw [r1]; decide)]
        right
        exact ⟨r1, b2.same r2, r3, fun h0 => by have := q4 (a5 h0); omega⟩
    · rw [if_pos (by rw [q1]; decide)]
      right
      exact ⟨q1, a2.same q2, q3, fun h0 => by have := a5 h0; omega⟩
  · rw [if_pos a1]
    right
    exact ⟨rfl, a2, a3, a4⟩
/-! A log, and its calls. -/
structure LS where
  first : Nat
  recs : List Bs
  over : Bool
  there : Bool
def lostC (e : Int) : Int := if e = 1 then 6 else e
def endL (L : LS) (e : Int) : LS := { L with over := L.over || decide (e = 11) }
def apW (L : LS) (b : Bs) : Bs := if L.there = true then frameB b else frameB (hdB L.first) ++ frameB b
def apS (S : DS) (L : LS) (b : Bs) : (Int × Int) × DS × LS :=
  if L.over = true then ((0, 11), S, L) else if 4080 < b.length then ((0, 1), S, L) else
  let r := goI S (apC S.F nL (apW L b)) (apF S.F nL (apW L b))
  if r.1 ≠ 0 then ((0, lostC r.1), r.2, endL L r.1) else ((((L.first + L.recs.length : Nat) : Int), 0), r.2, { L with recs := L.recs ++ [b], there := true })
def syS (S : DS) (L : LS) : Int × DS × LS :=
  if L.over = true then (11, S, L) else if L.there = false then (0, S, L) else
  let r := goI S (syC S.F nL) (syF S.F nL)
  (lostC r.1, r.2, endL L r.1)
def tmW (L : LS) (n : Nat) : Bs := lgB n (L.recs.drop (n - L.first))
def tmS (S : DS) (L : LS) (n : Int) : Int × DS × LS :=
  if L.over = true then (11, S, L) else if n < L.first ∨ n > ((L.first + L.recs.length : Nat) : Int) then (2, S, L) else
  let r := mkS S (tmW L n.toNat)
  if r.1 ≠ 0 then (lostC r.1, r.2, endL L r.1) else (0, r.2, { L with first := n.toNat, recs := L.recs.drop (n.toNat - L.first), there := true })
def lgX (L : LS) (k : Nat) : Option (Bs × Nat) := if L.there = true then some (lgB L.first L.recs, (fr ((lgP L.first L.recs).take k)).length) else none
/-- What holds of a log on a disk; the first k frames are synced. -/
structure JInv (S : DS) (L : LS) (k : Nat) (O : Fs) : Prop where
  d : DInv S (lgX L k) O
  k1 : k ≤ L.recs.length + 1
  k0 : k = 0 → L.first = 0
  no : L.there = false → L.first = 0 ∧ L.recs = [] ∧ k = 0
  sm : ∀ r ∈ L.recs, List.length r ≤ 4080
  fst : L.first ≤ 1099511627776
  ov : L.over = S.down
theorem JInv.small {S : DS} {L : LS} {k : Nat} {O : Fs} (h : JInv S L k O) : Small (lgP L.first L.recs) := by
  intro p hp
  rcases List.mem_cons.1 hp with q | q
  · have := hdB_len (n := L.first) (by have := h.fst; omega); rw [q]; omega
  · have := h.sm p q; omega
theorem JInv.lost {S S' : DS} {L : LS} {k : Nat} {O : Fs} (h : JInv S L k O) (e : S'.F = S.F) (hd : S'.down = true) : JInv S' (endL L 11) k O :=
  ⟨h.d.same e, h.k1, h.k0, h.no, h.sm, h.fst, by rw [hd]; unfold endL; simp⟩
theorem take_k {n : Nat} {rs : List Bs} {b : Bs} {k : Nat} (h : k ≤ rs.length + 1) : (lgP n (rs ++ [b])).take k = (lgP n rs).take k := by
  unfold lgP
  rw [← List.cons_append, List.take_append_of_le_length (by simpa using h)]
/-- APPEND of a record that fits. -/
theorem ap_spec {S : DS} {L : LS} {k : Nat} {O : Fs} (h : JInv S L k O) (hov : L.over = false) (b : Bs) (hb : b.length ≤ 4080) (hz : (lgB L.first L.recs).length + b.length + 8 ≤ 1048576) :
    (apS S L b = ((((L.first + L.recs.length : Nat) : Int), 0), (apS S L b).2.1, { L with recs := L.recs ++ [b], there := true }) ∧ JInv (apS S L b).2.1 { L with recs := L.recs ++ [b], there := true } k O ∧ (S.left = 0 → (apS S L b).2.1.left = 0)) ∨
    (apS S L b = ((0, 11), (apS S L b).2.1, endL L 11) ∧ JInv (apS S L b).2.1 (endL L 11) k O ∧ S.left ≠ 0) := by
  have hd : S.down = false := by rw [← h.ov]; exact hov
  have hlen := h.d.len
  have e0 : apS S L b = (let r := goI S (apC S.F nL (apW L b)) (apF S.F nL (apW L b))
      if r.1 ≠ 0 then ((0, lostC r.1), r.2, endL L r.1) else ((((L.first + L.recs.length : Nat) : Int), 0), r.2, { L with recs := L.recs ++ [b], there := true })) := by
    unfold apS; rw [if_neg (by rw [hov]; simp), if_neg (by omega)]
  have hx : apC S.F nL (apW L b) = 0 ∧ ∃ s, apF S.F nL (apW L b) = putF S.F nL (lgB L.first (L.recs ++ [b]), s) ∧ s = (fr ((lgP L.first (L.recs ++ [b])).take k)).length := by
    have hf := h.d.file
    unfold lgX at hf
    by_cases ht : L.there = true
    · rw [if_pos ht] at hf
      have hw : apW L b = frameB b := by unfold apW; rw [if_pos ht]
      have hl2 := frameB_len b
      refine ⟨?_, _, ?_, rfl⟩
      · unfold apC
        rw [if_pos (by decide), hf, hw]
        dsimp only
        rw [if_neg (by omega)]
      · unfold apF
        rw [hf, hw, take_k h.k1, lgB_snoc]
    · have ht' : L.there = false := by simpa using ht
      obtain ⟨n1, n2, n3⟩ := h.no ht'
      rw [if_neg ht] at hf
      have hw : apW L b = lgB L.first (L.recs ++ [b]) := by unfold apW; rw [if_neg ht, n2, lgB_snoc, lgB_nil]
      have hwl : (lgB L.first (L.recs ++ [b])).length = (lgB L.first L.recs).length + b.length + 8 := by rw [lgB_snoc, List.length_append, frameB_len]; omega
      refine ⟨?_, 0, ?_, by rw [n3]; rfl⟩
      · unfold apC
        rw [if_pos (by decide), hf, hw]
        dsimp only
        rw [if_neg (by omega), if_neg (by omega)]
      · unfold apF
        rw [hf, hw]
  obtain ⟨hc, s, hF, hs⟩ := hx
  rw [hc, hF] at e0
  dsimp only at e0
  rcases goJ S (putF S.F nL (lgB L.first (L.recs ++ [b]), s)) hd with ⟨q1, q2, q3, q4⟩ | ⟨q0, q1, q2, q3⟩
  · left
    rw [if_neg (by rw [q1]; simp)] at e0
    rw [e0]
    refine ⟨rfl, ⟨?_, ?_, h.k0, fun q => by simp at q, ?_, h.fst, by dsimp only; rw [q3, hov]⟩, q4⟩
    · have := h.d.putL _ q2
      unfold lgX
      rw [if_pos rfl]
      dsimp only
      rw [← hs]
      exact this
    · have := h.k1; dsimp only; simp; omega
    · intro r hr
      rcases List.mem_append.1 hr with q | q
      · exact h.sm r q
      · rw [List.mem_singleton] at q; rw [q]; exact hb
  · right
    rw [if_pos (by rw [q1]; decide), q1] at e0
    rw [e0]
    exact ⟨rfl, h.lost q2 q3, by omega⟩
/-- SYNC. -/
theorem sy_spec {S : DS} {L : LS} {k : Nat} {O : Fs} (h : JInv S L k O) (hov : L.over = false) :
    (∃ k', k ≤ k' ∧ (k' = L.recs.length + 1 ∨ (k' = 0 ∧ L.recs = [] ∧ L.first = 0)) ∧ syS S L = (0, (syS S L).2.1, L) ∧ JInv (syS S L).2.1 L k' O ∧ (S.left = 0 → (syS S L).2.1.left = 0)) ∨
    (syS S L = (11, (syS S L).2.1, endL L 11) ∧ JInv (syS S L).2.1 (endL L 11) k O ∧ S.left ≠ 0) := by
  have hd : S.down = false := by rw [← h.ov]; exact hov
  by_cases ht : L.there = true
  · have e0 : syS S L = (lostC (goI S (syC S.F nL) (syF S.F nL)).1, (goI S (syC S.F nL) (syF S.F nL)).2, endL L (goI S (syC S.F nL) (syF S.F nL)).1) := by
      unfold syS; rw [if_neg (by rw [hov]; simp), if_neg (by rw [ht]; simp)]
    have hf := h.d.file
    unfold lgX at hf
    rw [if_pos ht] at hf
    have hc : syC S.F nL = 0 := by unfold syC; rw [hf]
    have hF : syF S.F nL = putF S.F nL (lgB L.first L.recs, (lgB L.first L.recs).length) := by unfold syF; rw [hf]
    rw [hc, hF] at e0
    rcases goJ S (putF S.F nL (lgB L.first L.recs, (lgB L.first L.recs).length)) hd with ⟨q1, q2, q3, q4⟩ | ⟨q0, q1, q2, q3⟩
    · left
      rw [q1] at e0
      have e2 : endL L 0 = L := by obtain ⟨_, _, o, _⟩ := L; unfold endL; simp
      rw [e2] at e0
      rw [e0]
      refine ⟨L.recs.length + 1, h.k1, .inl rfl, rfl, ⟨?_, Nat.le_refl _, fun q => by omega, (fun q => by rw [ht] at q; cases q), h.sm, h.fst, by rw [hov]; exact q3.symm⟩, q4⟩
      have := h.d.putL _ q2
      unfold lgX
      rw [if_pos ht, List.take_of_length_le (by simp)]
      exact this
    · right
      rw [q1] at e0
      rw [e0]
      exact ⟨rfl, h.lost q2 q3, by omega⟩
  · have ht' : L.there = false := by simpa using ht
    obtain ⟨n1, n2, n3⟩ := h.no ht'
    left
    have e0 : syS S L = (0, S, L) := by unfold syS; rw [if_neg (by rw [hov]; simp), if_pos ht']
    rw [e0]
    exact ⟨k, Nat.le_refl _, .inr ⟨n3, n2, n1⟩, rfl, h, fun q => q⟩
/-- TRIM within the ends. -/
theorem tm_spec {S : DS} {L : LS} {k : Nat} {O : Fs} (h : JInv S L k O) (hov : L.over = false) (n : Nat) (h1 : L.first ≤ n) (h2 : n ≤ L.first + L.recs.length) (hz : (lgB L.first L.recs).length ≤ 1048000) (hn : n ≤ 1099511627776) :
    (tmS S L n = (0, (tmS S L n).2.1, { L with first := n, recs := L.recs.drop (n - L.first), there := true }) ∧ JInv (tmS S L n).2.1 { L with first := n, recs := L.recs.drop (n - L.first), there := true } (L.recs.length - (n - L.first) + 1) O ∧ (S.left = 0 → (tmS S L n).2.1.left = 0)) ∨
    (tmS S L n = (11, (tmS S L n).2.1, endL L 11) ∧ JInv (tmS S L n).2.1 (endL L 11) k O ∧ S.left ≠ 0) := by
  have hd : S.down = false := by rw [← h.ov]; exact hov
  have e0 : tmS S L n = (let r := mkS S (tmW L n)
      if r.1 ≠ 0 then (lostC r.1, r.2, endL L r.1) else (0, r.2, { L with first := n, recs := L.recs.drop (n - L.first), there := true })) := by
    unfold tmS; rw [if_neg (by rw [hov]; simp), if_neg (by omega), Int.toNat_natCast]
  have hwl : (tmW L n).length ≤ 1048576 := by
    unfold tmW lgB
    rw [fr_len]
    have hsum : ∀ (m : Nat) (l : List Bs), sumL (l.drop m) ≤ sumL l := by
      intro m l
      induction l generalizing m with
      | nil => simp
      | cons a l ih =>
        cases m with
        | zero => exact Nat.le_refl _
        | succ m =>
          have := ih m
          unfold sumL at *
          rw [List.drop_succ_cons, List.map_cons, List.sum_cons]; omega
    have h3 := hsum (n - L.first) L.recs
    have h4 := hdB_len (n := n) (by omega)
    unfold lgB at hz
    rw [fr_len] at hz
    unfold sumL lgP at *
    rw [List.map_cons, List.sum_cons, List.length_cons] at hz ⊢
    rw [List.length_drop]
    omega
  dsimp only at e0
  rcases mk_spec h.d hd (tmW L n) hwl with ⟨q1, q2, q3, q4⟩ | ⟨q1, q2, q3, q4⟩
  · left
    rw [if_neg (by rw [q1]; simp)] at e0
    rw [e0]
    refine ⟨rfl, ⟨?_, by dsimp only; rw [List.length_drop]; omega, fun q => by omega, fun q => by simp at q, fun r hr => h.sm r (List.mem_of_mem_drop hr), hn, by dsimp only; rw [q3, hov]⟩, q4⟩
    unfold lgX
    rw [if_pos rfl]
    dsimp only
    rw [List.take_of_length_le (by simp)]
    exact q2
  · right
    rw [if_pos (by rw [q1]; decide), q1] at e0
    rw [e0]
    exact ⟨rfl, ⟨q2, h.k1, h.k0, h.no, h.sm, h.fst, by rw [q3]; unfold endL; simp⟩, q4⟩
/-! What a log's file may be when it is opened. -/
structure OSt (S : DS) (o : Option (Nat × List Bs)) (O : Fs) : Prop where
  oth : oth2 S.F = O
  few : O.length ≤ 60
  srt : srt S.F
  no : o = none → getL S.F nL = none ∨ ∃ q s, getL S.F nL = some (q, s) ∧ openB q = none
  is' : ∀ f rs, o = some (f, rs) → ∃ q s, getL S.F nL = some (lgB f rs ++ q, s) ∧ openB q = none ∧ (∀ r ∈ rs, List.length r ≤ 4080) ∧ f ≤ 1099511627776
def opL (o : Option (Nat × List Bs)) : LS := match o with | none => ⟨0, [], false, false⟩ | some (f, rs) => ⟨f, rs, false, true⟩
def opK (o : Option (Nat × List Bs)) : Nat := match o with | none => 0 | some (_, rs) => rs.length + 1
/-- Opened anew without a crash. -/
theorem JInv.open' {S : DS} {L : LS} {k : Nat} {O : Fs} (h : JInv S L k O) : OSt S (if L.there = true then some (L.first, L.recs) else none) O := by
  have hf := h.d.file
  unfold lgX at hf
  refine ⟨h.d.oth, h.d.few, h.d.srt, fun q => ?_, fun f rs q => ?_⟩
  · by_cases ht : L.there = true
    · rw [if_pos ht] at q; cases q
    · rw [if_neg ht] at hf; exact .inl hf
  · by_cases ht : L.there = true
    · rw [if_pos ht] at q hf
      injection q with q
      injection q with q1 q2
      subst q1; subst q2
      exact ⟨[], _, by rw [List.append_nil]; exact hf, openB_nil, h.sm, h.fst⟩
    · rw [if_neg ht] at q; cases q
theorem rsL_getJ {n : ByteArray} {b : Bs} {s : Nat} (hs : s ≤ b.length) : ∀ {F : Fs} (ch : Bs), getL F n = some (b, s) → ∃ c, getL (rsL F ch) n = some (rs1 c b s, (rs1 c b s).length)
  | [], _, h => by cases h
  | (m, b', s') :: F, ch, h => by
    unfold getL at h
    by_cases e : m = n
    · rw [if_pos e] at h
      injection h with h
      injection h with h1 h2
      subst h1; subst h2
      rw [rsL]
      by_cases q : b'.length = s'
      · rw [if_pos q]
        refine ⟨0, ?_⟩
        have e1 : rs1 0 b' s' = b' := by
          unfold rs1
          rw [if_neg (by simp), ← q]; simp
        rw [e1, getL, if_pos e, q]
      · rw [if_neg q, getL, if_pos e]
        exact ⟨_, rfl⟩
    · rw [if_neg e] at h
      rw [rsL]
      split
      · rw [getL, if_neg e]; exact rsL_getJ hs ch h
      · rw [getL, if_neg e]; exact rsL_getJ hs _ h
theorem rsL_noneJ {n : ByteArray} {F : Fs} (ch : Bs) (h : getL F n = none) : getL (rsL F ch) n = none := by
  rw [getL_none] at h ⊢
  intro p hp e
  have h1 : p.1 ∈ (rsL F ch).map (·.1) := List.mem_map.2 ⟨p, hp, rfl⟩
  rw [rsL_names] at h1
  obtain ⟨q, hq, e2⟩ := List.mem_map.1 h1
  exact h q hq (e2.trans e)
theorem rsL_srtJ {F : Fs} (ch : Bs) (h : srt F) : srt (rsL F ch) := by
  have h1 : (F.map (·.1)).Pairwise (fun a b => ltS a b = true) := by rw [List.pairwise_map]; exact h
  rw [← rsL_names F ch, List.pairwise_map] at h1
  exact h1
theorem oth2_names (F : Fs) : (oth2 F).map (·.1) = (F.map (·.1)).filter (fun n => decide (n ≠ nL) && decide (n ≠ nLn)) := by
  unfold oth2 delF
  rw [List.filter_filter]
  induction F with
  | nil => rfl
  | cons p F ih =>
    rw [List.filter_cons, List.map_cons, List.filter_cons]
    split
    · rw [List.map_cons, ih]
    · rw [ih]
/-- A CRASH: of the records those that were synced are there, in their order, and of the others the first so many. -/
theorem JInv.crash {S : DS} {L : LS} {k : Nat} (h : JInv S L k []) (ch : Bs) :
    ∃ o, OSt (rsS S ch) o [] ∧ ((o = none ∧ k = 0) ∨ ∃ m, k ≤ m + 1 ∧ m ≤ L.recs.length ∧ L.there = true ∧ o = some (L.first, L.recs.take m)) := by
  have hf := h.d.file
  unfold lgX at hf
  have ho : oth2 (rsL S.F ch) = [] := by
    have h2 : (oth2 (rsL S.F ch)).map (·.1) = [] := by rw [oth2_names, rsL_names, ← oth2_names, h.d.oth]; rfl
    exact List.map_eq_nil_iff.1 h2
  have hsr := rsL_srtJ ch h.d.srt
  by_cases ht : L.there = true
  · rw [if_pos ht] at hf
    have hsm := h.small
    have hle : (fr ((lgP L.first L.recs).take k)).length ≤ (lgB L.first L.recs).length := by
      unfold lgB
      rw [fr_split (lgP L.first L.recs) k, List.length_append]; omega
    obtain ⟨c, hc⟩ := rsL_getJ hle ch hf
    obtain ⟨m, q, hm1, hm2, e, hq⟩ := log_cut hsm k (by have := h.k1; simpa using this) c
    have e' : rs1 c (lgB L.first L.recs) (fr ((lgP L.first L.recs).take k)).length = fr ((lgP L.first L.recs).take m) ++ q := e
    rw [e'] at hc
    cases m with
    | zero =>
      refine ⟨none, ⟨ho, by simp, hsr, fun _ => .inr ⟨q, _, hc, hq⟩, fun f rs q => by cases q⟩, .inl ⟨rfl, by omega⟩⟩
    | succ m =>
      refine ⟨some (L.first, L.recs.take m), ⟨ho, by simp, hsr, (fun q => by cases q), fun f rs q2 => ?_⟩, .inr ⟨m, hm1, by simpa using hm2, ht, rfl⟩⟩
      injection q2 with q2
      injection q2 with q3 q4
      subst q3; subst q4
      exact ⟨q, _, hc, hq, fun r hr => h.sm r (List.mem_of_mem_take hr), h.fst⟩
  · have ht' : L.there = false := by simpa using ht
    obtain ⟨n1, n2, n3⟩ := h.no ht'
    rw [if_neg ht] at hf
    exact ⟨none, ⟨ho, by simp, hsr, fun _ => .inl (rsL_noneJ ch hf), fun f rs q => by cases q⟩, .inl ⟨rfl, n3⟩⟩
end Go.Proofs.Ytlhcdfennipikaa
