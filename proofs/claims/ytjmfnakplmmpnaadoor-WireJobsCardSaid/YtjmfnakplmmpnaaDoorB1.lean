import Derived.Test.YtjmfnakplmmpnaaDoorWrF
/-! Frames that are opened, lists of bytes that are owned. -/
namespace Go.Proofs.YtjmfnakplmmpnaaDoor
open Go.Sl
set_option linter.unusedVariables false
set_option linter.unusedSimpArgs false
set_option maxRecDepth 100000
set_option maxHeartbeats 4000000

theorem LRunPure {P : Program} {s : Sem Value} {M : List As} {k : Value → List As → Prop} {p : Prop} (hM : ∀ h, Stars M h → p) (h : p → LRun P s M k) : LRun P s M k := by
  by_cases hp : p
  · exact h hp
  · exact ⟨fun _ _ => False, fun F w st => absurd (hM _ (st.ent Ent.dropr)) hp, fun _ _ q => q.elim⟩
theorem LCallPure {P : Program} {f : FuncId} {args : Array Value} {M : List As} {k : Value → List As → Prop} {p : Prop} (hM : ∀ h, Stars M h → p) (h : p → LCall P f args M k) : LCall P f args M k := by
  by_cases hp : p
  · exact h hp
  · exact ⟨fun _ _ => False, fun F w st => absurd (hM _ (st.ent Ent.dropr)) hp, fun _ _ q => q.elim⟩
theorem LRunRow {P : Program} {α : Type} {enc : α → List Value} {E : TypeId} {sz : Nat} {s : Sem Value} {M N : List As} {k : Value → List As → Prop} {a : Option Addr} {n cap : Nat} {xs : List α} (tk : Take M (ERow E sz enc a n cap xs) N) (h : RowHd a n cap xs → LRun P s M k) : LRun P s M k := LRunPure (fun k s => RowHd.of tk s) h
theorem LCallRow {P : Program} {α : Type} {enc : α → List Value} {E : TypeId} {sz : Nat} {f : FuncId} {args : Array Value} {M N : List As} {k : Value → List As → Prop} {a : Option Addr} {n cap : Nat} {xs : List α} (tk : Take M (ERow E sz enc a n cap xs) N) (h : RowHd a n cap xs → LCall P f args M k) : LCall P f args M k := LCallPure (fun k s => RowHd.of tk s) h
/-- Pieces that are read. -/
structure Pcs (M : List As) (a : Option Addr) (ps : List (SlV UInt8)) : Prop where
  rd : RdH M a 1 encP ps
  each : ∀ p ∈ ps, RdH M p.a 1 encU p.xs
  nil : ∀ p ∈ ps, p.a = none → p.xs.length = 0
  le : ∀ p ∈ ps, p.xs.length ≤ 9223372036854775807
theorem Pcs.there {M : List As} {y : As} {a : Option Addr} {ps : List (SlV UInt8)} (h : Pcs M a ps) : Pcs (y :: M) a ps := ⟨h.rd.there, fun p hp => (h.each p hp).there, h.nil, h.le⟩
def bsOf (ps : List (SlV UInt8)) : List Bs := ps.map (·.xs)
theorem bsOf_len (ps : List (SlV UInt8)) : (bsOf ps).length = ps.length := List.length_map ..
theorem bsOf_gd {ps : List (SlV UInt8)} {i : Nat} (h : i < ps.length) : gd (bsOf ps) i = (gd ps i).xs := gd_map h
/-- A number that may have run over. -/
theorem lint_some {n : Int} {k : Int → Prop} (h : ∀ m : Int, -9223372036854775808 ≤ m ∧ m ≤ 9223372036854775807 → k m) : LInt .i64 n k := lint_any (h _ (by rw [IntKind.wrap_i64]; omega))
theorem OpenB_ct (a : Option Addr) (cap : Nat) (b x r : Bs) (M : List As) (hb : b.length ≤ 10000000) (h : openB b = some (x, r)) :
    Ctr Tryd.prog 16 #[.slice a b.length cap] (BR a b.length cap b :: M) (fun v M' => ∃ a1 c1 a2 c2, v = .tuple #[.slice a1 x.length c1, .slice a2 r.length c2, .int .i64 0] ∧ M' = BR a2 r.length c2 r :: BR a1 x.length c1 x :: BR a b.length cap b :: M) :=
  Ctr.row (E := 5) (sz := 1) (enc := encU) (a := a) (n := b.length) (cap := cap) (xs := b) (okg fn16) zTk (fun rh => OpenOk_ct (BR a b.length cap b :: M) a cap b x r zRd rh.le (by have := rh.max; simp only [maxLen] at this; omega) hb (fun q => by
    have := rh.nil q
    have := rh.le
    have h1 : ¬ b.length < 8 := fun q => by unfold openB at h; rw [if_pos q] at h; cases h
    omega) h)
theorem OpenBN_ct (a : Option Addr) (cap : Nat) (b : Bs) (M : List As) (h : openB b = none) :
    Ctr Tryd.prog 16 #[.slice a b.length cap] (BR a b.length cap b :: M) (fun v M' => v = .tuple #[.slice none 0 0, .slice none 0 0, .int .i64 12] ∧ M' = BR a b.length cap b :: M) :=
  Ctr.row (E := 5) (sz := 1) (enc := encU) (a := a) (n := b.length) (cap := cap) (xs := b) (okg fn16) zTk (fun rh => OpenNo_ct (BR a b.length cap b :: M) a cap b zRd rh.le (by have := rh.max; simp only [maxLen] at this; omega) h)
/-- One piece that is owned. -/
abbrev PB (p : SlV UInt8) : As := BR p.a p.xs.length p.cap p.xs
theorem pb_snoc {l : List (SlV UInt8)} {p : SlV UInt8} {Y : List As} : Ent (PB p :: (l.map PB ++ Y)) ((l ++ [p]).map PB ++ Y) := by
  rw [List.map_append, List.append_assoc]; exact Ent.perm List.perm_middle.symm
theorem pb_rd {p : SlV UInt8} : ∀ {l : List (SlV UInt8)} {Y : List As}, p ∈ l → RdH (l.map PB ++ Y) p.a 1 encU p.xs
  | [], _, h => by cases h
  | q :: l, Y, h => by
    rcases List.mem_cons.1 h with h | h
    · subst h
      show RdH (ERow 5 1 encU p.a p.xs.length p.cap p.xs :: (l.map PB ++ Y)) p.a 1 encU p.xs
      exact RdH.erow encU_len
    · exact RdH.there (pb_rd h)
theorem pb_hd : ∀ {l : List (SlV UInt8)} {Y : List As} {h : Hp}, Stars (l.map PB ++ Y) h → ∀ p ∈ l, RowHd (SlV.a p) (SlV.xs p).length (SlV.cap p) (SlV.xs p)
  | [], _, _, _, _, hp => by cases hp
  | q :: l, Y, h, s, p, hp => by
    have s' : Stars (PB q :: (l.map PB ++ Y)) h := s
    rcases List.mem_cons.1 hp with e | e
    · subst e
      exact RowHd.of Take.here s'
    · exact pb_hd (Ent.drop _ _ s') p e
/-- Pieces that are owned, as one. -/
def PBs (l : List (SlV UInt8)) : As := Go.Sl.all (l.map PB)
theorem pbs_shut {l : List (SlV UInt8)} {Y : List As} : Ent (l.map PB ++ Y) (PBs l :: Y) := Ent.shut
theorem pbs_open {l : List (SlV UInt8)} {Y : List As} : Ent (PBs l :: Y) (l.map PB ++ Y) := Ent.open_
theorem pbs_rd {p : SlV UInt8} {l : List (SlV UInt8)} {Y : List As} (h : p ∈ l) : RdH (PBs l :: Y) p.a 1 encU p.xs := (pb_rd h).ent pbs_open
theorem pbs_snoc {l : List (SlV UInt8)} {p : SlV UInt8} {Y : List As} : Ent (PB p :: PBs l :: Y) (PBs (l ++ [p]) :: Y) := Ent.trans (Ent.trans (Ent.cons _ pbs_open) pb_snoc) pbs_shut
theorem pbs_nil {Y : List As} : Ent Y (PBs [] :: Y) := fun h s => ⟨Hp.nil, h, Hp.dis_nil _, Hp.nil_le _, Hp.le_refl _, trivial, s⟩
theorem pbs_take {l m : List (SlV UInt8)} {Y : List As} : Ent (PBs (l ++ m) :: Y) (PBs l :: Y) := by
  refine Ent.trans pbs_open (Ent.trans ?_ pbs_shut)
  rw [List.map_append, List.append_assoc]
  exact Ent.app (Ent.refl _) Ent.dropl
theorem pbs_drop {l m : List (SlV UInt8)} {Y : List As} : Ent (PBs (l ++ m) :: Y) (PBs m :: Y) := by
  refine Ent.trans pbs_open (Ent.trans ?_ pbs_shut)
  rw [List.map_append, List.append_assoc]
  exact Ent.dropl
theorem hd_nil0 {α : Type} {a : Option Addr} {n cap : Nat} {xs : List α} (r : RowHd a n cap xs) (h : a = none) : xs = [] := by
  have h1 := r.nil h
  have h2 := r.le
  have h3 := r.len
  exact List.eq_nil_of_length_eq_zero (by omega)
theorem ext3 {P : Program} {f : FuncId} {args : Array Value} {M : List As} {R : Value → List As → Prop} {k : Value → List As → Prop} (hs : Ctr P f args M R) (hR : ∀ v M', R v M' → ∃ X, M' = X ++ M ∧ k v X) : LExt P f args M k :=
  ⟨k, (hs.weaken (Ent.refl _) (fun v M' h => by obtain ⟨X, e, hk⟩ := hR v M' h; exact ⟨X, hk, e⟩)).to, fun _ _ h => h⟩
theorem encP_len (p : SlV UInt8) : (encP p).length = 1 := rfl
theorem Pcs.app {M N : List As} {a : Option Addr} {ps : List (SlV UInt8)} (h : Pcs M a ps) : Pcs (M ++ N) a ps := ⟨h.rd.app, fun p hp => (h.each p hp).app, h.nil, h.le⟩
section
variable {P : Program} {α : Type} {enc : α → List Value} {E : TypeId} {sz : Nat}
/-- append(xs, ys...) of what is only read, where there is no room: a new row. -/
theorem appendG (Γ : Tab P) {T ty : TypeId} {z : Value} {bytes n cap m c sb so : Nat} {a : Option Addr} {xs : List α} (ys : List α) {M : List As} {k : Value → List As → Prop} (hr : RdH M a sz enc xs) (ha : a = none → n = 0 ∧ cap = 0) (he : ∀ x, (enc x).length = sz) (hu : Γ.und T = some (.slice E)) (hi : Γ.inf E = some (z, sz, bytes)) (hzs : Nat.beq z.cells.size sz = true) (hsz : Nat.blt 0 sz = true)
    (hx : xs.length = n) (hm : ys.length = m) (hsrc : Cells M sb so (ys.flatMap enc)) (hg : cap < n + m) (h63 : n + m ≤ maxLen) (hb : (n + m) * bytes ≤ 140737488355328)
    (hk : ∀ g cap', k (.slice (some ⟨g, 0, none⟩) (n + m) cap') (ERow E sz enc (some ⟨g, 0, none⟩) (n + m) cap' (xs ++ ys) :: M)) :
    LRun P (Builtin.append_ #[T, T] ty #[.slice a n cap, .slice (some ⟨sb, so, none⟩) m c]) M k :=
  ⟨fun v M' => ∃ g cap', v = .slice (some ⟨g, 0, none⟩) (n + m) cap' ∧ M' = ERow E sz enc (some ⟨g, 0, none⟩) (n + m) cap' (xs ++ ys) :: M, fun F w s => by
    have hsz' : 0 < sz := by simpa [Nat.blt_eq] using hsz
    have hzs' := Nat.eq_of_beq_eq_true hzs
    have sM : Sat w M := s.ent Ent.dropr
    obtain ⟨inf, hi1, hi2, hi3, hi4⟩ := Γ.inf_ok _ _ _ _ hi
    have hu' := Γ.und_ok _ _ hu
    subst hi3
    subst hi4
    have hmax : n + m ≤ 9223372036854775807 := by simp only [maxLen] at h63; omega
    have hnews : ∀ j u, (ys.flatMap enc)[j]? = some u → w.cell? ((⟨sb, so, none⟩ : Addr).add j) = some u := fun j u hj => by
      have hadd : (⟨sb, so, none⟩ : Addr).add j = ⟨sb, so + j, none⟩ := by unfold Addr.add; split <;> simp_all
      rw [hadd]; exact (hsrc.h j u hj).get sM
    have hnl : (ys.flatMap enc).length = m * inf.size := by rw [flat_len he, hm]
    have hge := grownCap_ge w (n + m) cap E
    have hcm := grownCap_le_maxLen w (n + m) cap E h63
    have key : ∀ cells : Array Value, cells.toList = (xs ++ ys).flatMap enc ++ (Builtin.zeroCells z.cells (grownCap w (n + m) cap E - (n + m))).toList →
        Sat (w.drew.alloc (.cells cells E)) (ERow E inf.size enc (some ⟨w.heap.size, 0, none⟩) (n + m) (grownCap w (n + m) cap E) (xs ++ ys) :: M ++ F) := fun cells hc => by
      refine ((s.same (w' := w.drew) rfl).alloc _).ent (Ent.head ?_)
      intro h hp
      have hlen : ((xs ++ ys).flatMap enc).length = (n + m) * inf.size := by rw [flat_len he, List.length_append, hx, hm]
      refine ⟨by simp [hx, hm], hlen, .inr ⟨w.heap.size, _, rfl, hp, hge, hcm, ?_, ?_⟩⟩
      · rw [← Array.length_toList, hc, List.length_append, hlen, Array.length_toList, size_zeroCells, hzs', ← Nat.add_mul]
        congr 1
        omega
      · rw [hc, ← hlen]
        exact List.take_left
    cases a with
    | none =>
      obtain ⟨h1, h2⟩ := ha rfl
      subst h1
      subst h2
      have hxs : xs = [] := List.eq_nil_of_length_eq_zero hx
      subst hxs
      have hrun := run_append_nil (P := P) w T ty E inf z hu' hi1 hi2 ⟨sb, so, none⟩ m c (ys.flatMap enc) hnl hnews (by omega) (by omega) (by simp only [Nat.zero_add] at hb; omega)
      have hk2 := key ((ys.flatMap enc).toArray ++ Builtin.zeroCells z.cells (grownCap w m 0 E - m)) (by simp)
      simp only [Nat.zero_add] at hk2 ⊢
      exact ⟨_, _, _, hrun, ⟨_, _, rfl, rfl⟩, hk2, ⟨rfl, rfl, rfl, by simp⟩⟩
    | some ad =>
      have hrun := run_append_grow (P := P) w T ty E inf z hu' hi1 hi2 ad n cap (xs.flatMap enc) (by rw [flat_len he, hx]) (rd_cells he hsz' sM hr) ⟨sb, so, none⟩ m c (ys.flatMap enc) hnl hnews hg (by omega) (growslice_fits hg hb)
      have hk2 := key ((xs.flatMap enc).toArray ++ (ys.flatMap enc).toArray ++ Builtin.zeroCells z.cells (grownCap w (n + m) cap E - (n + m))) (by simp)
      exact ⟨_, _, _, hrun, ⟨_, _, rfl, rfl⟩, hk2, ⟨rfl, rfl, rfl, by simp⟩⟩, fun v M' ⟨g, cap', e1, e2⟩ => by subst e1; subst e2; exact hk g cap'⟩
end
end Go.Proofs.YtjmfnakplmmpnaaDoor
