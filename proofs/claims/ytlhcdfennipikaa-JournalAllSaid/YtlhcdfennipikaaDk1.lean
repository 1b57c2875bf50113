import Derived.Test.YtlhcdfennipikaaDkP
/-! A disk in memory. -/
namespace Go.Proofs.Ytlhcdfennipikaa
open Go.Sl
set_option linter.unusedVariables false
set_option linter.unusedSimpArgs false
set_option maxRecDepth 100000
set_option maxHeartbeats 4000000

/-- A file, as it lies. -/
structure FC where
  nm : ByteArray
  fb : Nat
  a : Option Addr
  cap : Nat
  b : Bs
  s : Nat
def FC.ab (f : FC) : FT := (f.nm, f.b, f.s)
def FC.ky (f : FC) : ByteArray × Nat := (f.nm, f.fb)
abbrev FB (fb : Nat) (a : Option Addr) (n cap s : Nat) : As := pt fb (.cells #[.slice a n cap, .int .i64 (s : Int)] 74)
def FC.mem (f : FC) : List As := [FB f.fb f.a f.b.length f.cap f.s, BR f.a f.b.length f.cap f.b]
abbrev evF (n : Nat) : Value := .pointer (some ⟨n, 0, none⟩)
abbrev MP (mb : Nat) (L : List (ByteArray × Nat)) : As := MapA .string Value.string evF mb L
def mapAs (mo : Option Nat) (F : List FC) : List As := match mo with | none => [] | some mb => [MP mb (F.map FC.ky)]
abbrev DB (db : Nat) (mo : Option Nat) (left : Nat) (down : Bool) : As := pt db (.cells #[.map mo, .int .i64 (left : Int), .bool down] 63)
structure DskX (S : DS) (mo : Option Nat) (F : List FC) : Prop where
  perm : (F.map FC.ab).Perm S.F
  ok : DOk S
  nil : mo = none → F = []
/-- The disk at db is S. -/
def Dsk (db : Nat) (S : DS) : As := fun h => ∃ mo F, DskX S mo F ∧ Stars (DB db mo S.left S.down :: (mapAs mo F ++ F.flatMap FC.mem)) h
theorem Dsk.shut {db : Nat} {S : DS} {mo : Option Nat} {F : List FC} {M : List As} (h : DskX S mo F) : Ent (DB db mo S.left S.down :: (mapAs mo F ++ (F.flatMap FC.mem ++ M))) (Dsk db S :: M) := fun k s => by
  have s' : Stars ((DB db mo S.left S.down :: (mapAs mo F ++ F.flatMap FC.mem)) ++ M) k := by
    rw [List.cons_append, List.append_assoc]; exact s
  obtain ⟨h1, h2, d, l1, l2, s1, s2⟩ := Stars.app.1 s'
  exact ⟨h1, h2, d, l1, l2, ⟨mo, F, h, s1⟩, s2⟩
theorem Dsk.open' {db : Nat} {S : DS} {M : List As} (h : Hp) (s : Stars (Dsk db S :: M) h) : ∃ x : Option Nat × List FC, DskX S x.1 x.2 ∧ Stars (DB db x.1 S.left S.down :: (mapAs x.1 x.2 ++ (x.2.flatMap FC.mem ++ M))) h := by
  obtain ⟨h1, h2, d, l1, l2, ⟨mo, F, q, s1⟩, s2⟩ := s
  refine ⟨(mo, F), q, ?_⟩
  have := Stars.app.2 ⟨h1, h2, d, l1, l2, s1, s2⟩
  rw [List.cons_append, List.append_assoc] at this
  exact this
/-- A file among the others. -/
theorem files_perm {A B : List FC} {f : FC} {M : List As} : ((A ++ f :: B).flatMap FC.mem ++ M).Perm (f.mem ++ ((A ++ B).flatMap FC.mem ++ M)) := by
  rw [List.flatMap_append, List.flatMap_append, List.flatMap_cons, ← List.append_assoc f.mem]
  refine List.Perm.append_right M ?_
  rw [← List.append_assoc, ← List.append_assoc]
  exact List.perm_append_comm.append_right _
theorem files_mid {A B : List FC} {f : FC} {M : List As} : Ent ((A ++ f :: B).flatMap FC.mem ++ M) (f.mem ++ ((A ++ B).flatMap FC.mem ++ M)) := Ent.perm files_perm
theorem files_mid' {A B : List FC} {f : FC} {M : List As} : Ent (f.mem ++ ((A ++ B).flatMap FC.mem ++ M)) ((A ++ f :: B).flatMap FC.mem ++ M) := Ent.perm files_perm.symm
theorem DskX.keys {S : DS} {mo : Option Nat} {F : List FC} (h : DskX S mo F) : keys (F.map FC.ab) := h.ok.srt.keys.perm h.perm.symm
theorem DskX.get {S : DS} {mo : Option Nat} {F : List FC} (h : DskX S mo F) (n : ByteArray) : getL (F.map FC.ab) n = getL S.F n := getL_perm h.keys h.perm n
theorem getL_ky (F : List FC) (n : ByteArray) : (getL (F.map FC.ky) n).isSome = (getL (F.map FC.ab) n).isSome := by
  induction F with
  | nil => rfl
  | cons f F ih =>
    simp only [List.map_cons, getL, FC.ky, FC.ab]
    split
    · rfl
    · exact ih
theorem DskX.absent {S : DS} {mo : Option Nat} {F : List FC} (h : DskX S mo F) {n : ByteArray} (e : getL S.F n = none) : getL (F.map FC.ky) n = none := by
  have h1 := h.get n
  rw [e] at h1
  have h2 := getL_ky F n
  rw [h1] at h2
  simpa using h2
theorem DskX.len {S : DS} {mo : Option Nat} {F : List FC} (h : DskX S mo F) : F.length = S.F.length := by rw [← h.perm.length_eq, List.length_map]
theorem DskX.split {S : DS} {mo : Option Nat} {F : List FC} (h : DskX S mo F) {n : ByteArray} {x : Bs × Nat} (e : getL S.F n = some x) : ∃ A f B mb, F = A ++ f :: B ∧ f.nm = n ∧ f.b = x.1 ∧ f.s = x.2 ∧ (∀ p ∈ A, FC.nm p ≠ n) ∧ mo = some mb := by
  rw [← h.get] at e
  obtain ⟨A', B', h1, h2⟩ := getL_split e
  obtain ⟨A, C, rfl, rfl, h3⟩ := List.map_eq_append_iff.1 h1
  obtain ⟨f, B, rfl, h4, rfl⟩ := List.map_eq_cons_iff.1 h3
  have hm : ∃ mb, mo = some mb := by
    cases mo with
    | none => have := h.nil rfl; simp at this
    | some mb => exact ⟨mb, rfl⟩
  obtain ⟨mb, rfl⟩ := hm
  simp only [FC.ab, Prod.mk.injEq] at h4
  refine ⟨A, f, B, mb, rfl, h4.1, by rw [← h4.2], by rw [← h4.2], fun p hp => h2 _ (List.mem_map.2 ⟨p, hp, rfl⟩), rfl⟩
/-- TWO CASES: there is no such file, or there is. -/
theorem Dsk.cases {f : FuncId} {args : Array Value} {db : Nat} {S : DS} {M : List As} {R : Value → List As → Prop} (n : ByteArray) (hc : CallOk Try.prog f)
    (h0 : ∀ mo F, DskX S mo F → getL S.F n = none → getL (F.map FC.ky) n = none → Ctr Try.prog f args (DB db mo S.left S.down :: (mapAs mo F ++ (F.flatMap FC.mem ++ M))) R)
    (h1 : ∀ mb A f0 B, DskX S (some mb) (A ++ f0 :: B) → f0.nm = n → getL S.F n = some (f0.b, f0.s) → (∀ p ∈ A, FC.nm p ≠ n) → Ctr Try.prog f args (DB db (some mb) S.left S.down :: MP mb ((A ++ f0 :: B).map FC.ky) :: FB f0.fb f0.a f0.b.length f0.cap f0.s :: BR f0.a f0.b.length f0.cap f0.b :: ((A ++ B).flatMap FC.mem ++ M)) R) :
    Ctr Try.prog f args (Dsk db S :: M) R := by
  refine Ctr.ex hc (Dsk.open' (db := db) (S := S) (M := M)) ?_
  rintro ⟨mo, F⟩ hx
  cases e : getL S.F n with
  | none => exact h0 mo F hx e (hx.absent e)
  | some x =>
    obtain ⟨A, f0, B, mb, rfl, q1, q2, q3, q4, rfl⟩ := hx.split e
    refine (h1 mb A f0 B hx q1 (by rw [e, q2, q3]) q4).weaken ?_ (fun _ _ q => q)
    exact Ent.cons _ (Ent.cons _ files_mid)
theorem Dsk.shut1 {db mb : Nat} {S : DS} {A B : List FC} {f0 : FC} {M : List As} (h : DskX S (some mb) (A ++ f0 :: B)) : Ent (DB db (some mb) S.left S.down :: MP mb ((A ++ f0 :: B).map FC.ky) :: FB f0.fb f0.a f0.b.length f0.cap f0.s :: BR f0.a f0.b.length f0.cap f0.b :: ((A ++ B).flatMap FC.mem ++ M)) (Dsk db S :: M) :=
  Ent.trans (Ent.cons _ (Ent.cons _ files_mid')) (Dsk.shut h)
/-! How a disk turns. -/
theorem DskX.upd {S : DS} {mo : Option Nat} {A B : List FC} {f : FC} (h : DskX S mo (A ++ f :: B)) (f' : FC) (hn : f'.nm = f.nm) (hb : f'.b.length ≤ 1048576) (hs : f'.s ≤ f'.b.length) {S' : DS} (hF : S'.F = putF S.F f.nm (f'.b, f'.s)) (hl : S'.left ≤ 1099511627777) : DskX S' mo (A ++ f' :: B) := by
  have hp := h.perm
  rw [List.map_append, List.map_cons] at hp
  have hd := del_perm (n := f.nm) (x := (f.b, f.s)) h.ok.srt hp
  have hput := putF_perm h.ok.srt f.nm (f'.b, f'.s)
  have hlen := hp.length_eq
  refine ⟨?_, ⟨by rw [hF]; exact putF_srt h.ok.srt _ _, fun p q => ?_, ?_, hl, fun p q => ?_⟩, fun e => by have := h.nil e; simp at this⟩
  · rw [hF, List.map_append, List.map_cons]
    refine List.Perm.trans List.perm_middle (List.Perm.trans ?_ hput.symm)
    rw [show FC.ab f' = (f.nm, f'.b, f'.s) by rw [FC.ab, hn]]
    exact hd.cons _
  · rw [hF] at q
    rcases putF_mem q with q | q
    · rw [q]; exact ⟨hb, hs⟩
    · exact h.ok.len p q
  · rw [hF, hput.length_eq, List.length_cons, ← hd.length_eq]
    have := h.ok.few
    simp at hlen ⊢; omega
  · rw [hF] at q
    rcases putF_mem q with q | q
    · rw [q]
      have hm : (f.nm, f.b, f.s) ∈ S.F := h.perm.mem_iff.1 (List.mem_map.2 ⟨f, by simp, rfl⟩)
      exact h.ok.nm (f.nm, f.b, f.s) hm
    · exact h.ok.nm p q
theorem DskX.add {S : DS} {mo : Option Nat} {F : List FC} (h : DskX S mo F) (f' : FC) (mb : Nat) (he : getL S.F f'.nm = none) (hb : f'.b.length ≤ 1048576) (hs : f'.s ≤ f'.b.length) (hn : S.F.length < 64) (hz : f'.nm.size ≤ 32) {S' : DS} (hF : S'.F = putF S.F f'.nm (f'.b, f'.s)) (hl : S'.left ≤ 1099511627777) : DskX S' (some mb) (F ++ [f']) := by
  have hd : delF S.F f'.nm = S.F := delF_none (getL_none.1 he)
  have hput := putF_perm h.ok.srt f'.nm (f'.b, f'.s)
  rw [hd] at hput
  refine ⟨?_, ⟨by rw [hF]; exact putF_srt h.ok.srt _ _, fun p q => ?_, ?_, hl, fun p q => ?_⟩, fun e => by cases e⟩
  · rw [hF, List.map_append]
    refine List.Perm.trans List.perm_append_comm (List.Perm.trans ?_ hput.symm)
    exact h.perm.cons _
  · rw [hF] at q
    rcases putF_mem q with q | q
    · rw [q]; exact ⟨hb, hs⟩
    · exact h.ok.len p q
  · rw [hF, hput.length_eq, List.length_cons]; omega
  · rw [hF] at q
    rcases putF_mem q with q | q
    · rw [q]; exact hz
    · exact h.ok.nm p q
theorem DskX.del {S : DS} {mo : Option Nat} {A B : List FC} {f : FC} (h : DskX S mo (A ++ f :: B)) {S' : DS} (hF : S'.F = delF S.F f.nm) (hl : S'.left ≤ 1099511627777) : DskX S' mo (A ++ B) := by
  have hp := h.perm
  rw [List.map_append, List.map_cons] at hp
  have hd := del_perm (n := f.nm) (x := (f.b, f.s)) h.ok.srt hp
  refine ⟨by rw [hF, List.map_append]; exact hd, ⟨by rw [hF]; exact delF_srt h.ok.srt _, fun p q => ?_, ?_, hl, fun p q => ?_⟩, fun e => by have := h.nil e; simp at this⟩
  · rw [hF] at q
    exact h.ok.len p (delF_mem.1 q).1
  · rw [hF]; exact Nat.le_trans (List.length_filter_le ..) h.ok.few
  · rw [hF] at q
    exact h.ok.nm p (delF_mem.1 q).1
theorem DskX.same {S : DS} {mo : Option Nat} {F : List FC} (h : DskX S mo F) {S' : DS} (hF : S'.F = S.F) (hl : S'.left ≤ 1099511627777) : DskX S' mo F :=
  ⟨by rw [hF]; exact h.perm, ⟨by rw [hF]; exact h.ok.srt, by rw [hF]; exact h.ok.len, by rw [hF]; exact h.ok.few, hl, by rw [hF]; exact h.ok.nm⟩, h.nil⟩
end Go.Proofs.Ytlhcdfennipikaa
