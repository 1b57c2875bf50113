import Derived.Test.YtjkbofdcolnmeaaDkR2
/-! The document's disk, told by its files; its small calls. -/
namespace Go.Proofs.Ytjkbofdcolnmeaa
open Go.Sl
set_option linter.unusedVariables false
set_option linter.unusedSimpArgs false
set_option maxRecDepth 100000
set_option maxHeartbeats 4000000

structure RT where
  F : Fs
  fuse : Int
  down : Bool
structure ROk (T : RT) : Prop where
  srt : srt T.F
  len : ∀ p ∈ T.F, p.2.1.length ≤ 1048576 ∧ p.2.2 ≤ p.2.1.length
  few : T.F.length ≤ 64
  fuse : -1 ≤ T.fuse ∧ T.fuse ≤ 9223372036854775807
structure RX (T : RT) (L : List FR) : Prop where
  ab : L.map FR.ab = T.F
  cap : ∀ f ∈ L, f.b.length ≤ f.cap
  ok : ROk T
def goR (T : RT) (c : Int) (F : Fs) : Int × RT := if T.down = true then (11, T) else if c ≠ 0 then (c, T) else if T.fuse = 0 then (11, ⟨T.F, T.fuse, true⟩) else (0, ⟨F, fuseN T.fuse, false⟩)
theorem goR_down {F G : Fs} {f c : Int} : goR ⟨F, f, true⟩ c G = (11, ⟨F, f, true⟩) := rfl
theorem goR_err {F G : Fs} {f c : Int} (h : c ≠ 0) : goR ⟨F, f, false⟩ c G = (c, ⟨F, f, false⟩) := by unfold goR; rw [if_neg (by simp), if_pos h]
theorem goR_lost {F G : Fs} {c : Int} (h : c = 0) : goR ⟨F, 0, false⟩ c G = (11, ⟨F, 0, true⟩) := by subst h; rfl
theorem goR_ok {F G : Fs} {f c : Int} (hf : f ≠ 0) (h : c = 0) : goR ⟨F, f, false⟩ c G = (0, ⟨G, fuseN f, false⟩) := by subst h; unfold goR; rw [if_neg (by simp), if_neg (by simp), if_neg hf]
theorem fuseN_b {f : Int} (h : -1 ≤ f ∧ f ≤ 9223372036854775807) : -1 ≤ fuseN f ∧ fuseN f ≤ 9223372036854775807 := by unfold fuseN; split <;> omega
def RDsk (wb : Nat) (T : RT) : As := fun h => ∃ fa fcap L, RX T L ∧ Stars (RB wb fa L.length fcap T.fuse T.down :: RW fa fcap L :: L.map RdF) h
theorem RDsk.shut {wb : Nat} {T : RT} {fa : Option Addr} {fcap : Nat} {L : List FR} {M : List As} (h : RX T L) : Ent (RB wb fa L.length fcap T.fuse T.down :: RW fa fcap L :: (L.map RdF ++ M)) (RDsk wb T :: M) := fun k s => by
  have s' : Stars ((RB wb fa L.length fcap T.fuse T.down :: RW fa fcap L :: L.map RdF) ++ M) k := s
  obtain ⟨h1, h2, d, l1, l2, s1, s2⟩ := Stars.app.1 s'
  exact ⟨h1, h2, d, l1, l2, ⟨fa, fcap, L, h, s1⟩, s2⟩
theorem RDsk.open' {wb : Nat} {T : RT} {M : List As} (h : Hp) (s : Stars (RDsk wb T :: M) h) : ∃ x : Option Addr × Nat × List FR, RX T x.2.2 ∧ Stars (RB wb x.1 x.2.2.length x.2.1 T.fuse T.down :: RW x.1 x.2.1 x.2.2 :: (x.2.2.map RdF ++ M)) h := by
  obtain ⟨h1, h2, d, l1, l2, ⟨fa, fcap, L, q, s1⟩, s2⟩ := s
  exact ⟨(fa, fcap, L), q, Stars.app.2 ⟨h1, h2, d, l1, l2, s1, s2⟩⟩
theorem rf_perm {A B : List FR} {f : FR} {M : List As} : ((A ++ f :: B).map RdF ++ M).Perm (RdF f :: ((A ++ B).map RdF ++ M)) := by
  rw [List.map_append, List.map_append, List.map_cons, ← List.cons_append]
  exact List.Perm.append_right M List.perm_middle
theorem rf_mid {A B : List FR} {f : FR} {M : List As} : Ent ((A ++ f :: B).map RdF ++ M) (RdF f :: ((A ++ B).map RdF ++ M)) := Ent.perm rf_perm
theorem rf_mid' {A B : List FR} {f : FR} {M : List As} : Ent (RdF f :: ((A ++ B).map RdF ++ M)) ((A ++ f :: B).map RdF ++ M) := Ent.perm rf_perm.symm
theorem RDsk.shut1 {wb : Nat} {T : RT} {fa : Option Addr} {fcap : Nat} {A B : List FR} {f0 : FR} {M : List As} (h : RX T (A ++ f0 :: B)) : Ent (RB wb fa (A ++ f0 :: B).length fcap T.fuse T.down :: RW fa fcap (A ++ f0 :: B) :: RdF f0 :: ((A ++ B).map RdF ++ M)) (RDsk wb T :: M) :=
  Ent.trans (Ent.cons _ (Ent.cons _ rf_mid')) (RDsk.shut h)
theorem RX.nm {T : RT} {L : List FR} (h : RX T L) {n : ByteArray} (e : getL T.F n = none) : ∀ f ∈ L, FR.nm f ≠ n := fun f hf => by
  rw [getL_none] at e
  exact e (FR.ab f) (by rw [← h.ab]; exact List.mem_map.2 ⟨f, hf, rfl⟩)
theorem RX.split {T : RT} {L : List FR} (h : RX T L) {n : ByteArray} {x : Bs × Nat} (e : getL T.F n = some x) : ∃ A f B, L = A ++ f :: B ∧ f.nm = n ∧ f.b = x.1 ∧ f.s = x.2 ∧ (∀ p ∈ A, FR.nm p ≠ n) := by
  rw [← h.ab] at e
  obtain ⟨A', B', h1, h2⟩ := getL_split e
  obtain ⟨A, C, rfl, rfl, h3⟩ := List.map_eq_append_iff.1 h1
  obtain ⟨f, B, rfl, h4, rfl⟩ := List.map_eq_cons_iff.1 h3
  simp only [FR.ab, Prod.mk.injEq] at h4
  exact ⟨A, f, B, rfl, h4.1, by rw [← h4.2], by rw [← h4.2], fun p hp => h2 _ (List.mem_map.2 ⟨p, hp, rfl⟩)⟩
theorem RX.len {T : RT} {L : List FR} (h : RX T L) : L.length = T.F.length := by rw [← h.ab, List.length_map]
theorem RX.few {T : RT} {L : List FR} (h : RX T L) : L.length ≤ 64 := by rw [h.len]; exact h.ok.few
/-- TWO CASES: there is no such file, or there is. -/
theorem RDsk.cases {f : FuncId} {args : Array Value} {wb : Nat} {T : RT} {M : List As} {R : Value → List As → Prop} (n : ByteArray) (hc : CallOk Try.prog f)
    (h0 : ∀ fa fcap L, RX T L → getL T.F n = none → (∀ f ∈ L, FR.nm f ≠ n) → Ctr Try.prog f args (RB wb fa L.length fcap T.fuse T.down :: RW fa fcap L :: (L.map RdF ++ M)) R)
    (h1 : ∀ g0 fcap A f0 B, RX T (A ++ f0 :: B) → f0.nm = n → getL T.F n = some (f0.b, f0.s) → (∀ p ∈ A, FR.nm p ≠ n) → A.length < (A ++ f0 :: B).length → gd (A ++ f0 :: B) A.length = f0 → Ctr Try.prog f args (RB wb (some ⟨g0, 0, none⟩) (A ++ f0 :: B).length fcap T.fuse T.down :: RW (some ⟨g0, 0, none⟩) fcap (A ++ f0 :: B) :: RdF f0 :: ((A ++ B).map RdF ++ M)) R) :
    Ctr Try.prog f args (RDsk wb T :: M) R := by
  refine Ctr.ex hc (RDsk.open' (wb := wb) (T := T) (M := M)) ?_
  rintro ⟨fa, fcap, L⟩ hx
  cases e : getL T.F n with
  | none => exact h0 fa fcap L hx e (hx.nm e)
  | some x =>
    obtain ⟨A, f0, B, rfl, q1, q2, q3, q4⟩ := hx.split e
    refine Ctr.weaken (N := RB wb fa (A ++ f0 :: B).length fcap T.fuse T.down :: RW fa fcap (A ++ f0 :: B) :: RdF f0 :: ((A ++ B).map RdF ++ M)) ?_ (Ent.cons _ (Ent.cons _ rf_mid)) (fun _ _ q => q)
    have hlt : A.length < (A ++ f0 :: B).length := by rw [List.length_append, List.length_cons]; omega
    refine Ctr.row hc (Take.there Take.here) (fun rh => ?_)
    obtain ⟨g0, rfl⟩ := rh.ad (by omega)
    exact h1 g0 fcap A f0 B hx q1 (by rw [e, q2, q3]) q4 hlt (gd_mid A B f0)
/-! How it turns. -/
theorem srt_nm {F : Fs} : srt F ↔ (F.map (·.1)).Pairwise (fun a b => ltS a b = true) := by unfold srt; rw [List.pairwise_map]
theorem srt_eq {F G : Fs} (p : F.Perm G) (hF : srt F) (hG : srt G) : F = G := by
  refine List.Perm.eq_of_pairwise (fun a b _ _ h1 h2 => ?_) hF hG p
  exact absurd (h1 : ltS a.1 b.1 = true) (by rw [ltS_asymm h2]; simp)
theorem RX.set {T T' : RT} {A B : List FR} {f : FR} (h : RX T (A ++ f :: B)) (f' : FR) (hn : f'.nm = f.nm) (hb : f'.b.length ≤ 1048576) (hs : f'.s ≤ f'.b.length) (hc : f'.b.length ≤ f'.cap) (hF : T'.F = putF T.F f.nm (f'.b, f'.s)) (hf : -1 ≤ T'.fuse ∧ T'.fuse ≤ 9223372036854775807) : RX T' (A ++ f' :: B) := by
  have hsr := h.ok.srt
  have hp : (A.map FR.ab ++ (f.nm, f.b, f.s) :: B.map FR.ab).Perm T.F := by rw [← h.ab, List.map_append, List.map_cons]; exact List.Perm.refl _
  have hd := del_perm hsr hp
  have hput := putF_perm hsr f.nm (f'.b, f'.s)
  have hab : (A ++ f' :: B).map FR.ab = T'.F := by
    refine srt_eq ?_ ?_ ?_
    · rw [hF, List.map_append, List.map_cons]
      refine List.Perm.trans List.perm_middle (List.Perm.trans ?_ hput.symm)
      rw [show FR.ab f' = (f.nm, f'.b, f'.s) by rw [FR.ab, hn]]
      exact hd.cons _
    · rw [srt_nm, ← h.ab] at hsr
      rw [srt_nm]
      have e : ((A ++ f' :: B).map FR.ab).map (·.1) = ((A ++ f :: B).map FR.ab).map (·.1) := by simp [FR.ab, hn]
      rw [e]; exact hsr
    · rw [hF]; exact putF_srt hsr _ _
  refine ⟨hab, fun g hg => ?_, ⟨by rw [hF]; exact putF_srt hsr _ _, fun p q => ?_, ?_, hf⟩⟩
  · rcases List.mem_append.1 hg with hg | hg
    · exact h.cap g (List.mem_append_left _ hg)
    · rcases List.mem_cons.1 hg with hg | hg
      · rw [hg]; exact hc
      · exact h.cap g (List.mem_append_right _ (List.mem_cons_of_mem _ hg))
  · rw [hF] at q
    rcases putF_mem q with q | q
    · rw [q]; exact ⟨hb, hs⟩
    · exact h.ok.len p q
  · have := h.few
    rw [← hab]; simp at this ⊢; omega
theorem RX.del {T T' : RT} {A B : List FR} {f : FR} (h : RX T (A ++ f :: B)) (hF : T'.F = delF T.F f.nm) (hf : -1 ≤ T'.fuse ∧ T'.fuse ≤ 9223372036854775807) : RX T' (A ++ B) := by
  have hsr := h.ok.srt
  have hp : (A.map FR.ab ++ (f.nm, f.b, f.s) :: B.map FR.ab).Perm T.F := by rw [← h.ab, List.map_append, List.map_cons]; exact List.Perm.refl _
  have hd := del_perm hsr hp
  have hab : (A ++ B).map FR.ab = T'.F := by
    refine srt_eq ?_ ?_ ?_
    · rw [hF, List.map_append]; exact hd
    · rw [← h.ab] at hsr
      refine List.Pairwise.sublist (List.Sublist.map _ ?_) hsr
      exact List.Sublist.append_left (List.sublist_cons_self ..) _
    · rw [hF]; exact delF_srt hsr _
  refine ⟨hab, fun g hg => ?_, ⟨by rw [hF]; exact delF_srt hsr _, fun p q => ?_, ?_, hf⟩⟩
  · rcases List.mem_append.1 hg with hg | hg
    · exact h.cap g (List.mem_append_left _ hg)
    · exact h.cap g (List.mem_append_right _ (List.mem_cons_of_mem _ hg))
  · rw [hF] at q
    exact h.ok.len p (delF_mem.1 q).1
  · have := h.few
    rw [← hab]; simp at this ⊢; omega
theorem RX.ins {T T' : RT} {L : List FR} (h : RX T L) (f' : FR) {k : Nat} (hk : k ≤ L.length) (h1 : 0 < k → ltS f'.nm (gd L (k - 1)).nm = false) (h2 : ∀ f ∈ L.drop k, ltS f'.nm f.nm = true) (he : getL T.F f'.nm = none) (hb : f'.b.length ≤ 1048576) (hs : f'.s ≤ f'.b.length) (hc : f'.b.length ≤ f'.cap) (hn : T.F.length < 64) (hF : T'.F = putF T.F f'.nm (f'.b, f'.s)) (hf : -1 ≤ T'.fuse ∧ T'.fuse ≤ 9223372036854775807) : RX T' (L.take k ++ f' :: L.drop k) := by
  have hsr := h.ok.srt
  have hd : delF T.F f'.nm = T.F := delF_none (getL_none.1 he)
  have hput := putF_perm hsr f'.nm (f'.b, f'.s)
  rw [hd] at hput
  have hnm := h.nm he
  have hL : L.take k ++ L.drop k = L := List.take_append_drop k L
  have hsl : (L.map FR.ab).Pairwise (fun a b => ltS a.1 b.1 = true) := by rw [h.ab]; exact hsr
  have hab : (L.take k ++ f' :: L.drop k).map FR.ab = T'.F := by
    refine srt_eq ?_ ?_ ?_
    · rw [hF, List.map_append, List.map_cons]
      refine List.Perm.trans List.perm_middle (List.Perm.trans ?_ hput.symm)
      rw [← h.ab]
      conv => rhs; rw [← hL, List.map_append]
      exact List.Perm.refl _
    · unfold srt
      rw [List.pairwise_map] at hsl ⊢
      have hsl' := hsl
      rw [← hL, List.pairwise_append] at hsl'
      rw [List.pairwise_append, List.pairwise_cons]
      have hlt : ∀ g ∈ L.take k, ltS g.nm f'.nm = true := fun g hg => by
        by_cases h0 : 0 < k
        · have h3 := h1 h0
          have hlast : ltS (gd L (k - 1)).nm f'.nm = true := by
            rcases ltS_tri (gd L (k - 1)).nm f'.nm with t | t | t
            · exact t
            · exact absurd t (hnm _ (gd_mem (by omega)))
            · rw [t] at h3; cases h3
          obtain ⟨i, hi, rfl⟩ := mem_gd hg
          have hi2 : i < k := by rw [List.length_take] at hi; omega
          rw [gd_take_lt hi2]
          by_cases e : i = k - 1
          · rw [e]; exact hlast
          · refine ltS_trans ?_ hlast
            have := List.pairwise_iff_getElem.1 hsl i (k - 1) (by omega) (by omega) (by omega)
            rw [← gd_eq (l := L), ← gd_eq (l := L)] at this
            exact this
        · have : k = 0 := by omega
          subst this; simp at hg
      refine ⟨hsl'.1, ⟨fun g hg => h2 g hg, hsl'.2.1⟩, fun a ha b hb => ?_⟩
      rcases List.mem_cons.1 hb with hb | hb
      · rw [hb]; exact hlt a ha
      · exact hsl'.2.2 a ha b hb
    · rw [hF]; exact putF_srt hsr _ _
  refine ⟨hab, fun g hg => ?_, ⟨by rw [hF]; exact putF_srt hsr _ _, fun p q => ?_, ?_, hf⟩⟩
  · rcases List.mem_append.1 hg with hg | hg
    · exact h.cap g (List.mem_of_mem_take hg)
    · rcases List.mem_cons.1 hg with hg | hg
      · rw [hg]; exact hc
      · exact h.cap g (List.mem_of_mem_drop hg)
  · rw [hF] at q
    rcases putF_mem q with q | q
    · rw [q]; exact ⟨hb, hs⟩
    · exact h.ok.len p q
  · have := h.len
    rw [← hab]; simp; omega
theorem RX.same {T T' : RT} {L : List FR} (h : RX T L) (hF : T'.F = T.F) (hf : -1 ≤ T'.fuse ∧ T'.fuse ≤ 9223372036854775807) : RX T' L :=
  ⟨by rw [hF]; exact h.ab, h.cap, ⟨by rw [hF]; exact h.ok.srt, by rw [hF]; exact h.ok.len, by rw [hF]; exact h.ok.few, hf⟩⟩
end Go.Proofs.Ytjkbofdcolnmeaa
