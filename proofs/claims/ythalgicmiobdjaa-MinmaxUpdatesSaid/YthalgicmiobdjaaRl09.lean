import Derived.Test.YthalgicmiobdjaaMmIn
import Derived.Test.YthalgicmiobdjaaRf09
/-! The heap and the list. -/
namespace Go.Proofs.Ythalgicmiobdjaa
set_option linter.unusedVariables false
set_option linter.unusedSimpArgs false
open Go.Sl

theorem cmp_lt (k k' : K3) : cmpL (l3 k) (l3 k') < 0 ↔ (k.1 < k'.1 ∨ k.1 = k'.1 ∧ (k.2.1 < k'.2.1 ∨ k.2.1 = k'.2.1 ∧ k.2.2 < k'.2.2)) := by
  simp only [l3, cmpL]
  rcases cmpI_cases k.1 k'.1 with ⟨h1, e1⟩ | ⟨h1, e1⟩ | ⟨h1, e1⟩ <;> rcases cmpI_cases k.2.1 k'.2.1 with ⟨h2, e2⟩ | ⟨h2, e2⟩ | ⟨h2, e2⟩ <;>
    rcases cmpI_cases k.2.2 k'.2.2 with ⟨h3, e3⟩ | ⟨h3, e3⟩ | ⟨h3, e3⟩ <;> simp [e1, e2, e3] <;> omega
theorem cmp_gt (k k' : K3) : 0 < cmpL (l3 k) (l3 k') ↔ (k'.1 < k.1 ∨ k.1 = k'.1 ∧ (k'.2.1 < k.2.1 ∨ k.2.1 = k'.2.1 ∧ k'.2.2 < k.2.2)) := by
  simp only [l3, cmpL]
  rcases cmpI_cases k.1 k'.1 with ⟨h1, e1⟩ | ⟨h1, e1⟩ | ⟨h1, e1⟩ <;> rcases cmpI_cases k.2.1 k'.2.1 with ⟨h2, e2⟩ | ⟨h2, e2⟩ | ⟨h2, e2⟩ <;>
    rcases cmpI_cases k.2.2 k'.2.2 with ⟨h3, e3⟩ | ⟨h3, e3⟩ | ⟨h3, e3⟩ <;> simp [e1, e2, e3] <;> omega
def lt9 (L : List E9) (x y : Nat) : Bool := lt3 (k9 L x) x (k9 L y) y
theorem lt9_iff (L : List E9) (x y : Nat) : lt9 L x y = true ↔ (cmpL (l3 (k9 L x)) (l3 (k9 L y)) < 0 ∨ ¬ 0 < cmpL (l3 (k9 L x)) (l3 (k9 L y)) ∧ x < y) := by
  unfold lt9
  rw [lt3_iff, cmp_lt, cmp_gt]
  omega
theorem lt9_trans {L : List E9} {x y z : Nat} (h1 : lt9 L x y = true) (h2 : lt9 L y z = true) : lt9 L x z = true := by
  unfold lt9 at *
  rw [lt3_iff] at *
  omega
theorem endF_spec (L : List E9) (g : Bool) : ∀ n, (endF L g n = none ∧ ∀ x, x < n → (gd L x).2 = false) ∨ ∃ b, endF L g n = some b ∧ b < n ∧ (gd L b).2 = true ∧ ∀ x, x < n → (gd L x).2 = true → (if g then lt9 L b x else lt9 L x b) = false := by
  intro n
  induction n with
  | zero => left; exact ⟨rfl, fun x hx => by omega⟩
  | succ n ih =>
    have hs : endF L g (n + 1) = pickE L g (endF L g n) n := rfl
    unfold pickE at hs
    cases ht : (gd L n).2 with
    | false =>
      rw [ht] at hs
      simp only [Bool.false_eq_true, if_false] at hs
      rw [hs]
      rcases ih with ⟨e, h⟩ | ⟨b, e, hb, hbt, h⟩
      · left
        refine ⟨e, fun x hx => ?_⟩
        by_cases hxn : x = n
        · subst hxn; exact ht
        · exact h x (by omega)
      · right
        refine ⟨b, e, by omega, hbt, fun x hx hxt => ?_⟩
        by_cases hxn : x = n
        · subst hxn; rw [ht] at hxt; cases hxt
        · exact h x (by omega) hxt
    | true =>
      rw [ht] at hs
      simp only [if_true] at hs
      rcases ih with ⟨e, h⟩ | ⟨b, e, hb, hbt, h⟩
      · right
        rw [e] at hs
        refine ⟨n, hs, by omega, ht, fun x hx hxt => ?_⟩
        by_cases hxn : x = n
        · subst hxn
          have : lt9 L x x = false := by
            cases q : lt9 L x x with
            | false => rfl
            | true => exact absurd q (by unfold lt9; rw [lt3_iff]; omega)
          rw [this]; cases g <;> rfl
        · rw [h x (by omega)] at hxt; cases hxt
      · right
        rw [e] at hs
        dsimp only at hs
        have self : ∀ y, lt9 L y y = false := fun y => by
          cases q : lt9 L y y with
          | false => rfl
          | true => exact absurd q (by unfold lt9; rw [lt3_iff]; omega)
        cases g with
        | false =>
          simp only [better, Bool.not_false, Bool.true_and, Bool.false_and, Bool.or_false, decide_eq_true_eq] at hs
          simp only [Bool.false_eq_true, if_false] at h ⊢
          by_cases hc : cmpL (l3 (k9 L n)) (l3 (k9 L b)) < 0
          · rw [if_pos hc] at hs
            refine ⟨n, hs, by omega, ht, fun x hx hxt => ?_⟩
            by_cases hxn : x = n
            · subst hxn; exact self x
            · cases q : lt9 L x n with
              | false => rfl
              | true =>
                have h1 := lt9_trans q ((lt9_iff L n b).2 (.inl hc))
                rw [h x (by omega) hxt] at h1
                cases h1
          · rw [if_neg hc] at hs
            refine ⟨b, hs, by omega, hbt, fun x hx hxt => ?_⟩
            by_cases hxn : x = n
            · subst hxn
              cases q : lt9 L x b with
              | false => rfl
              | true =>
                have := (lt9_iff _ _ _).1 q
                omega
            · exact h x (by omega) hxt
        | true =>
          simp only [better, Bool.not_true, Bool.true_and, Bool.false_and, Bool.false_or, decide_eq_true_eq] at hs
          simp only [if_true] at h ⊢
          by_cases hc : cmpL (l3 (k9 L n)) (l3 (k9 L b)) ≥ 0
          · rw [if_pos hc] at hs
            refine ⟨n, hs, by omega, ht, fun x hx hxt => ?_⟩
            by_cases hxn : x = n
            · subst hxn; exact self x
            · cases q : lt9 L n x with
              | false => rfl
              | true =>
                have hbn : lt9 L b n = true := by
                  rw [lt9_iff]
                  have := cmp_lt (k9 L n) (k9 L b)
                  have := cmp_gt (k9 L n) (k9 L b)
                  have := cmp_lt (k9 L b) (k9 L n)
                  have := cmp_gt (k9 L b) (k9 L n)
                  omega
                have h1 := lt9_trans hbn q
                rw [h x (by omega) hxt] at h1
                cases h1
          · rw [if_neg hc] at hs
            refine ⟨b, hs, by omega, hbt, fun x hx hxt => ?_⟩
            by_cases hxn : x = n
            · subst hxn
              cases q : lt9 L b x with
              | false => rfl
              | true =>
                have h1 := (lt9_iff _ _ _).1 q
                have := cmp_lt (k9 L x) (k9 L b)
                have := cmp_gt (k9 L x) (k9 L b)
                have := cmp_lt (k9 L b) (k9 L x)
                have := cmp_gt (k9 L b) (k9 L x)
                omega
            · exact h x (by omega) hxt

/-- The list says of each entry whether it is in the heap, and its key. -/
structure Rel (K : List K3) (h : HS) (L : List E9) : Prop where
  hp : Hp K h
  len : L.length = K.length
  mem : ∀ x, x < L.length → ((gd L x).2 = true ↔ In h x)
  ky : ∀ x, In h x → k9 L x = key K x
theorem Rel.mk0 : Rel [] h0 [] := ⟨Hp.h0, rfl, fun x hx => by simp at hx, fun x hx => absurd hx (In.none rfl x)⟩
theorem Rel.lt {K : List K3} {h : HS} {L : List E9} (r : Rel K h L) {x y : Nat} (hx : In h x) (hy : In h y) : lt9 L x y = ltE K x y := by
  unfold lt9 ltE; rw [r.ky x hx, r.ky y hy]
theorem Rel.inl {K : List K3} {h : HS} {L : List E9} (r : Rel K h L) {x : Nat} (hx : In h x) : x < L.length := by rw [r.len]; exact hx.lt r.hp.o.wf
def toI (r : Nat × K3 × Int) : Int × K3 × Int := ((r.1 : Int), r.2.1, r.2.2)
theorem Rel.least {K : List K3} {h : HS} {L : List E9} (r : Rel K h L) : endR L false = toI (minR K h) ∧ ((h.A.length = 0 ∧ endF L false L.length = none) ∨ ∃ x, endF L false L.length = some x ∧ minR K h = (x, key K x, 0) ∧ In h x) := by
  unfold endR
  by_cases h0 : h.A.length = 0
  · rw [min_none h0]
    rcases endF_spec L false L.length with ⟨e, _⟩ | ⟨b, e, hb, hbt, _⟩
    · rw [e]; exact ⟨rfl, .inl ⟨h0, rfl⟩⟩
    · exact absurd ((r.mem b hb).1 hbt) (In.none h0 b)
  · obtain ⟨x, ex, hx, hm⟩ := r.hp.d.minim r.hp.o.wf (by omega)
    have hxl := r.inl hx
    rcases endF_spec L false L.length with ⟨e, hn⟩ | ⟨b, e, hb, hbt, hh⟩
    · have := hn x hxl
      rw [(r.mem x hxl).2 hx] at this
      cases this
    · have hbi := (r.mem b hb).1 hbt
      have h1 := hm b hbi
      have h2 := hh x hxl ((r.mem x hxl).2 hx)
      simp only [Bool.false_eq_true, if_false] at h2
      rw [r.lt hx hbi] at h2
      have : b = x := by
        rcases ltE_tri K b x with q | q | q
        · rw [h1] at q; cases q
        · exact q
        · rw [h2] at q; cases q
      subst this
      rw [e, ex]
      exact ⟨by simp [toI, r.ky b hbi], .inr ⟨b, rfl, rfl, hbi⟩⟩
theorem Rel.most {K : List K3} {h : HS} {L : List E9} (r : Rel K h L) : endR L true = toI (maxR K h) ∧ ((h.A.length = 0 ∧ endF L true L.length = none) ∨ ∃ x, endF L true L.length = some x ∧ maxR K h = (x, key K x, 0) ∧ In h x) := by
  unfold endR
  by_cases h0 : h.A.length = 0
  · rw [max_none h0]
    rcases endF_spec L true L.length with ⟨e, _⟩ | ⟨b, e, hb, hbt, _⟩
    · rw [e]; exact ⟨rfl, .inl ⟨h0, rfl⟩⟩
    · exact absurd ((r.mem b hb).1 hbt) (In.none h0 b)
  · obtain ⟨x, ex, hx, hm⟩ := r.hp.d.maxim r.hp.o.wf (by omega)
    have hxl := r.inl hx
    rcases endF_spec L true L.length with ⟨e, hn⟩ | ⟨b, e, hb, hbt, hh⟩
    · have := hn x hxl
      rw [(r.mem x hxl).2 hx] at this
      cases this
    · have hbi := (r.mem b hb).1 hbt
      have h1 := hm b hbi
      have h2 := hh x hxl ((r.mem x hxl).2 hx)
      simp only [if_true] at h2
      rw [r.lt hbi hx] at h2
      have : b = x := by
        rcases ltE_tri K b x with q | q | q
        · rw [h2] at q; cases q
        · exact q
        · rw [h1] at q; cases q
      subst this
      rw [e, ex]
      exact ⟨by simp [toI, r.ky b hbi], .inr ⟨b, rfl, rfl, hbi⟩⟩
theorem Rel.count {K : List K3} {h : HS} {L : List E9} (r : Rel K h L) : L.countP (·.2) = h.A.length := by
  have e1 : L = (List.range L.length).map (gd L) := by
    apply gd_ext (by simp)
    intro k hk
    rw [gd_map (by simpa using hk)]
    congr 1
    rw [gd_eq (by simpa using hk)]; simp
  have e2 : L.countP (·.2) = (List.range L.length).countP (fun x => (gd L x).2) := by
    conv => lhs; rw [e1]
    rw [List.countP_map]; rfl
  rw [e2, List.countP_eq_length_filter]
  have w := r.hp.o.wf
  have hAe : h.A = (List.range h.A.length).map (at_ h.A) := by
    apply List.ext_getElem (by simp)
    intro k h1 h2
    simp [at_, List.getD_eq_getElem?_getD, List.getElem?_eq_getElem h1]
  have nd : h.A.Nodup := by
    rw [hAe, List.nodup_iff_pairwise_ne, List.pairwise_map]
    refine List.Pairwise.imp_of_mem ?_ (List.nodup_iff_pairwise_ne.1 List.nodup_range)
    intro a b ha hb hne e
    exact hne (w.inj (List.mem_range.1 ha) (List.mem_range.1 hb) e)
  refine List.Perm.length_eq ((List.perm_ext_iff_of_nodup (List.nodup_iff_pairwise_ne.2 (List.Pairwise.filter _ (List.nodup_iff_pairwise_ne.1 List.nodup_range))) nd).2 fun x => ?_)
  rw [List.mem_filter, List.mem_range]
  constructor
  · rintro ⟨h1, h2⟩
    obtain ⟨i, hi, e⟩ := (r.mem x h1).1 h2
    rw [← e]
    simp [at_, List.getD_eq_getElem?_getD, List.getElem?_eq_getElem hi]
  · intro hx
    obtain ⟨i, hi, e⟩ := List.mem_iff_getElem.1 hx
    have hin : In h x := ⟨i, hi, by rw [← e]; simp [at_, List.getD_eq_getElem?_getD, List.getElem?_eq_getElem hi]⟩
    exact ⟨r.inl hin, (r.mem x (r.inl hin)).2 hin⟩
theorem Rel.ins {K : List K3} {h : HS} {L : List E9} (r : Rel K h L) (k : K3) (hlt : K.length < 1048576) : Rel (K ++ [k]) (insH K h k) (L ++ [(k, true)]) := by
  have hi := (In.ins r.hp.o k hlt).1
  refine ⟨r.hp.ins k hlt, by simp [r.len], ?_, ?_⟩
  · intro x hx
    rw [hi]
    by_cases h1 : x < L.length
    · rw [gd_app_left h1, r.mem x h1]
      exact ⟨.inl, fun q => q.elim id (fun q => by have := r.len; omega)⟩
    · have : x = L.length := by simp at hx; omega
      subst this
      rw [gd_app_last]
      exact ⟨fun _ => .inr r.len, fun _ => rfl⟩
  · intro x hx
    rcases (hi x).1 hx with q | q
    · have h1 := r.inl q
      have h2 : x < K.length := by rw [← r.len]; exact h1
      have := r.ky x q
      unfold k9 at *
      rw [gd_app_left h1, this]
      unfold Go.Proofs.Ythalgicmiobdjaa.key
      rw [List.getD_eq_getElem?_getD, List.getD_eq_getElem?_getD, List.getElem?_append_left h2]
    · subst q
      unfold k9
      rw [← r.len, gd_app_last]
      unfold Go.Proofs.Ythalgicmiobdjaa.key
      rw [List.getD_eq_getElem?_getD, r.len, List.getElem?_append_right (Nat.le_refl _)]
      simp
theorem Rel.remd {K : List K3} {h : HS} {L : List E9} (r : Rel K h L) {y : Nat} (hy : In h y) : Rel K (remH K h y) (L.set y ((0, 0, 0), false)) := by
  have hr := In.rem r.hp.o hy
  have hyl := r.inl hy
  refine ⟨r.hp.rem y, by simp [r.len], ?_, ?_⟩
  · intro x hx
    rw [hr.1, gd_set hyl]
    split
    · rename_i e; subst e; simp
    · rename_i e
      rw [r.mem x (by simpa using hx)]
      exact ⟨fun q => ⟨q, e⟩, fun q => q.1⟩
  · intro x hx
    have q := (hr.1 x).1 hx
    unfold k9
    rw [gd_set_ne q.2]
    exact r.ky x q.1
theorem Rel.updd {K : List K3} {h : HS} {L : List E9} (r : Rel K h L) {y : Nat} (hy : In h y) (k : K3) : Rel (updK K h y k) (updH K h y k) (L.set y (k, true)) := by
  have hr := In.upd r.hp.o y k
  have hyl := r.inl hy
  have hp := (plc_in r.hp.o y).2 hy
  refine ⟨r.hp.upd y k, by simp [r.len, updK_len], ?_, ?_⟩
  · intro x hx
    rw [hr.1, gd_set hyl]
    split
    · rename_i e; subst e; simp [hy]
    · exact r.mem x (by simpa using hx)
  · intro x hx
    have q := (hr.1 x).1 hx
    unfold k9
    unfold updK
    rw [if_neg hp, gd_set hyl]
    unfold Go.Proofs.Ythalgicmiobdjaa.key
    rw [Int.toNat_natCast, List.getD_eq_getElem?_getD, List.getElem?_set]
    by_cases e : x = y
    · subst e
      have : x < K.length := by rw [← r.len]; exact hyl
      simp [this]
    · rw [if_neg e, if_neg (fun e' => e e'.symm)]
      have := r.ky x q
      unfold k9 Go.Proofs.Ythalgicmiobdjaa.key at this
      rw [this, List.getD_eq_getElem?_getD]
theorem Rel.get {K : List K3} {h : HS} {L : List E9} (r : Rel K h L) (x : Int) : (getE L x = true ∧ ∃ n : Nat, x = n ∧ In h n ∧ ¬ plc h x < 0) ∨ (getE L x = false ∧ plc h x < 0) := by
  by_cases h0 : 0 ≤ x
  · obtain ⟨n, rfl⟩ : ∃ n : Nat, x = n := ⟨x.toNat, by omega⟩
    by_cases hn : n < L.length
    · have e : getE L n = (gd L n).2 := by simp [getE, hn]
      rw [e]
      by_cases hi : In h n
      · left; exact ⟨(r.mem n hn).2 hi, n, rfl, hi, (plc_in r.hp.o n).2 hi⟩
      · right
        refine ⟨?_, ?_⟩
        · cases q : (gd L n).2 with
          | false => rfl
          | true => exact absurd ((r.mem n hn).1 q) hi
        · have := mt (plc_in r.hp.o n).1 hi
          omega
    · right
      exact ⟨by simp [getE]; omega, plc_big r.hp.o (by rw [← r.len]; omega)⟩
  · right
    exact ⟨by simp [getE]; omega, plc_neg (by omega)⟩
end Go.Proofs.Ythalgicmiobdjaa
