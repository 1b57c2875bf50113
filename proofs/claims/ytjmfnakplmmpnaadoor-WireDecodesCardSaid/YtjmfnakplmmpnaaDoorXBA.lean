import Derived.Test.YtjmfnakplmmpnaaDoorXAZ
namespace Go.Proofs.YtjmfnakplmmpnaaDoor
open Go.Sl
set_option linter.unusedVariables false
set_option linter.unusedSimpArgs false
set_option maxRecDepth 100000
set_option maxHeartbeats 1000000
theorem rmany_step {α : Type} {f : QS → α × QS} {k i : Nat} {acc : List α} {s0 s : QS} (hi : i < k) (hb : s.2 = false) (h : (rManyP f k s0) = (acc ++ (rManyP f (k - i) s).1, (rManyP f (k - i) s).2)) :
    (rManyP f k s0) = ((acc ++ [(f s).1]) ++ (rManyP f (k - (i + 1)) (f s).2).1, (rManyP f (k - (i + 1)) (f s).2).2) := by
  rw [h, show k - i = (k - (i + 1)) + 1 by omega]
  conv => lhs; unfold rManyP
  rw [if_neg (by rw [hb]; simp)]
  simp
theorem rmany_bad {α : Type} {f : QS → α × QS} (k : Nat) {s : QS} (hb : s.2 = true) : rManyP f k s = ([], s) := by
  cases k with
  | zero => rfl
  | succ k => unfold rManyP; rw [if_pos hb]
theorem rmany_end {α : Type} {f : QS → α × QS} {k i : Nat} {acc : List α} {s0 s : QS} (hi : ¬ i < k ∨ s.2 = true) (h : (rManyP f k s0) = (acc ++ (rManyP f (k - i) s).1, (rManyP f (k - i) s).2)) : rManyP f k s0 = (acc, s) := by
  have e : rManyP f (k - i) s = ([], s) := by
    rcases hi with hi | hi
    · rw [show k - i = 0 by omega]; rfl
    · exact rmany_bad _ hi
  rw [h, e]
  simp
abbrev LJ (α : Type) := Nat × (Nat × Bool) × (Option Addr × Nat) × List α
theorem rVecP_in {b : Bs} {s : QS} (h : s.1 ≤ b.length) : (rVecP b s).2.1 ≤ b.length := rNumP_in (rNumP_in (rNumP_in (rNumP_in h)))
theorem rjb_ct (M : List As) (rb : Nat) (a : Option Addr) (cap : Nat) (b : Bs) (i : Nat) (bad : Bool) (h : RS M a cap b) (hi : i ≤ b.length) :
    Ctr Tryd.prog 73 #[.pointer (some ⟨rb, 0, none⟩)] (qc rb a cap b i bad :: M) (fun v M' => ∃ pa pc ta tc, ∃ j : JV, v = .agg (encJ j).toArray ∧ nfJ j = (rJobP b (i, bad)).1 ∧ (rJobP b (i, bad)).2.1 ≤ b.length ∧ j.tenant.size ≤ 140737488355328 ∧ j.par = ⟨pa, pc, j.par.xs⟩ ∧ j.tasks = ⟨ta, tc, j.tasks.xs⟩ ∧ j.nodes = ⟨none, 0, []⟩ ∧ j.don = ⟨none, 0, []⟩ ∧ j.par.xs.length ≤ 64 ∧ j.tasks.xs.length ≤ 64 ∧
      M' = qc rb a cap b (rJobP b (i, bad)).2.1 (rJobP b (i, bad)).2.2 :: ERow 2 1 Go.Proofs.YtjmfnakplmmpnaaDoor.encI pa j.par.xs.length pc j.par.xs :: ERow 23 4 encV4 ta j.tasks.xs.length tc j.tasks.xs :: M) := by
  have hlen := h.len
  refine ctr_of (Γ := tab) (vs := [_]) fn73 rfl ?_
  unfold rJobP
  dsimp only
  repeat ((conv => whnf); (first | refine ztx ?_ | refine LNext.nilr ?_ | refine zne ?_ | refine zga ?_ | refine zxa ?_ | refine zca ?_ | refine zcb ?_ | refine zgb ?_ | refine zgd1 ?_ | refine zge ?_ | refine zgf ?_ | refine zgj ?_ | refine zgk ?_ | refine eqStr ?_ | refine neqStr ?_ | refine eqSlNil ?_ | refine capSlice ?_ | refine zgm ?_ | refine zgn ?_ | refine zgo ?_ | refine zba ?_ | refine zbb ?_ | refine zbc ?_ | refine zbd ?_ | refine zbe ?_ | refine zbf ?_ | refine zia ?_ | refine zib ?_ | refine zic ?_ | refine zid1 ?_ | refine zif1 ?_ | refine zig ?_ | refine zih ?_ | refine lint_u8_mod ?_ | refine zua ?_ | refine zgs ?_ | refine LRes.mk ?_ | refine LIn.step ?_ | refine zdr ?_ | refine zna (fun _ => ?_) | refine znb (fun _ => ?_) | refine znc (fun _ => ?_) | refine newSlice0 (fun _ => ?_)))
  rename_i R J
  refine call1 (rNum_ct M rb a cap b i bad h hi) zSp ?_
  rintro v M' ⟨rfl, hM⟩
  subst hM
  have g1 := rNumP_in (b := b) (s := (i, bad)) hi
  generalize rNumP b (i, bad) = q at *
  obtain ⟨x1, i1, d1⟩ := q
  dsimp only at g1 ⊢
  repeat ((conv => whnf); (first | refine ztx ?_ | refine LNext.nilr ?_ | refine zne ?_ | refine zga ?_ | refine zxa ?_ | refine zca ?_ | refine zcb ?_ | refine zgb ?_ | refine zgd1 ?_ | refine zge ?_ | refine zgf ?_ | refine zgj ?_ | refine zgk ?_ | refine eqStr ?_ | refine neqStr ?_ | refine eqSlNil ?_ | refine capSlice ?_ | refine zgm ?_ | refine zgn ?_ | refine zgo ?_ | refine zba ?_ | refine zbb ?_ | refine zbc ?_ | refine zbd ?_ | refine zbe ?_ | refine zbf ?_ | refine zia ?_ | refine zib ?_ | refine zic ?_ | refine zid1 ?_ | refine zif1 ?_ | refine zig ?_ | refine zih ?_ | refine lint_u8_mod ?_ | refine zua ?_ | refine zgs ?_ | refine LRes.mk ?_ | refine LIn.step ?_ | refine zdr ?_ | refine zna (fun _ => ?_) | refine znb (fun _ => ?_) | refine znc (fun _ => ?_) | refine newSlice0 (fun _ => ?_)))
  refine call1 (rText_ct M rb a cap b i1 d1 h g1) zSp ?_
  rintro v M' ⟨rfl, hz, hM⟩
  subst hM
  have g2 := rTxtP_in (b := b) (s := (i1, d1)) g1
  generalize rTxtP b (i1, d1) = q at *
  obtain ⟨x2, i2, d2⟩ := q
  dsimp only at g2 hz ⊢
  repeat ((conv => whnf); (first | refine ztx ?_ | refine LNext.nilr ?_ | refine zne ?_ | refine zga ?_ | refine zxa ?_ | refine zca ?_ | refine zcb ?_ | refine zgb ?_ | refine zgd1 ?_ | refine zge ?_ | refine zgf ?_ | refine zgj ?_ | refine zgk ?_ | refine eqStr ?_ | refine neqStr ?_ | refine eqSlNil ?_ | refine capSlice ?_ | refine zgm ?_ | refine zgn ?_ | refine zgo ?_ | refine zba ?_ | refine zbb ?_ | refine zbc ?_ | refine zbd ?_ | refine zbe ?_ | refine zbf ?_ | refine zia ?_ | refine zib ?_ | refine zic ?_ | refine zid1 ?_ | refine zif1 ?_ | refine zig ?_ | refine zih ?_ | refine lint_u8_mod ?_ | refine zua ?_ | refine zgs ?_ | refine LRes.mk ?_ | refine LIn.step ?_ | refine zdr ?_ | refine zna (fun _ => ?_) | refine znb (fun _ => ?_) | refine znc (fun _ => ?_) | refine newSlice0 (fun _ => ?_)))
  refine call1 (rNum_ct M rb a cap b i2 d2 h g2) zSp ?_
  rintro v M' ⟨rfl, hM⟩
  subst hM
  have g3 := rNumP_in (b := b) (s := (i2, d2)) g2
  generalize rNumP b (i2, d2) = q at *
  obtain ⟨x3, i3, d3⟩ := q
  dsimp only at g3 ⊢
  repeat ((conv => whnf); (first | refine ztx ?_ | refine LNext.nilr ?_ | refine zne ?_ | refine zga ?_ | refine zxa ?_ | refine zca ?_ | refine zcb ?_ | refine zgb ?_ | refine zgd1 ?_ | refine zge ?_ | refine zgf ?_ | refine zgj ?_ | refine zgk ?_ | refine eqStr ?_ | refine neqStr ?_ | refine eqSlNil ?_ | refine capSlice ?_ | refine zgm ?_ | refine zgn ?_ | refine zgo ?_ | refine zba ?_ | refine zbb ?_ | refine zbc ?_ | refine zbd ?_ | refine zbe ?_ | refine zbf ?_ | refine zia ?_ | refine zib ?_ | refine zic ?_ | refine zid1 ?_ | refine zif1 ?_ | refine zig ?_ | refine zih ?_ | refine lint_u8_mod ?_ | refine zua ?_ | refine zgs ?_ | refine LRes.mk ?_ | refine LIn.step ?_ | refine zdr ?_ | refine zna (fun _ => ?_) | refine znb (fun _ => ?_) | refine znc (fun _ => ?_) | refine newSlice0 (fun _ => ?_)))
  refine call1 (rNum_ct M rb a cap b i3 d3 h g3) zSp ?_
  rintro v M' ⟨rfl, hM⟩
  subst hM
  have g4 := rNumP_in (b := b) (s := (i3, d3)) g3
  generalize rNumP b (i3, d3) = q at *
  obtain ⟨x4, i4, d4⟩ := q
  dsimp only at g4 ⊢
  repeat ((conv => whnf); (first | refine ztx ?_ | refine LNext.nilr ?_ | refine zne ?_ | refine zga ?_ | refine zxa ?_ | refine zca ?_ | refine zcb ?_ | refine zgb ?_ | refine zgd1 ?_ | refine zge ?_ | refine zgf ?_ | refine zgj ?_ | refine zgk ?_ | refine eqStr ?_ | refine neqStr ?_ | refine eqSlNil ?_ | refine capSlice ?_ | refine zgm ?_ | refine zgn ?_ | refine zgo ?_ | refine zba ?_ | refine zbb ?_ | refine zbc ?_ | refine zbd ?_ | refine zbe ?_ | refine zbf ?_ | refine zia ?_ | refine zib ?_ | refine zic ?_ | refine zid1 ?_ | refine zif1 ?_ | refine zig ?_ | refine zih ?_ | refine lint_u8_mod ?_ | refine zua ?_ | refine zgs ?_ | refine LRes.mk ?_ | refine LIn.step ?_ | refine zdr ?_ | refine zna (fun _ => ?_) | refine znb (fun _ => ?_) | refine znc (fun _ => ?_) | refine newSlice0 (fun _ => ?_)))
  have lt5 := rNumP_lt b (i4, d4)
  refine call1 (rNum_ct M rb a cap b i4 d4 h g4) zSp ?_
  rintro v M' ⟨rfl, hM⟩
  subst hM
  have g5 := rNumP_in (b := b) (s := (i4, d4)) g4
  generalize rNumP b (i4, d4) = q at *
  obtain ⟨x5, i5, d5⟩ := q
  dsimp only at g5 lt5 ⊢
  repeat ((conv => whnf); (first | refine ztx ?_ | refine LNext.nilr ?_ | refine zne ?_ | refine zga ?_ | refine zxa ?_ | refine zca ?_ | refine zcb ?_ | refine zgb ?_ | refine zgd1 ?_ | refine zge ?_ | refine zgf ?_ | refine zgj ?_ | refine zgk ?_ | refine eqStr ?_ | refine neqStr ?_ | refine eqSlNil ?_ | refine capSlice ?_ | refine zgm ?_ | refine zgn ?_ | refine zgo ?_ | refine zba ?_ | refine zbb ?_ | refine zbc ?_ | refine zbd ?_ | refine zbe ?_ | refine zbf ?_ | refine zia ?_ | refine zib ?_ | refine zic ?_ | refine zid1 ?_ | refine zif1 ?_ | refine zig ?_ | refine zih ?_ | refine lint_u8_mod ?_ | refine zua ?_ | refine zgs ?_ | refine LRes.mk ?_ | refine LIn.step ?_ | refine zdr ?_ | refine zna (fun _ => ?_) | refine znb (fun _ => ?_) | refine znc (fun _ => ?_) | refine newSlice0 (fun _ => ?_)))
  refine LLoop.invN (fun x : LJ Int => [(0, .pointer (some ⟨rb, 0, none⟩)), (2, .pointer (some ⟨R, 0, none⟩)), (3, .pointer (some ⟨J, 0, none⟩)), (4, .int .i64 x5), (5, .int .i64 x.1)])
    (fun x => qc rb a cap b x.2.1.1 x.2.1.2 :: jc J x1 x2 x3 x4 x.2.2.1.1 x.2.2.2.length x.2.2.1.2 none 0 0 :: jz R :: ERow 2 1 Go.Proofs.YtjmfnakplmmpnaaDoor.encI x.2.2.1.1 x.2.2.2.length x.2.2.1.2 x.2.2.2 :: M)
    (fun x => x.1 ≤ min x5 10 ∧ x.2.1.1 ≤ b.length ∧ x.2.2.2.length = x.1 ∧ rManyP (rNumI b) (min x5 10) (i5, d5) = (x.2.2.2 ++ (rManyP (rNumI b) (min x5 10 - x.1) x.2.1).1, (rManyP (rNumI b) (min x5 10 - x.1) x.2.1).2))
    (fun x => 10 - x.1) (0, (i5, d5), (none, 0), []) ⟨Nat.zero_le _, g5, rfl, rfl⟩ zSu (Ent.trans (ent_e0 (E := 2) (sz := 1) (enc := Go.Proofs.YtjmfnakplmmpnaaDoor.encI)) zEn) ?_
  rintro ⟨m5, ⟨j5, e5⟩, ⟨pa, pac⟩, xs⟩ ⟨hm, hj, hx, hr⟩
  dsimp only at hm hj hx hr ⊢
  by_cases p1 : m5 < min x5 10 ∧ e5 = false
  · obtain ⟨p1, rfl⟩ := p1
    have hst := rmany_step p1 rfl hr
    have p2 : m5 < x5 := by omega
    have p3 : m5 < 10 := by omega
    refine LNext.go tab ?_
    repeat ((conv => whnf); (first | refine ztx ?_ | refine LNext.nilr ?_ | refine zne ?_ | refine zga ?_ | refine zxa ?_ | refine zca ?_ | refine zcb ?_ | refine zgb ?_ | refine zgd1 ?_ | refine zge ?_ | refine zgf ?_ | refine zgj ?_ | refine zgk ?_ | refine eqStr ?_ | refine neqStr ?_ | refine eqSlNil ?_ | refine capSlice ?_ | refine zgm ?_ | refine zgn ?_ | refine zgo ?_ | refine zba ?_ | refine zbb ?_ | refine zbc ?_ | refine zbd ?_ | refine zbe ?_ | refine zbf ?_ | refine zia ?_ | refine zib ?_ | refine zic ?_ | refine zid1 ?_ | refine zif1 ?_ | refine zig ?_ | refine zih ?_ | refine lint_u8_mod ?_ | refine zua ?_ | refine zgs ?_ | refine LRes.mk ?_ | refine LIn.step ?_ | refine zna (fun _ => ?_) | refine znb (fun _ => ?_) | refine znc (fun _ => ?_) | refine newSlice0 (fun _ => ?_)))
    refine LDraw.parts [Sl.pt J _] (by decide +kernel) zSp ?_
    repeat ((conv => whnf); (first | refine ztx ?_ | refine LNext.nilr ?_ | refine zne ?_ | refine zga ?_ | refine zxa ?_ | refine zca ?_ | refine zcb ?_ | refine zgb ?_ | refine zgd1 ?_ | refine zge ?_ | refine zgf ?_ | refine zgj ?_ | refine zgk ?_ | refine eqStr ?_ | refine neqStr ?_ | refine eqSlNil ?_ | refine capSlice ?_ | refine zgm ?_ | refine zgn ?_ | refine zgo ?_ | refine zba ?_ | refine zbb ?_ | refine zbc ?_ | refine zbd ?_ | refine zbe ?_ | refine zbf ?_ | refine zia ?_ | refine zib ?_ | refine zic ?_ | refine zid1 ?_ | refine zif1 ?_ | refine zig ?_ | refine zih ?_ | refine lint_u8_mod ?_ | refine zua ?_ | refine zgs ?_ | refine LRes.mk ?_ | refine LIn.step ?_ | refine zdr ?_ | refine zna (fun _ => ?_) | refine znb (fun _ => ?_) | refine znc (fun _ => ?_) | refine newSlice0 (fun _ => ?_)))
    refine call1 (rNum_ct M rb a cap b j5 false h hj) zSp ?_
    rintro v M' ⟨rfl, hM⟩
    subst hM
    have gg := rNumP_in (b := b) (s := (j5, false)) hj
    have hnI : rNumI b (j5, false) = (((rNumP b (j5, false)).1 : Int), (rNumP b (j5, false)).2) := rfl
    rw [hnI] at hst
    generalize rNumP b (j5, false) = q at *
    obtain ⟨y, j', e'⟩ := q
    dsimp only at gg hst ⊢
    repeat ((conv => whnf); (first | refine ztx ?_ | refine LNext.nilr ?_ | refine zne ?_ | refine zga ?_ | refine zxa ?_ | refine zca ?_ | refine zcb ?_ | refine zgb ?_ | refine zgd1 ?_ | refine zge ?_ | refine zgf ?_ | refine zgj ?_ | refine zgk ?_ | refine eqStr ?_ | refine neqStr ?_ | refine eqSlNil ?_ | refine capSlice ?_ | refine zgm ?_ | refine zgn ?_ | refine zgo ?_ | refine zba ?_ | refine zbb ?_ | refine zbc ?_ | refine zbd ?_ | refine zbe ?_ | refine zbf ?_ | refine zia ?_ | refine zib ?_ | refine zic ?_ | refine zid1 ?_ | refine zif1 ?_ | refine zig ?_ | refine zih ?_ | refine lint_u8_mod ?_ | refine zua ?_ | refine zgs ?_ | refine LRes.mk ?_ | refine LIn.step ?_ | refine zdr ?_ | refine zna (fun _ => ?_) | refine znb (fun _ => ?_) | refine znc (fun _ => ?_) | refine newSlice0 (fun _ => ?_)))
    refine appendE tab (enc := Go.Proofs.YtjmfnakplmmpnaaDoor.encI) (xs := xs) ([(y : Int)]) zTk (by intro _; rfl) rfl rfl rfl rfl rfl zCs (by intro x hx; simp at hx; subst hx; rfl) (by simp only [maxLen]; omega) (by omega) (by omega) (fun g c => ?_)
    rw [show xs.length + 1 = (xs ++ [(y : Int)]).length by simp]
    repeat ((conv => whnf); (first | refine ztx ?_ | refine LNext.nilr ?_ | refine zne ?_ | refine zga ?_ | refine zxa ?_ | refine zca ?_ | refine zcb ?_ | refine zgb ?_ | refine zgd1 ?_ | refine zge ?_ | refine zgf ?_ | refine zgj ?_ | refine zgk ?_ | refine eqStr ?_ | refine neqStr ?_ | refine eqSlNil ?_ | refine capSlice ?_ | refine zgm ?_ | refine zgn ?_ | refine zgo ?_ | refine zba ?_ | refine zbb ?_ | refine zbc ?_ | refine zbd ?_ | refine zbe ?_ | refine zbf ?_ | refine zia ?_ | refine zib ?_ | refine zic ?_ | refine zid1 ?_ | refine zif1 ?_ | refine zig ?_ | refine zih ?_ | refine lint_u8_mod ?_ | refine zua ?_ | refine zgs ?_ | refine LRes.mk ?_ | refine LIn.step ?_ | refine zdr ?_ | refine zna (fun _ => ?_) | refine znb (fun _ => ?_) | refine znc (fun _ => ?_) | refine newSlice0 (fun _ => ?_)))
    exact ⟨(m5 + 1, (j', e'), (some ⟨g, 0, none⟩, c), xs ++ [(y : Int)]), ⟨by show m5 + 1 ≤ _; omega, gg, by show (xs ++ [(y : Int)]).length = m5 + 1; simp [hx], hst⟩, by show 10 - (m5 + 1) < 10 - m5; omega, zSu, zEn⟩
  have he := rmany_end (by
    rcases Bool.eq_false_or_eq_true e5 with q | q
    · exact Or.inr q
    · exact Or.inl (fun p => p1 ⟨p, q⟩)) hr
  rw [he]
  clear hr he
  have h64xs : xs.length ≤ 64 := by omega
  dsimp only
  by_cases q1 : m5 < x5
  · by_cases q2 : m5 < 10
    · have q3 : e5 = true := by
        rcases Bool.eq_false_or_eq_true e5 with q | q
        · exact q
        · exact absurd ⟨by omega, q⟩ p1
      subst q3
      refine LNext.go tab ?_
      repeat ((conv => whnf); (first | refine ztx ?_ | refine LNext.nilr ?_ | refine zne ?_ | refine zga ?_ | refine zxa ?_ | refine zca ?_ | refine zcb ?_ | refine zgb ?_ | refine zgd1 ?_ | refine zge ?_ | refine zgf ?_ | refine zgj ?_ | refine zgk ?_ | refine eqStr ?_ | refine neqStr ?_ | refine eqSlNil ?_ | refine capSlice ?_ | refine zgm ?_ | refine zgn ?_ | refine zgo ?_ | refine zba ?_ | refine zbb ?_ | refine zbc ?_ | refine zbd ?_ | refine zbe ?_ | refine zbf ?_ | refine zia ?_ | refine zib ?_ | refine zic ?_ | refine zid1 ?_ | refine zif1 ?_ | refine zig ?_ | refine zih ?_ | refine lint_u8_mod ?_ | refine zua ?_ | refine zgs ?_ | refine LRes.mk ?_ | refine LIn.step ?_ | refine zdr ?_ | refine zna (fun _ => ?_) | refine znb (fun _ => ?_) | refine znc (fun _ => ?_) | refine newSlice0 (fun _ => ?_)))
      have lt6 := rNumP_lt b (j5, true)
      refine call1 (rNum_ct M rb a cap b j5 true h hj) zSp ?_
      rintro v M' ⟨rfl, hM⟩
      subst hM
      have g6 := rNumP_in (b := b) (s := (j5, true)) hj
      generalize rNumP b (j5, true) = q at *
      obtain ⟨x6, i6, d6⟩ := q
      dsimp only at g6 lt6 ⊢
      repeat ((conv => whnf); (first | refine ztx ?_ | refine LNext.nilr ?_ | refine zne ?_ | refine zga ?_ | refine zxa ?_ | refine zca ?_ | refine zcb ?_ | refine zgb ?_ | refine zgd1 ?_ | refine zge ?_ | refine zgf ?_ | refine zgj ?_ | refine zgk ?_ | refine eqStr ?_ | refine neqStr ?_ | refine eqSlNil ?_ | refine capSlice ?_ | refine zgm ?_ | refine zgn ?_ | refine zgo ?_ | refine zba ?_ | refine zbb ?_ | refine zbc ?_ | refine zbd ?_ | refine zbe ?_ | refine zbf ?_ | refine zia ?_ | refine zib ?_ | refine zic ?_ | refine zid1 ?_ | refine zif1 ?_ | refine zig ?_ | refine zih ?_ | refine lint_u8_mod ?_ | refine zua ?_ | refine zgs ?_ | refine LRes.mk ?_ | refine LIn.step ?_ | refine zdr ?_ | refine zna (fun _ => ?_) | refine znb (fun _ => ?_) | refine znc (fun _ => ?_) | refine newSlice0 (fun _ => ?_)))
      refine LLoop.invN (fun x : LJ V4 => [(0, .pointer (some ⟨rb, 0, none⟩)), (2, .pointer (some ⟨R, 0, none⟩)), (3, .pointer (some ⟨J, 0, none⟩)), (4, .int .i64 x6), (6, .int .i64 x.1)])
        (fun x => qc rb a cap b x.2.1.1 x.2.1.2 :: jc J x1 x2 x3 x4 pa xs.length pac x.2.2.1.1 x.2.2.2.length x.2.2.1.2 :: jz R :: ERow 2 1 Go.Proofs.YtjmfnakplmmpnaaDoor.encI pa xs.length pac xs :: ERow 23 4 encV4 x.2.2.1.1 x.2.2.2.length x.2.2.1.2 x.2.2.2 :: M)
        (fun x => x.1 ≤ min x6 10 ∧ x.2.1.1 ≤ b.length ∧ x.2.2.2.length = x.1 ∧ rManyP (rVecP b) (min x6 10) (i6, d6) = (x.2.2.2 ++ (rManyP (rVecP b) (min x6 10 - x.1) x.2.1).1, (rManyP (rVecP b) (min x6 10 - x.1) x.2.1).2))
        (fun x => 10 - x.1) (0, (i6, d6), (none, 0), []) ⟨Nat.zero_le _, g6, rfl, rfl⟩ zSu (Ent.trans (ent_e0 (E := 23) (sz := 4) (enc := encV4)) zEn) ?_
      rintro ⟨m6, ⟨j6, e6⟩, ⟨ta, tac⟩, ys⟩ ⟨hm, hj, hx, hr⟩
      dsimp only at hm hj hx hr ⊢
      by_cases p1 : m6 < min x6 10 ∧ e6 = false
      · obtain ⟨p1, rfl⟩ := p1
        have hst := rmany_step p1 rfl hr
        have p2 : m6 < x6 := by omega
        have p3 : m6 < 10 := by omega
        refine LNext.go tab ?_
        repeat ((conv => whnf); (first | refine ztx ?_ | refine LNext.nilr ?_ | refine zne ?_ | refine zga ?_ | refine zxa ?_ | refine zca ?_ | refine zcb ?_ | refine zgb ?_ | refine zgd1 ?_ | refine zge ?_ | refine zgf ?_ | refine zgj ?_ | refine zgk ?_ | refine eqStr ?_ | refine neqStr ?_ | refine eqSlNil ?_ | refine capSlice ?_ | refine zgm ?_ | refine zgn ?_ | refine zgo ?_ | refine zba ?_ | refine zbb ?_ | refine zbc ?_ | refine zbd ?_ | refine zbe ?_ | refine zbf ?_ | refine zia ?_ | refine zib ?_ | refine zic ?_ | refine zid1 ?_ | refine zif1 ?_ | refine zig ?_ | refine zih ?_ | refine lint_u8_mod ?_ | refine zua ?_ | refine zgs ?_ | refine LRes.mk ?_ | refine LIn.step ?_ | refine zna (fun _ => ?_) | refine znb (fun _ => ?_) | refine znc (fun _ => ?_) | refine newSlice0 (fun _ => ?_)))
        refine LDraw.parts [Sl.pt J _] (by decide +kernel) zSp ?_
        repeat ((conv => whnf); (first | refine ztx ?_ | refine LNext.nilr ?_ | refine zne ?_ | refine zga ?_ | refine zxa ?_ | refine zca ?_ | refine zcb ?_ | refine zgb ?_ | refine zgd1 ?_ | refine zge ?_ | refine zgf ?_ | refine zgj ?_ | refine zgk ?_ | refine eqStr ?_ | refine neqStr ?_ | refine eqSlNil ?_ | refine capSlice ?_ | refine zgm ?_ | refine zgn ?_ | refine zgo ?_ | refine zba ?_ | refine zbb ?_ | refine zbc ?_ | refine zbd ?_ | refine zbe ?_ | refine zbf ?_ | refine zia ?_ | refine zib ?_ | refine zic ?_ | refine zid1 ?_ | refine zif1 ?_ | refine zig ?_ | refine zih ?_ | refine lint_u8_mod ?_ | refine zua ?_ | refine zgs ?_ | refine LRes.mk ?_ | refine LIn.step ?_ | refine zdr ?_ | refine zna (fun _ => ?_) | refine znb (fun _ => ?_) | refine znc (fun _ => ?_) | refine newSlice0 (fun _ => ?_)))
        refine call1 (rVec_ct M rb a cap b j6 false h hj) zSp ?_
        rintro v M' ⟨rfl, hM⟩
        subst hM
        have gg := rVecP_in (b := b) (s := (j6, false)) hj
        generalize rVecP b (j6, false) = q at *
        obtain ⟨y, j', e'⟩ := q
        dsimp only at gg hst ⊢
        repeat ((conv => whnf); (first | refine ztx ?_ | refine LNext.nilr ?_ | refine zne ?_ | refine zga ?_ | refine zxa ?_ | refine zca ?_ | refine zcb ?_ | refine zgb ?_ | refine zgd1 ?_ | refine zge ?_ | refine zgf ?_ | refine zgj ?_ | refine zgk ?_ | refine eqStr ?_ | refine neqStr ?_ | refine eqSlNil ?_ | refine capSlice ?_ | refine zgm ?_ | refine zgn ?_ | refine zgo ?_ | refine zba ?_ | refine zbb ?_ | refine zbc ?_ | refine zbd ?_ | refine zbe ?_ | refine zbf ?_ | refine zia ?_ | refine zib ?_ | refine zic ?_ | refine zid1 ?_ | refine zif1 ?_ | refine zig ?_ | refine zih ?_ | refine lint_u8_mod ?_ | refine zua ?_ | refine zgs ?_ | refine LRes.mk ?_ | refine LIn.step ?_ | refine zdr ?_ | refine zna (fun _ => ?_) | refine znb (fun _ => ?_) | refine znc (fun _ => ?_) | refine newSlice0 (fun _ => ?_)))
        refine appendE tab (enc := encV4) (xs := ys) ([y]) zTk (by intro _; rfl) rfl rfl rfl rfl rfl zCs (by intro x hx; simp at hx; subst hx; rfl) (by simp only [maxLen]; omega) (by omega) (by omega) (fun g c => ?_)
        rw [show ys.length + 1 = (ys ++ [y]).length by simp]
        repeat ((conv => whnf); (first | refine ztx ?_ | refine LNext.nilr ?_ | refine zne ?_ | refine zga ?_ | refine zxa ?_ | refine zca ?_ | refine zcb ?_ | refine zgb ?_ | refine zgd1 ?_ | refine zge ?_ | refine zgf ?_ | refine zgj ?_ | refine zgk ?_ | refine eqStr ?_ | refine neqStr ?_ | refine eqSlNil ?_ | refine capSlice ?_ | refine zgm ?_ | refine zgn ?_ | refine zgo ?_ | refine zba ?_ | refine zbb ?_ | refine zbc ?_ | refine zbd ?_ | refine zbe ?_ | refine zbf ?_ | refine zia ?_ | refine zib ?_ | refine zic ?_ | refine zid1 ?_ | refine zif1 ?_ | refine zig ?_ | refine zih ?_ | refine lint_u8_mod ?_ | refine zua ?_ | refine zgs ?_ | refine LRes.mk ?_ | refine LIn.step ?_ | refine zdr ?_ | refine zna (fun _ => ?_) | refine znb (fun _ => ?_) | refine znc (fun _ => ?_) | refine newSlice0 (fun _ => ?_)))
        exact ⟨(m6 + 1, (j', e'), (some ⟨g, 0, none⟩, c), ys ++ [y]), ⟨by show m6 + 1 ≤ _; omega, gg, by show (ys ++ [y]).length = m6 + 1; simp [hx], hst⟩, by show 10 - (m6 + 1) < 10 - m6; omega, zSu, zEn⟩
      have he := rmany_end (by
        rcases Bool.eq_false_or_eq_true e6 with q | q
        · exact Or.inr q
        · exact Or.inl (fun p => p1 ⟨p, q⟩)) hr
      rw [he]
      clear hr he
      have h64ys : ys.length ≤ 64 := by omega
      dsimp only
      by_cases q4 : m6 < x6
      · by_cases q5 : m6 < 10
        · have q6 : e6 = true := by
            rcases Bool.eq_false_or_eq_true e6 with q | q
            · exact q
            · exact absurd ⟨by omega, q⟩ p1
          subst q6
          refine LNext.go tab ?_
          repeat ((conv => whnf); (first | refine ztx ?_ | refine LNext.nilr ?_ | refine zne ?_ | refine zga ?_ | refine zxa ?_ | refine zca ?_ | refine zcb ?_ | refine zgb ?_ | refine zgd1 ?_ | refine zge ?_ | refine zgf ?_ | refine zgj ?_ | refine zgk ?_ | refine eqStr ?_ | refine neqStr ?_ | refine eqSlNil ?_ | refine capSlice ?_ | refine zgm ?_ | refine zgn ?_ | refine zgo ?_ | refine zba ?_ | refine zbb ?_ | refine zbc ?_ | refine zbd ?_ | refine zbe ?_ | refine zbf ?_ | refine zia ?_ | refine zib ?_ | refine zic ?_ | refine zid1 ?_ | refine zif1 ?_ | refine zig ?_ | refine zih ?_ | refine lint_u8_mod ?_ | refine zua ?_ | refine zgs ?_ | refine LRes.mk ?_ | refine LIn.step ?_ | refine zdr ?_ | refine zna (fun _ => ?_) | refine znb (fun _ => ?_) | refine znc (fun _ => ?_) | refine newSlice0 (fun _ => ?_)))
          show Fin _ _ _; exact Fin.of (qc rb a cap b j6 true :: ERow 2 1 Go.Proofs.YtjmfnakplmmpnaaDoor.encI pa xs.length pac xs :: ERow 23 4 encV4 ta ys.length tac ys :: M) zEn ⟨pa, pac, ta, tac, ⟨x1, x2, x3, x4, ⟨pa, pac, xs⟩, ⟨ta, tac, ys⟩, 0, 0, ⟨none, 0, []⟩, 0, ⟨none, 0, []⟩⟩, rfl, rfl, hj, hz, rfl, rfl, rfl, rfl, h64xs, h64ys, rfl⟩
        · refine LNext.go tab ?_
          repeat ((conv => whnf); (first | refine ztx ?_ | refine LNext.nilr ?_ | refine zne ?_ | refine zga ?_ | refine zxa ?_ | refine zca ?_ | refine zcb ?_ | refine zgb ?_ | refine zgd1 ?_ | refine zge ?_ | refine zgf ?_ | refine zgj ?_ | refine zgk ?_ | refine eqStr ?_ | refine neqStr ?_ | refine eqSlNil ?_ | refine capSlice ?_ | refine zgm ?_ | refine zgn ?_ | refine zgo ?_ | refine zba ?_ | refine zbb ?_ | refine zbc ?_ | refine zbd ?_ | refine zbe ?_ | refine zbf ?_ | refine zia ?_ | refine zib ?_ | refine zic ?_ | refine zid1 ?_ | refine zif1 ?_ | refine zig ?_ | refine zih ?_ | refine lint_u8_mod ?_ | refine zua ?_ | refine zgs ?_ | refine LRes.mk ?_ | refine LIn.step ?_ | refine zdr ?_ | refine zna (fun _ => ?_) | refine znb (fun _ => ?_) | refine znc (fun _ => ?_) | refine newSlice0 (fun _ => ?_)))
          show Fin _ _ _; exact Fin.of (qc rb a cap b j6 e6 :: ERow 2 1 Go.Proofs.YtjmfnakplmmpnaaDoor.encI pa xs.length pac xs :: ERow 23 4 encV4 ta ys.length tac ys :: M) zEn ⟨pa, pac, ta, tac, ⟨x1, x2, x3, x4, ⟨pa, pac, xs⟩, ⟨ta, tac, ys⟩, 0, 0, ⟨none, 0, []⟩, 0, ⟨none, 0, []⟩⟩, rfl, rfl, hj, hz, rfl, rfl, rfl, rfl, h64xs, h64ys, rfl⟩
      · refine LNext.go tab ?_
        repeat ((conv => whnf); (first | refine ztx ?_ | refine LNext.nilr ?_ | refine zne ?_ | refine zga ?_ | refine zxa ?_ | refine zca ?_ | refine zcb ?_ | refine zgb ?_ | refine zgd1 ?_ | refine zge ?_ | refine zgf ?_ | refine zgj ?_ | refine zgk ?_ | refine eqStr ?_ | refine neqStr ?_ | refine eqSlNil ?_ | refine capSlice ?_ | refine zgm ?_ | refine zgn ?_ | refine zgo ?_ | refine zba ?_ | refine zbb ?_ | refine zbc ?_ | refine zbd ?_ | refine zbe ?_ | refine zbf ?_ | refine zia ?_ | refine zib ?_ | refine zic ?_ | refine zid1 ?_ | refine zif1 ?_ | refine zig ?_ | refine zih ?_ | refine lint_u8_mod ?_ | refine zua ?_ | refine zgs ?_ | refine LRes.mk ?_ | refine LIn.step ?_ | refine zdr ?_ | refine zna (fun _ => ?_) | refine znb (fun _ => ?_) | refine znc (fun _ => ?_) | refine newSlice0 (fun _ => ?_)))
        show Fin _ _ _; exact Fin.of (qc rb a cap b j6 e6 :: ERow 2 1 Go.Proofs.YtjmfnakplmmpnaaDoor.encI pa xs.length pac xs :: ERow 23 4 encV4 ta ys.length tac ys :: M) zEn ⟨pa, pac, ta, tac, ⟨x1, x2, x3, x4, ⟨pa, pac, xs⟩, ⟨ta, tac, ys⟩, 0, 0, ⟨none, 0, []⟩, 0, ⟨none, 0, []⟩⟩, rfl, rfl, hj, hz, rfl, rfl, rfl, rfl, h64xs, h64ys, rfl⟩
    · refine LNext.go tab ?_
      repeat ((conv => whnf); (first | refine ztx ?_ | refine LNext.nilr ?_ | refine zne ?_ | refine zga ?_ | refine zxa ?_ | refine zca ?_ | refine zcb ?_ | refine zgb ?_ | refine zgd1 ?_ | refine zge ?_ | refine zgf ?_ | refine zgj ?_ | refine zgk ?_ | refine eqStr ?_ | refine neqStr ?_ | refine eqSlNil ?_ | refine capSlice ?_ | refine zgm ?_ | refine zgn ?_ | refine zgo ?_ | refine zba ?_ | refine zbb ?_ | refine zbc ?_ | refine zbd ?_ | refine zbe ?_ | refine zbf ?_ | refine zia ?_ | refine zib ?_ | refine zic ?_ | refine zid1 ?_ | refine zif1 ?_ | refine zig ?_ | refine zih ?_ | refine lint_u8_mod ?_ | refine zua ?_ | refine zgs ?_ | refine LRes.mk ?_ | refine LIn.step ?_ | refine zdr ?_ | refine zna (fun _ => ?_) | refine znb (fun _ => ?_) | refine znc (fun _ => ?_) | refine newSlice0 (fun _ => ?_)))
      have lt6 := rNumP_lt b (j5, e5)
      refine call1 (rNum_ct M rb a cap b j5 e5 h hj) zSp ?_
      rintro v M' ⟨rfl, hM⟩
      subst hM
      have g6 := rNumP_in (b := b) (s := (j5, e5)) hj
      generalize rNumP b (j5, e5) = q at *
      obtain ⟨x6, i6, d6⟩ := q
      dsimp only at g6 lt6 ⊢
      repeat ((conv => whnf); (first | refine ztx ?_ | refine LNext.nilr ?_ | refine zne ?_ | refine zga ?_ | refine zxa ?_ | refine zca ?_ | refine zcb ?_ | refine zgb ?_ | refine zgd1 ?_ | refine zge ?_ | refine zgf ?_ | refine zgj ?_ | refine zgk ?_ | refine eqStr ?_ | refine neqStr ?_ | refine eqSlNil ?_ | refine capSlice ?_ | refine zgm ?_ | refine zgn ?_ | refine zgo ?_ | refine zba ?_ | refine zbb ?_ | refine zbc ?_ | refine zbd ?_ | refine zbe ?_ | refine zbf ?_ | refine zia ?_ | refine zib ?_ | refine zic ?_ | refine zid1 ?_ | refine zif1 ?_ | refine zig ?_ | refine zih ?_ | refine lint_u8_mod ?_ | refine zua ?_ | refine zgs ?_ | refine LRes.mk ?_ | refine LIn.step ?_ | refine zdr ?_ | refine zna (fun _ => ?_) | refine znb (fun _ => ?_) | refine znc (fun _ => ?_) | refine newSlice0 (fun _ => ?_)))
      refine LLoop.invN (fun x : LJ V4 => [(0, .pointer (some ⟨rb, 0, none⟩)), (2, .pointer (some ⟨R, 0, none⟩)), (3, .pointer (some ⟨J, 0, none⟩)), (4, .int .i64 x6), (6, .int .i64 x.1)])
        (fun x => qc rb a cap b x.2.1.1 x.2.1.2 :: jc J x1 x2 x3 x4 pa xs.length pac x.2.2.1.1 x.2.2.2.length x.2.2.1.2 :: jz R :: ERow 2 1 Go.Proofs.YtjmfnakplmmpnaaDoor.encI pa xs.length pac xs :: ERow 23 4 encV4 x.2.2.1.1 x.2.2.2.length x.2.2.1.2 x.2.2.2 :: M)
        (fun x => x.1 ≤ min x6 10 ∧ x.2.1.1 ≤ b.length ∧ x.2.2.2.length = x.1 ∧ rManyP (rVecP b) (min x6 10) (i6, d6) = (x.2.2.2 ++ (rManyP (rVecP b) (min x6 10 - x.1) x.2.1).1, (rManyP (rVecP b) (min x6 10 - x.1) x.2.1).2))
        (fun x => 10 - x.1) (0, (i6, d6), (none, 0), []) ⟨Nat.zero_le _, g6, rfl, rfl⟩ zSu (Ent.trans (ent_e0 (E := 23) (sz := 4) (enc := encV4)) zEn) ?_
      rintro ⟨m6, ⟨j6, e6⟩, ⟨ta, tac⟩, ys⟩ ⟨hm, hj, hx, hr⟩
      dsimp only at hm hj hx hr ⊢
      by_cases p1 : m6 < min x6 10 ∧ e6 = false
      · obtain ⟨p1, rfl⟩ := p1
        have hst := rmany_step p1 rfl hr
        have p2 : m6 < x6 := by omega
        have p3 : m6 < 10 := by omega
        refine LNext.go tab ?_
        repeat ((conv => whnf); (first | refine ztx ?_ | refine LNext.nilr ?_ | refine zne ?_ | refine zga ?_ | refine zxa ?_ | refine zca ?_ | refine zcb ?_ | refine zgb ?_ | refine zgd1 ?_ | refine zge ?_ | refine zgf ?_ | refine zgj ?_ | refine zgk ?_ | refine eqStr ?_ | refine neqStr ?_ | refine eqSlNil ?_ | refine capSlice ?_ | refine zgm ?_ | refine zgn ?_ | refine zgo ?_ | refine zba ?_ | refine zbb ?_ | refine zbc ?_ | refine zbd ?_ | refine zbe ?_ | refine zbf ?_ | refine zia ?_ | refine zib ?_ | refine zic ?_ | refine zid1 ?_ | refine zif1 ?_ | refine zig ?_ | refine zih ?_ | refine lint_u8_mod ?_ | refine zua ?_ | refine zgs ?_ | refine LRes.mk ?_ | refine LIn.step ?_ | refine zna (fun _ => ?_) | refine znb (fun _ => ?_) | refine znc (fun _ => ?_) | refine newSlice0 (fun _ => ?_)))
        refine LDraw.parts [Sl.pt J _] (by decide +kernel) zSp ?_
        repeat ((conv => whnf); (first | refine ztx ?_ | refine LNext.nilr ?_ | refine zne ?_ | refine zga ?_ | refine zxa ?_ | refine zca ?_ | refine zcb ?_ | refine zgb ?_ | refine zgd1 ?_ | refine zge ?_ | refine zgf ?_ | refine zgj ?_ | refine zgk ?_ | refine eqStr ?_ | refine neqStr ?_ | refine eqSlNil ?_ | refine capSlice ?_ | refine zgm ?_ | refine zgn ?_ | refine zgo ?_ | refine zba ?_ | refine zbb ?_ | refine zbc ?_ | refine zbd ?_ | refine zbe ?_ | refine zbf ?_ | refine zia ?_ | refine zib ?_ | refine zic ?_ | refine zid1 ?_ | refine zif1 ?_ | refine zig ?_ | refine zih ?_ | refine lint_u8_mod ?_ | refine zua ?_ | refine zgs ?_ | refine LRes.mk ?_ | refine LIn.step ?_ | refine zdr ?_ | refine zna (fun _ => ?_) | refine znb (fun _ => ?_) | refine znc (fun _ => ?_) | refine newSlice0 (fun _ => ?_)))
        refine call1 (rVec_ct M rb a cap b j6 false h hj) zSp ?_
        rintro v M' ⟨rfl, hM⟩
        subst hM
        have gg := rVecP_in (b := b) (s := (j6, false)) hj
        generalize rVecP b (j6, false) = q at *
        obtain ⟨y, j', e'⟩ := q
        dsimp only at gg hst ⊢
        repeat ((conv => whnf); (first | refine ztx ?_ | refine LNext.nilr ?_ | refine zne ?_ | refine zga ?_ | refine zxa ?_ | refine zca ?_ | refine zcb ?_ | refine zgb ?_ | refine zgd1 ?_ | refine zge ?_ | refine zgf ?_ | refine zgj ?_ | refine zgk ?_ | refine eqStr ?_ | refine neqStr ?_ | refine eqSlNil ?_ | refine capSlice ?_ | refine zgm ?_ | refine zgn ?_ | refine zgo ?_ | refine zba ?_ | refine zbb ?_ | refine zbc ?_ | refine zbd ?_ | refine zbe ?_ | refine zbf ?_ | refine zia ?_ | refine zib ?_ | refine zic ?_ | refine zid1 ?_ | refine zif1 ?_ | refine zig ?_ | refine zih ?_ | refine lint_u8_mod ?_ | refine zua ?_ | refine zgs ?_ | refine LRes.mk ?_ | refine LIn.step ?_ | refine zdr ?_ | refine zna (fun _ => ?_) | refine znb (fun _ => ?_) | refine znc (fun _ => ?_) | refine newSlice0 (fun _ => ?_)))
        refine appendE tab (enc := encV4) (xs := ys) ([y]) zTk (by intro _; rfl) rfl rfl rfl rfl rfl zCs (by intro x hx; simp at hx; subst hx; rfl) (by simp only [maxLen]; omega) (by omega) (by omega) (fun g c => ?_)
        rw [show ys.length + 1 = (ys ++ [y]).length by simp]
        repeat ((conv => whnf); (first | refine ztx ?_ | refine LNext.nilr ?_ | refine zne ?_ | refine zga ?_ | refine zxa ?_ | refine zca ?_ | refine zcb ?_ | refine zgb ?_ | refine zgd1 ?_ | refine zge ?_ | refine zgf ?_ | refine zgj ?_ | refine zgk ?_ | refine eqStr ?_ | refine neqStr ?_ | refine eqSlNil ?_ | refine capSlice ?_ | refine zgm ?_ | refine zgn ?_ | refine zgo ?_ | refine zba ?_ | refine zbb ?_ | refine zbc ?_ | refine zbd ?_ | refine zbe ?_ | refine zbf ?_ | refine zia ?_ | refine zib ?_ | refine zic ?_ | refine zid1 ?_ | refine zif1 ?_ | refine zig ?_ | refine zih ?_ | refine lint_u8_mod ?_ | refine zua ?_ | refine zgs ?_ | refine LRes.mk ?_ | refine LIn.step ?_ | refine zdr ?_ | refine zna (fun _ => ?_) | refine znb (fun _ => ?_) | refine znc (fun _ => ?_) | refine newSlice0 (fun _ => ?_)))
        exact ⟨(m6 + 1, (j', e'), (some ⟨g, 0, none⟩, c), ys ++ [y]), ⟨by show m6 + 1 ≤ _; omega, gg, by show (ys ++ [y]).length = m6 + 1; simp [hx], hst⟩, by show 10 - (m6 + 1) < 10 - m6; omega, zSu, zEn⟩
      have he := rmany_end (by
        rcases Bool.eq_false_or_eq_true e6 with q | q
        · exact Or.inr q
        · exact Or.inl (fun p => p1 ⟨p, q⟩)) hr
      rw [he]
      clear hr he
      have h64ys : ys.length ≤ 64 := by omega
      dsimp only
      by_cases q4 : m6 < x6
      · by_cases q5 : m6 < 10
        · have q6 : e6 = true := by
            rcases Bool.eq_false_or_eq_true e6 with q | q
            · exact q
            · exact absurd ⟨by omega, q⟩ p1
          subst q6
          refine LNext.go tab ?_
          repeat ((conv => whnf); (first | refine ztx ?_ | refine LNext.nilr ?_ | refine zne ?_ | refine zga ?_ | refine zxa ?_ | refine zca ?_ | refine zcb ?_ | refine zgb ?_ | refine zgd1 ?_ | refine zge ?_ | refine zgf ?_ | refine zgj ?_ | refine zgk ?_ | refine eqStr ?_ | refine neqStr ?_ | refine eqSlNil ?_ | refine capSlice ?_ | refine zgm ?_ | refine zgn ?_ | refine zgo ?_ | refine zba ?_ | refine zbb ?_ | refine zbc ?_ | refine zbd ?_ | refine zbe ?_ | refine zbf ?_ | refine zia ?_ | refine zib ?_ | refine zic ?_ | refine zid1 ?_ | refine zif1 ?_ | refine zig ?_ | refine zih ?_ | refine lint_u8_mod ?_ | refine zua ?_ | refine zgs ?_ | refine LRes.mk ?_ | refine LIn.step ?_ | refine zdr ?_ | refine zna (fun _ => ?_) | refine znb (fun _ => ?_) | refine znc (fun _ => ?_) | refine newSlice0 (fun _ => ?_)))
          show Fin _ _ _; exact Fin.of (qc rb a cap b j6 true :: ERow 2 1 Go.Proofs.YtjmfnakplmmpnaaDoor.encI pa xs.length pac xs :: ERow 23 4 encV4 ta ys.length tac ys :: M) zEn ⟨pa, pac, ta, tac, ⟨x1, x2, x3, x4, ⟨pa, pac, xs⟩, ⟨ta, tac, ys⟩, 0, 0, ⟨none, 0, []⟩, 0, ⟨none, 0, []⟩⟩, rfl, rfl, hj, hz, rfl, rfl, rfl, rfl, h64xs, h64ys, rfl⟩
        · refine LNext.go tab ?_
          repeat ((conv => whnf); (first | refine ztx ?_ | refine LNext.nilr ?_ | refine zne ?_ | refine zga ?_ | refine zxa ?_ | refine zca ?_ | refine zcb ?_ | refine zgb ?_ | refine zgd1 ?_ | refine zge ?_ | refine zgf ?_ | refine zgj ?_ | refine zgk ?_ | refine eqStr ?_ | refine neqStr ?_ | refine eqSlNil ?_ | refine capSlice ?_ | refine zgm ?_ | refine zgn ?_ | refine zgo ?_ | refine zba ?_ | refine zbb ?_ | refine zbc ?_ | refine zbd ?_ | refine zbe ?_ | refine zbf ?_ | refine zia ?_ | refine zib ?_ | refine zic ?_ | refine zid1 ?_ | refine zif1 ?_ | refine zig ?_ | refine zih ?_ | refine lint_u8_mod ?_ | refine zua ?_ | refine zgs ?_ | refine LRes.mk ?_ | refine LIn.step ?_ | refine zdr ?_ | refine zna (fun _ => ?_) | refine znb (fun _ => ?_) | refine znc (fun _ => ?_) | refine newSlice0 (fun _ => ?_)))
          show Fin _ _ _; exact Fin.of (qc rb a cap b j6 e6 :: ERow 2 1 Go.Proofs.YtjmfnakplmmpnaaDoor.encI pa xs.length pac xs :: ERow 23 4 encV4 ta ys.length tac ys :: M) zEn ⟨pa, pac, ta, tac, ⟨x1, x2, x3, x4, ⟨pa, pac, xs⟩, ⟨ta, tac, ys⟩, 0, 0, ⟨none, 0, []⟩, 0, ⟨none, 0, []⟩⟩, rfl, rfl, hj, hz, rfl, rfl, rfl, rfl, h64xs, h64ys, rfl⟩
      · refine LNext.go tab ?_
        repeat ((conv => whnf); (first | refine ztx ?_ | refine LNext.nilr ?_ | refine zne ?_ | refine zga ?_ | refine zxa ?_ | refine zca ?_ | refine zcb ?_ | refine zgb ?_ | refine zgd1 ?_ | refine zge ?_ | refine zgf ?_ | refine zgj ?_ | refine zgk ?_ | refine eqStr ?_ | refine neqStr ?_ | refine eqSlNil ?_ | refine capSlice ?_ | refine zgm ?_ | refine zgn ?_ | refine zgo ?_ | refine zba ?_ | refine zbb ?_ | refine zbc ?_ | refine zbd ?_ | refine zbe ?_ | refine zbf ?_ | refine zia ?_ | refine zib ?_ | refine zic ?_ | refine zid1 ?_ | refine zif1 ?_ | refine zig ?_ | refine zih ?_ | refine lint_u8_mod ?_ | refine zua ?_ | refine zgs ?_ | refine LRes.mk ?_ | refine LIn.step ?_ | refine zdr ?_ | refine zna (fun _ => ?_) | refine znb (fun _ => ?_) | refine znc (fun _ => ?_) | refine newSlice0 (fun _ => ?_)))
        show Fin _ _ _; exact Fin.of (qc rb a cap b j6 e6 :: ERow 2 1 Go.Proofs.YtjmfnakplmmpnaaDoor.encI pa xs.length pac xs :: ERow 23 4 encV4 ta ys.length tac ys :: M) zEn ⟨pa, pac, ta, tac, ⟨x1, x2, x3, x4, ⟨pa, pac, xs⟩, ⟨ta, tac, ys⟩, 0, 0, ⟨none, 0, []⟩, 0, ⟨none, 0, []⟩⟩, rfl, rfl, hj, hz, rfl, rfl, rfl, rfl, h64xs, h64ys, rfl⟩
  · refine LNext.go tab ?_
    repeat ((conv => whnf); (first | refine ztx ?_ | refine LNext.nilr ?_ | refine zne ?_ | refine zga ?_ | refine zxa ?_ | refine zca ?_ | refine zcb ?_ | refine zgb ?_ | refine zgd1 ?_ | refine zge ?_ | refine zgf ?_ | refine zgj ?_ | refine zgk ?_ | refine eqStr ?_ | refine neqStr ?_ | refine eqSlNil ?_ | refine capSlice ?_ | refine zgm ?_ | refine zgn ?_ | refine zgo ?_ | refine zba ?_ | refine zbb ?_ | refine zbc ?_ | refine zbd ?_ | refine zbe ?_ | refine zbf ?_ | refine zia ?_ | refine zib ?_ | refine zic ?_ | refine zid1 ?_ | refine zif1 ?_ | refine zig ?_ | refine zih ?_ | refine lint_u8_mod ?_ | refine zua ?_ | refine zgs ?_ | refine LRes.mk ?_ | refine LIn.step ?_ | refine zdr ?_ | refine zna (fun _ => ?_) | refine znb (fun _ => ?_) | refine znc (fun _ => ?_) | refine newSlice0 (fun _ => ?_)))
    have lt6 := rNumP_lt b (j5, e5)
    refine call1 (rNum_ct M rb a cap b j5 e5 h hj) zSp ?_
    rintro v M' ⟨rfl, hM⟩
    subst hM
    have g6 := rNumP_in (b := b) (s := (j5, e5)) hj
    generalize rNumP b (j5, e5) = q at *
    obtain ⟨x6, i6, d6⟩ := q
    dsimp only at g6 lt6 ⊢
    repeat ((conv => whnf); (first | refine ztx ?_ | refine LNext.nilr ?_ | refine zne ?_ | refine zga ?_ | refine zxa ?_ | refine zca ?_ | refine zcb ?_ | refine zgb ?_ | refine zgd1 ?_ | refine zge ?_ | refine zgf ?_ | refine zgj ?_ | refine zgk ?_ | refine eqStr ?_ | refine neqStr ?_ | refine eqSlNil ?_ | refine capSlice ?_ | refine zgm ?_ | refine zgn ?_ | refine zgo ?_ | refine zba ?_ | refine zbb ?_ | refine zbc ?_ | refine zbd ?_ | refine zbe ?_ | refine zbf ?_ | refine zia ?_ | refine zib ?_ | refine zic ?_ | refine zid1 ?_ | refine zif1 ?_ | refine zig ?_ | refine zih ?_ | refine lint_u8_mod ?_ | refine zua ?_ | refine zgs ?_ | refine LRes.mk ?_ | refine LIn.step ?_ | refine zdr ?_ | refine zna (fun _ => ?_) | refine znb (fun _ => ?_) | refine znc (fun _ => ?_) | refine newSlice0 (fun _ => ?_)))
    refine LLoop.invN (fun x : LJ V4 => [(0, .pointer (some ⟨rb, 0, none⟩)), (2, .pointer (some ⟨R, 0, none⟩)), (3, .pointer (some ⟨J, 0, none⟩)), (4, .int .i64 x6), (6, .int .i64 x.1)])
      (fun x => qc rb a cap b x.2.1.1 x.2.1.2 :: jc J x1 x2 x3 x4 pa xs.length pac x.2.2.1.1 x.2.2.2.length x.2.2.1.2 :: jz R :: ERow 2 1 Go.Proofs.YtjmfnakplmmpnaaDoor.encI pa xs.length pac xs :: ERow 23 4 encV4 x.2.2.1.1 x.2.2.2.length x.2.2.1.2 x.2.2.2 :: M)
      (fun x => x.1 ≤ min x6 10 ∧ x.2.1.1 ≤ b.length ∧ x.2.2.2.length = x.1 ∧ rManyP (rVecP b) (min x6 10) (i6, d6) = (x.2.2.2 ++ (rManyP (rVecP b) (min x6 10 - x.1) x.2.1).1, (rManyP (rVecP b) (min x6 10 - x.1) x.2.1).2))
      (fun x => 10 - x.1) (0, (i6, d6), (none, 0), []) ⟨Nat.zero_le _, g6, rfl, rfl⟩ zSu (Ent.trans (ent_e0 (E := 23) (sz := 4) (enc := encV4)) zEn) ?_
    rintro ⟨m6, ⟨j6, e6⟩, ⟨ta, tac⟩, ys⟩ ⟨hm, hj, hx, hr⟩
    dsimp only at hm hj hx hr ⊢
    by_cases p1 : m6 < min x6 10 ∧ e6 = false
    · obtain ⟨p1, rfl⟩ := p1
      have hst := rmany_step p1 rfl hr
      have p2 : m6 < x6 := by omega
      have p3 : m6 < 10 := by omega
      refine LNext.go tab ?_
      repeat ((conv => whnf); (first | refine ztx ?_ | refine LNext.nilr ?_ | refine zne ?_ | refine zga ?_ | refine zxa ?_ | refine zca ?_ | refine zcb ?_ | refine zgb ?_ | refine zgd1 ?_ | refine zge ?_ | refine zgf ?_ | refine zgj ?_ | refine zgk ?_ | refine eqStr ?_ | refine neqStr ?_ | refine eqSlNil ?_ | refine capSlice ?_ | refine zgm ?_ | refine zgn ?_ | refine zgo ?_ | refine zba ?_ | refine zbb ?_ | refine zbc ?_ | refine zbd ?_ | refine zbe ?_ | refine zbf ?_ | refine zia ?_ | refine zib ?_ | refine zic ?_ | refine zid1 ?_ | refine zif1 ?_ | refine zig ?_ | refine zih ?_ | refine lint_u8_mod ?_ | refine zua ?_ | refine zgs ?_ | refine LRes.mk ?_ | refine LIn.step ?_ | refine zna (fun _ => ?_) | refine znb (fun _ => ?_) | refine znc (fun _ => ?_) | refine newSlice0 (fun _ => ?_)))
      refine LDraw.parts [Sl.pt J _] (by decide +kernel) zSp ?_
      repeat ((conv => whnf); (first | refine ztx ?_ | refine LNext.nilr ?_ | refine zne ?_ | refine zga ?_ | refine zxa ?_ | refine zca ?_ | refine zcb ?_ | refine zgb ?_ | refine zgd1 ?_ | refine zge ?_ | refine zgf ?_ | refine zgj ?_ | refine zgk ?_ | refine eqStr ?_ | refine neqStr ?_ | refine eqSlNil ?_ | refine capSlice ?_ | refine zgm ?_ | refine zgn ?_ | refine zgo ?_ | refine zba ?_ | refine zbb ?_ | refine zbc ?_ | refine zbd ?_ | refine zbe ?_ | refine zbf ?_ | refine zia ?_ | refine zib ?_ | refine zic ?_ | refine zid1 ?_ | refine zif1 ?_ | refine zig ?_ | refine zih ?_ | refine lint_u8_mod ?_ | refine zua ?_ | refine zgs ?_ | refine LRes.mk ?_ | refine LIn.step ?_ | refine zdr ?_ | refine zna (fun _ => ?_) | refine znb (fun _ => ?_) | refine znc (fun _ => ?_) | refine newSlice0 (fun _ => ?_)))
      refine call1 (rVec_ct M rb a cap b j6 false h hj) zSp ?_
      rintro v M' ⟨rfl, hM⟩
      subst hM
      have gg := rVecP_in (b := b) (s := (j6, false)) hj
      generalize rVecP b (j6, false) = q at *
      obtain ⟨y, j', e'⟩ := q
      dsimp only at gg hst ⊢
      repeat ((conv => whnf); (first | refine ztx ?_ | refine LNext.nilr ?_ | refine zne ?_ | refine zga ?_ | refine zxa ?_ | refine zca ?_ | refine zcb ?_ | refine zgb ?_ | refine zgd1 ?_ | refine zge ?_ | refine zgf ?_ | refine zgj ?_ | refine zgk ?_ | refine eqStr ?_ | refine neqStr ?_ | refine eqSlNil ?_ | refine capSlice ?_ | refine zgm ?_ | refine zgn ?_ | refine zgo ?_ | refine zba ?_ | refine zbb ?_ | refine zbc ?_ | refine zbd ?_ | refine zbe ?_ | refine zbf ?_ | refine zia ?_ | refine zib ?_ | refine zic ?_ | refine zid1 ?_ | refine zif1 ?_ | refine zig ?_ | refine zih ?_ | refine lint_u8_mod ?_ | refine zua ?_ | refine zgs ?_ | refine LRes.mk ?_ | refine LIn.step ?_ | refine zdr ?_ | refine zna (fun _ => ?_) | refine znb (fun _ => ?_) | refine znc (fun _ => ?_) | refine newSlice0 (fun _ => ?_)))
      refine appendE tab (enc := encV4) (xs := ys) ([y]) zTk (by intro _; rfl) rfl rfl rfl rfl rfl zCs (by intro x hx; simp at hx; subst hx; rfl) (by simp only [maxLen]; omega) (by omega) (by omega) (fun g c => ?_)
      rw [show ys.length + 1 = (ys ++ [y]).length by simp]
      repeat ((conv => whnf); (first | refine ztx ?_ | refine LNext.nilr ?_ | refine zne ?_ | refine zga ?_ | refine zxa ?_ | refine zca ?_ | refine zcb ?_ | refine zgb ?_ | refine zgd1 ?_ | refine zge ?_ | refine zgf ?_ | refine zgj ?_ | refine zgk ?_ | refine eqStr ?_ | refine neqStr ?_ | refine eqSlNil ?_ | refine capSlice ?_ | refine zgm ?_ | refine zgn ?_ | refine zgo ?_ | refine zba ?_ | refine zbb ?_ | refine zbc ?_ | refine zbd ?_ | refine zbe ?_ | refine zbf ?_ | refine zia ?_ | refine zib ?_ | refine zic ?_ | refine zid1 ?_ | refine zif1 ?_ | refine zig ?_ | refine zih ?_ | refine lint_u8_mod ?_ | refine zua ?_ | refine zgs ?_ | refine LRes.mk ?_ | refine LIn.step ?_ | refine zdr ?_ | refine zna (fun _ => ?_) | refine znb (fun _ => ?_) | refine znc (fun _ => ?_) | refine newSlice0 (fun _ => ?_)))
      exact ⟨(m6 + 1, (j', e'), (some ⟨g, 0, none⟩, c), ys ++ [y]), ⟨by show m6 + 1 ≤ _; omega, gg, by show (ys ++ [y]).length = m6 + 1; simp [hx], hst⟩, by show 10 - (m6 + 1) < 10 - m6; omega, zSu, zEn⟩
    have he := rmany_end (by
      rcases Bool.eq_false_or_eq_true e6 with q | q
      · exact Or.inr q
      · exact Or.inl (fun p => p1 ⟨p, q⟩)) hr
    rw [he]
    clear hr he
    have h64ys : ys.length ≤ 64 := by omega
    dsimp only
    by_cases q4 : m6 < x6
    · by_cases q5 : m6 < 10
      · have q6 : e6 = true := by
          rcases Bool.eq_false_or_eq_true e6 with q | q
          · exact q
          · exact absurd ⟨by omega, q⟩ p1
        subst q6
        refine LNext.go tab ?_
        repeat ((conv => whnf); (first | refine ztx ?_ | refine LNext.nilr ?_ | refine zne ?_ | refine zga ?_ | refine zxa ?_ | refine zca ?_ | refine zcb ?_ | refine zgb ?_ | refine zgd1 ?_ | refine zge ?_ | refine zgf ?_ | refine zgj ?_ | refine zgk ?_ | refine eqStr ?_ | refine neqStr ?_ | refine eqSlNil ?_ | refine capSlice ?_ | refine zgm ?_ | refine zgn ?_ | refine zgo ?_ | refine zba ?_ | refine zbb ?_ | refine zbc ?_ | refine zbd ?_ | refine zbe ?_ | refine zbf ?_ | refine zia ?_ | refine zib ?_ | refine zic ?_ | refine zid1 ?_ | refine zif1 ?_ | refine zig ?_ | refine zih ?_ | refine lint_u8_mod ?_ | refine zua ?_ | refine zgs ?_ | refine LRes.mk ?_ | refine LIn.step ?_ | refine zdr ?_ | refine zna (fun _ => ?_) | refine znb (fun _ => ?_) | refine znc (fun _ => ?_) | refine newSlice0 (fun _ => ?_)))
        show Fin _ _ _; exact Fin.of (qc rb a cap b j6 true :: ERow 2 1 Go.Proofs.YtjmfnakplmmpnaaDoor.encI pa xs.length pac xs :: ERow 23 4 encV4 ta ys.length tac ys :: M) zEn ⟨pa, pac, ta, tac, ⟨x1, x2, x3, x4, ⟨pa, pac, xs⟩, ⟨ta, tac, ys⟩, 0, 0, ⟨none, 0, []⟩, 0, ⟨none, 0, []⟩⟩, rfl, rfl, hj, hz, rfl, rfl, rfl, rfl, h64xs, h64ys, rfl⟩
      · refine LNext.go tab ?_
        repeat ((conv => whnf); (first | refine ztx ?_ | refine LNext.nilr ?_ | refine zne ?_ | refine zga ?_ | refine zxa ?_ | refine zca ?_ | refine zcb ?_ | refine zgb ?_ | refine zgd1 ?_ | refine zge ?_ | refine zgf ?_ | refine zgj ?_ | refine zgk ?_ | refine eqStr ?_ | refine neqStr ?_ | refine eqSlNil ?_ | refine capSlice ?_ | refine zgm ?_ | refine zgn ?_ | refine zgo ?_ | refine zba ?_ | refine zbb ?_ | refine zbc ?_ | refine zbd ?_ | refine zbe ?_ | refine zbf ?_ | refine zia ?_ | refine zib ?_ | refine zic ?_ | refine zid1 ?_ | refine zif1 ?_ | refine zig ?_ | refine zih ?_ | refine lint_u8_mod ?_ | refine zua ?_ | refine zgs ?_ | refine LRes.mk ?_ | refine LIn.step ?_ | refine zdr ?_ | refine zna (fun _ => ?_) | refine znb (fun _ => ?_) | refine znc (fun _ => ?_) | refine newSlice0 (fun _ => ?_)))
        show Fin _ _ _; exact Fin.of (qc rb a cap b j6 e6 :: ERow 2 1 Go.Proofs.YtjmfnakplmmpnaaDoor.encI pa xs.length pac xs :: ERow 23 4 encV4 ta ys.length tac ys :: M) zEn ⟨pa, pac, ta, tac, ⟨x1, x2, x3, x4, ⟨pa, pac, xs⟩, ⟨ta, tac, ys⟩, 0, 0, ⟨none, 0, []⟩, 0, ⟨none, 0, []⟩⟩, rfl, rfl, hj, hz, rfl, rfl, rfl, rfl, h64xs, h64ys, rfl⟩
    · refine LNext.go tab ?_
      repeat ((conv => whnf); (first | refine ztx ?_ | refine LNext.nilr ?_ | refine zne ?_ | refine zga ?_ | refine zxa ?_ | refine zca ?_ | refine zcb ?_ | refine zgb ?_ | refine zgd1 ?_ | refine zge ?_ | refine zgf ?_ | refine zgj ?_ | refine zgk ?_ | refine eqStr ?_ | refine neqStr ?_ | refine eqSlNil ?_ | refine capSlice ?_ | refine zgm ?_ | refine zgn ?_ | refine zgo ?_ | refine zba ?_ | refine zbb ?_ | refine zbc ?_ | refine zbd ?_ | refine zbe ?_ | refine zbf ?_ | refine zia ?_ | refine zib ?_ | refine zic ?_ | refine zid1 ?_ | refine zif1 ?_ | refine zig ?_ | refine zih ?_ | refine lint_u8_mod ?_ | refine zua ?_ | refine zgs ?_ | refine LRes.mk ?_ | refine LIn.step ?_ | refine zdr ?_ | refine zna (fun _ => ?_) | refine znb (fun _ => ?_) | refine znc (fun _ => ?_) | refine newSlice0 (fun _ => ?_)))
      show Fin _ _ _; exact Fin.of (qc rb a cap b j6 e6 :: ERow 2 1 Go.Proofs.YtjmfnakplmmpnaaDoor.encI pa xs.length pac xs :: ERow 23 4 encV4 ta ys.length tac ys :: M) zEn ⟨pa, pac, ta, tac, ⟨x1, x2, x3, x4, ⟨pa, pac, xs⟩, ⟨ta, tac, ys⟩, 0, 0, ⟨none, 0, []⟩, 0, ⟨none, 0, []⟩⟩, rfl, rfl, hj, hz, rfl, rfl, rfl, rfl, h64xs, h64ys, rfl⟩
end Go.Proofs.YtjmfnakplmmpnaaDoor

namespace Go.Proofs.YtjmfnakplmmpnaaDoor
open Go.Sl
set_option linter.unusedVariables false
set_option linter.unusedSimpArgs false
set_option maxRecDepth 100000
set_option maxHeartbeats 1000000
def PlAns (M : List As) (rb : Nat) (a : Option Addr) (cap : Nat) (b : Bs) (kind : Nat) (s : QS) (v : Value) (M' : List As) : Prop := ∃ r X, v = .agg (encPl (recP r)).toArray ∧ nf r = (rRecP b kind s).1 ∧ RdR X r ∧ M' = qc rb a cap b (rRecP b kind s).2.1 (rRecP b kind s).2.2 :: (X ++ M)
abbrev p7 (J n : Nat) (pa : Option Addr) (pn pc : Nat) : As := Sl.pt J (.cells #[.int .i64 7, .string ⟨#[]⟩, .int .i64 0, .int .i64 0, .int .i64 0, .int .i64 0, .int .i64 0, .string ⟨#[]⟩, .int .i64 0, .int .i64 0, .int .i64 0, .int .i64 0, .int .i64 0, .int .i64 0, .string ⟨#[]⟩, .int .i64 0, .int .i64 0, .slice none 0 0, .slice none 0 0, .int .i64 0, .int .i64 0, .slice none 0 0, .int .i64 0, .slice none 0 0, .int .i64 n, .slice pa pn pc, .int .i64 0] 32 (0, 0))
abbrev pz (R : Nat) : As := Sl.pt R (.cells #[.int .i64 0, .string ⟨#[]⟩, .int .i64 0, .int .i64 0, .int .i64 0, .int .i64 0, .int .i64 0, .string ⟨#[]⟩, .int .i64 0, .int .i64 0, .int .i64 0, .int .i64 0, .int .i64 0, .int .i64 0, .string ⟨#[]⟩, .int .i64 0, .int .i64 0, .slice none 0 0, .slice none 0 0, .int .i64 0, .int .i64 0, .slice none 0 0, .int .i64 0, .slice none 0 0, .int .i64 0, .slice none 0 0, .int .i64 0] 32 (0, 0))
theorem pl1_ct (M : List As) (rb : Nat) (a : Option Addr) (cap : Nat) (b : Bs) (i : Nat) (bad : Bool) (h : RS M a cap b) (hi : i ≤ b.length) :
    Ctr Tryd.prog 56 #[.pointer (some ⟨rb, 0, none⟩), .int .i64 1] (qc rb a cap b i bad :: M) (PlAns M rb a cap b 1 (i, bad)) := by
  have hr : rRecP b 1 (i, bad) = (.joined (rTxtP b (i, bad)).1 (((rNumP b (rTxtP b (i, bad)).2).1 : Nat) : Int) (rVecP b (rNumP b (rTxtP b (i, bad)).2).2).1, (rVecP b (rNumP b (rTxtP b (i, bad)).2).2).2) := by unfold rRecP; rw [if_pos rfl]
  unfold PlAns
  rw [hr]
  clear hr
  have hlen := h.len
  refine ctr_of (Γ := tab) (vs := [_, _]) fn56 rfl ?_
  repeat ((conv => whnf); (first | refine ztx ?_ | refine LNext.nilr ?_ | refine zne ?_ | refine zga ?_ | refine zxa ?_ | refine zca ?_ | refine zcb ?_ | refine zgb ?_ | refine zgd1 ?_ | refine zge ?_ | refine zgf ?_ | refine zgj ?_ | refine zgk ?_ | refine eqStr ?_ | refine neqStr ?_ | refine eqSlNil ?_ | refine capSlice ?_ | refine zgm ?_ | refine zgn ?_ | refine zgo ?_ | refine zba ?_ | refine zbb ?_ | refine zbc ?_ | refine zbd ?_ | refine zbe ?_ | refine zbf ?_ | refine zia ?_ | refine zib ?_ | refine zic ?_ | refine zid1 ?_ | refine zif1 ?_ | refine zig ?_ | refine zih ?_ | refine lint_u8_mod ?_ | refine zua ?_ | refine zgs ?_ | refine LRes.mk ?_ | refine LIn.step ?_ | refine zdr ?_ | refine zna (fun _ => ?_) | refine znb (fun _ => ?_) | refine znc (fun _ => ?_) | refine newSlice0 (fun _ => ?_)))
  refine call1 (rText_ct M rb a cap b i bad h hi) zSp ?_
  rintro v M' ⟨rfl, hz, hM⟩
  subst hM
  have g1 := rTxtP_in (b := b) (s := (i, bad)) hi
  generalize rTxtP b (i, bad) = q at *
  obtain ⟨x1, i1, d1⟩ := q
  dsimp only at g1 hz ⊢
  repeat ((conv => whnf); (first | refine ztx ?_ | refine LNext.nilr ?_ | refine zne ?_ | refine zga ?_ | refine zxa ?_ | refine zca ?_ | refine zcb ?_ | refine zgb ?_ | refine zgd1 ?_ | refine zge ?_ | refine zgf ?_ | refine zgj ?_ | refine zgk ?_ | refine eqStr ?_ | refine neqStr ?_ | refine eqSlNil ?_ | refine capSlice ?_ | refine zgm ?_ | refine zgn ?_ | refine zgo ?_ | refine zba ?_ | refine zbb ?_ | refine zbc ?_ | refine zbd ?_ | refine zbe ?_ | refine zbf ?_ | refine zia ?_ | refine zib ?_ | refine zic ?_ | refine zid1 ?_ | refine zif1 ?_ | refine zig ?_ | refine zih ?_ | refine lint_u8_mod ?_ | refine zua ?_ | refine zgs ?_ | refine LRes.mk ?_ | refine LIn.step ?_ | refine zdr ?_ | refine zna (fun _ => ?_) | refine znb (fun _ => ?_) | refine znc (fun _ => ?_) | refine newSlice0 (fun _ => ?_)))
  refine call1 (rNum_ct M rb a cap b i1 d1 h g1) zSp ?_
  rintro v M' ⟨rfl, hM⟩
  subst hM
  have g2 := rNumP_in (b := b) (s := (i1, d1)) g1
  generalize rNumP b (i1, d1) = q at *
  obtain ⟨x2, i2, d2⟩ := q
  dsimp only at g2 ⊢
  repeat ((conv => whnf); (first | refine ztx ?_ | refine LNext.nilr ?_ | refine zne ?_ | refine zga ?_ | refine zxa ?_ | refine zca ?_ | refine zcb ?_ | refine zgb ?_ | refine zgd1 ?_ | refine zge ?_ | refine zgf ?_ | refine zgj ?_ | refine zgk ?_ | refine eqStr ?_ | refine neqStr ?_ | refine eqSlNil ?_ | refine capSlice ?_ | refine zgm ?_ | refine zgn ?_ | refine zgo ?_ | refine zba ?_ | refine zbb ?_ | refine zbc ?_ | refine zbd ?_ | refine zbe ?_ | refine zbf ?_ | refine zia ?_ | refine zib ?_ | refine zic ?_ | refine zid1 ?_ | refine zif1 ?_ | refine zig ?_ | refine zih ?_ | refine lint_u8_mod ?_ | refine zua ?_ | refine zgs ?_ | refine LRes.mk ?_ | refine LIn.step ?_ | refine zdr ?_ | refine zna (fun _ => ?_) | refine znb (fun _ => ?_) | refine znc (fun _ => ?_) | refine newSlice0 (fun _ => ?_)))
  refine call1 (rVec_ct M rb a cap b i2 d2 h g2) zSp ?_
  rintro v M' ⟨rfl, hM⟩
  subst hM
  have g3 := rVecP_in (b := b) (s := (i2, d2)) g2
  generalize rVecP b (i2, d2) = q at *
  obtain ⟨x3, i3, d3⟩ := q
  dsimp only at g3 ⊢
  repeat ((conv => whnf); (first | refine ztx ?_ | refine LNext.nilr ?_ | refine zne ?_ | refine zga ?_ | refine zxa ?_ | refine zca ?_ | refine zcb ?_ | refine zgb ?_ | refine zgd1 ?_ | refine zge ?_ | refine zgf ?_ | refine zgj ?_ | refine zgk ?_ | refine eqStr ?_ | refine neqStr ?_ | refine eqSlNil ?_ | refine capSlice ?_ | refine zgm ?_ | refine zgn ?_ | refine zgo ?_ | refine zba ?_ | refine zbb ?_ | refine zbc ?_ | refine zbd ?_ | refine zbe ?_ | refine zbf ?_ | refine zia ?_ | refine zib ?_ | refine zic ?_ | refine zid1 ?_ | refine zif1 ?_ | refine zig ?_ | refine zih ?_ | refine lint_u8_mod ?_ | refine zua ?_ | refine zgs ?_ | refine LRes.mk ?_ | refine LIn.step ?_ | refine zdr ?_ | refine zna (fun _ => ?_) | refine znb (fun _ => ?_) | refine znc (fun _ => ?_) | refine newSlice0 (fun _ => ?_)))
  show Fin _ _ _; exact Fin.of (qc rb a cap b i3 d3 :: M) zEn ⟨.joined x1 (x2 : Int) x3, [], rfl, rfl, hz, rfl⟩
theorem pl2_ct (M : List As) (rb : Nat) (a : Option Addr) (cap : Nat) (b : Bs) (i : Nat) (bad : Bool) (h : RS M a cap b) (hi : i ≤ b.length) :
    Ctr Tryd.prog 56 #[.pointer (some ⟨rb, 0, none⟩), .int .i64 2] (qc rb a cap b i bad :: M) (PlAns M rb a cap b 2 (i, bad)) := by
  have hr : rRecP b 2 (i, bad) = (.up (rTxtP b (i, bad)).1 (((rNumP b (rTxtP b (i, bad)).2).1 : Nat) : Int) (rVecP b (rNumP b (rTxtP b (i, bad)).2).2).1, (rVecP b (rNumP b (rTxtP b (i, bad)).2).2).2) := by unfold rRecP; rw [if_neg (by decide)]; rw [if_pos rfl]
  unfold PlAns
  rw [hr]
  clear hr
  have hlen := h.len
  refine ctr_of (Γ := tab) (vs := [_, _]) fn56 rfl ?_
  repeat ((conv => whnf); (first | refine ztx ?_ | refine LNext.nilr ?_ | refine zne ?_ | refine zga ?_ | refine zxa ?_ | refine zca ?_ | refine zcb ?_ | refine zgb ?_ | refine zgd1 ?_ | refine zge ?_ | refine zgf ?_ | refine zgj ?_ | refine zgk ?_ | refine eqStr ?_ | refine neqStr ?_ | refine eqSlNil ?_ | refine capSlice ?_ | refine zgm ?_ | refine zgn ?_ | refine zgo ?_ | refine zba ?_ | refine zbb ?_ | refine zbc ?_ | refine zbd ?_ | refine zbe ?_ | refine zbf ?_ | refine zia ?_ | refine zib ?_ | refine zic ?_ | refine zid1 ?_ | refine zif1 ?_ | refine zig ?_ | refine zih ?_ | refine lint_u8_mod ?_ | refine zua ?_ | refine zgs ?_ | refine LRes.mk ?_ | refine LIn.step ?_ | refine zdr ?_ | refine zna (fun _ => ?_) | refine znb (fun _ => ?_) | refine znc (fun _ => ?_) | refine newSlice0 (fun _ => ?_)))
  refine call1 (rText_ct M rb a cap b i bad h hi) zSp ?_
  rintro v M' ⟨rfl, hz, hM⟩
  subst hM
  have g1 := rTxtP_in (b := b) (s := (i, bad)) hi
  generalize rTxtP b (i, bad) = q at *
  obtain ⟨x1, i1, d1⟩ := q
  dsimp only at g1 hz ⊢
  repeat ((conv => whnf); (first | refine ztx ?_ | refine LNext.nilr ?_ | refine zne ?_ | refine zga ?_ | refine zxa ?_ | refine zca ?_ | refine zcb ?_ | refine zgb ?_ | refine zgd1 ?_ | refine zge ?_ | refine zgf ?_ | refine zgj ?_ | refine zgk ?_ | refine eqStr ?_ | refine neqStr ?_ | refine eqSlNil ?_ | refine capSlice ?_ | refine zgm ?_ | refine zgn ?_ | refine zgo ?_ | refine zba ?_ | refine zbb ?_ | refine zbc ?_ | refine zbd ?_ | refine zbe ?_ | refine zbf ?_ | refine zia ?_ | refine zib ?_ | refine zic ?_ | refine zid1 ?_ | refine zif1 ?_ | refine zig ?_ | refine zih ?_ | refine lint_u8_mod ?_ | refine zua ?_ | refine zgs ?_ | refine LRes.mk ?_ | refine LIn.step ?_ | refine zdr ?_ | refine zna (fun _ => ?_) | refine znb (fun _ => ?_) | refine znc (fun _ => ?_) | refine newSlice0 (fun _ => ?_)))
  refine call1 (rNum_ct M rb a cap b i1 d1 h g1) zSp ?_
  rintro v M' ⟨rfl, hM⟩
  subst hM
  have g2 := rNumP_in (b := b) (s := (i1, d1)) g1
  generalize rNumP b (i1, d1) = q at *
  obtain ⟨x2, i2, d2⟩ := q
  dsimp only at g2 ⊢
  repeat ((conv => whnf); (first | refine ztx ?_ | refine LNext.nilr ?_ | refine zne ?_ | refine zga ?_ | refine zxa ?_ | refine zca ?_ | refine zcb ?_ | refine zgb ?_ | refine zgd1 ?_ | refine zge ?_ | refine zgf ?_ | refine zgj ?_ | refine zgk ?_ | refine eqStr ?_ | refine neqStr ?_ | refine eqSlNil ?_ | refine capSlice ?_ | refine zgm ?_ | refine zgn ?_ | refine zgo ?_ | refine zba ?_ | refine zbb ?_ | refine zbc ?_ | refine zbd ?_ | refine zbe ?_ | refine zbf ?_ | refine zia ?_ | refine zib ?_ | refine zic ?_ | refine zid1 ?_ | refine zif1 ?_ | refine zig ?_ | refine zih ?_ | refine lint_u8_mod ?_ | refine zua ?_ | refine zgs ?_ | refine LRes.mk ?_ | refine LIn.step ?_ | refine zdr ?_ | refine zna (fun _ => ?_) | refine znb (fun _ => ?_) | refine znc (fun _ => ?_) | refine newSlice0 (fun _ => ?_)))
  refine call1 (rVec_ct M rb a cap b i2 d2 h g2) zSp ?_
  rintro v M' ⟨rfl, hM⟩
  subst hM
  have g3 := rVecP_in (b := b) (s := (i2, d2)) g2
  generalize rVecP b (i2, d2) = q at *
  obtain ⟨x3, i3, d3⟩ := q
  dsimp only at g3 ⊢
  repeat ((conv => whnf); (first | refine ztx ?_ | refine LNext.nilr ?_ | refine zne ?_ | refine zga ?_ | refine zxa ?_ | refine zca ?_ | refine zcb ?_ | refine zgb ?_ | refine zgd1 ?_ | refine zge ?_ | refine zgf ?_ | refine zgj ?_ | refine zgk ?_ | refine eqStr ?_ | refine neqStr ?_ | refine eqSlNil ?_ | refine capSlice ?_ | refine zgm ?_ | refine zgn ?_ | refine zgo ?_ | refine zba ?_ | refine zbb ?_ | refine zbc ?_ | refine zbd ?_ | refine zbe ?_ | refine zbf ?_ | refine zia ?_ | refine zib ?_ | refine zic ?_ | refine zid1 ?_ | refine zif1 ?_ | refine zig ?_ | refine zih ?_ | refine lint_u8_mod ?_ | refine zua ?_ | refine zgs ?_ | refine LRes.mk ?_ | refine LIn.step ?_ | refine zdr ?_ | refine zna (fun _ => ?_) | refine znb (fun _ => ?_) | refine znc (fun _ => ?_) | refine newSlice0 (fun _ => ?_)))
  show Fin _ _ _; exact Fin.of (qc rb a cap b i3 d3 :: M) zEn ⟨.up x1 (x2 : Int) x3, [], rfl, rfl, hz, rfl⟩
theorem pl3_ct (M : List As) (rb : Nat) (a : Option Addr) (cap : Nat) (b : Bs) (i : Nat) (bad : Bool) (h : RS M a cap b) (hi : i ≤ b.length) :
    Ctr Tryd.prog 56 #[.pointer (some ⟨rb, 0, none⟩), .int .i64 3] (qc rb a cap b i bad :: M) (PlAns M rb a cap b 3 (i, bad)) := by
  have hr : rRecP b 3 (i, bad) = (.beat (rTxtP b (i, bad)).1, (rTxtP b (i, bad)).2) := by unfold rRecP; rw [if_neg (by decide)]; rw [if_neg (by decide)]; rw [if_pos rfl]
  unfold PlAns
  rw [hr]
  clear hr
  have hlen := h.len
  refine ctr_of (Γ := tab) (vs := [_, _]) fn56 rfl ?_
  repeat ((conv => whnf); (first | refine ztx ?_ | refine LNext.nilr ?_ | refine zne ?_ | refine zga ?_ | refine zxa ?_ | refine zca ?_ | refine zcb ?_ | refine zgb ?_ | refine zgd1 ?_ | refine zge ?_ | refine zgf ?_ | refine zgj ?_ | refine zgk ?_ | refine eqStr ?_ | refine neqStr ?_ | refine eqSlNil ?_ | refine capSlice ?_ | refine zgm ?_ | refine zgn ?_ | refine zgo ?_ | refine zba ?_ | refine zbb ?_ | refine zbc ?_ | refine zbd ?_ | refine zbe ?_ | refine zbf ?_ | refine zia ?_ | refine zib ?_ | refine zic ?_ | refine zid1 ?_ | refine zif1 ?_ | refine zig ?_ | refine zih ?_ | refine lint_u8_mod ?_ | refine zua ?_ | refine zgs ?_ | refine LRes.mk ?_ | refine LIn.step ?_ | refine zdr ?_ | refine zna (fun _ => ?_) | refine znb (fun _ => ?_) | refine znc (fun _ => ?_) | refine newSlice0 (fun _ => ?_)))
  refine call1 (rText_ct M rb a cap b i bad h hi) zSp ?_
  rintro v M' ⟨rfl, hz, hM⟩
  subst hM
  have g1 := rTxtP_in (b := b) (s := (i, bad)) hi
  generalize rTxtP b (i, bad) = q at *
  obtain ⟨x1, i1, d1⟩ := q
  dsimp only at g1 hz ⊢
  repeat ((conv => whnf); (first | refine ztx ?_ | refine LNext.nilr ?_ | refine zne ?_ | refine zga ?_ | refine zxa ?_ | refine zca ?_ | refine zcb ?_ | refine zgb ?_ | refine zgd1 ?_ | refine zge ?_ | refine zgf ?_ | refine zgj ?_ | refine zgk ?_ | refine eqStr ?_ | refine neqStr ?_ | refine eqSlNil ?_ | refine capSlice ?_ | refine zgm ?_ | refine zgn ?_ | refine zgo ?_ | refine zba ?_ | refine zbb ?_ | refine zbc ?_ | refine zbd ?_ | refine zbe ?_ | refine zbf ?_ | refine zia ?_ | refine zib ?_ | refine zic ?_ | refine zid1 ?_ | refine zif1 ?_ | refine zig ?_ | refine zih ?_ | refine lint_u8_mod ?_ | refine zua ?_ | refine zgs ?_ | refine LRes.mk ?_ | refine LIn.step ?_ | refine zdr ?_ | refine zna (fun _ => ?_) | refine znb (fun _ => ?_) | refine znc (fun _ => ?_) | refine newSlice0 (fun _ => ?_)))
  show Fin _ _ _; exact Fin.of (qc rb a cap b i1 d1 :: M) zEn ⟨.beat x1, [], rfl, rfl, hz, rfl⟩
theorem pl4_ct (M : List As) (rb : Nat) (a : Option Addr) (cap : Nat) (b : Bs) (i : Nat) (bad : Bool) (h : RS M a cap b) (hi : i ≤ b.length) :
    Ctr Tryd.prog 56 #[.pointer (some ⟨rb, 0, none⟩), .int .i64 4] (qc rb a cap b i bad :: M) (PlAns M rb a cap b 4 (i, bad)) := by
  have hr : rRecP b 4 (i, bad) = (.down (rTxtP b (i, bad)).1, (rTxtP b (i, bad)).2) := by unfold rRecP; rw [if_neg (by decide)]; rw [if_neg (by decide)]; rw [if_neg (by decide)]; rw [if_pos rfl]
  unfold PlAns
  rw [hr]
  clear hr
  have hlen := h.len
  refine ctr_of (Γ := tab) (vs := [_, _]) fn56 rfl ?_
  repeat ((conv => whnf); (first | refine ztx ?_ | refine LNext.nilr ?_ | refine zne ?_ | refine zga ?_ | refine zxa ?_ | refine zca ?_ | refine zcb ?_ | refine zgb ?_ | refine zgd1 ?_ | refine zge ?_ | refine zgf ?_ | refine zgj ?_ | refine zgk ?_ | refine eqStr ?_ | refine neqStr ?_ | refine eqSlNil ?_ | refine capSlice ?_ | refine zgm ?_ | refine zgn ?_ | refine zgo ?_ | refine zba ?_ | refine zbb ?_ | refine zbc ?_ | refine zbd ?_ | refine zbe ?_ | refine zbf ?_ | refine zia ?_ | refine zib ?_ | refine zic ?_ | refine zid1 ?_ | refine zif1 ?_ | refine zig ?_ | refine zih ?_ | refine lint_u8_mod ?_ | refine zua ?_ | refine zgs ?_ | refine LRes.mk ?_ | refine LIn.step ?_ | refine zdr ?_ | refine zna (fun _ => ?_) | refine znb (fun _ => ?_) | refine znc (fun _ => ?_) | refine newSlice0 (fun _ => ?_)))
  refine call1 (rText_ct M rb a cap b i bad h hi) zSp ?_
  rintro v M' ⟨rfl, hz, hM⟩
  subst hM
  have g1 := rTxtP_in (b := b) (s := (i, bad)) hi
  generalize rTxtP b (i, bad) = q at *
  obtain ⟨x1, i1, d1⟩ := q
  dsimp only at g1 hz ⊢
  repeat ((conv => whnf); (first | refine ztx ?_ | refine LNext.nilr ?_ | refine zne ?_ | refine zga ?_ | refine zxa ?_ | refine zca ?_ | refine zcb ?_ | refine zgb ?_ | refine zgd1 ?_ | refine zge ?_ | refine zgf ?_ | refine zgj ?_ | refine zgk ?_ | refine eqStr ?_ | refine neqStr ?_ | refine eqSlNil ?_ | refine capSlice ?_ | refine zgm ?_ | refine zgn ?_ | refine zgo ?_ | refine zba ?_ | refine zbb ?_ | refine zbc ?_ | refine zbd ?_ | refine zbe ?_ | refine zbf ?_ | refine zia ?_ | refine zib ?_ | refine zic ?_ | refine zid1 ?_ | refine zif1 ?_ | refine zig ?_ | refine zih ?_ | refine lint_u8_mod ?_ | refine zua ?_ | refine zgs ?_ | refine LRes.mk ?_ | refine LIn.step ?_ | refine zdr ?_ | refine zna (fun _ => ?_) | refine znb (fun _ => ?_) | refine znc (fun _ => ?_) | refine newSlice0 (fun _ => ?_)))
  show Fin _ _ _; exact Fin.of (qc rb a cap b i1 d1 :: M) zEn ⟨.down x1, [], rfl, rfl, hz, rfl⟩
theorem pl6_ct (M : List As) (rb : Nat) (a : Option Addr) (cap : Nat) (b : Bs) (i : Nat) (bad : Bool) (h : RS M a cap b) (hi : i ≤ b.length) :
    Ctr Tryd.prog 56 #[.pointer (some ⟨rb, 0, none⟩), .int .i64 6] (qc rb a cap b i bad :: M) (PlAns M rb a cap b 6 (i, bad)) := by
  have hr : rRecP b 6 (i, bad) = (.rel (((rNumP b (i, bad)).1 : Nat) : Int), (rNumP b (i, bad)).2) := by unfold rRecP; rw [if_neg (by decide)]; rw [if_neg (by decide)]; rw [if_neg (by decide)]; rw [if_neg (by decide)]; rw [if_neg (by decide)]; rw [if_pos rfl]
  unfold PlAns
  rw [hr]
  clear hr
  have hlen := h.len
  refine ctr_of (Γ := tab) (vs := [_, _]) fn56 rfl ?_
  repeat ((conv => whnf); (first | refine ztx ?_ | refine LNext.nilr ?_ | refine zne ?_ | refine zga ?_ | refine zxa ?_ | refine zca ?_ | refine zcb ?_ | refine zgb ?_ | refine zgd1 ?_ | refine zge ?_ | refine zgf ?_ | refine zgj ?_ | refine zgk ?_ | refine eqStr ?_ | refine neqStr ?_ | refine eqSlNil ?_ | refine capSlice ?_ | refine zgm ?_ | refine zgn ?_ | refine zgo ?_ | refine zba ?_ | refine zbb ?_ | refine zbc ?_ | refine zbd ?_ | refine zbe ?_ | refine zbf ?_ | refine zia ?_ | refine zib ?_ | refine zic ?_ | refine zid1 ?_ | refine zif1 ?_ | refine zig ?_ | refine zih ?_ | refine lint_u8_mod ?_ | refine zua ?_ | refine zgs ?_ | refine LRes.mk ?_ | refine LIn.step ?_ | refine zdr ?_ | refine zna (fun _ => ?_) | refine znb (fun _ => ?_) | refine znc (fun _ => ?_) | refine newSlice0 (fun _ => ?_)))
  refine call1 (rNum_ct M rb a cap b i bad h hi) zSp ?_
  rintro v M' ⟨rfl, hM⟩
  subst hM
  have g1 := rNumP_in (b := b) (s := (i, bad)) hi
  generalize rNumP b (i, bad) = q at *
  obtain ⟨x1, i1, d1⟩ := q
  dsimp only at g1 ⊢
  repeat ((conv => whnf); (first | refine ztx ?_ | refine LNext.nilr ?_ | refine zne ?_ | refine zga ?_ | refine zxa ?_ | refine zca ?_ | refine zcb ?_ | refine zgb ?_ | refine zgd1 ?_ | refine zge ?_ | refine zgf ?_ | refine zgj ?_ | refine zgk ?_ | refine eqStr ?_ | refine neqStr ?_ | refine eqSlNil ?_ | refine capSlice ?_ | refine zgm ?_ | refine zgn ?_ | refine zgo ?_ | refine zba ?_ | refine zbb ?_ | refine zbc ?_ | refine zbd ?_ | refine zbe ?_ | refine zbf ?_ | refine zia ?_ | refine zib ?_ | refine zic ?_ | refine zid1 ?_ | refine zif1 ?_ | refine zig ?_ | refine zih ?_ | refine lint_u8_mod ?_ | refine zua ?_ | refine zgs ?_ | refine LRes.mk ?_ | refine LIn.step ?_ | refine zdr ?_ | refine zna (fun _ => ?_) | refine znb (fun _ => ?_) | refine znc (fun _ => ?_) | refine newSlice0 (fun _ => ?_)))
  show Fin _ _ _; exact Fin.of (qc rb a cap b i1 d1 :: M) zEn ⟨.rel (x1 : Int), [], rfl, rfl, trivial, rfl⟩
theorem pl8_ct (M : List As) (rb : Nat) (a : Option Addr) (cap : Nat) (b : Bs) (i : Nat) (bad : Bool) (h : RS M a cap b) (hi : i ≤ b.length) :
    Ctr Tryd.prog 56 #[.pointer (some ⟨rb, 0, none⟩), .int .i64 8] (qc rb a cap b i bad :: M) (PlAns M rb a cap b 8 (i, bad)) := by
  have hr : rRecP b 8 (i, bad) = (.evi (((rNumP b (i, bad)).1 : Nat) : Int), (rNumP b (i, bad)).2) := by unfold rRecP; rw [if_neg (by decide)]; rw [if_neg (by decide)]; rw [if_neg (by decide)]; rw [if_neg (by decide)]; rw [if_neg (by decide)]; rw [if_neg (by decide)]; rw [if_neg (by decide)]; rw [if_pos rfl]
  unfold PlAns
  rw [hr]
  clear hr
  have hlen := h.len
  refine ctr_of (Γ := tab) (vs := [_, _]) fn56 rfl ?_
  repeat ((conv => whnf); (first | refine ztx ?_ | refine LNext.nilr ?_ | refine zne ?_ | refine zga ?_ | refine zxa ?_ | refine zca ?_ | refine zcb ?_ | refine zgb ?_ | refine zgd1 ?_ | refine zge ?_ | refine zgf ?_ | refine zgj ?_ | refine zgk ?_ | refine eqStr ?_ | refine neqStr ?_ | refine eqSlNil ?_ | refine capSlice ?_ | refine zgm ?_ | refine zgn ?_ | refine zgo ?_ | refine zba ?_ | refine zbb ?_ | refine zbc ?_ | refine zbd ?_ | refine zbe ?_ | refine zbf ?_ | refine zia ?_ | refine zib ?_ | refine zic ?_ | refine zid1 ?_ | refine zif1 ?_ | refine zig ?_ | refine zih ?_ | refine lint_u8_mod ?_ | refine zua ?_ | refine zgs ?_ | refine LRes.mk ?_ | refine LIn.step ?_ | refine zdr ?_ | refine zna (fun _ => ?_) | refine znb (fun _ => ?_) | refine znc (fun _ => ?_) | refine newSlice0 (fun _ => ?_)))
  refine call1 (rNum_ct M rb a cap b i bad h hi) zSp ?_
  rintro v M' ⟨rfl, hM⟩
  subst hM
  have g1 := rNumP_in (b := b) (s := (i, bad)) hi
  generalize rNumP b (i, bad) = q at *
  obtain ⟨x1, i1, d1⟩ := q
  dsimp only at g1 ⊢
  repeat ((conv => whnf); (first | refine ztx ?_ | refine LNext.nilr ?_ | refine zne ?_ | refine zga ?_ | refine zxa ?_ | refine zca ?_ | refine zcb ?_ | refine zgb ?_ | refine zgd1 ?_ | refine zge ?_ | refine zgf ?_ | refine zgj ?_ | refine zgk ?_ | refine eqStr ?_ | refine neqStr ?_ | refine eqSlNil ?_ | refine capSlice ?_ | refine zgm ?_ | refine zgn ?_ | refine zgo ?_ | refine zba ?_ | refine zbb ?_ | refine zbc ?_ | refine zbd ?_ | refine zbe ?_ | refine zbf ?_ | refine zia ?_ | refine zib ?_ | refine zic ?_ | refine zid1 ?_ | refine zif1 ?_ | refine zig ?_ | refine zih ?_ | refine lint_u8_mod ?_ | refine zua ?_ | refine zgs ?_ | refine LRes.mk ?_ | refine LIn.step ?_ | refine zdr ?_ | refine zna (fun _ => ?_) | refine znb (fun _ => ?_) | refine znc (fun _ => ?_) | refine newSlice0 (fun _ => ?_)))
  show Fin _ _ _; exact Fin.of (qc rb a cap b i1 d1 :: M) zEn ⟨.evi (x1 : Int), [], rfl, rfl, trivial, rfl⟩
theorem pl9_ct (M : List As) (rb : Nat) (a : Option Addr) (cap : Nat) (b : Bs) (i : Nat) (bad : Bool) (h : RS M a cap b) (hi : i ≤ b.length) :
    Ctr Tryd.prog 56 #[.pointer (some ⟨rb, 0, none⟩), .int .i64 9] (qc rb a cap b i bad :: M) (PlAns M rb a cap b 9 (i, bad)) := by
  have hr : rRecP b 9 (i, bad) = (.part (((rNumP b (i, bad)).1 : Nat) : Int) (rTxtP b (rNumP b (i, bad)).2).1, (rTxtP b (rNumP b (i, bad)).2).2) := by unfold rRecP; rw [if_neg (by decide)]; rw [if_neg (by decide)]; rw [if_neg (by decide)]; rw [if_neg (by decide)]; rw [if_neg (by decide)]; rw [if_neg (by decide)]; rw [if_neg (by decide)]; rw [if_neg (by decide)]; rw [if_pos rfl]
  unfold PlAns
  rw [hr]
  clear hr
  have hlen := h.len
  refine ctr_of (Γ := tab) (vs := [_, _]) fn56 rfl ?_
  repeat ((conv => whnf); (first | refine ztx ?_ | refine LNext.nilr ?_ | refine zne ?_ | refine zga ?_ | refine zxa ?_ | refine zca ?_ | refine zcb ?_ | refine zgb ?_ | refine zgd1 ?_ | refine zge ?_ | refine zgf ?_ | refine zgj ?_ | refine zgk ?_ | refine eqStr ?_ | refine neqStr ?_ | refine eqSlNil ?_ | refine capSlice ?_ | refine zgm ?_ | refine zgn ?_ | refine zgo ?_ | refine zba ?_ | refine zbb ?_ | refine zbc ?_ | refine zbd ?_ | refine zbe ?_ | refine zbf ?_ | refine zia ?_ | refine zib ?_ | refine zic ?_ | refine zid1 ?_ | refine zif1 ?_ | refine zig ?_ | refine zih ?_ | refine lint_u8_mod ?_ | refine zua ?_ | refine zgs ?_ | refine LRes.mk ?_ | refine LIn.step ?_ | refine zdr ?_ | refine zna (fun _ => ?_) | refine znb (fun _ => ?_) | refine znc (fun _ => ?_) | refine newSlice0 (fun _ => ?_)))
  refine call1 (rNum_ct M rb a cap b i bad h hi) zSp ?_
  rintro v M' ⟨rfl, hM⟩
  subst hM
  have g1 := rNumP_in (b := b) (s := (i, bad)) hi
  generalize rNumP b (i, bad) = q at *
  obtain ⟨x1, i1, d1⟩ := q
  dsimp only at g1 ⊢
  repeat ((conv => whnf); (first | refine ztx ?_ | refine LNext.nilr ?_ | refine zne ?_ | refine zga ?_ | refine zxa ?_ | refine zca ?_ | refine zcb ?_ | refine zgb ?_ | refine zgd1 ?_ | refine zge ?_ | refine zgf ?_ | refine zgj ?_ | refine zgk ?_ | refine eqStr ?_ | refine neqStr ?_ | refine eqSlNil ?_ | refine capSlice ?_ | refine zgm ?_ | refine zgn ?_ | refine zgo ?_ | refine zba ?_ | refine zbb ?_ | refine zbc ?_ | refine zbd ?_ | refine zbe ?_ | refine zbf ?_ | refine zia ?_ | refine zib ?_ | refine zic ?_ | refine zid1 ?_ | refine zif1 ?_ | refine zig ?_ | refine zih ?_ | refine lint_u8_mod ?_ | refine zua ?_ | refine zgs ?_ | refine LRes.mk ?_ | refine LIn.step ?_ | refine zdr ?_ | refine zna (fun _ => ?_) | refine znb (fun _ => ?_) | refine znc (fun _ => ?_) | refine newSlice0 (fun _ => ?_)))
  refine call1 (rText_ct M rb a cap b i1 d1 h g1) zSp ?_
  rintro v M' ⟨rfl, hz, hM⟩
  subst hM
  have g2 := rTxtP_in (b := b) (s := (i1, d1)) g1
  generalize rTxtP b (i1, d1) = q at *
  obtain ⟨x2, i2, d2⟩ := q
  dsimp only at g2 hz ⊢
  repeat ((conv => whnf); (first | refine ztx ?_ | refine LNext.nilr ?_ | refine zne ?_ | refine zga ?_ | refine zxa ?_ | refine zca ?_ | refine zcb ?_ | refine zgb ?_ | refine zgd1 ?_ | refine zge ?_ | refine zgf ?_ | refine zgj ?_ | refine zgk ?_ | refine eqStr ?_ | refine neqStr ?_ | refine eqSlNil ?_ | refine capSlice ?_ | refine zgm ?_ | refine zgn ?_ | refine zgo ?_ | refine zba ?_ | refine zbb ?_ | refine zbc ?_ | refine zbd ?_ | refine zbe ?_ | refine zbf ?_ | refine zia ?_ | refine zib ?_ | refine zic ?_ | refine zid1 ?_ | refine zif1 ?_ | refine zig ?_ | refine zih ?_ | refine lint_u8_mod ?_ | refine zua ?_ | refine zgs ?_ | refine LRes.mk ?_ | refine LIn.step ?_ | refine zdr ?_ | refine zna (fun _ => ?_) | refine znb (fun _ => ?_) | refine znc (fun _ => ?_) | refine newSlice0 (fun _ => ?_)))
  show Fin _ _ _; exact Fin.of (qc rb a cap b i2 d2 :: M) zEn ⟨.part (x1 : Int) x2, [], rfl, rfl, hz, rfl⟩
theorem pl10_ct (M : List As) (rb : Nat) (a : Option Addr) (cap : Nat) (b : Bs) (i : Nat) (bad : Bool) (h : RS M a cap b) (hi : i ≤ b.length) :
    Ctr Tryd.prog 56 #[.pointer (some ⟨rb, 0, none⟩), .int .i64 10] (qc rb a cap b i bad :: M) (PlAns M rb a cap b 10 (i, bad)) := by
  have hr : rRecP b 10 (i, bad) = (.ended (((rNumP b (i, bad)).1 : Nat) : Int) (((rNumP b (rNumP b (i, bad)).2).1 : Nat) : Int), (rNumP b (rNumP b (i, bad)).2).2) := by unfold rRecP; rw [if_neg (by decide)]; rw [if_neg (by decide)]; rw [if_neg (by decide)]; rw [if_neg (by decide)]; rw [if_neg (by decide)]; rw [if_neg (by decide)]; rw [if_neg (by decide)]; rw [if_neg (by decide)]; rw [if_neg (by decide)]; rw [if_pos rfl]
  unfold PlAns
  rw [hr]
  clear hr
  have hlen := h.len
  refine ctr_of (Γ := tab) (vs := [_, _]) fn56 rfl ?_
  repeat ((conv => whnf); (first | refine ztx ?_ | refine LNext.nilr ?_ | refine zne ?_ | refine zga ?_ | refine zxa ?_ | refine zca ?_ | refine zcb ?_ | refine zgb ?_ | refine zgd1 ?_ | refine zge ?_ | refine zgf ?_ | refine zgj ?_ | refine zgk ?_ | refine eqStr ?_ | refine neqStr ?_ | refine eqSlNil ?_ | refine capSlice ?_ | refine zgm ?_ | refine zgn ?_ | refine zgo ?_ | refine zba ?_ | refine zbb ?_ | refine zbc ?_ | refine zbd ?_ | refine zbe ?_ | refine zbf ?_ | refine zia ?_ | refine zib ?_ | refine zic ?_ | refine zid1 ?_ | refine zif1 ?_ | refine zig ?_ | refine zih ?_ | refine lint_u8_mod ?_ | refine zua ?_ | refine zgs ?_ | refine LRes.mk ?_ | refine LIn.step ?_ | refine zdr ?_ | refine zna (fun _ => ?_) | refine znb (fun _ => ?_) | refine znc (fun _ => ?_) | refine newSlice0 (fun _ => ?_)))
  refine call1 (rNum_ct M rb a cap b i bad h hi) zSp ?_
  rintro v M' ⟨rfl, hM⟩
  subst hM
  have g1 := rNumP_in (b := b) (s := (i, bad)) hi
  generalize rNumP b (i, bad) = q at *
  obtain ⟨x1, i1, d1⟩ := q
  dsimp only at g1 ⊢
  repeat ((conv => whnf); (first | refine ztx ?_ | refine LNext.nilr ?_ | refine zne ?_ | refine zga ?_ | refine zxa ?_ | refine zca ?_ | refine zcb ?_ | refine zgb ?_ | refine zgd1 ?_ | refine zge ?_ | refine zgf ?_ | refine zgj ?_ | refine zgk ?_ | refine eqStr ?_ | refine neqStr ?_ | refine eqSlNil ?_ | refine capSlice ?_ | refine zgm ?_ | refine zgn ?_ | refine zgo ?_ | refine zba ?_ | refine zbb ?_ | refine zbc ?_ | refine zbd ?_ | refine zbe ?_ | refine zbf ?_ | refine zia ?_ | refine zib ?_ | refine zic ?_ | refine zid1 ?_ | refine zif1 ?_ | refine zig ?_ | refine zih ?_ | refine lint_u8_mod ?_ | refine zua ?_ | refine zgs ?_ | refine LRes.mk ?_ | refine LIn.step ?_ | refine zdr ?_ | refine zna (fun _ => ?_) | refine znb (fun _ => ?_) | refine znc (fun _ => ?_) | refine newSlice0 (fun _ => ?_)))
  refine call1 (rNum_ct M rb a cap b i1 d1 h g1) zSp ?_
  rintro v M' ⟨rfl, hM⟩
  subst hM
  have g2 := rNumP_in (b := b) (s := (i1, d1)) g1
  generalize rNumP b (i1, d1) = q at *
  obtain ⟨x2, i2, d2⟩ := q
  dsimp only at g2 ⊢
  repeat ((conv => whnf); (first | refine ztx ?_ | refine LNext.nilr ?_ | refine zne ?_ | refine zga ?_ | refine zxa ?_ | refine zca ?_ | refine zcb ?_ | refine zgb ?_ | refine zgd1 ?_ | refine zge ?_ | refine zgf ?_ | refine zgj ?_ | refine zgk ?_ | refine eqStr ?_ | refine neqStr ?_ | refine eqSlNil ?_ | refine capSlice ?_ | refine zgm ?_ | refine zgn ?_ | refine zgo ?_ | refine zba ?_ | refine zbb ?_ | refine zbc ?_ | refine zbd ?_ | refine zbe ?_ | refine zbf ?_ | refine zia ?_ | refine zib ?_ | refine zic ?_ | refine zid1 ?_ | refine zif1 ?_ | refine zig ?_ | refine zih ?_ | refine lint_u8_mod ?_ | refine zua ?_ | refine zgs ?_ | refine LRes.mk ?_ | refine LIn.step ?_ | refine zdr ?_ | refine zna (fun _ => ?_) | refine znb (fun _ => ?_) | refine znc (fun _ => ?_) | refine newSlice0 (fun _ => ?_)))
  show Fin _ _ _; exact Fin.of (qc rb a cap b i2 d2 :: M) zEn ⟨.ended (x1 : Int) (x2 : Int), [], rfl, rfl, trivial, rfl⟩
theorem pl11_ct (M : List As) (rb : Nat) (a : Option Addr) (cap : Nat) (b : Bs) (i : Nat) (bad : Bool) (h : RS M a cap b) (hi : i ≤ b.length) :
    Ctr Tryd.prog 56 #[.pointer (some ⟨rb, 0, none⟩), .int .i64 11] (qc rb a cap b i bad :: M) (PlAns M rb a cap b 11 (i, bad)) := by
  have hr : rRecP b 11 (i, bad) = (.tick , (i, bad)) := by unfold rRecP; rw [if_neg (by decide)]; rw [if_neg (by decide)]; rw [if_neg (by decide)]; rw [if_neg (by decide)]; rw [if_neg (by decide)]; rw [if_neg (by decide)]; rw [if_neg (by decide)]; rw [if_neg (by decide)]; rw [if_neg (by decide)]; rw [if_neg (by decide)]; rw [if_pos rfl]
  unfold PlAns
  rw [hr]
  clear hr
  have hlen := h.len
  refine ctr_of (Γ := tab) (vs := [_, _]) fn56 rfl ?_
  repeat ((conv => whnf); (first | refine ztx ?_ | refine LNext.nilr ?_ | refine zne ?_ | refine zga ?_ | refine zxa ?_ | refine zca ?_ | refine zcb ?_ | refine zgb ?_ | refine zgd1 ?_ | refine zge ?_ | refine zgf ?_ | refine zgj ?_ | refine zgk ?_ | refine eqStr ?_ | refine neqStr ?_ | refine eqSlNil ?_ | refine capSlice ?_ | refine zgm ?_ | refine zgn ?_ | refine zgo ?_ | refine zba ?_ | refine zbb ?_ | refine zbc ?_ | refine zbd ?_ | refine zbe ?_ | refine zbf ?_ | refine zia ?_ | refine zib ?_ | refine zic ?_ | refine zid1 ?_ | refine zif1 ?_ | refine zig ?_ | refine zih ?_ | refine lint_u8_mod ?_ | refine zua ?_ | refine zgs ?_ | refine LRes.mk ?_ | refine LIn.step ?_ | refine zdr ?_ | refine zna (fun _ => ?_) | refine znb (fun _ => ?_) | refine znc (fun _ => ?_) | refine newSlice0 (fun _ => ?_)))
  show Fin _ _ _; exact Fin.of (qc rb a cap b i bad :: M) zEn ⟨.tick , [], rfl, rfl, trivial, rfl⟩
theorem pl5_ct (M : List As) (rb : Nat) (a : Option Addr) (cap : Nat) (b : Bs) (i : Nat) (bad : Bool) (h : RS M a cap b) (hi : i ≤ b.length) :
    Ctr Tryd.prog 56 #[.pointer (some ⟨rb, 0, none⟩), .int .i64 5] (qc rb a cap b i bad :: M) (PlAns M rb a cap b 5 (i, bad)) := by
  have hr : rRecP b 5 (i, bad) = (.sub (rJobP b (i, bad)).1, (rJobP b (i, bad)).2) := by unfold rRecP; rw [if_neg (by decide)]; rw [if_neg (by decide)]; rw [if_neg (by decide)]; rw [if_neg (by decide)]; rw [if_pos rfl]
  unfold PlAns
  rw [hr]
  clear hr
  have hlen := h.len
  refine ctr_of (Γ := tab) (vs := [_, _]) fn56 rfl ?_
  repeat ((conv => whnf); (first | refine ztx ?_ | refine LNext.nilr ?_ | refine zne ?_ | refine zga ?_ | refine zxa ?_ | refine zca ?_ | refine zcb ?_ | refine zgb ?_ | refine zgd1 ?_ | refine zge ?_ | refine zgf ?_ | refine zgj ?_ | refine zgk ?_ | refine eqStr ?_ | refine neqStr ?_ | refine eqSlNil ?_ | refine capSlice ?_ | refine zgm ?_ | refine zgn ?_ | refine zgo ?_ | refine zba ?_ | refine zbb ?_ | refine zbc ?_ | refine zbd ?_ | refine zbe ?_ | refine zbf ?_ | refine zia ?_ | refine zib ?_ | refine zic ?_ | refine zid1 ?_ | refine zif1 ?_ | refine zig ?_ | refine zih ?_ | refine lint_u8_mod ?_ | refine zua ?_ | refine zgs ?_ | refine LRes.mk ?_ | refine LIn.step ?_ | refine zdr ?_ | refine zna (fun _ => ?_) | refine znb (fun _ => ?_) | refine znc (fun _ => ?_) | refine newSlice0 (fun _ => ?_)))
  refine call1 (rjb_ct M rb a cap b i bad h hi) zSp ?_
  rintro v M' ⟨pa, pc, ta, tc, j, rfl, hj, h1, hz, hp, ht, hn, hd, lp, lt, hM⟩
  subst hM
  rw [← hj]
  clear hj
  generalize (rJobP b (i, bad)).2 = q at *
  obtain ⟨i1, d1⟩ := q
  obtain ⟨id, tenant, prio, run, ⟨p1, p2, pxs⟩, ⟨t1, t2, txs⟩, st, att, nodes, sta, don⟩ := j
  dsimp only at h1 hz hp ht hn hd lp lt ⊢
  subst hn
  subst hd
  simp only [SlV.mk.injEq, and_true] at hp ht
  obtain ⟨rfl, rfl⟩ := hp
  obtain ⟨rfl, rfl⟩ := ht
  dsimp only [encJ]
  repeat ((conv => whnf); (first | refine ztx ?_ | refine LNext.nilr ?_ | refine zne ?_ | refine zga ?_ | refine zxa ?_ | refine zca ?_ | refine zcb ?_ | refine zgb ?_ | refine zgd1 ?_ | refine zge ?_ | refine zgf ?_ | refine zgj ?_ | refine zgk ?_ | refine eqStr ?_ | refine neqStr ?_ | refine eqSlNil ?_ | refine capSlice ?_ | refine zgm ?_ | refine zgn ?_ | refine zgo ?_ | refine zba ?_ | refine zbb ?_ | refine zbc ?_ | refine zbd ?_ | refine zbe ?_ | refine zbf ?_ | refine zia ?_ | refine zib ?_ | refine zic ?_ | refine zid1 ?_ | refine zif1 ?_ | refine zig ?_ | refine zih ?_ | refine lint_u8_mod ?_ | refine zua ?_ | refine zgs ?_ | refine LRes.mk ?_ | refine LIn.step ?_ | refine zdr ?_ | refine zna (fun _ => ?_) | refine znb (fun _ => ?_) | refine znc (fun _ => ?_) | refine newSlice0 (fun _ => ?_)))
  show Fin _ _ _; exact Fin.of (qc rb a cap b i1 d1 :: ERow 2 1 Go.Proofs.YtjmfnakplmmpnaaDoor.encI p1 pxs.length p2 pxs :: ERow 23 4 encV4 t1 txs.length t2 txs :: M) zEn ⟨.sub ⟨id, tenant, prio, run, ⟨p1, p2, pxs⟩, ⟨t1, t2, txs⟩, st, att, ⟨none, 0, []⟩, sta, ⟨none, 0, []⟩⟩, [ERow 2 1 Go.Proofs.YtjmfnakplmmpnaaDoor.encI p1 pxs.length p2 pxs, ERow 23 4 encV4 t1 txs.length t2 txs], rfl, rfl, ⟨⟨RdH.erow (enc := Go.Proofs.YtjmfnakplmmpnaaDoor.encI) (E := 2) (n := pxs.length) (cap := p2) (fun _ => rfl), (RdH.erow (enc := encV4) (E := 23) (n := txs.length) (cap := t2) (fun _ => rfl)).there, .nil, .nil, by show pxs.length ≤ _; omega, by show txs.length ≤ _; omega, Nat.zero_le _, Nat.zero_le _⟩, hz⟩, rfl⟩
theorem pl7_ct (M : List As) (rb : Nat) (a : Option Addr) (cap : Nat) (b : Bs) (i : Nat) (bad : Bool) (h : RS M a cap b) (hi : i ≤ b.length) :
    Ctr Tryd.prog 56 #[.pointer (some ⟨rb, 0, none⟩), .int .i64 7] (qc rb a cap b i bad :: M) (PlAns M rb a cap b 7 (i, bad)) := by
  have hr : rRecP b 7 (i, bad) = (.placed ((rNumP b (i, bad)).1 : Nat) ⟨none, 0, (rManyP (rTxtP b) (min (rNumP b (rNumP b (i, bad)).2).1 10) (rNumP b (rNumP b (i, bad)).2).2).1⟩, (rManyP (rTxtP b) (min (rNumP b (rNumP b (i, bad)).2).1 10) (rNumP b (rNumP b (i, bad)).2).2).2) := by unfold rRecP; rw [if_neg (by decide)]; rw [if_neg (by decide)]; rw [if_neg (by decide)]; rw [if_neg (by decide)]; rw [if_neg (by decide)]; rw [if_neg (by decide)]; rw [if_pos rfl]
  unfold PlAns
  rw [hr]
  clear hr
  have hlen := h.len
  refine ctr_of (Γ := tab) (vs := [_, _]) fn56 rfl ?_
  repeat ((conv => whnf); (first | refine ztx ?_ | refine LNext.nilr ?_ | refine zne ?_ | refine zga ?_ | refine zxa ?_ | refine zca ?_ | refine zcb ?_ | refine zgb ?_ | refine zgd1 ?_ | refine zge ?_ | refine zgf ?_ | refine zgj ?_ | refine zgk ?_ | refine eqStr ?_ | refine neqStr ?_ | refine eqSlNil ?_ | refine capSlice ?_ | refine zgm ?_ | refine zgn ?_ | refine zgo ?_ | refine zba ?_ | refine zbb ?_ | refine zbc ?_ | refine zbd ?_ | refine zbe ?_ | refine zbf ?_ | refine zia ?_ | refine zib ?_ | refine zic ?_ | refine zid1 ?_ | refine zif1 ?_ | refine zig ?_ | refine zih ?_ | refine lint_u8_mod ?_ | refine zua ?_ | refine zgs ?_ | refine LRes.mk ?_ | refine LIn.step ?_ | refine zdr ?_ | refine zna (fun _ => ?_) | refine znb (fun _ => ?_) | refine znc (fun _ => ?_) | refine newSlice0 (fun _ => ?_)))
  rename_i R J
  refine call1 (rNum_ct M rb a cap b i bad h hi) zSp ?_
  rintro v M' ⟨rfl, hM⟩
  subst hM
  have g1 := rNumP_in (b := b) (s := (i, bad)) hi
  generalize rNumP b (i, bad) = q at *
  obtain ⟨x1, i1, d1⟩ := q
  dsimp only at g1 ⊢
  repeat ((conv => whnf); (first | refine ztx ?_ | refine LNext.nilr ?_ | refine zne ?_ | refine zga ?_ | refine zxa ?_ | refine zca ?_ | refine zcb ?_ | refine zgb ?_ | refine zgd1 ?_ | refine zge ?_ | refine zgf ?_ | refine zgj ?_ | refine zgk ?_ | refine eqStr ?_ | refine neqStr ?_ | refine eqSlNil ?_ | refine capSlice ?_ | refine zgm ?_ | refine zgn ?_ | refine zgo ?_ | refine zba ?_ | refine zbb ?_ | refine zbc ?_ | refine zbd ?_ | refine zbe ?_ | refine zbf ?_ | refine zia ?_ | refine zib ?_ | refine zic ?_ | refine zid1 ?_ | refine zif1 ?_ | refine zig ?_ | refine zih ?_ | refine lint_u8_mod ?_ | refine zua ?_ | refine zgs ?_ | refine LRes.mk ?_ | refine LIn.step ?_ | refine zdr ?_ | refine zna (fun _ => ?_) | refine znb (fun _ => ?_) | refine znc (fun _ => ?_) | refine newSlice0 (fun _ => ?_)))
  have lt2 := rNumP_lt b (i1, d1)
  refine call1 (rNum_ct M rb a cap b i1 d1 h g1) zSp ?_
  rintro v M' ⟨rfl, hM⟩
  subst hM
  have g2 := rNumP_in (b := b) (s := (i1, d1)) g1
  generalize rNumP b (i1, d1) = q at *
  obtain ⟨x2, i2, d2⟩ := q
  dsimp only at g2 lt2 ⊢
  repeat ((conv => whnf); (first | refine ztx ?_ | refine LNext.nilr ?_ | refine zne ?_ | refine zga ?_ | refine zxa ?_ | refine zca ?_ | refine zcb ?_ | refine zgb ?_ | refine zgd1 ?_ | refine zge ?_ | refine zgf ?_ | refine zgj ?_ | refine zgk ?_ | refine eqStr ?_ | refine neqStr ?_ | refine eqSlNil ?_ | refine capSlice ?_ | refine zgm ?_ | refine zgn ?_ | refine zgo ?_ | refine zba ?_ | refine zbb ?_ | refine zbc ?_ | refine zbd ?_ | refine zbe ?_ | refine zbf ?_ | refine zia ?_ | refine zib ?_ | refine zic ?_ | refine zid1 ?_ | refine zif1 ?_ | refine zig ?_ | refine zih ?_ | refine lint_u8_mod ?_ | refine zua ?_ | refine zgs ?_ | refine LRes.mk ?_ | refine LIn.step ?_ | refine zdr ?_ | refine zna (fun _ => ?_) | refine znb (fun _ => ?_) | refine znc (fun _ => ?_) | refine newSlice0 (fun _ => ?_)))
  refine LLoop.invN (fun x : LJ ByteArray => [(0, .pointer (some ⟨rb, 0, none⟩)), (4, .pointer (some ⟨R, 0, none⟩)), (5, .pointer (some ⟨J, 0, none⟩)), (6, .int .i64 x2), (7, .int .i64 x.1)])
    (fun x => qc rb a cap b x.2.1.1 x.2.1.2 :: p7 J x1 x.2.2.1.1 x.2.2.2.length x.2.2.1.2 :: pz R :: ERow 9 1 encW x.2.2.1.1 x.2.2.2.length x.2.2.1.2 x.2.2.2 :: M)
    (fun x => x.1 ≤ min x2 10 ∧ x.2.1.1 ≤ b.length ∧ x.2.2.2.length = x.1 ∧ (∀ s ∈ x.2.2.2, s.size ≤ 140737488355328) ∧ rManyP (rTxtP b) (min x2 10) (i2, d2) = (x.2.2.2 ++ (rManyP (rTxtP b) (min x2 10 - x.1) x.2.1).1, (rManyP (rTxtP b) (min x2 10 - x.1) x.2.1).2))
    (fun x => 10 - x.1) (0, (i2, d2), (none, 0), []) ⟨Nat.zero_le _, g2, rfl, (by intro s hs; cases hs), rfl⟩ zSu (Ent.trans (ent_e0 (E := 9) (sz := 1) (enc := encW)) zEn) ?_
  rintro ⟨m, ⟨j3, e3⟩, ⟨pa, pac⟩, xs⟩ ⟨hm, hj, hx, hz, hr⟩
  dsimp only at hm hj hx hz hr ⊢
  by_cases p1 : m < min x2 10 ∧ e3 = false
  · obtain ⟨p1, rfl⟩ := p1
    have hst := rmany_step p1 rfl hr
    have p2 : m < x2 := by omega
    have p3 : m < 10 := by omega
    refine LNext.go tab ?_
    repeat ((conv => whnf); (first | refine ztx ?_ | refine LNext.nilr ?_ | refine zne ?_ | refine zga ?_ | refine zxa ?_ | refine zca ?_ | refine zcb ?_ | refine zgb ?_ | refine zgd1 ?_ | refine zge ?_ | refine zgf ?_ | refine zgj ?_ | refine zgk ?_ | refine eqStr ?_ | refine neqStr ?_ | refine eqSlNil ?_ | refine capSlice ?_ | refine zgm ?_ | refine zgn ?_ | refine zgo ?_ | refine zba ?_ | refine zbb ?_ | refine zbc ?_ | refine zbd ?_ | refine zbe ?_ | refine zbf ?_ | refine zia ?_ | refine zib ?_ | refine zic ?_ | refine zid1 ?_ | refine zif1 ?_ | refine zig ?_ | refine zih ?_ | refine lint_u8_mod ?_ | refine zua ?_ | refine zgs ?_ | refine LRes.mk ?_ | refine LIn.step ?_ | refine zna (fun _ => ?_) | refine znb (fun _ => ?_) | refine znc (fun _ => ?_) | refine newSlice0 (fun _ => ?_)))
    refine LDraw.parts [Sl.pt J _] (by decide +kernel) zSp ?_
    repeat ((conv => whnf); (first | refine ztx ?_ | refine LNext.nilr ?_ | refine zne ?_ | refine zga ?_ | refine zxa ?_ | refine zca ?_ | refine zcb ?_ | refine zgb ?_ | refine zgd1 ?_ | refine zge ?_ | refine zgf ?_ | refine zgj ?_ | refine zgk ?_ | refine eqStr ?_ | refine neqStr ?_ | refine eqSlNil ?_ | refine capSlice ?_ | refine zgm ?_ | refine zgn ?_ | refine zgo ?_ | refine zba ?_ | refine zbb ?_ | refine zbc ?_ | refine zbd ?_ | refine zbe ?_ | refine zbf ?_ | refine zia ?_ | refine zib ?_ | refine zic ?_ | refine zid1 ?_ | refine zif1 ?_ | refine zig ?_ | refine zih ?_ | refine lint_u8_mod ?_ | refine zua ?_ | refine zgs ?_ | refine LRes.mk ?_ | refine LIn.step ?_ | refine zdr ?_ | refine zna (fun _ => ?_) | refine znb (fun _ => ?_) | refine znc (fun _ => ?_) | refine newSlice0 (fun _ => ?_)))
    refine call1 (rText_ct M rb a cap b j3 false h hj) zSp ?_
    rintro v M' ⟨rfl, hz2, hM⟩
    subst hM
    have gg := rTxtP_in (b := b) (s := (j3, false)) hj
    generalize rTxtP b (j3, false) = q at *
    obtain ⟨y, j', e'⟩ := q
    dsimp only at gg hz2 hst ⊢
    repeat ((conv => whnf); (first | refine ztx ?_ | refine LNext.nilr ?_ | refine zne ?_ | refine zga ?_ | refine zxa ?_ | refine zca ?_ | refine zcb ?_ | refine zgb ?_ | refine zgd1 ?_ | refine zge ?_ | refine zgf ?_ | refine zgj ?_ | refine zgk ?_ | refine eqStr ?_ | refine neqStr ?_ | refine eqSlNil ?_ | refine capSlice ?_ | refine zgm ?_ | refine zgn ?_ | refine zgo ?_ | refine zba ?_ | refine zbb ?_ | refine zbc ?_ | refine zbd ?_ | refine zbe ?_ | refine zbf ?_ | refine zia ?_ | refine zib ?_ | refine zic ?_ | refine zid1 ?_ | refine zif1 ?_ | refine zig ?_ | refine zih ?_ | refine lint_u8_mod ?_ | refine zua ?_ | refine zgs ?_ | refine LRes.mk ?_ | refine LIn.step ?_ | refine zdr ?_ | refine zna (fun _ => ?_) | refine znb (fun _ => ?_) | refine znc (fun _ => ?_) | refine newSlice0 (fun _ => ?_)))
    refine appendE tab (enc := encW) (xs := xs) ([y]) zTk (by intro _; rfl) rfl rfl rfl rfl rfl zCs (by intro x hx; simp at hx; subst hx; rfl) (by simp only [maxLen]; omega) (by omega) (by omega) (fun g c => ?_)
    rw [show xs.length + 1 = (xs ++ [y]).length by simp]
    repeat ((conv => whnf); (first | refine ztx ?_ | refine LNext.nilr ?_ | refine zne ?_ | refine zga ?_ | refine zxa ?_ | refine zca ?_ | refine zcb ?_ | refine zgb ?_ | refine zgd1 ?_ | refine zge ?_ | refine zgf ?_ | refine zgj ?_ | refine zgk ?_ | refine eqStr ?_ | refine neqStr ?_ | refine eqSlNil ?_ | refine capSlice ?_ | refine zgm ?_ | refine zgn ?_ | refine zgo ?_ | refine zba ?_ | refine zbb ?_ | refine zbc ?_ | refine zbd ?_ | refine zbe ?_ | refine zbf ?_ | refine zia ?_ | refine zib ?_ | refine zic ?_ | refine zid1 ?_ | refine zif1 ?_ | refine zig ?_ | refine zih ?_ | refine lint_u8_mod ?_ | refine zua ?_ | refine zgs ?_ | refine LRes.mk ?_ | refine LIn.step ?_ | refine zdr ?_ | refine zna (fun _ => ?_) | refine znb (fun _ => ?_) | refine znc (fun _ => ?_) | refine newSlice0 (fun _ => ?_)))
    exact ⟨(m + 1, (j', e'), (some ⟨g, 0, none⟩, c), xs ++ [y]), ⟨by show m + 1 ≤ _; omega, gg, by show (xs ++ [y]).length = m + 1; simp [hx], by
      intro s hs
      rcases List.mem_append.1 hs with hs | hs
      · exact hz s hs
      · rw [List.mem_singleton] at hs; rw [hs]; exact hz2, hst⟩, by show 10 - (m + 1) < 10 - m; omega, zSu, zEn⟩
  have he := rmany_end (by
    rcases Bool.eq_false_or_eq_true e3 with q | q
    · exact Or.inr q
    · exact Or.inl (fun p => p1 ⟨p, q⟩)) hr
  rw [he]
  clear hr he
  have h64 : xs.length ≤ 64 := by omega
  dsimp only
  by_cases q1 : m < x2
  · by_cases q2 : m < 10
    · have q3 : e3 = true := by
        rcases Bool.eq_false_or_eq_true e3 with q | q
        · exact q
        · exact absurd ⟨by omega, q⟩ p1
      subst q3
      refine LNext.go tab ?_
      repeat ((conv => whnf); (first | refine ztx ?_ | refine LNext.nilr ?_ | refine zne ?_ | refine zga ?_ | refine zxa ?_ | refine zca ?_ | refine zcb ?_ | refine zgb ?_ | refine zgd1 ?_ | refine zge ?_ | refine zgf ?_ | refine zgj ?_ | refine zgk ?_ | refine eqStr ?_ | refine neqStr ?_ | refine eqSlNil ?_ | refine capSlice ?_ | refine zgm ?_ | refine zgn ?_ | refine zgo ?_ | refine zba ?_ | refine zbb ?_ | refine zbc ?_ | refine zbd ?_ | refine zbe ?_ | refine zbf ?_ | refine zia ?_ | refine zib ?_ | refine zic ?_ | refine zid1 ?_ | refine zif1 ?_ | refine zig ?_ | refine zih ?_ | refine lint_u8_mod ?_ | refine zua ?_ | refine zgs ?_ | refine LRes.mk ?_ | refine LIn.step ?_ | refine zdr ?_ | refine zna (fun _ => ?_) | refine znb (fun _ => ?_) | refine znc (fun _ => ?_) | refine newSlice0 (fun _ => ?_)))
      show Fin _ _ _; exact Fin.of (qc rb a cap b j3 true :: ERow 9 1 encW pa xs.length pac xs :: M) zEn ⟨.placed x1 ⟨pa, pac, xs⟩, [ERow 9 1 encW pa xs.length pac xs], rfl, rfl, ⟨RdH.erow (enc := encW) (E := 9) (n := xs.length) (cap := pac) (fun _ => rfl), by show xs.length ≤ _; omega, hz⟩, rfl⟩
    · refine LNext.go tab ?_
      repeat ((conv => whnf); (first | refine ztx ?_ | refine LNext.nilr ?_ | refine zne ?_ | refine zga ?_ | refine zxa ?_ | refine zca ?_ | refine zcb ?_ | refine zgb ?_ | refine zgd1 ?_ | refine zge ?_ | refine zgf ?_ | refine zgj ?_ | refine zgk ?_ | refine eqStr ?_ | refine neqStr ?_ | refine eqSlNil ?_ | refine capSlice ?_ | refine zgm ?_ | refine zgn ?_ | refine zgo ?_ | refine zba ?_ | refine zbb ?_ | refine zbc ?_ | refine zbd ?_ | refine zbe ?_ | refine zbf ?_ | refine zia ?_ | refine zib ?_ | refine zic ?_ | refine zid1 ?_ | refine zif1 ?_ | refine zig ?_ | refine zih ?_ | refine lint_u8_mod ?_ | refine zua ?_ | refine zgs ?_ | refine LRes.mk ?_ | refine LIn.step ?_ | refine zdr ?_ | refine zna (fun _ => ?_) | refine znb (fun _ => ?_) | refine znc (fun _ => ?_) | refine newSlice0 (fun _ => ?_)))
      show Fin _ _ _; exact Fin.of (qc rb a cap b j3 e3 :: ERow 9 1 encW pa xs.length pac xs :: M) zEn ⟨.placed x1 ⟨pa, pac, xs⟩, [ERow 9 1 encW pa xs.length pac xs], rfl, rfl, ⟨RdH.erow (enc := encW) (E := 9) (n := xs.length) (cap := pac) (fun _ => rfl), by show xs.length ≤ _; omega, hz⟩, rfl⟩
  · refine LNext.go tab ?_
    repeat ((conv => whnf); (first | refine ztx ?_ | refine LNext.nilr ?_ | refine zne ?_ | refine zga ?_ | refine zxa ?_ | refine zca ?_ | refine zcb ?_ | refine zgb ?_ | refine zgd1 ?_ | refine zge ?_ | refine zgf ?_ | refine zgj ?_ | refine zgk ?_ | refine eqStr ?_ | refine neqStr ?_ | refine eqSlNil ?_ | refine capSlice ?_ | refine zgm ?_ | refine zgn ?_ | refine zgo ?_ | refine zba ?_ | refine zbb ?_ | refine zbc ?_ | refine zbd ?_ | refine zbe ?_ | refine zbf ?_ | refine zia ?_ | refine zib ?_ | refine zic ?_ | refine zid1 ?_ | refine zif1 ?_ | refine zig ?_ | refine zih ?_ | refine lint_u8_mod ?_ | refine zua ?_ | refine zgs ?_ | refine LRes.mk ?_ | refine LIn.step ?_ | refine zdr ?_ | refine zna (fun _ => ?_) | refine znb (fun _ => ?_) | refine znc (fun _ => ?_) | refine newSlice0 (fun _ => ?_)))
    show Fin _ _ _; exact Fin.of (qc rb a cap b j3 e3 :: ERow 9 1 encW pa xs.length pac xs :: M) zEn ⟨.placed x1 ⟨pa, pac, xs⟩, [ERow 9 1 encW pa xs.length pac xs], rfl, rfl, ⟨RdH.erow (enc := encW) (E := 9) (n := xs.length) (cap := pac) (fun _ => rfl), by show xs.length ≤ _; omega, hz⟩, rfl⟩
theorem rplain_ct (M : List As) (rb : Nat) (a : Option Addr) (cap : Nat) (b : Bs) (i : Nat) (bad : Bool) (kind : Nat) (h1 : 1 ≤ kind) (h11 : kind ≤ 11) (h : RS M a cap b) (hi : i ≤ b.length) :
    Ctr Tryd.prog 56 #[.pointer (some ⟨rb, 0, none⟩), .int .i64 kind] (qc rb a cap b i bad :: M) (PlAns M rb a cap b kind (i, bad)) := by
  by_cases k1 : kind = 1
  · subst k1; exact pl1_ct M rb a cap b i bad h hi
  by_cases k2 : kind = 2
  · subst k2; exact pl2_ct M rb a cap b i bad h hi
  by_cases k3 : kind = 3
  · subst k3; exact pl3_ct M rb a cap b i bad h hi
  by_cases k4 : kind = 4
  · subst k4; exact pl4_ct M rb a cap b i bad h hi
  by_cases k5 : kind = 5
  · subst k5; exact pl5_ct M rb a cap b i bad h hi
  by_cases k6 : kind = 6
  · subst k6; exact pl6_ct M rb a cap b i bad h hi
  by_cases k7 : kind = 7
  · subst k7; exact pl7_ct M rb a cap b i bad h hi
  by_cases k8 : kind = 8
  · subst k8; exact pl8_ct M rb a cap b i bad h hi
  by_cases k9 : kind = 9
  · subst k9; exact pl9_ct M rb a cap b i bad h hi
  by_cases k10 : kind = 10
  · subst k10; exact pl10_ct M rb a cap b i bad h hi
  by_cases k11 : kind = 11
  · subst k11; exact pl11_ct M rb a cap b i bad h hi
  omega
end Go.Proofs.YtjmfnakplmmpnaaDoor
