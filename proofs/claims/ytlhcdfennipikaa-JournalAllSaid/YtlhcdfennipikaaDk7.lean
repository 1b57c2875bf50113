import Derived.Test.YtlhcdfennipikaaDk6
import Derived.Test.YtlhcdfennipikaaDkQ
/-! Restart of a disk, walked. -/
namespace Go.Proofs.Ytlhcdfennipikaa
open Go.Sl
set_option linter.unusedVariables false
set_option linter.unusedSimpArgs false
set_option maxRecDepth 100000
set_option maxHeartbeats 4000000

theorem LNext.caseD {P : Program} {k : Nat} {c : Code} {e : Env} {Q : Exit → Env → List As → Prop} {db : Nat} {S : DS} {M : List As} {n : ByteArray} {x : Bs × Nat} (hn : getL S.F n = some x)
    (h : ∀ mb A f0 B, DskX S (some mb) (A ++ f0 :: B) → f0.nm = n → f0.b = x.1 → f0.s = x.2 → (∀ p ∈ A, FC.nm p ≠ n) → LNext P k c e (DB db (some mb) S.left S.down :: MP mb ((A ++ f0 :: B).map FC.ky) :: FB f0.fb f0.a f0.b.length f0.cap f0.s :: BR f0.a f0.b.length f0.cap f0.b :: ((A ++ B).flatMap FC.mem ++ M)) Q) :
    LNext P k c e (Dsk db S :: M) Q := by
  refine LNext.ex (Dsk.open' (db := db) (S := S) (M := M)) ?_
  rintro ⟨mo, F⟩ hx
  obtain ⟨A, f0, B, mb, rfl, q1, q2, q3, q4, rfl⟩ := hx.split hn
  exact LNext.ent (Ent.cons _ (Ent.cons _ files_mid)) (h mb A f0 B hx q1 q2 q3 q4)
theorem bits_x255 (x : UInt8) : IntKind.u8.wrap ((BitVec.ofInt IntKind.u8.bits (x.toNat : Int) ^^^ BitVec.ofInt IntKind.u8.bits 255).toNat) = (((255 - x : UInt8).toNat : Nat) : Int) := by
  have e : (BitVec.ofInt IntKind.u8.bits (x.toNat : Int) ^^^ BitVec.ofInt IntKind.u8.bits 255).toNat = (255 - x : UInt8).toNat := by
    show (BitVec.ofInt 8 (x.toNat : Int) ^^^ BitVec.ofInt 8 ((255 : Nat) : Int)).toNat = _
    have h1 : BitVec.ofInt 8 (x.toNat : Int) = BitVec.ofNat 8 x.toNat := by simp
    have h2 : BitVec.ofInt 8 ((255 : Nat) : Int) = BitVec.ofNat 8 255 := by decide
    rw [h1, h2]
    simp only [BitVec.toNat_xor, BitVec.toNat_ofNat]
    have h3 := x.toNat_lt
    have h4 : x.toNat % 2 ^ 8 = x.toNat := by omega
    rw [h4, sub255]
    exact xor255 x
  rw [e, IntKind.wrap_u8]
  have := (255 - x : UInt8).toNat_lt
  omega
structure RsX where
  i : Nat
  D : Fs
  R : Fs
  ch : Bs
  a : Option Addr
  cap : Nat
theorem RestartNo_ct (a : Option Addr) (n cap : Nat) (M : List As) : Ctr Try.prog 13 #[.pointer none, .slice a n cap] M (fun v M' => v = .tuple #[] ∧ M' = M) := by
  refine ctr_of (Γ := tab) (vs := [_, _]) fn13 rfl ?_
  repeat ((conv => whnf); (first | refine ztx ?_ | refine LNext.nilr ?_ | refine zne ?_ | refine zga ?_ | refine zxa ?_ | refine zca ?_ | refine zcb ?_ | refine zgb ?_ | refine zgc ?_ | refine zgd1 ?_ | refine zge ?_ | refine zgf ?_ | refine zgg ?_ | refine zgh ?_ | refine zgi ?_ | refine zgj ?_ | refine zgk ?_ | refine max2m ?_ | refine min2m ?_ | refine eqStr ?_ | refine neqStr ?_ | refine eqSlNil ?_ | refine neqSlNil ?_ | refine eqBool ?_ | refine neqBool ?_ | refine capSlice ?_ | refine zgl ?_ | refine zgm ?_ | refine zgn ?_ | refine zgo ?_ | refine zba ?_ | refine zbb ?_ | refine zbc ?_ | refine zbd ?_ | refine zbe ?_ | refine zbf ?_ | refine zia ?_ | refine zib ?_ | refine zic ?_ | refine zid1 ?_ | refine zie ?_ | refine zif1 ?_ | refine zig ?_ | refine zih ?_ | refine lint_u8_mod ?_ | refine lint_u32_mod ?_ | refine zii ?_ | refine zij ?_ | refine zua ?_ | refine zgs ?_ | refine zgu ?_ | refine eqMapNil ?_ | refine neqMapNil ?_ | refine LRes.mk ?_ | refine LIn.step ?_ | refine zdr ?_ | refine zna (fun _ => ?_) | refine znb (fun _ => ?_) | refine znc (fun _ => ?_) | refine newSlice0 (fun _ => ?_) | refine newMap (fun _ => ?_)))
  show Fin _ _ _; exact Fin.of M zEn ⟨rfl, rfl⟩
theorem Restart_ct (db : Nat) (S : DS) (a : Option Addr) (cap : Nat) (ch : Bs) (M : List As) (hr : RdH M a 1 encU ch) (hcap : ch.length ≤ cap) (hb : cap ≤ 9223372036854775807) :
    Ctr Try.prog 13 #[.pointer (some ⟨db, 0, none⟩), .slice a ch.length cap] (Dsk db S :: M) (fun v M' => v = .tuple #[] ∧ M' = Dsk db (rsS S ch) :: M) := by
  obtain ⟨SF, left, down⟩ := S
  refine Ctr.ex (okg fn13) (Dsk.open' (db := db) (S := ⟨SF, left, down⟩) (M := M)) ?_
  rintro ⟨mo, F⟩ hx
  dsimp only at hx ⊢
  refine ctr_of (Γ := tab) (vs := [_, _]) fn13 rfl ?_
  repeat ((conv => whnf); (first | refine ztx ?_ | refine LNext.nilr ?_ | refine zne ?_ | refine zga ?_ | refine zxa ?_ | refine zca ?_ | refine zcb ?_ | refine zgb ?_ | refine zgc ?_ | refine zgd1 ?_ | refine zge ?_ | refine zgf ?_ | refine zgg ?_ | refine zgh ?_ | refine zgi ?_ | refine zgj ?_ | refine zgk ?_ | refine max2m ?_ | refine min2m ?_ | refine eqStr ?_ | refine neqStr ?_ | refine eqSlNil ?_ | refine neqSlNil ?_ | refine eqBool ?_ | refine neqBool ?_ | refine capSlice ?_ | refine zgl ?_ | refine zgm ?_ | refine zgn ?_ | refine zgo ?_ | refine zba ?_ | refine zbb ?_ | refine zbc ?_ | refine zbd ?_ | refine zbe ?_ | refine zbf ?_ | refine zia ?_ | refine zib ?_ | refine zic ?_ | refine zid1 ?_ | refine zie ?_ | refine zif1 ?_ | refine zig ?_ | refine zih ?_ | refine lint_u8_mod ?_ | refine lint_u32_mod ?_ | refine zii ?_ | refine zij ?_ | refine zua ?_ | refine zgs ?_ | refine zgu ?_ | refine eqMapNil ?_ | refine neqMapNil ?_ | refine LRes.mk ?_ | refine LIn.step ?_ | refine zdr ?_ | refine zna (fun _ => ?_) | refine znb (fun _ => ?_) | refine znc (fun _ => ?_) | refine newSlice0 (fun _ => ?_) | refine newMap (fun _ => ?_)))
  have hx1 : DskX ⟨SF, 0, false⟩ mo F := hx.same rfl (Nat.zero_le _)
  have hsrt := hx1.ok.srt
  have hfew := hx1.ok.few
  refine call1 ((List_ct db ⟨SF, 0, false⟩ M).weaken (M := DB db mo 0 false :: (mapAs mo F ++ (F.flatMap FC.mem ++ M))) (Dsk.shut (S := ⟨SF, 0, false⟩) hx1) (fun _ _ h => h)) zSp ?_
  rintro v M' ⟨na, ncap, rfl, rfl⟩
  have hns : lsA ⟨SF, 0, false⟩ = SF.map (·.1) := rfl
  rw [hns]
  dsimp only at hfew
  have hnl : (SF.map (·.1)).length = SF.length := List.length_map ..
  have hnm : ∀ (D : Fs) (n : ByteArray) (y : Bs × Nat) (R : Fs), (D ++ (n, y) :: R).map (·.1) = SF.map (·.1) → D.length < (SF.map (·.1)).length ∧ gd (SF.map (·.1)) D.length = n := by
    intro D n y R h
    rw [← h]
    refine ⟨by simp, ?_⟩
    exact gd_of (by simp)
  have hnsrt : (SF.map (·.1)).Pairwise (fun a b => ltS a b = true) := by rw [List.pairwise_map]; exact hsrt
  have hns2 : (([] : Fs) ++ SF).map (·.1) = SF.map (·.1) := rfl
  generalize SF.map (·.1) = ns at hns2 hnsrt hnl hnm ⊢
  repeat ((conv => whnf); (first | refine ztx ?_ | refine LNext.nilr ?_ | refine zne ?_ | refine zga ?_ | refine zxa ?_ | refine zca ?_ | refine zcb ?_ | refine zgb ?_ | refine zgc ?_ | refine zgd1 ?_ | refine zge ?_ | refine zgf ?_ | refine zgg ?_ | refine zgh ?_ | refine zgi ?_ | refine zgj ?_ | refine zgk ?_ | refine max2m ?_ | refine min2m ?_ | refine eqStr ?_ | refine neqStr ?_ | refine eqSlNil ?_ | refine neqSlNil ?_ | refine eqBool ?_ | refine neqBool ?_ | refine capSlice ?_ | refine zgl ?_ | refine zgm ?_ | refine zgn ?_ | refine zgo ?_ | refine zba ?_ | refine zbb ?_ | refine zbc ?_ | refine zbd ?_ | refine zbe ?_ | refine zbf ?_ | refine zia ?_ | refine zib ?_ | refine zic ?_ | refine zid1 ?_ | refine zie ?_ | refine zif1 ?_ | refine zig ?_ | refine zih ?_ | refine lint_u8_mod ?_ | refine lint_u32_mod ?_ | refine zii ?_ | refine zij ?_ | refine zua ?_ | refine zgs ?_ | refine zgu ?_ | refine eqMapNil ?_ | refine neqMapNil ?_ | refine LRes.mk ?_ | refine LIn.step ?_ | refine zdr ?_ | refine zna (fun _ => ?_) | refine znb (fun _ => ?_) | refine znc (fun _ => ?_) | refine newSlice0 (fun _ => ?_) | refine newMap (fun _ => ?_)))
  refine LLoop.invN (fun x : RsX => [(0, .pointer (some ⟨db, 0, none⟩)), (1, .slice x.a x.ch.length x.cap), (19, .slice na ns.length ncap), (20, .int .i64 ns.length), (21, .int .i64 x.i)])
    (fun x => ERow 9 1 Sl.encS na ns.length ncap ns :: Dsk db ⟨x.D ++ x.R, 0, false⟩ :: M)
    (fun x => x.i = x.D.length ∧ rsL SF ch = x.D ++ rsL x.R x.ch ∧ (x.D ++ x.R).map (·.1) = ns ∧ RdH M x.a 1 encU x.ch ∧ x.ch.length ≤ x.cap ∧ x.cap ≤ 9223372036854775807) (fun x => x.R.length) ⟨0, [], SF, ch, a, cap⟩ ⟨rfl, rfl, hns2, hr, hcap, hb⟩ zSu zEn ?_
  rintro ⟨i, D, R, ch', a', cap'⟩ ⟨h0, h1, h2, h3, h4, h5⟩
  dsimp only at h0 h1 h2 h3 h4 h5 ⊢
  cases R with
  | nil =>
    have hlen : i = ns.length := by rw [h0, ← h2]; simp
    refine LNext.go tab ?_
    repeat ((conv => whnf); (first | refine ztx ?_ | refine LNext.nilr ?_ | refine zne ?_ | refine zga ?_ | refine zxa ?_ | refine zca ?_ | refine zcb ?_ | refine zgb ?_ | refine zgc ?_ | refine zgd1 ?_ | refine zge ?_ | refine zgf ?_ | refine zgg ?_ | refine zgh ?_ | refine zgi ?_ | refine zgj ?_ | refine zgk ?_ | refine max2m ?_ | refine min2m ?_ | refine eqStr ?_ | refine neqStr ?_ | refine eqSlNil ?_ | refine neqSlNil ?_ | refine eqBool ?_ | refine neqBool ?_ | refine capSlice ?_ | refine zgl ?_ | refine zgm ?_ | refine zgn ?_ | refine zgo ?_ | refine zba ?_ | refine zbb ?_ | refine zbc ?_ | refine zbd ?_ | refine zbe ?_ | refine zbf ?_ | refine zia ?_ | refine zib ?_ | refine zic ?_ | refine zid1 ?_ | refine zie ?_ | refine zif1 ?_ | refine zig ?_ | refine zih ?_ | refine lint_u8_mod ?_ | refine lint_u32_mod ?_ | refine zii ?_ | refine zij ?_ | refine zua ?_ | refine zgs ?_ | refine zgu ?_ | refine eqMapNil ?_ | refine neqMapNil ?_ | refine LRes.mk ?_ | refine LIn.step ?_ | refine zdr ?_ | refine zna (fun _ => ?_) | refine znb (fun _ => ?_) | refine znc (fun _ => ?_) | refine newSlice0 (fun _ => ?_) | refine newMap (fun _ => ?_)))
    refine Fin.of (Dsk db (rsS ⟨SF, left, down⟩ ch) :: M) ?_ ⟨rfl, rfl⟩
    have e1 : rsS ⟨SF, left, down⟩ ch = ⟨D ++ [], 0, false⟩ := by unfold rsS; rw [h1]; rfl
    rw [e1]
    exact zEn
  | cons p R =>
    obtain ⟨n, b, s⟩ := p
    obtain ⟨hlt, hgd⟩ := hnm D n (b, s) R h2
    rw [← h0] at hlt hgd
    have hsD : srt (D ++ (n, b, s) :: R) := by
      have q : ((D ++ (n, b, s) :: R).map (·.1)).Pairwise (fun a b => ltS a b = true) := by rw [h2]; exact hnsrt
      rw [List.pairwise_map] at q
      exact q
    refine LNext.ent (N := Dsk db ⟨D ++ (n, b, s) :: R, 0, false⟩ :: ERow 9 1 Sl.encS na ns.length ncap ns :: M) zEn ?_
    refine LNext.caseD (n := n) (x := (b, s)) (getL_mids hsD) ?_
    intro mb A f0 B hy q1 q2 q3 q4
    obtain ⟨nm, fb, fa, fcap, b0, s0⟩ := f0
    dsimp only at q1 q2 q3 ⊢
    subst q1; subst q2; subst q3
    refine LNext.row (E := 9) (sz := 1) (enc := Sl.encS) (a := na) (n := ns.length) (cap := ncap) (xs := ns) zTk (fun rh => ?_)
    obtain ⟨g, rfl⟩ := rh.ad (by omega)
    have hlb := hy.ok.len (nm, b0, s0) (by simp)
    dsimp only at hlb
    have happ : ∀ y : Bs × Nat, (D ++ [(nm, y)]) ++ R = D ++ (nm, y) :: R := fun y => by simp
    have hk : ∀ (b2 : Bs) (s2 : Nat), (A ++ ⟨nm, fb, fa, fcap, b0, s0⟩ :: B).map FC.ky = (A ++ ⟨nm, fb, fa, fcap, b2, s2⟩ :: B).map FC.ky := fun _ _ => by rw [ky_mid, ky_mid]
    have hup : ∀ (b2 : Bs), b2.length ≤ b0.length → DskX ⟨D ++ (nm, b2, b2.length) :: R, 0, false⟩ (some mb) (A ++ ⟨nm, fb, fa, fcap, b2, b2.length⟩ :: B) := fun b2 h => hy.upd ⟨nm, fb, fa, fcap, b2, b2.length⟩ rfl (by show b2.length ≤ _; omega) (Nat.le_refl _) (putF_mid hsD).symm (Nat.zero_le _)
    have hfin : ∀ (b2 : Bs) (k : Nat) (bx : Bs), b2.length = k → bx.take k = b2 → k ≤ b0.length → bx.length = b0.length → Ent (DB db (some mb) 0 false :: MP mb ((A ++ ⟨nm, fb, fa, fcap, b0, s0⟩ :: B).map FC.ky) :: FB fb fa k fcap k :: BR fa b0.length fcap bx :: ((A ++ B).flatMap FC.mem ++ ERow 9 1 Sl.encS (some ⟨g, 0, none⟩) ns.length ncap ns :: M)) (ERow 9 1 Sl.encS (some ⟨g, 0, none⟩) ns.length ncap ns :: Dsk db ⟨(D ++ [(nm, b2, b2.length)]) ++ R, 0, false⟩ :: M) := by
      intro b2 k bx e1 e2 e3 e4
      rw [happ, hk b2 b2.length]
      have hsh := Dsk.shut1 (db := db) (M := ERow 9 1 Sl.encS (some ⟨g, 0, none⟩) ns.length ncap ns :: M) (hup b2 (by omega))
      dsimp only at hsh
      rw [e1] at hsh ⊢
      have hs1 := ERow.shrink (E := 5) (sz := 1) (enc := encU) encU_len (a := fa) (n := b0.length) (m := k) (cap := fcap) (xs := bx) (M := DB db (some mb) 0 false :: MP mb ((A ++ ⟨nm, fb, fa, fcap, b2, k⟩ :: B).map FC.ky) :: FB fb fa k fcap k :: ((A ++ B).flatMap FC.mem ++ (ERow 9 1 Sl.encS (some ⟨g, 0, none⟩) ns.length ncap ns :: M))) e3
      rw [e2] at hs1
      refine Ent.trans (Ent.trans ?_ (Ent.trans hs1 ?_)) (Ent.trans hsh zEn)
      · exact zEn
      · exact zEn
    by_cases hu : b0.length = s0
    · repeat ((conv => whnf); (first | refine ztx ?_ | refine LNext.nilr ?_ | refine zne ?_ | refine zga ?_ | refine zxa ?_ | refine zca ?_ | refine zcb ?_ | refine zgb ?_ | refine zgc ?_ | refine zgd1 ?_ | refine zge ?_ | refine zgf ?_ | refine zgg ?_ | refine zgh ?_ | refine zgi ?_ | refine zgj ?_ | refine zgk ?_ | refine max2m ?_ | refine min2m ?_ | refine eqStr ?_ | refine neqStr ?_ | refine eqSlNil ?_ | refine neqSlNil ?_ | refine eqBool ?_ | refine neqBool ?_ | refine capSlice ?_ | refine zgl ?_ | refine zgm ?_ | refine zgn ?_ | refine zgo ?_ | refine zba ?_ | refine zbb ?_ | refine zbc ?_ | refine zbd ?_ | refine zbe ?_ | refine zbf ?_ | refine zia ?_ | refine zib ?_ | refine zic ?_ | refine zid1 ?_ | refine zie ?_ | refine zif1 ?_ | refine zig ?_ | refine zih ?_ | refine lint_u8_mod ?_ | refine lint_u32_mod ?_ | refine zii ?_ | refine zij ?_ | refine zua ?_ | refine zgs ?_ | refine zgu ?_ | refine eqMapNil ?_ | refine neqMapNil ?_ | refine LRes.mk ?_ | refine LIn.step ?_ | refine zdr ?_ | refine zna (fun _ => ?_) | refine znb (fun _ => ?_) | refine znc (fun _ => ?_) | refine newSlice0 (fun _ => ?_) | refine newMap (fun _ => ?_)))
      rw [hgd]
      repeat ((conv => whnf); (first | refine ztx ?_ | refine LNext.nilr ?_ | refine zne ?_ | refine zga ?_ | refine zxa ?_ | refine zca ?_ | refine zcb ?_ | refine zgb ?_ | refine zgc ?_ | refine zgd1 ?_ | refine zge ?_ | refine zgf ?_ | refine zgg ?_ | refine zgh ?_ | refine zgi ?_ | refine zgj ?_ | refine zgk ?_ | refine max2m ?_ | refine min2m ?_ | refine eqStr ?_ | refine neqStr ?_ | refine eqSlNil ?_ | refine neqSlNil ?_ | refine eqBool ?_ | refine neqBool ?_ | refine capSlice ?_ | refine zgl ?_ | refine zgm ?_ | refine zgn ?_ | refine zgo ?_ | refine zba ?_ | refine zbb ?_ | refine zbc ?_ | refine zbd ?_ | refine zbe ?_ | refine zbf ?_ | refine zia ?_ | refine zib ?_ | refine zic ?_ | refine zid1 ?_ | refine zie ?_ | refine zif1 ?_ | refine zig ?_ | refine zih ?_ | refine lint_u8_mod ?_ | refine lint_u32_mod ?_ | refine zii ?_ | refine zij ?_ | refine zua ?_ | refine zgs ?_ | refine zgu ?_ | refine eqMapNil ?_ | refine neqMapNil ?_ | refine LRes.mk ?_ | refine LIn.step ?_ | refine zdr ?_ | refine zna (fun _ => ?_) | refine znb (fun _ => ?_) | refine znc (fun _ => ?_) | refine newSlice0 (fun _ => ?_) | refine newMap (fun _ => ?_)))
      refine zlk (ky_get rfl q4) zHm ?_
      repeat ((conv => whnf); (first | refine ztx ?_ | refine LNext.nilr ?_ | refine zne ?_ | refine zga ?_ | refine zxa ?_ | refine zca ?_ | refine zcb ?_ | refine zgb ?_ | refine zgc ?_ | refine zgd1 ?_ | refine zge ?_ | refine zgf ?_ | refine zgg ?_ | refine zgh ?_ | refine zgi ?_ | refine zgj ?_ | refine zgk ?_ | refine max2m ?_ | refine min2m ?_ | refine eqStr ?_ | refine neqStr ?_ | refine eqSlNil ?_ | refine neqSlNil ?_ | refine eqBool ?_ | refine neqBool ?_ | refine capSlice ?_ | refine zgl ?_ | refine zgm ?_ | refine zgn ?_ | refine zgo ?_ | refine zba ?_ | refine zbb ?_ | refine zbc ?_ | refine zbd ?_ | refine zbe ?_ | refine zbf ?_ | refine zia ?_ | refine zib ?_ | refine zic ?_ | refine zid1 ?_ | refine zie ?_ | refine zif1 ?_ | refine zig ?_ | refine zih ?_ | refine lint_u8_mod ?_ | refine lint_u32_mod ?_ | refine zii ?_ | refine zij ?_ | refine zua ?_ | refine zgs ?_ | refine zgu ?_ | refine eqMapNil ?_ | refine neqMapNil ?_ | refine LRes.mk ?_ | refine LIn.step ?_ | refine zdr ?_ | refine zna (fun _ => ?_) | refine znb (fun _ => ?_) | refine znc (fun _ => ?_) | refine newSlice0 (fun _ => ?_) | refine newMap (fun _ => ?_)))
      have e1 : rsL ((nm, b0, s0) :: R) ch' = (nm, b0, s0) :: rsL R ch' := by rw [rsL, if_pos hu]
      refine ⟨⟨i + 1, D ++ [(nm, b0, s0)], R, ch', a', cap'⟩, ⟨by simp [h0], by rw [h1, e1]; simp, by rw [happ]; exact h2, h3, h4, h5⟩, by simp, zSu, ?_⟩
      dsimp only
      rw [happ]
      exact Ent.trans (Dsk.shut1 hy) zEn
    · refine LNext.row (E := 5) (sz := 1) (enc := encU) (a := fa) (n := b0.length) (cap := fcap) (xs := b0) zTk (fun rb => ?_)
      have hcp := rb.le
      by_cases hpos : 0 < ch'.length
      · have hhd : ch'.headD 0 = gd ch' 0 := by cases ch' with | nil => simp at hpos | cons c r => rfl
        have hcl := (gd ch' 0).toNat_lt
        have hkl := kept_le (gd ch' 0) b0 s0 hlb.2
        have hrl := rs1_len (c := gd ch' 0) hlb.2
        refine LNext.rd (a := a') (xs := ch') (sz := 1) (enc := encU) zRd (fun rr => ?_)
        obtain ⟨gb, go, rfl, hl⟩ := rr.get (i := 0) hpos
        have htl : ch'.tail = ch'.drop 1 := by cases ch' <;> rfl
        have h3' : RdH M (offA (some ⟨gb, go, none⟩) 1 1 cap') 1 encU (ch'.drop 1) := h3.off h4
        have hdl : (ch'.drop 1).length = ch'.length - 1 := List.length_drop ..
        have e1 : rsL ((nm, b0, s0) :: R) ch' = (nm, rs1 (gd ch' 0) b0 s0, (rs1 (gd ch' 0) b0 s0).length) :: rsL R (ch'.drop 1) := by rw [rsL, if_neg hu, hhd, htl]
        repeat ((conv => whnf); (first | refine ztx ?_ | refine LNext.nilr ?_ | refine zne ?_ | refine zga ?_ | refine zxa ?_ | refine zca ?_ | refine zcb ?_ | refine zgb ?_ | refine zgc ?_ | refine zgd1 ?_ | refine zge ?_ | refine zgf ?_ | refine zgg ?_ | refine zgh ?_ | refine zgi ?_ | refine zgj ?_ | refine zgk ?_ | refine max2m ?_ | refine min2m ?_ | refine eqStr ?_ | refine neqStr ?_ | refine eqSlNil ?_ | refine neqSlNil ?_ | refine eqBool ?_ | refine neqBool ?_ | refine capSlice ?_ | refine zgl ?_ | refine zgm ?_ | refine zgn ?_ | refine zgo ?_ | refine zba ?_ | refine zbb ?_ | refine zbc ?_ | refine zbd ?_ | refine zbe ?_ | refine zbf ?_ | refine zia ?_ | refine zib ?_ | refine zic ?_ | refine zid1 ?_ | refine zie ?_ | refine zif1 ?_ | refine zig ?_ | refine zih ?_ | refine lint_u8_mod ?_ | refine lint_u32_mod ?_ | refine zii ?_ | refine zij ?_ | refine zua ?_ | refine zgs ?_ | refine zgu ?_ | refine eqMapNil ?_ | refine neqMapNil ?_ | refine LRes.mk ?_ | refine LIn.step ?_ | refine zdr ?_ | refine zna (fun _ => ?_) | refine znb (fun _ => ?_) | refine znc (fun _ => ?_) | refine newSlice0 (fun _ => ?_) | refine newMap (fun _ => ?_)))
        rw [hgd]
        repeat ((conv => whnf); (first | refine ztx ?_ | refine LNext.nilr ?_ | refine zne ?_ | refine zga ?_ | refine zxa ?_ | refine zca ?_ | refine zcb ?_ | refine zgb ?_ | refine zgc ?_ | refine zgd1 ?_ | refine zge ?_ | refine zgf ?_ | refine zgg ?_ | refine zgh ?_ | refine zgi ?_ | refine zgj ?_ | refine zgk ?_ | refine max2m ?_ | refine min2m ?_ | refine eqStr ?_ | refine neqStr ?_ | refine eqSlNil ?_ | refine neqSlNil ?_ | refine eqBool ?_ | refine neqBool ?_ | refine capSlice ?_ | refine zgl ?_ | refine zgm ?_ | refine zgn ?_ | refine zgo ?_ | refine zba ?_ | refine zbb ?_ | refine zbc ?_ | refine zbd ?_ | refine zbe ?_ | refine zbf ?_ | refine zia ?_ | refine zib ?_ | refine zic ?_ | refine zid1 ?_ | refine zie ?_ | refine zif1 ?_ | refine zig ?_ | refine zih ?_ | refine lint_u8_mod ?_ | refine lint_u32_mod ?_ | refine zii ?_ | refine zij ?_ | refine zua ?_ | refine zgs ?_ | refine zgu ?_ | refine eqMapNil ?_ | refine neqMapNil ?_ | refine LRes.mk ?_ | refine LIn.step ?_ | refine zdr ?_ | refine zna (fun _ => ?_) | refine znb (fun _ => ?_) | refine znc (fun _ => ?_) | refine newSlice0 (fun _ => ?_) | refine newMap (fun _ => ?_)))
        refine zlk (ky_get rfl q4) zHm ?_
        repeat ((conv => whnf); (first | refine ztx ?_ | refine LNext.nilr ?_ | refine zne ?_ | refine zga ?_ | refine zxa ?_ | refine zca ?_ | refine zcb ?_ | refine zgb ?_ | refine zgc ?_ | refine zgd1 ?_ | refine zge ?_ | refine zgf ?_ | refine zgg ?_ | refine zgh ?_ | refine zgi ?_ | refine zgj ?_ | refine zgk ?_ | refine max2m ?_ | refine min2m ?_ | refine eqStr ?_ | refine neqStr ?_ | refine eqSlNil ?_ | refine neqSlNil ?_ | refine eqBool ?_ | refine neqBool ?_ | refine capSlice ?_ | refine zgl ?_ | refine zgm ?_ | refine zgn ?_ | refine zgo ?_ | refine zba ?_ | refine zbb ?_ | refine zbc ?_ | refine zbd ?_ | refine zbe ?_ | refine zbf ?_ | refine zia ?_ | refine zib ?_ | refine zic ?_ | refine zid1 ?_ | refine zie ?_ | refine zif1 ?_ | refine zig ?_ | refine zih ?_ | refine lint_u8_mod ?_ | refine lint_u32_mod ?_ | refine zii ?_ | refine zij ?_ | refine zua ?_ | refine zgs ?_ | refine zgu ?_ | refine eqMapNil ?_ | refine neqMapNil ?_ | refine LRes.mk ?_ | refine LIn.step ?_ | refine zdr ?_ | refine zna (fun _ => ?_) | refine znb (fun _ => ?_) | refine znc (fun _ => ?_) | refine newSlice0 (fun _ => ?_) | refine newMap (fun _ => ?_)))
        refine zif1 (n := ((gd ch' 0).toNat : Int)) ?_ (by omega)
        repeat ((conv => whnf); (first | refine ztx ?_ | refine LNext.nilr ?_ | refine zne ?_ | refine zga ?_ | refine zxa ?_ | refine zca ?_ | refine zcb ?_ | refine zgb ?_ | refine zgc ?_ | refine zgd1 ?_ | refine zge ?_ | refine zgf ?_ | refine zgg ?_ | refine zgh ?_ | refine zgi ?_ | refine zgj ?_ | refine zgk ?_ | refine max2m ?_ | refine min2m ?_ | refine eqStr ?_ | refine neqStr ?_ | refine eqSlNil ?_ | refine neqSlNil ?_ | refine eqBool ?_ | refine neqBool ?_ | refine capSlice ?_ | refine zgl ?_ | refine zgm ?_ | refine zgn ?_ | refine zgo ?_ | refine zba ?_ | refine zbb ?_ | refine zbc ?_ | refine zbd ?_ | refine zbe ?_ | refine zbf ?_ | refine zia ?_ | refine zib ?_ | refine zic ?_ | refine zid1 ?_ | refine zie ?_ | refine zif1 ?_ | refine zig ?_ | refine zih ?_ | refine lint_u8_mod ?_ | refine lint_u32_mod ?_ | refine zii ?_ | refine zij ?_ | refine zua ?_ | refine zgs ?_ | refine zgu ?_ | refine eqMapNil ?_ | refine neqMapNil ?_ | refine LRes.mk ?_ | refine LIn.step ?_ | refine zdr ?_ | refine zna (fun _ => ?_) | refine znb (fun _ => ?_) | refine znc (fun _ => ?_) | refine newSlice0 (fun _ => ?_) | refine newMap (fun _ => ?_)))
        refine sliceLo2 tab (lo := 1) rfl rfl (by omega) ?_
        repeat ((conv => whnf); (first | refine ztx ?_ | refine LNext.nilr ?_ | refine zne ?_ | refine zga ?_ | refine zxa ?_ | refine zca ?_ | refine zcb ?_ | refine zgb ?_ | refine zgc ?_ | refine zgd1 ?_ | refine zge ?_ | refine zgf ?_ | refine zgg ?_ | refine zgh ?_ | refine zgi ?_ | refine zgj ?_ | refine zgk ?_ | refine max2m ?_ | refine min2m ?_ | refine eqStr ?_ | refine neqStr ?_ | refine eqSlNil ?_ | refine neqSlNil ?_ | refine eqBool ?_ | refine neqBool ?_ | refine capSlice ?_ | refine zgl ?_ | refine zgm ?_ | refine zgn ?_ | refine zgo ?_ | refine zba ?_ | refine zbb ?_ | refine zbc ?_ | refine zbd ?_ | refine zbe ?_ | refine zbf ?_ | refine zia ?_ | refine zib ?_ | refine zic ?_ | refine zid1 ?_ | refine zie ?_ | refine zif1 ?_ | refine zig ?_ | refine zih ?_ | refine lint_u8_mod ?_ | refine lint_u32_mod ?_ | refine zii ?_ | refine zij ?_ | refine zua ?_ | refine zgs ?_ | refine zgu ?_ | refine eqMapNil ?_ | refine neqMapNil ?_ | refine LRes.mk ?_ | refine LIn.step ?_ | refine zdr ?_ | refine zna (fun _ => ?_) | refine znb (fun _ => ?_) | refine znc (fun _ => ?_) | refine newSlice0 (fun _ => ?_) | refine newMap (fun _ => ?_)))
        have hrs : rs1 (gd ch' 0) b0 s0 = if 128 ≤ (gd ch' 0).toNat ∧ 0 < (gd ch' 0).toNat % (b0.length - s0 + 1) then (b0.take (s0 + (gd ch' 0).toNat % (b0.length - s0 + 1))).set (s0 + (gd ch' 0).toNat % (b0.length - s0 + 1) - 1) (255 - gd b0 (s0 + (gd ch' 0).toNat % (b0.length - s0 + 1) - 1)) else b0.take (s0 + (gd ch' 0).toNat % (b0.length - s0 + 1)) := rfl
        generalize rs1 (gd ch' 0) b0 s0 = bb at hrs hrl e1
        refine sliceHi2 tab (hi := s0 + (gd ch' 0).toNat % (b0.length - s0 + 1)) rfl rfl (fun _ _ => by omega) ?_
        generalize (gd ch' 0).toNat % (b0.length - s0 + 1) = kp at hkl hrs hrl ⊢
        have hend : bb.length = s0 + kp := hrl
        by_cases hc1 : 128 ≤ (gd ch' 0).toNat
        · by_cases hk0 : 0 < kp
          · rw [if_pos ⟨hc1, hk0⟩] at hrs
            obtain ⟨gf, rfl⟩ := rb.ad (by omega)
            repeat ((conv => whnf); (first | refine ztx ?_ | refine LNext.nilr ?_ | refine zne ?_ | refine zga ?_ | refine zxa ?_ | refine zca ?_ | refine zcb ?_ | refine zgb ?_ | refine zgc ?_ | refine zgd1 ?_ | refine zge ?_ | refine zgf ?_ | refine zgg ?_ | refine zgh ?_ | refine zgi ?_ | refine zgj ?_ | refine zgk ?_ | refine max2m ?_ | refine min2m ?_ | refine eqStr ?_ | refine neqStr ?_ | refine eqSlNil ?_ | refine neqSlNil ?_ | refine eqBool ?_ | refine neqBool ?_ | refine capSlice ?_ | refine zgl ?_ | refine zgm ?_ | refine zgn ?_ | refine zgo ?_ | refine zba ?_ | refine zbb ?_ | refine zbc ?_ | refine zbd ?_ | refine zbe ?_ | refine zbf ?_ | refine zia ?_ | refine zib ?_ | refine zic ?_ | refine zid1 ?_ | refine zie ?_ | refine zif1 ?_ | refine zig ?_ | refine zih ?_ | refine lint_u8_mod ?_ | refine lint_u32_mod ?_ | refine zii ?_ | refine zij ?_ | refine zua ?_ | refine zgs ?_ | refine zgu ?_ | refine eqMapNil ?_ | refine neqMapNil ?_ | refine LRes.mk ?_ | refine LIn.step ?_ | refine zdr ?_ | refine zna (fun _ => ?_) | refine znb (fun _ => ?_) | refine znc (fun _ => ?_) | refine newSlice0 (fun _ => ?_) | refine newMap (fun _ => ?_)))
            refine leq_ (bits_x255 _) ?_
            repeat ((conv => whnf); (first | refine ztx ?_ | refine LNext.nilr ?_ | refine zne ?_ | refine zga ?_ | refine zxa ?_ | refine zca ?_ | refine zcb ?_ | refine zgb ?_ | refine zgc ?_ | refine zgd1 ?_ | refine zge ?_ | refine zgf ?_ | refine zgg ?_ | refine zgh ?_ | refine zgi ?_ | refine zgj ?_ | refine zgk ?_ | refine max2m ?_ | refine min2m ?_ | refine eqStr ?_ | refine neqStr ?_ | refine eqSlNil ?_ | refine neqSlNil ?_ | refine eqBool ?_ | refine neqBool ?_ | refine capSlice ?_ | refine zgl ?_ | refine zgm ?_ | refine zgn ?_ | refine zgo ?_ | refine zba ?_ | refine zbb ?_ | refine zbc ?_ | refine zbd ?_ | refine zbe ?_ | refine zbf ?_ | refine zia ?_ | refine zib ?_ | refine zic ?_ | refine zid1 ?_ | refine zie ?_ | refine zif1 ?_ | refine zig ?_ | refine zih ?_ | refine lint_u8_mod ?_ | refine lint_u32_mod ?_ | refine zii ?_ | refine zij ?_ | refine zua ?_ | refine zgs ?_ | refine zgu ?_ | refine eqMapNil ?_ | refine neqMapNil ?_ | refine LRes.mk ?_ | refine LIn.step ?_ | refine zdr ?_ | refine zna (fun _ => ?_) | refine znb (fun _ => ?_) | refine znc (fun _ => ?_) | refine newSlice0 (fun _ => ?_) | refine newMap (fun _ => ?_)))
            refine storeE tab (255 - gd b0 (s0 + kp - 1)) zTk (by intro _; rfl) rfl (by first | exact Nat.zero_add _ | rfl | omega | simp) zOm (by rfl) (by rfl) ?_
            repeat ((conv => whnf); (first | refine ztx ?_ | refine LNext.nilr ?_ | refine zne ?_ | refine zga ?_ | refine zxa ?_ | refine zca ?_ | refine zcb ?_ | refine zgb ?_ | refine zgc ?_ | refine zgd1 ?_ | refine zge ?_ | refine zgf ?_ | refine zgg ?_ | refine zgh ?_ | refine zgi ?_ | refine zgj ?_ | refine zgk ?_ | refine max2m ?_ | refine min2m ?_ | refine eqStr ?_ | refine neqStr ?_ | refine eqSlNil ?_ | refine neqSlNil ?_ | refine eqBool ?_ | refine neqBool ?_ | refine capSlice ?_ | refine zgl ?_ | refine zgm ?_ | refine zgn ?_ | refine zgo ?_ | refine zba ?_ | refine zbb ?_ | refine zbc ?_ | refine zbd ?_ | refine zbe ?_ | refine zbf ?_ | refine zia ?_ | refine zib ?_ | refine zic ?_ | refine zid1 ?_ | refine zie ?_ | refine zif1 ?_ | refine zig ?_ | refine zih ?_ | refine lint_u8_mod ?_ | refine lint_u32_mod ?_ | refine zii ?_ | refine zij ?_ | refine zua ?_ | refine zgs ?_ | refine zgu ?_ | refine eqMapNil ?_ | refine neqMapNil ?_ | refine LRes.mk ?_ | refine LIn.step ?_ | refine zdr ?_ | refine zna (fun _ => ?_) | refine znb (fun _ => ?_) | refine znc (fun _ => ?_) | refine newSlice0 (fun _ => ?_) | refine newMap (fun _ => ?_)))
            rw [← hdl]
            refine ⟨⟨i + 1, D ++ [(nm, bb, bb.length)], R, ch'.drop 1, offA (some ⟨gb, go, none⟩) 1 1 cap', cap' - 1⟩, ⟨by simp [h0], by rw [h1, e1]; simp, by rw [happ, ← h2]; simp, h3', by dsimp only; omega, by dsimp only; omega⟩, by simp, zSu, ?_⟩
            exact Ent.trans zEn (hfin bb (s0 + kp) (b0.set (s0 + kp - 1) (255 - gd b0 (s0 + kp - 1))) hend (by rw [hrs, List.take_set]) (by omega) (by simp))
          · rw [if_neg (by omega)] at hrs
            repeat ((conv => whnf); (first | refine ztx ?_ | refine LNext.nilr ?_ | refine zne ?_ | refine zga ?_ | refine zxa ?_ | refine zca ?_ | refine zcb ?_ | refine zgb ?_ | refine zgc ?_ | refine zgd1 ?_ | refine zge ?_ | refine zgf ?_ | refine zgg ?_ | refine zgh ?_ | refine zgi ?_ | refine zgj ?_ | refine zgk ?_ | refine max2m ?_ | refine min2m ?_ | refine eqStr ?_ | refine neqStr ?_ | refine eqSlNil ?_ | refine neqSlNil ?_ | refine eqBool ?_ | refine neqBool ?_ | refine capSlice ?_ | refine zgl ?_ | refine zgm ?_ | refine zgn ?_ | refine zgo ?_ | refine zba ?_ | refine zbb ?_ | refine zbc ?_ | refine zbd ?_ | refine zbe ?_ | refine zbf ?_ | refine zia ?_ | refine zib ?_ | refine zic ?_ | refine zid1 ?_ | refine zie ?_ | refine zif1 ?_ | refine zig ?_ | refine zih ?_ | refine lint_u8_mod ?_ | refine lint_u32_mod ?_ | refine zii ?_ | refine zij ?_ | refine zua ?_ | refine zgs ?_ | refine zgu ?_ | refine eqMapNil ?_ | refine neqMapNil ?_ | refine LRes.mk ?_ | refine LIn.step ?_ | refine zdr ?_ | refine zna (fun _ => ?_) | refine znb (fun _ => ?_) | refine znc (fun _ => ?_) | refine newSlice0 (fun _ => ?_) | refine newMap (fun _ => ?_)))
            rw [← hdl]
            refine ⟨⟨i + 1, D ++ [(nm, bb, bb.length)], R, ch'.drop 1, offA (some ⟨gb, go, none⟩) 1 1 cap', cap' - 1⟩, ⟨by simp [h0], by rw [h1, e1]; simp, by rw [happ, ← h2]; simp, h3', by dsimp only; omega, by dsimp only; omega⟩, by simp, zSu, ?_⟩
            exact Ent.trans zEn (hfin bb (s0 + kp) b0 hend hrs.symm (by omega) rfl)
        · rw [if_neg (by omega)] at hrs
          repeat ((conv => whnf); (first | refine ztx ?_ | refine LNext.nilr ?_ | refine zne ?_ | refine zga ?_ | refine zxa ?_ | refine zca ?_ | refine zcb ?_ | refine zgb ?_ | refine zgc ?_ | refine zgd1 ?_ | refine zge ?_ | refine zgf ?_ | refine zgg ?_ | refine zgh ?_ | refine zgi ?_ | refine zgj ?_ | refine zgk ?_ | refine max2m ?_ | refine min2m ?_ | refine eqStr ?_ | refine neqStr ?_ | refine eqSlNil ?_ | refine neqSlNil ?_ | refine eqBool ?_ | refine neqBool ?_ | refine capSlice ?_ | refine zgl ?_ | refine zgm ?_ | refine zgn ?_ | refine zgo ?_ | refine zba ?_ | refine zbb ?_ | refine zbc ?_ | refine zbd ?_ | refine zbe ?_ | refine zbf ?_ | refine zia ?_ | refine zib ?_ | refine zic ?_ | refine zid1 ?_ | refine zie ?_ | refine zif1 ?_ | refine zig ?_ | refine zih ?_ | refine lint_u8_mod ?_ | refine lint_u32_mod ?_ | refine zii ?_ | refine zij ?_ | refine zua ?_ | refine zgs ?_ | refine zgu ?_ | refine eqMapNil ?_ | refine neqMapNil ?_ | refine LRes.mk ?_ | refine LIn.step ?_ | refine zdr ?_ | refine zna (fun _ => ?_) | refine znb (fun _ => ?_) | refine znc (fun _ => ?_) | refine newSlice0 (fun _ => ?_) | refine newMap (fun _ => ?_)))
          rw [← hdl]
          refine ⟨⟨i + 1, D ++ [(nm, bb, bb.length)], R, ch'.drop 1, offA (some ⟨gb, go, none⟩) 1 1 cap', cap' - 1⟩, ⟨by simp [h0], by rw [h1, e1]; simp, by rw [happ, ← h2]; simp, h3', by dsimp only; omega, by dsimp only; omega⟩, by simp, zSu, ?_⟩
          exact Ent.trans zEn (hfin bb (s0 + kp) b0 hend hrs.symm (by omega) rfl)
      · have hhd : ch'.headD 0 = 0 := by cases ch' with | nil => rfl | cons c r => simp at hpos
        have htl : ch'.tail = ch' := by cases ch' with | nil => rfl | cons c r => simp at hpos
        have hl0 : (b0.take s0).length = s0 := by rw [List.length_take]; omega
        have hrs : rs1 0 b0 s0 = b0.take s0 := by unfold rs1; simp
        repeat ((conv => whnf); (first | refine ztx ?_ | refine LNext.nilr ?_ | refine zne ?_ | refine zga ?_ | refine zxa ?_ | refine zca ?_ | refine zcb ?_ | refine zgb ?_ | refine zgc ?_ | refine zgd1 ?_ | refine zge ?_ | refine zgf ?_ | refine zgg ?_ | refine zgh ?_ | refine zgi ?_ | refine zgj ?_ | refine zgk ?_ | refine max2m ?_ | refine min2m ?_ | refine eqStr ?_ | refine neqStr ?_ | refine eqSlNil ?_ | refine neqSlNil ?_ | refine eqBool ?_ | refine neqBool ?_ | refine capSlice ?_ | refine zgl ?_ | refine zgm ?_ | refine zgn ?_ | refine zgo ?_ | refine zba ?_ | refine zbb ?_ | refine zbc ?_ | refine zbd ?_ | refine zbe ?_ | refine zbf ?_ | refine zia ?_ | refine zib ?_ | refine zic ?_ | refine zid1 ?_ | refine zie ?_ | refine zif1 ?_ | refine zig ?_ | refine zih ?_ | refine lint_u8_mod ?_ | refine lint_u32_mod ?_ | refine zii ?_ | refine zij ?_ | refine zua ?_ | refine zgs ?_ | refine zgu ?_ | refine eqMapNil ?_ | refine neqMapNil ?_ | refine LRes.mk ?_ | refine LIn.step ?_ | refine zdr ?_ | refine zna (fun _ => ?_) | refine znb (fun _ => ?_) | refine znc (fun _ => ?_) | refine newSlice0 (fun _ => ?_) | refine newMap (fun _ => ?_)))
        rw [hgd]
        repeat ((conv => whnf); (first | refine ztx ?_ | refine LNext.nilr ?_ | refine zne ?_ | refine zga ?_ | refine zxa ?_ | refine zca ?_ | refine zcb ?_ | refine zgb ?_ | refine zgc ?_ | refine zgd1 ?_ | refine zge ?_ | refine zgf ?_ | refine zgg ?_ | refine zgh ?_ | refine zgi ?_ | refine zgj ?_ | refine zgk ?_ | refine max2m ?_ | refine min2m ?_ | refine eqStr ?_ | refine neqStr ?_ | refine eqSlNil ?_ | refine neqSlNil ?_ | refine eqBool ?_ | refine neqBool ?_ | refine capSlice ?_ | refine zgl ?_ | refine zgm ?_ | refine zgn ?_ | refine zgo ?_ | refine zba ?_ | refine zbb ?_ | refine zbc ?_ | refine zbd ?_ | refine zbe ?_ | refine zbf ?_ | refine zia ?_ | refine zib ?_ | refine zic ?_ | refine zid1 ?_ | refine zie ?_ | refine zif1 ?_ | refine zig ?_ | refine zih ?_ | refine lint_u8_mod ?_ | refine lint_u32_mod ?_ | refine zii ?_ | refine zij ?_ | refine zua ?_ | refine zgs ?_ | refine zgu ?_ | refine eqMapNil ?_ | refine neqMapNil ?_ | refine LRes.mk ?_ | refine LIn.step ?_ | refine zdr ?_ | refine zna (fun _ => ?_) | refine znb (fun _ => ?_) | refine znc (fun _ => ?_) | refine newSlice0 (fun _ => ?_) | refine newMap (fun _ => ?_)))
        refine zlk (ky_get rfl q4) zHm ?_
        repeat ((conv => whnf); (first | refine ztx ?_ | refine LNext.nilr ?_ | refine zne ?_ | refine zga ?_ | refine zxa ?_ | refine zca ?_ | refine zcb ?_ | refine zgb ?_ | refine zgc ?_ | refine zgd1 ?_ | refine zge ?_ | refine zgf ?_ | refine zgg ?_ | refine zgh ?_ | refine zgi ?_ | refine zgj ?_ | refine zgk ?_ | refine max2m ?_ | refine min2m ?_ | refine eqStr ?_ | refine neqStr ?_ | refine eqSlNil ?_ | refine neqSlNil ?_ | refine eqBool ?_ | refine neqBool ?_ | refine capSlice ?_ | refine zgl ?_ | refine zgm ?_ | refine zgn ?_ | refine zgo ?_ | refine zba ?_ | refine zbb ?_ | refine zbc ?_ | refine zbd ?_ | refine zbe ?_ | refine zbf ?_ | refine zia ?_ | refine zib ?_ | refine zic ?_ | refine zid1 ?_ | refine zie ?_ | refine zif1 ?_ | refine zig ?_ | refine zih ?_ | refine lint_u8_mod ?_ | refine lint_u32_mod ?_ | refine zii ?_ | refine zij ?_ | refine zua ?_ | refine zgs ?_ | refine zgu ?_ | refine eqMapNil ?_ | refine neqMapNil ?_ | refine LRes.mk ?_ | refine LIn.step ?_ | refine zdr ?_ | refine zna (fun _ => ?_) | refine znb (fun _ => ?_) | refine znc (fun _ => ?_) | refine newSlice0 (fun _ => ?_) | refine newMap (fun _ => ?_)))
        rw [Nat.zero_mod]
        repeat ((conv => whnf); (first | refine ztx ?_ | refine LNext.nilr ?_ | refine zne ?_ | refine zga ?_ | refine zxa ?_ | refine zca ?_ | refine zcb ?_ | refine zgb ?_ | refine zgc ?_ | refine zgd1 ?_ | refine zge ?_ | refine zgf ?_ | refine zgg ?_ | refine zgh ?_ | refine zgi ?_ | refine zgj ?_ | refine zgk ?_ | refine max2m ?_ | refine min2m ?_ | refine eqStr ?_ | refine neqStr ?_ | refine eqSlNil ?_ | refine neqSlNil ?_ | refine eqBool ?_ | refine neqBool ?_ | refine capSlice ?_ | refine zgl ?_ | refine zgm ?_ | refine zgn ?_ | refine zgo ?_ | refine zba ?_ | refine zbb ?_ | refine zbc ?_ | refine zbd ?_ | refine zbe ?_ | refine zbf ?_ | refine zia ?_ | refine zib ?_ | refine zic ?_ | refine zid1 ?_ | refine zie ?_ | refine zif1 ?_ | refine zig ?_ | refine zih ?_ | refine lint_u8_mod ?_ | refine lint_u32_mod ?_ | refine zii ?_ | refine zij ?_ | refine zua ?_ | refine zgs ?_ | refine zgu ?_ | refine eqMapNil ?_ | refine neqMapNil ?_ | refine LRes.mk ?_ | refine LIn.step ?_ | refine zdr ?_ | refine zna (fun _ => ?_) | refine znb (fun _ => ?_) | refine znc (fun _ => ?_) | refine newSlice0 (fun _ => ?_) | refine newMap (fun _ => ?_)))
        refine sliceHi2 tab (hi := s0 + 0) rfl rfl (fun _ _ => by omega) ?_
        repeat ((conv => whnf); (first | refine ztx ?_ | refine LNext.nilr ?_ | refine zne ?_ | refine zga ?_ | refine zxa ?_ | refine zca ?_ | refine zcb ?_ | refine zgb ?_ | refine zgc ?_ | refine zgd1 ?_ | refine zge ?_ | refine zgf ?_ | refine zgg ?_ | refine zgh ?_ | refine zgi ?_ | refine zgj ?_ | refine zgk ?_ | refine max2m ?_ | refine min2m ?_ | refine eqStr ?_ | refine neqStr ?_ | refine eqSlNil ?_ | refine neqSlNil ?_ | refine eqBool ?_ | refine neqBool ?_ | refine capSlice ?_ | refine zgl ?_ | refine zgm ?_ | refine zgn ?_ | refine zgo ?_ | refine zba ?_ | refine zbb ?_ | refine zbc ?_ | refine zbd ?_ | refine zbe ?_ | refine zbf ?_ | refine zia ?_ | refine zib ?_ | refine zic ?_ | refine zid1 ?_ | refine zie ?_ | refine zif1 ?_ | refine zig ?_ | refine zih ?_ | refine lint_u8_mod ?_ | refine lint_u32_mod ?_ | refine zii ?_ | refine zij ?_ | refine zua ?_ | refine zgs ?_ | refine zgu ?_ | refine eqMapNil ?_ | refine neqMapNil ?_ | refine LRes.mk ?_ | refine LIn.step ?_ | refine zdr ?_ | refine zna (fun _ => ?_) | refine znb (fun _ => ?_) | refine znc (fun _ => ?_) | refine newSlice0 (fun _ => ?_) | refine newMap (fun _ => ?_)))
        have e1 : rsL ((nm, b0, s0) :: R) ch' = (nm, b0.take s0, (b0.take s0).length) :: rsL R ch' := by rw [rsL, if_neg hu, hhd, htl, hrs]
        refine ⟨⟨i + 1, D ++ [(nm, b0.take s0, (b0.take s0).length)], R, ch', a', cap'⟩, ⟨by simp [h0], by rw [h1, e1]; simp, by rw [happ, ← h2]; simp, h3, h4, h5⟩, by simp, zSu, ?_⟩
        exact Ent.trans zEn (hfin (b0.take s0) s0 b0 hl0 rfl (by omega) rfl)
end Go.Proofs.Ytlhcdfennipikaa
