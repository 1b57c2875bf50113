import Derived.Test.YtjmfnakplmmpnaaDoorXAY
import Derived.Laws.BytesArg
namespace Go.Proofs.YtjmfnakplmmpnaaDoor
open Go.Sl
set_option linter.unusedVariables false
set_option linter.unusedSimpArgs false
set_option maxRecDepth 100000
set_option maxHeartbeats 1000000
theorem flatU : ∀ xs : Bs, xs.flatMap encU = (xs.map (fun x : UInt8 => (x.toNat : Int))).map (Value.int .u8)
  | [] => rfl
  | x :: l => by rw [List.flatMap_cons, List.map_cons, List.map_cons, flatU l]; rfl
section
variable {P : Program}
theorem convBS (Γ : Tab P) {src dst e : TypeId} {a : Option Addr} {n cap : Nat} {xs : Bs} {M : List As} {k : Value → Prop} (hr : RdH M a 1 encU xs) (hn : xs.length = n) (hs : Γ.und src = some (.slice e)) (he : Γ.und e = some (.int .u8)) (hd : Γ.und dst = some .string)
    (hk : k (.string ⟨xs.toArray⟩)) : LGet P (convert src dst (.slice a n cap)) M k :=
  ⟨.string ⟨xs.toArray⟩, fun w s => by
    subst hn
    have hs' := Γ.und_ok _ _ hs
    have he' := Γ.und_ok _ _ he
    have hd' := Γ.und_ok _ _ hd
    cases a with
    | none =>
      have hx : xs = [] := by
        rcases (hr.pure s).h with h | ⟨b, o, h, _⟩
        · exact h
        · cases h
      subst hx
      exact run_convert_bytes_nil w src e hs' he' _ _ dst hd'
    | some ad =>
      have hl : (loadCells ad xs.length).run P w = .ok ((xs.map (fun x : UInt8 => (x.toNat : Int))).map (Value.int .u8)).toArray w := by
        have := run_loadCells_list (P := P) w ad (xs.flatMap encU) (fun j v hj => by
          rcases (hr.pure s).h with h | ⟨b, o, e, l⟩
          · subst h; simp at hj
          · cases e
            have hjl : j < xs.length := by
              have := (List.getElem?_eq_some_iff.1 hj).1
              rw [flat_len (sz := 1) (fun _ => rfl), Nat.mul_one] at this
              exact this
            have h0 := flat_get (enc := encU) (sz := 1) (fun _ => rfl) (List.getElem?_eq_getElem hjl) (show 0 < 1 by decide)
            rw [Nat.mul_one, Nat.add_zero, hj] at h0
            have h3 := ((l.h j _ (List.getElem?_eq_getElem hjl)).h 0 v h0.symm).get s
            have hadd : (⟨b, o, none⟩ : Addr).add j = ⟨b, o + j, none⟩ := by unfold Addr.add; split <;> simp_all
            rw [hadd]
            simpa using h3)
        rw [flat_len (sz := 1) (fun _ => rfl), Nat.mul_one] at this
        rw [this, flatU]
      rw [run_convert_bytes_string w src dst e _ xs.length cap hs' he' hd', run_bytesToString w _ xs.length cap (xs.map (fun x : UInt8 => (x.toNat : Int))) hl, foldl_push_bytes]
      congr 2
      rw [List.map_map, show ((fun n : Int => UInt8.ofNat n.toNat) ∘ fun x : UInt8 => (x.toNat : Int)) = id from funext fun x => by simp, List.map_id]
      simp [ByteArray.empty, ByteArray.emptyWithCapacity]
      rfl, hk⟩
end
structure RS (M : List As) (a : Option Addr) (cap : Nat) (bs : Bs) : Prop where
  rd : RdH M a 1 encU bs
  le : bs.length ≤ cap
  max : cap ≤ 9223372036854775807
  len : bs.length ≤ 140737488355328
theorem RS.there {M : List As} {y : As} {a : Option Addr} {cap : Nat} {bs : Bs} (h : RS M a cap bs) : RS (y :: M) a cap bs := ⟨h.rd.there, h.le, h.max, h.len⟩
theorem RS.off {M : List As} {a : Option Addr} {cap : Nat} {bs : Bs} (h : RS M a cap bs) {k : Nat} (hk : k ≤ bs.length) : RS M (offA a 1 k cap) (cap - k) (bs.drop k) := ⟨h.rd.off h.le, by rw [List.length_drop]; have := h.le; omega, by have := h.max; omega, by rw [List.length_drop]; have := h.len; omega⟩
abbrev rc (rb : Nat) (a : Option Addr) (cap : Nat) (bs : Bs) (bad : Bool) : As := Sl.pt rb (.cells #[.slice a bs.length cap, .bool bad] 117 (0, 0))
theorem num_ct (M : List As) (rb : Nat) (a : Option Addr) (cap : Nat) (bs : Bs) (bad : Bool) (h : RS M a cap bs) :
    Ctr Tryd.prog 66 #[.pointer (some ⟨rb, 0, none⟩)] (rc rb a cap bs bad :: M) (fun v M' => ∃ a' cap', v = .int .i64 ((numP (bs, bad)).1 : Nat) ∧ RS M a' cap' (numP (bs, bad)).2.1 ∧ M' = rc rb a' cap' (numP (bs, bad)).2.1 (numP (bs, bad)).2.2 :: M) := by
  have hmx := h.max
  have hle := h.le
  have hrl := rdS_le bs
  refine ctr_of (Γ := tab) (vs := [_]) fn66 rfl ?_
  repeat ((conv => whnf); (first | refine ztx ?_ | refine LNext.nilr ?_ | refine zne ?_ | refine zga ?_ | refine zxa ?_ | refine zca ?_ | refine zcb ?_ | refine zgb ?_ | refine zgd1 ?_ | refine zge ?_ | refine zgf ?_ | refine zgj ?_ | refine zgk ?_ | refine eqStr ?_ | refine neqStr ?_ | refine eqSlNil ?_ | refine capSlice ?_ | refine zgm ?_ | refine zgn ?_ | refine zgo ?_ | refine zba ?_ | refine zbb ?_ | refine zbc ?_ | refine zbd ?_ | refine zbe ?_ | refine zbf ?_ | refine zia ?_ | refine zib ?_ | refine zic ?_ | refine zid1 ?_ | refine zif1 ?_ | refine zig ?_ | refine zih ?_ | refine lint_u8_mod ?_ | refine zua ?_ | refine zgs ?_ | refine LRes.mk ?_ | refine LIn.step ?_ | refine zdr ?_ | refine zna (fun _ => ?_) | refine znb (fun _ => ?_) | refine znc (fun _ => ?_) | refine newSlice0 (fun _ => ?_)))
  refine call0 (sRead_ct _ a cap bs h.rd.there (by omega)) ?_
  rintro v rfl
  by_cases z : (rdS bs).2 = 0
  · have e : numP (bs, bad) = (0, (bs, true)) := by unfold numP; rw [if_pos (Or.inl z)]
    rw [e]
    repeat ((conv => whnf); (first | refine ztx ?_ | refine LNext.nilr ?_ | refine zne ?_ | refine zga ?_ | refine zxa ?_ | refine zca ?_ | refine zcb ?_ | refine zgb ?_ | refine zgd1 ?_ | refine zge ?_ | refine zgf ?_ | refine zgj ?_ | refine zgk ?_ | refine eqStr ?_ | refine neqStr ?_ | refine eqSlNil ?_ | refine capSlice ?_ | refine zgm ?_ | refine zgn ?_ | refine zgo ?_ | refine zba ?_ | refine zbb ?_ | refine zbc ?_ | refine zbd ?_ | refine zbe ?_ | refine zbf ?_ | refine zia ?_ | refine zib ?_ | refine zic ?_ | refine zid1 ?_ | refine zif1 ?_ | refine zig ?_ | refine zih ?_ | refine lint_u8_mod ?_ | refine zua ?_ | refine zgs ?_ | refine LRes.mk ?_ | refine LIn.step ?_ | refine zdr ?_ | refine zna (fun _ => ?_) | refine znb (fun _ => ?_) | refine znc (fun _ => ?_) | refine newSlice0 (fun _ => ?_)))
    show Fin _ _ _; exact Fin.of (rc rb a cap bs true :: M) zEn ⟨a, cap, rfl, h, rfl⟩
  by_cases z2 : 4611686018427387904 < (rdS bs).1
  · have e : numP (bs, bad) = (0, (bs, true)) := by unfold numP; rw [if_pos (Or.inr z2)]
    rw [e]
    repeat ((conv => whnf); (first | refine ztx ?_ | refine LNext.nilr ?_ | refine zne ?_ | refine zga ?_ | refine zxa ?_ | refine zca ?_ | refine zcb ?_ | refine zgb ?_ | refine zgd1 ?_ | refine zge ?_ | refine zgf ?_ | refine zgj ?_ | refine zgk ?_ | refine eqStr ?_ | refine neqStr ?_ | refine eqSlNil ?_ | refine capSlice ?_ | refine zgm ?_ | refine zgn ?_ | refine zgo ?_ | refine zba ?_ | refine zbb ?_ | refine zbc ?_ | refine zbd ?_ | refine zbe ?_ | refine zbf ?_ | refine zia ?_ | refine zib ?_ | refine zic ?_ | refine zid1 ?_ | refine zif1 ?_ | refine zig ?_ | refine zih ?_ | refine lint_u8_mod ?_ | refine zua ?_ | refine zgs ?_ | refine LRes.mk ?_ | refine LIn.step ?_ | refine zdr ?_ | refine zna (fun _ => ?_) | refine znb (fun _ => ?_) | refine znc (fun _ => ?_) | refine newSlice0 (fun _ => ?_)))
    show Fin _ _ _; exact Fin.of (rc rb a cap bs true :: M) zEn ⟨a, cap, rfl, h, rfl⟩
  have e : numP (bs, bad) = ((rdS bs).1, (bs.drop (rdS bs).2, bad)) := by unfold numP; rw [if_neg (show ¬ ((rdS bs).2 = 0 ∨ 4611686018427387904 < (rdS bs).1) by omega)]
  have ho := h.off hrl
  have hdl : bs.length - (rdS bs).2 = (bs.drop (rdS bs).2).length := (List.length_drop ..).symm
  rw [e]
  generalize (rdS bs).1 = n at *
  generalize (rdS bs).2 = k at *
  repeat ((conv => whnf); (first | refine ztx ?_ | refine LNext.nilr ?_ | refine zne ?_ | refine zga ?_ | refine zxa ?_ | refine zca ?_ | refine zcb ?_ | refine zgb ?_ | refine zgd1 ?_ | refine zge ?_ | refine zgf ?_ | refine zgj ?_ | refine zgk ?_ | refine eqStr ?_ | refine neqStr ?_ | refine eqSlNil ?_ | refine capSlice ?_ | refine zgm ?_ | refine zgn ?_ | refine zgo ?_ | refine zba ?_ | refine zbb ?_ | refine zbc ?_ | refine zbd ?_ | refine zbe ?_ | refine zbf ?_ | refine zia ?_ | refine zib ?_ | refine zic ?_ | refine zid1 ?_ | refine zif1 ?_ | refine zig ?_ | refine zih ?_ | refine lint_u8_mod ?_ | refine zua ?_ | refine zgs ?_ | refine LRes.mk ?_ | refine LIn.step ?_ | refine zdr ?_ | refine zna (fun _ => ?_) | refine znb (fun _ => ?_) | refine znc (fun _ => ?_) | refine newSlice0 (fun _ => ?_)))
  refine sliceLo2 tab (lo := k) rfl rfl (by omega) ?_
  rw [hdl]
  repeat ((conv => whnf); (first | refine ztx ?_ | refine LNext.nilr ?_ | refine zne ?_ | refine zga ?_ | refine zxa ?_ | refine zca ?_ | refine zcb ?_ | refine zgb ?_ | refine zgd1 ?_ | refine zge ?_ | refine zgf ?_ | refine zgj ?_ | refine zgk ?_ | refine eqStr ?_ | refine neqStr ?_ | refine eqSlNil ?_ | refine capSlice ?_ | refine zgm ?_ | refine zgn ?_ | refine zgo ?_ | refine zba ?_ | refine zbb ?_ | refine zbc ?_ | refine zbd ?_ | refine zbe ?_ | refine zbf ?_ | refine zia ?_ | refine zib ?_ | refine zic ?_ | refine zid1 ?_ | refine zif1 ?_ | refine zig ?_ | refine zih ?_ | refine lint_u8_mod ?_ | refine zua ?_ | refine zgs ?_ | refine LRes.mk ?_ | refine LIn.step ?_ | refine zdr ?_ | refine zna (fun _ => ?_) | refine znb (fun _ => ?_) | refine znc (fun _ => ?_) | refine newSlice0 (fun _ => ?_)))
  show Fin _ _ _; exact Fin.of (rc rb (offA a 1 k cap) (cap - k) (bs.drop k) bad :: M) zEn ⟨_, _, rfl, ho, rfl⟩
theorem text_ct (M : List As) (rb : Nat) (a : Option Addr) (cap : Nat) (bs : Bs) (bad : Bool) (h : RS M a cap bs) :
    Ctr Tryd.prog 65 #[.pointer (some ⟨rb, 0, none⟩)] (rc rb a cap bs bad :: M) (fun v M' => ∃ a' cap', v = .string (txtP (bs, bad)).1 ∧ RS M a' cap' (txtP (bs, bad)).2.1 ∧ (txtP (bs, bad)).1.size ≤ 140737488355328 ∧ M' = rc rb a' cap' (txtP (bs, bad)).2.1 (txtP (bs, bad)).2.2 :: M) := by
  refine ctr_of (Γ := tab) (vs := [_]) fn65 rfl ?_
  repeat ((conv => whnf); (first | refine ztx ?_ | refine LNext.nilr ?_ | refine zne ?_ | refine zga ?_ | refine zxa ?_ | refine zca ?_ | refine zcb ?_ | refine zgb ?_ | refine zgd1 ?_ | refine zge ?_ | refine zgf ?_ | refine zgj ?_ | refine zgk ?_ | refine eqStr ?_ | refine neqStr ?_ | refine eqSlNil ?_ | refine capSlice ?_ | refine zgm ?_ | refine zgn ?_ | refine zgo ?_ | refine zba ?_ | refine zbb ?_ | refine zbc ?_ | refine zbd ?_ | refine zbe ?_ | refine zbf ?_ | refine zia ?_ | refine zib ?_ | refine zic ?_ | refine zid1 ?_ | refine zif1 ?_ | refine zig ?_ | refine zih ?_ | refine lint_u8_mod ?_ | refine zua ?_ | refine zgs ?_ | refine LRes.mk ?_ | refine LIn.step ?_ | refine zdr ?_ | refine zna (fun _ => ?_) | refine znb (fun _ => ?_) | refine znc (fun _ => ?_) | refine newSlice0 (fun _ => ?_)))
  refine call1 (num_ct M rb a cap bs bad h) zSp ?_
  rintro v M' ⟨a1, c1, rfl, h1, hM⟩
  subst hM
  have hd : txtP (bs, bad) = if (numP (bs, bad)).2.1.length < (numP (bs, bad)).1 then (⟨#[]⟩, ((numP (bs, bad)).2.1, true)) else (⟨((numP (bs, bad)).2.1.take (numP (bs, bad)).1).toArray⟩, ((numP (bs, bad)).2.1.drop (numP (bs, bad)).1, (numP (bs, bad)).2.2)) := rfl
  rw [hd]
  have hmx := h1.max
  have hln := h1.len
  have hle := h1.le
  clear h hd
  generalize (numP (bs, bad)).1 = n at *
  generalize (numP (bs, bad)).2.1 = b2 at *
  generalize (numP (bs, bad)).2.2 = bad2 at *
  by_cases z : b2.length < n
  · rw [if_pos z]
    repeat ((conv => whnf); (first | refine ztx ?_ | refine LNext.nilr ?_ | refine zne ?_ | refine zga ?_ | refine zxa ?_ | refine zca ?_ | refine zcb ?_ | refine zgb ?_ | refine zgd1 ?_ | refine zge ?_ | refine zgf ?_ | refine zgj ?_ | refine zgk ?_ | refine eqStr ?_ | refine neqStr ?_ | refine eqSlNil ?_ | refine capSlice ?_ | refine zgm ?_ | refine zgn ?_ | refine zgo ?_ | refine zba ?_ | refine zbb ?_ | refine zbc ?_ | refine zbd ?_ | refine zbe ?_ | refine zbf ?_ | refine zia ?_ | refine zib ?_ | refine zic ?_ | refine zid1 ?_ | refine zif1 ?_ | refine zig ?_ | refine zih ?_ | refine lint_u8_mod ?_ | refine zua ?_ | refine zgs ?_ | refine LRes.mk ?_ | refine LIn.step ?_ | refine zdr ?_ | refine zna (fun _ => ?_) | refine znb (fun _ => ?_) | refine znc (fun _ => ?_) | refine newSlice0 (fun _ => ?_)))
    show Fin _ _ _; exact Fin.of (rc rb a1 c1 b2 true :: M) zEn ⟨a1, c1, rfl, h1, by show 0 ≤ _; omega, rfl⟩
  rw [if_neg z]
  have ho := h1.off (k := n) (by omega)
  have hdl : b2.length - n = (b2.drop n).length := (List.length_drop ..).symm
  have htl : (b2.take n).length = n := by rw [List.length_take]; omega
  repeat ((conv => whnf); (first | refine ztx ?_ | refine LNext.nilr ?_ | refine zne ?_ | refine zga ?_ | refine zxa ?_ | refine zca ?_ | refine zcb ?_ | refine zgb ?_ | refine zgd1 ?_ | refine zge ?_ | refine zgf ?_ | refine zgj ?_ | refine zgk ?_ | refine eqStr ?_ | refine neqStr ?_ | refine eqSlNil ?_ | refine capSlice ?_ | refine zgm ?_ | refine zgn ?_ | refine zgo ?_ | refine zba ?_ | refine zbb ?_ | refine zbc ?_ | refine zbd ?_ | refine zbe ?_ | refine zbf ?_ | refine zia ?_ | refine zib ?_ | refine zic ?_ | refine zid1 ?_ | refine zif1 ?_ | refine zig ?_ | refine zih ?_ | refine lint_u8_mod ?_ | refine zua ?_ | refine zgs ?_ | refine LRes.mk ?_ | refine LIn.step ?_ | refine zdr ?_ | refine zna (fun _ => ?_) | refine znb (fun _ => ?_) | refine znc (fun _ => ?_) | refine newSlice0 (fun _ => ?_)))
  refine sliceHi2 tab (hi := n) rfl rfl (fun _ _ => by omega) ?_
  repeat ((conv => whnf); (first | refine ztx ?_ | refine LNext.nilr ?_ | refine zne ?_ | refine zga ?_ | refine zxa ?_ | refine zca ?_ | refine zcb ?_ | refine zgb ?_ | refine zgd1 ?_ | refine zge ?_ | refine zgf ?_ | refine zgj ?_ | refine zgk ?_ | refine eqStr ?_ | refine neqStr ?_ | refine eqSlNil ?_ | refine capSlice ?_ | refine zgm ?_ | refine zgn ?_ | refine zgo ?_ | refine zba ?_ | refine zbb ?_ | refine zbc ?_ | refine zbd ?_ | refine zbe ?_ | refine zbf ?_ | refine zia ?_ | refine zib ?_ | refine zic ?_ | refine zid1 ?_ | refine zif1 ?_ | refine zig ?_ | refine zih ?_ | refine lint_u8_mod ?_ | refine zua ?_ | refine zgs ?_ | refine LRes.mk ?_ | refine LIn.step ?_ | refine zdr ?_ | refine zna (fun _ => ?_) | refine znb (fun _ => ?_) | refine znc (fun _ => ?_) | refine newSlice0 (fun _ => ?_)))
  refine convBS tab (xs := b2.take n) (h1.rd.there.take n) htl rfl rfl rfl ?_
  repeat ((conv => whnf); (first | refine ztx ?_ | refine LNext.nilr ?_ | refine zne ?_ | refine zga ?_ | refine zxa ?_ | refine zca ?_ | refine zcb ?_ | refine zgb ?_ | refine zgd1 ?_ | refine zge ?_ | refine zgf ?_ | refine zgj ?_ | refine zgk ?_ | refine eqStr ?_ | refine neqStr ?_ | refine eqSlNil ?_ | refine capSlice ?_ | refine zgm ?_ | refine zgn ?_ | refine zgo ?_ | refine zba ?_ | refine zbb ?_ | refine zbc ?_ | refine zbd ?_ | refine zbe ?_ | refine zbf ?_ | refine zia ?_ | refine zib ?_ | refine zic ?_ | refine zid1 ?_ | refine zif1 ?_ | refine zig ?_ | refine zih ?_ | refine lint_u8_mod ?_ | refine zua ?_ | refine zgs ?_ | refine LRes.mk ?_ | refine LIn.step ?_ | refine zdr ?_ | refine zna (fun _ => ?_) | refine znb (fun _ => ?_) | refine znc (fun _ => ?_) | refine newSlice0 (fun _ => ?_)))
  refine sliceLo2 tab (lo := n) rfl rfl (by omega) ?_
  rw [hdl]
  repeat ((conv => whnf); (first | refine ztx ?_ | refine LNext.nilr ?_ | refine zne ?_ | refine zga ?_ | refine zxa ?_ | refine zca ?_ | refine zcb ?_ | refine zgb ?_ | refine zgd1 ?_ | refine zge ?_ | refine zgf ?_ | refine zgj ?_ | refine zgk ?_ | refine eqStr ?_ | refine neqStr ?_ | refine eqSlNil ?_ | refine capSlice ?_ | refine zgm ?_ | refine zgn ?_ | refine zgo ?_ | refine zba ?_ | refine zbb ?_ | refine zbc ?_ | refine zbd ?_ | refine zbe ?_ | refine zbf ?_ | refine zia ?_ | refine zib ?_ | refine zic ?_ | refine zid1 ?_ | refine zif1 ?_ | refine zig ?_ | refine zih ?_ | refine lint_u8_mod ?_ | refine zua ?_ | refine zgs ?_ | refine LRes.mk ?_ | refine LIn.step ?_ | refine zdr ?_ | refine zna (fun _ => ?_) | refine znb (fun _ => ?_) | refine znc (fun _ => ?_) | refine newSlice0 (fun _ => ?_)))
  show Fin _ _ _; exact Fin.of (rc rb (offA a1 1 n c1) (c1 - n) (b2.drop n) bad2 :: M) zEn ⟨_, _, rfl, ho, by show (b2.take n).toArray.size ≤ _; rw [List.size_toArray, htl]; omega, rfl⟩
theorem cnt_ct (M : List As) (rb : Nat) (a : Option Addr) (cap : Nat) (bs : Bs) (bad : Bool) (h : RS M a cap bs) :
    Ctr Tryd.prog 78 #[.pointer (some ⟨rb, 0, none⟩)] (rc rb a cap bs bad :: M) (fun v M' => ∃ a' cap', v = .int .i64 ((cntP (bs, bad)).1 : Nat) ∧ RS M a' cap' (cntP (bs, bad)).2.1 ∧ M' = rc rb a' cap' (cntP (bs, bad)).2.1 (cntP (bs, bad)).2.2 :: M) := by
  refine ctr_of (Γ := tab) (vs := [_]) fn78 rfl ?_
  repeat ((conv => whnf); (first | refine ztx ?_ | refine LNext.nilr ?_ | refine zne ?_ | refine zga ?_ | refine zxa ?_ | refine zca ?_ | refine zcb ?_ | refine zgb ?_ | refine zgd1 ?_ | refine zge ?_ | refine zgf ?_ | refine zgj ?_ | refine zgk ?_ | refine eqStr ?_ | refine neqStr ?_ | refine eqSlNil ?_ | refine capSlice ?_ | refine zgm ?_ | refine zgn ?_ | refine zgo ?_ | refine zba ?_ | refine zbb ?_ | refine zbc ?_ | refine zbd ?_ | refine zbe ?_ | refine zbf ?_ | refine zia ?_ | refine zib ?_ | refine zic ?_ | refine zid1 ?_ | refine zif1 ?_ | refine zig ?_ | refine zih ?_ | refine lint_u8_mod ?_ | refine zua ?_ | refine zgs ?_ | refine LRes.mk ?_ | refine LIn.step ?_ | refine zdr ?_ | refine zna (fun _ => ?_) | refine znb (fun _ => ?_) | refine znc (fun _ => ?_) | refine newSlice0 (fun _ => ?_)))
  refine call1 (num_ct M rb a cap bs bad h) zSp ?_
  rintro v M' ⟨a1, c1, rfl, h1, hM⟩
  subst hM
  unfold cntP
  generalize numP (bs, bad) = q at *
  obtain ⟨n, b2, bad2⟩ := q
  dsimp only at h1 ⊢
  by_cases z : 64 < n
  · rw [if_pos z]
    repeat ((conv => whnf); (first | refine ztx ?_ | refine LNext.nilr ?_ | refine zne ?_ | refine zga ?_ | refine zxa ?_ | refine zca ?_ | refine zcb ?_ | refine zgb ?_ | refine zgd1 ?_ | refine zge ?_ | refine zgf ?_ | refine zgj ?_ | refine zgk ?_ | refine eqStr ?_ | refine neqStr ?_ | refine eqSlNil ?_ | refine capSlice ?_ | refine zgm ?_ | refine zgn ?_ | refine zgo ?_ | refine zba ?_ | refine zbb ?_ | refine zbc ?_ | refine zbd ?_ | refine zbe ?_ | refine zbf ?_ | refine zia ?_ | refine zib ?_ | refine zic ?_ | refine zid1 ?_ | refine zif1 ?_ | refine zig ?_ | refine zih ?_ | refine lint_u8_mod ?_ | refine zua ?_ | refine zgs ?_ | refine LRes.mk ?_ | refine LIn.step ?_ | refine zdr ?_ | refine zna (fun _ => ?_) | refine znb (fun _ => ?_) | refine znc (fun _ => ?_) | refine newSlice0 (fun _ => ?_)))
    show Fin _ _ _; exact Fin.of (rc rb a1 c1 b2 true :: M) zEn ⟨a1, c1, rfl, h1, rfl⟩
  rw [if_neg z]
  repeat ((conv => whnf); (first | refine ztx ?_ | refine LNext.nilr ?_ | refine zne ?_ | refine zga ?_ | refine zxa ?_ | refine zca ?_ | refine zcb ?_ | refine zgb ?_ | refine zgd1 ?_ | refine zge ?_ | refine zgf ?_ | refine zgj ?_ | refine zgk ?_ | refine eqStr ?_ | refine neqStr ?_ | refine eqSlNil ?_ | refine capSlice ?_ | refine zgm ?_ | refine zgn ?_ | refine zgo ?_ | refine zba ?_ | refine zbb ?_ | refine zbc ?_ | refine zbd ?_ | refine zbe ?_ | refine zbf ?_ | refine zia ?_ | refine zib ?_ | refine zic ?_ | refine zid1 ?_ | refine zif1 ?_ | refine zig ?_ | refine zih ?_ | refine lint_u8_mod ?_ | refine zua ?_ | refine zgs ?_ | refine LRes.mk ?_ | refine LIn.step ?_ | refine zdr ?_ | refine zna (fun _ => ?_) | refine znb (fun _ => ?_) | refine znc (fun _ => ?_) | refine newSlice0 (fun _ => ?_)))
  show Fin _ _ _; exact Fin.of (rc rb a1 c1 b2 bad2 :: M) zEn ⟨a1, c1, rfl, h1, rfl⟩
theorem vec_ct (M : List As) (rb : Nat) (a : Option Addr) (cap : Nat) (bs : Bs) (bad : Bool) (h : RS M a cap bs) :
    Ctr Tryd.prog 67 #[.pointer (some ⟨rb, 0, none⟩)] (rc rb a cap bs bad :: M) (fun v M' => ∃ a' cap', v = .agg (encV4 (vecP (bs, bad)).1).toArray ∧ RS M a' cap' (vecP (bs, bad)).2.1 ∧ M' = rc rb a' cap' (vecP (bs, bad)).2.1 (vecP (bs, bad)).2.2 :: M) := by
  refine ctr_of (Γ := tab) (vs := [_]) fn67 rfl ?_
  unfold vecP
  dsimp only
  repeat (first | ((conv => whnf); (first | refine ztx ?_ | refine LNext.nilr ?_ | refine zne ?_ | refine zga ?_ | refine zxa ?_ | refine zca ?_ | refine zcb ?_ | refine zgb ?_ | refine zgd1 ?_ | refine zge ?_ | refine zgf ?_ | refine zgj ?_ | refine zgk ?_ | refine eqStr ?_ | refine neqStr ?_ | refine eqSlNil ?_ | refine capSlice ?_ | refine zgm ?_ | refine zgn ?_ | refine zgo ?_ | refine zba ?_ | refine zbb ?_ | refine zbc ?_ | refine zbd ?_ | refine zbe ?_ | refine zbf ?_ | refine zia ?_ | refine zib ?_ | refine zic ?_ | refine zid1 ?_ | refine zif1 ?_ | refine zig ?_ | refine zih ?_ | refine lint_u8_mod ?_ | refine zua ?_ | refine zgs ?_ | refine LRes.mk ?_ | refine LIn.step ?_ | refine zdr ?_ | refine zna (fun _ => ?_) | refine znb (fun _ => ?_) | refine znc (fun _ => ?_) | refine newSlice0 (fun _ => ?_))) | (show LLoop _ _ _ _ _ _; refine LLoop.unroll (Γ := tab) ?_))
  refine call1 (num_ct M rb a cap bs bad h) zSp ?_
  rintro v M' ⟨a1, c1, rfl, h1, hM⟩
  subst hM
  generalize numP (bs, bad) = q at *
  obtain ⟨n1, b1, d1⟩ := q
  dsimp only at h1 ⊢
  repeat (first | ((conv => whnf); (first | refine ztx ?_ | refine LNext.nilr ?_ | refine zne ?_ | refine zga ?_ | refine zxa ?_ | refine zca ?_ | refine zcb ?_ | refine zgb ?_ | refine zgd1 ?_ | refine zge ?_ | refine zgf ?_ | refine zgj ?_ | refine zgk ?_ | refine eqStr ?_ | refine neqStr ?_ | refine eqSlNil ?_ | refine capSlice ?_ | refine zgm ?_ | refine zgn ?_ | refine zgo ?_ | refine zba ?_ | refine zbb ?_ | refine zbc ?_ | refine zbd ?_ | refine zbe ?_ | refine zbf ?_ | refine zia ?_ | refine zib ?_ | refine zic ?_ | refine zid1 ?_ | refine zif1 ?_ | refine zig ?_ | refine zih ?_ | refine lint_u8_mod ?_ | refine zua ?_ | refine zgs ?_ | refine LRes.mk ?_ | refine LIn.step ?_ | refine zdr ?_ | refine zna (fun _ => ?_) | refine znb (fun _ => ?_) | refine znc (fun _ => ?_) | refine newSlice0 (fun _ => ?_))) | (show LLoop _ _ _ _ _ _; refine LLoop.unroll (Γ := tab) ?_))
  refine call1 (num_ct M rb a1 c1 b1 d1 h1) zSp ?_
  rintro v M' ⟨a2, c2, rfl, h2, hM⟩
  subst hM
  generalize numP (b1, d1) = q at *
  obtain ⟨n2, b2, d2⟩ := q
  dsimp only at h2 ⊢
  repeat (first | ((conv => whnf); (first | refine ztx ?_ | refine LNext.nilr ?_ | refine zne ?_ | refine zga ?_ | refine zxa ?_ | refine zca ?_ | refine zcb ?_ | refine zgb ?_ | refine zgd1 ?_ | refine zge ?_ | refine zgf ?_ | refine zgj ?_ | refine zgk ?_ | refine eqStr ?_ | refine neqStr ?_ | refine eqSlNil ?_ | refine capSlice ?_ | refine zgm ?_ | refine zgn ?_ | refine zgo ?_ | refine zba ?_ | refine zbb ?_ | refine zbc ?_ | refine zbd ?_ | refine zbe ?_ | refine zbf ?_ | refine zia ?_ | refine zib ?_ | refine zic ?_ | refine zid1 ?_ | refine zif1 ?_ | refine zig ?_ | refine zih ?_ | refine lint_u8_mod ?_ | refine zua ?_ | refine zgs ?_ | refine LRes.mk ?_ | refine LIn.step ?_ | refine zdr ?_ | refine zna (fun _ => ?_) | refine znb (fun _ => ?_) | refine znc (fun _ => ?_) | refine newSlice0 (fun _ => ?_))) | (show LLoop _ _ _ _ _ _; refine LLoop.unroll (Γ := tab) ?_))
  refine call1 (num_ct M rb a2 c2 b2 d2 h2) zSp ?_
  rintro v M' ⟨a3, c3, rfl, h3, hM⟩
  subst hM
  generalize numP (b2, d2) = q at *
  obtain ⟨n3, b3, d3⟩ := q
  dsimp only at h3 ⊢
  repeat (first | ((conv => whnf); (first | refine ztx ?_ | refine LNext.nilr ?_ | refine zne ?_ | refine zga ?_ | refine zxa ?_ | refine zca ?_ | refine zcb ?_ | refine zgb ?_ | refine zgd1 ?_ | refine zge ?_ | refine zgf ?_ | refine zgj ?_ | refine zgk ?_ | refine eqStr ?_ | refine neqStr ?_ | refine eqSlNil ?_ | refine capSlice ?_ | refine zgm ?_ | refine zgn ?_ | refine zgo ?_ | refine zba ?_ | refine zbb ?_ | refine zbc ?_ | refine zbd ?_ | refine zbe ?_ | refine zbf ?_ | refine zia ?_ | refine zib ?_ | refine zic ?_ | refine zid1 ?_ | refine zif1 ?_ | refine zig ?_ | refine zih ?_ | refine lint_u8_mod ?_ | refine zua ?_ | refine zgs ?_ | refine LRes.mk ?_ | refine LIn.step ?_ | refine zdr ?_ | refine zna (fun _ => ?_) | refine znb (fun _ => ?_) | refine znc (fun _ => ?_) | refine newSlice0 (fun _ => ?_))) | (show LLoop _ _ _ _ _ _; refine LLoop.unroll (Γ := tab) ?_))
  refine call1 (num_ct M rb a3 c3 b3 d3 h3) zSp ?_
  rintro v M' ⟨a4, c4, rfl, h4, hM⟩
  subst hM
  generalize numP (b3, d3) = q at *
  obtain ⟨n4, b4, d4⟩ := q
  dsimp only at h4 ⊢
  repeat (first | ((conv => whnf); (first | refine ztx ?_ | refine LNext.nilr ?_ | refine zne ?_ | refine zga ?_ | refine zxa ?_ | refine zca ?_ | refine zcb ?_ | refine zgb ?_ | refine zgd1 ?_ | refine zge ?_ | refine zgf ?_ | refine zgj ?_ | refine zgk ?_ | refine eqStr ?_ | refine neqStr ?_ | refine eqSlNil ?_ | refine capSlice ?_ | refine zgm ?_ | refine zgn ?_ | refine zgo ?_ | refine zba ?_ | refine zbb ?_ | refine zbc ?_ | refine zbd ?_ | refine zbe ?_ | refine zbf ?_ | refine zia ?_ | refine zib ?_ | refine zic ?_ | refine zid1 ?_ | refine zif1 ?_ | refine zig ?_ | refine zih ?_ | refine lint_u8_mod ?_ | refine zua ?_ | refine zgs ?_ | refine LRes.mk ?_ | refine LIn.step ?_ | refine zdr ?_ | refine zna (fun _ => ?_) | refine znb (fun _ => ?_) | refine znc (fun _ => ?_) | refine newSlice0 (fun _ => ?_))) | (show LLoop _ _ _ _ _ _; refine LLoop.unroll (Γ := tab) ?_))
  show Fin _ _ _; exact Fin.of (rc rb a4 c4 b4 d4 :: M) zEn ⟨a4, c4, rfl, h4, rfl⟩
end Go.Proofs.YtjmfnakplmmpnaaDoor

namespace Go.Proofs.YtjmfnakplmmpnaaDoor
open Go.Sl
set_option linter.unusedVariables false
set_option linter.unusedSimpArgs false
set_option maxRecDepth 100000
set_option maxHeartbeats 1000000
theorem lshlJ {a m : Nat} {k : Int → Prop} (s : Nat) (hs : s ≤ 64) (hm : a * 2 ^ s = m) (h : m < 9223372036854775808) (hk : k (m : Int)) : LAnd (0 ≤ (s : Int)) (LInt .i64 ((a : Int) * 2 ^ (min (s : Int).toNat IntKind.i64.bits)) k) :=
  ⟨by omega, by
    have e : (a : Int) * 2 ^ (min (s : Int).toNat IntKind.i64.bits) = (m : Int) := by
      show (a : Int) * 2 ^ (min s 64) = _
      rw [Nat.min_eq_left hs, ← hm]; simp
    rw [e]
    exact lint_id (by omega) hk⟩
abbrev qc (rb : Nat) (a : Option Addr) (cap : Nat) (b : Bs) (i : Nat) (bad : Bool) : As := Sl.pt rb (.cells #[.slice a b.length cap, .int .i64 i, .bool bad] 121 (0, 0))
theorem rNum_ct (M : List As) (rb : Nat) (a : Option Addr) (cap : Nat) (b : Bs) (i : Nat) (bad : Bool) (h : RS M a cap b) (hi : i ≤ b.length) :
    Ctr Tryd.prog 71 #[.pointer (some ⟨rb, 0, none⟩)] (qc rb a cap b i bad :: M) (fun v M' => v = .int .i64 ((rNumP b (i, bad)).1 : Nat) ∧ M' = qc rb a cap b (rNumP b (i, bad)).2.1 (rNumP b (i, bad)).2.2 :: M) := by
  have hlen := h.len
  refine ctr_of (Γ := tab) (vs := [_]) fn71 rfl ?_
  repeat ((conv => whnf); (first | refine ztx ?_ | refine LNext.nilr ?_ | refine zne ?_ | refine zga ?_ | refine zxa ?_ | refine zca ?_ | refine zcb ?_ | refine zgb ?_ | refine zgd1 ?_ | refine zge ?_ | refine zgf ?_ | refine zgj ?_ | refine zgk ?_ | refine eqStr ?_ | refine neqStr ?_ | refine eqSlNil ?_ | refine capSlice ?_ | refine zgm ?_ | refine zgn ?_ | refine zgo ?_ | refine zba ?_ | refine zbb ?_ | refine zbc ?_ | refine zbd ?_ | refine zbe ?_ | refine zbf ?_ | refine zia ?_ | refine zib ?_ | refine zic ?_ | refine zid1 ?_ | refine zif1 ?_ | refine zig ?_ | refine zih ?_ | refine lint_u8_mod ?_ | refine zua ?_ | refine zgs ?_ | refine LRes.mk ?_ | refine LIn.step ?_ | refine zdr ?_ | refine zna (fun _ => ?_) | refine znb (fun _ => ?_) | refine znc (fun _ => ?_) | refine newSlice0 (fun _ => ?_)))
  refine LLoop.invN (fun x : Nat × Nat => [(0, .pointer (some ⟨rb, 0, none⟩)), (3, .int .i64 x.2), (4, .int .u64 ((7 * x.1 : Nat) : Int)), (5, .int .i64 x.1)]) (fun x => qc rb a cap b (i + x.1) bad :: M)
    (fun x => x.1 ≤ 7 ∧ i + x.1 ≤ b.length ∧ x.2 < 128 ^ x.1 ∧ rnGo 0 0 (b.drop i) = ((rnGo x.1 x.2 (b.drop (i + x.1))).1, x.1 + (rnGo x.1 x.2 (b.drop (i + x.1))).2.1, (rnGo x.1 x.2 (b.drop (i + x.1))).2.2)) (fun x => 7 - x.1) (0, 0) ⟨by decide, hi, by decide, by simp⟩ zSu zEn ?_
  rintro ⟨k, n⟩ ⟨h1, h2, h3, h4⟩
  dsimp only at h1 h2 h3 h4 ⊢
  have hgo : rNumP b (i, bad) = ((rnGo 0 0 (b.drop i)).1, (i + (rnGo 0 0 (b.drop i)).2.1, bad || (rnGo 0 0 (b.drop i)).2.2)) := rfl
  rw [hgo, h4]
  dsimp only
  by_cases hk : k < 7
  rotate_left
  · have e7 : k = 7 := by omega
    subst e7
    have e8 : rnGo 7 n (b.drop (i + 7)) = (0, 0, true) := by
      cases b.drop (i + 7) with
      | nil => rfl
      | cons x l => unfold rnGo; rw [if_pos (Nat.le_refl _)]
    rw [e8]
    refine LNext.go tab ?_
    repeat ((conv => whnf); (first | refine ztx ?_ | refine LNext.nilr ?_ | refine zne ?_ | refine zga ?_ | refine zxa ?_ | refine zca ?_ | refine zcb ?_ | refine zgb ?_ | refine zgd1 ?_ | refine zge ?_ | refine zgf ?_ | refine zgj ?_ | refine zgk ?_ | refine eqStr ?_ | refine neqStr ?_ | refine eqSlNil ?_ | refine capSlice ?_ | refine zgm ?_ | refine zgn ?_ | refine zgo ?_ | refine zba ?_ | refine zbb ?_ | refine zbc ?_ | refine zbd ?_ | refine zbe ?_ | refine zbf ?_ | refine zia ?_ | refine zib ?_ | refine zic ?_ | refine zid1 ?_ | refine zif1 ?_ | refine zig ?_ | refine zih ?_ | refine lint_u8_mod ?_ | refine zua ?_ | refine zgs ?_ | refine LRes.mk ?_ | refine LIn.step ?_ | refine zdr ?_ | refine zna (fun _ => ?_) | refine znb (fun _ => ?_) | refine znc (fun _ => ?_) | refine newSlice0 (fun _ => ?_)))
    show Fin _ _ _; exact Fin.of (qc rb a cap b (i + 7) true :: M) zEn ⟨rfl, by simp⟩
  by_cases hq : i + k < b.length
  rotate_left
  · have e8 : rnGo k n (b.drop (i + k)) = (0, 0, true) := by rw [List.drop_of_length_le (by omega)]; rfl
    rw [e8]
    refine LNext.go tab ?_
    repeat ((conv => whnf); (first | refine ztx ?_ | refine LNext.nilr ?_ | refine zne ?_ | refine zga ?_ | refine zxa ?_ | refine zca ?_ | refine zcb ?_ | refine zgb ?_ | refine zgd1 ?_ | refine zge ?_ | refine zgf ?_ | refine zgj ?_ | refine zgk ?_ | refine eqStr ?_ | refine neqStr ?_ | refine eqSlNil ?_ | refine capSlice ?_ | refine zgm ?_ | refine zgn ?_ | refine zgo ?_ | refine zba ?_ | refine zbb ?_ | refine zbc ?_ | refine zbd ?_ | refine zbe ?_ | refine zbf ?_ | refine zia ?_ | refine zib ?_ | refine zic ?_ | refine zid1 ?_ | refine zif1 ?_ | refine zig ?_ | refine zih ?_ | refine lint_u8_mod ?_ | refine zua ?_ | refine zgs ?_ | refine LRes.mk ?_ | refine LIn.step ?_ | refine zdr ?_ | refine zna (fun _ => ?_) | refine znb (fun _ => ?_) | refine znc (fun _ => ?_) | refine newSlice0 (fun _ => ?_)))
    show Fin _ _ _; exact Fin.of (qc rb a cap b (i + k) true :: M) zEn ⟨rfl, by simp⟩
  refine LNext.rd (a := a) (xs := b) (sz := 1) (enc := encU) h.rd.there (fun rx => ?_)
  obtain ⟨g, o, rfl, lz⟩ := rx.get hq
  have hx : (gd b (i + k)).toNat < 256 := UInt8.toNat_lt _
  have hdr : b.drop (i + k) = gd b (i + k) :: b.drop (i + (k + 1)) := gd_drop hq
  have p1 : 128 ^ k ≤ 4398046511104 := by
    have := Nat.pow_le_pow_right (show 0 < 128 by decide) (show k ≤ 6 by omega)
    have e : (128 : Nat) ^ 6 = 4398046511104 := by decide
    omega
  have p2 : (gd b (i + k)).toNat % 128 * 128 ^ k ≤ 127 * 128 ^ k := Nat.mul_le_mul_right _ (by omega)
  have p3 : (gd b (i + k)).toNat % 128 * 2 ^ (7 * k) = (gd b (i + k)).toNat % 128 * 128 ^ k := by rw [Nat.pow_mul]
  have p4 : n + (gd b (i + k)).toNat % 128 * 128 ^ k < 128 ^ (k + 1) := by rw [Nat.pow_succ]; omega
  have hst : rnGo k n (b.drop (i + k)) = if (gd b (i + k)).toNat < 128 then (n + (gd b (i + k)).toNat * 128 ^ k, 1, decide ((gd b (i + k)).toNat = 0) && decide (0 < k)) else ((rnGo (k + 1) (n + (gd b (i + k)).toNat % 128 * 128 ^ k) (b.drop (i + (k + 1)))).1, (rnGo (k + 1) (n + (gd b (i + k)).toNat % 128 * 128 ^ k) (b.drop (i + (k + 1)))).2.1 + 1, (rnGo (k + 1) (n + (gd b (i + k)).toNat % 128 * 128 ^ k) (b.drop (i + (k + 1)))).2.2) := by
    rw [hdr]
    conv => lhs; unfold rnGo
    rw [if_neg (by omega)]
  rw [hst]
  generalize hm : (gd b (i + k)).toNat % 128 * 128 ^ k = m at *
  refine LNext.go tab ?_
  repeat ((conv => whnf); (first | refine ztx ?_ | refine LNext.nilr ?_ | refine zne ?_ | refine zga ?_ | refine zxa ?_ | refine zca ?_ | refine zcb ?_ | refine zgb ?_ | refine zgd1 ?_ | refine zge ?_ | refine zgf ?_ | refine zgj ?_ | refine zgk ?_ | refine eqStr ?_ | refine neqStr ?_ | refine eqSlNil ?_ | refine capSlice ?_ | refine zgm ?_ | refine zgn ?_ | refine zgo ?_ | refine zba ?_ | refine zbb ?_ | refine zbc ?_ | refine zbd ?_ | refine zbe ?_ | refine zbf ?_ | refine zia ?_ | refine zib ?_ | refine zic ?_ | refine zid1 ?_ | refine zif1 ?_ | refine zig ?_ | refine zih ?_ | refine lint_u8_mod ?_ | refine zua ?_ | refine zgs ?_ | refine LRes.mk ?_ | refine LIn.step ?_ | refine zdr ?_ | refine zna (fun _ => ?_) | refine znb (fun _ => ?_) | refine znc (fun _ => ?_) | refine newSlice0 (fun _ => ?_)))
  refine lmod (((gd b (i + k)).toNat % 128 : Nat) : Int) (by decide) (tmod_nat _ 128) ?_
  repeat ((conv => whnf); (first | refine ztx ?_ | refine LNext.nilr ?_ | refine zne ?_ | refine zga ?_ | refine zxa ?_ | refine zca ?_ | refine zcb ?_ | refine zgb ?_ | refine zgd1 ?_ | refine zge ?_ | refine zgf ?_ | refine zgj ?_ | refine zgk ?_ | refine eqStr ?_ | refine neqStr ?_ | refine eqSlNil ?_ | refine capSlice ?_ | refine zgm ?_ | refine zgn ?_ | refine zgo ?_ | refine zba ?_ | refine zbb ?_ | refine zbc ?_ | refine zbd ?_ | refine zbe ?_ | refine zbf ?_ | refine zia ?_ | refine zib ?_ | refine zic ?_ | refine zid1 ?_ | refine zif1 ?_ | refine zig ?_ | refine zih ?_ | refine lint_u8_mod ?_ | refine zua ?_ | refine zgs ?_ | refine LRes.mk ?_ | refine LIn.step ?_ | refine zdr ?_ | refine zna (fun _ => ?_) | refine znb (fun _ => ?_) | refine znc (fun _ => ?_) | refine newSlice0 (fun _ => ?_)))
  refine lshlJ (7 * k) (by omega) p3 (by omega) ?_
  repeat ((conv => whnf); (first | refine ztx ?_ | refine LNext.nilr ?_ | refine zne ?_ | refine zga ?_ | refine zxa ?_ | refine zca ?_ | refine zcb ?_ | refine zgb ?_ | refine zgd1 ?_ | refine zge ?_ | refine zgf ?_ | refine zgj ?_ | refine zgk ?_ | refine eqStr ?_ | refine neqStr ?_ | refine eqSlNil ?_ | refine capSlice ?_ | refine zgm ?_ | refine zgn ?_ | refine zgo ?_ | refine zba ?_ | refine zbb ?_ | refine zbc ?_ | refine zbd ?_ | refine zbe ?_ | refine zbf ?_ | refine zia ?_ | refine zib ?_ | refine zic ?_ | refine zid1 ?_ | refine zif1 ?_ | refine zig ?_ | refine zih ?_ | refine lint_u8_mod ?_ | refine zua ?_ | refine zgs ?_ | refine LRes.mk ?_ | refine LIn.step ?_ | refine zdr ?_ | refine zna (fun _ => ?_) | refine znb (fun _ => ?_) | refine znc (fun _ => ?_) | refine newSlice0 (fun _ => ?_)))
  refine lint_u64_id (by omega) ?_
  by_cases c1 : (gd b (i + k)).toNat < 128
  · have hmx : (gd b (i + k)).toNat * 128 ^ k = m := by rw [← hm, Nat.mod_eq_of_lt c1]
    rw [if_pos c1, hmx]
    by_cases c2 : (gd b (i + k)).toNat = 0
    · by_cases c3 : 0 < k
      · rw [decide_eq_true c2, decide_eq_true c3, Bool.and_true, Bool.or_true]
        repeat ((conv => whnf); (first | refine ztx ?_ | refine LNext.nilr ?_ | refine zne ?_ | refine zga ?_ | refine zxa ?_ | refine zca ?_ | refine zcb ?_ | refine zgb ?_ | refine zgd1 ?_ | refine zge ?_ | refine zgf ?_ | refine zgj ?_ | refine zgk ?_ | refine eqStr ?_ | refine neqStr ?_ | refine eqSlNil ?_ | refine capSlice ?_ | refine zgm ?_ | refine zgn ?_ | refine zgo ?_ | refine zba ?_ | refine zbb ?_ | refine zbc ?_ | refine zbd ?_ | refine zbe ?_ | refine zbf ?_ | refine zia ?_ | refine zib ?_ | refine zic ?_ | refine zid1 ?_ | refine zif1 ?_ | refine zig ?_ | refine zih ?_ | refine lint_u8_mod ?_ | refine zua ?_ | refine zgs ?_ | refine LRes.mk ?_ | refine LIn.step ?_ | refine zdr ?_ | refine zna (fun _ => ?_) | refine znb (fun _ => ?_) | refine znc (fun _ => ?_) | refine newSlice0 (fun _ => ?_)))
        show Fin _ _ _; exact Fin.of (qc rb (some ⟨g, o, none⟩) cap b (i + k + 1) true :: M) zEn ⟨rfl, rfl⟩
      · rw [decide_eq_false c3, Bool.and_false, Bool.or_false]
        repeat ((conv => whnf); (first | refine ztx ?_ | refine LNext.nilr ?_ | refine zne ?_ | refine zga ?_ | refine zxa ?_ | refine zca ?_ | refine zcb ?_ | refine zgb ?_ | refine zgd1 ?_ | refine zge ?_ | refine zgf ?_ | refine zgj ?_ | refine zgk ?_ | refine eqStr ?_ | refine neqStr ?_ | refine eqSlNil ?_ | refine capSlice ?_ | refine zgm ?_ | refine zgn ?_ | refine zgo ?_ | refine zba ?_ | refine zbb ?_ | refine zbc ?_ | refine zbd ?_ | refine zbe ?_ | refine zbf ?_ | refine zia ?_ | refine zib ?_ | refine zic ?_ | refine zid1 ?_ | refine zif1 ?_ | refine zig ?_ | refine zih ?_ | refine lint_u8_mod ?_ | refine zua ?_ | refine zgs ?_ | refine LRes.mk ?_ | refine LIn.step ?_ | refine zdr ?_ | refine zna (fun _ => ?_) | refine znb (fun _ => ?_) | refine znc (fun _ => ?_) | refine newSlice0 (fun _ => ?_)))
        show Fin _ _ _; exact Fin.of (qc rb (some ⟨g, o, none⟩) cap b (i + k + 1) bad :: M) zEn ⟨rfl, rfl⟩
    · rw [decide_eq_false c2, Bool.false_and, Bool.or_false]
      repeat ((conv => whnf); (first | refine ztx ?_ | refine LNext.nilr ?_ | refine zne ?_ | refine zga ?_ | refine zxa ?_ | refine zca ?_ | refine zcb ?_ | refine zgb ?_ | refine zgd1 ?_ | refine zge ?_ | refine zgf ?_ | refine zgj ?_ | refine zgk ?_ | refine eqStr ?_ | refine neqStr ?_ | refine eqSlNil ?_ | refine capSlice ?_ | refine zgm ?_ | refine zgn ?_ | refine zgo ?_ | refine zba ?_ | refine zbb ?_ | refine zbc ?_ | refine zbd ?_ | refine zbe ?_ | refine zbf ?_ | refine zia ?_ | refine zib ?_ | refine zic ?_ | refine zid1 ?_ | refine zif1 ?_ | refine zig ?_ | refine zih ?_ | refine lint_u8_mod ?_ | refine zua ?_ | refine zgs ?_ | refine LRes.mk ?_ | refine LIn.step ?_ | refine zdr ?_ | refine zna (fun _ => ?_) | refine znb (fun _ => ?_) | refine znc (fun _ => ?_) | refine newSlice0 (fun _ => ?_)))
      show Fin _ _ _; exact Fin.of (qc rb (some ⟨g, o, none⟩) cap b (i + k + 1) bad :: M) zEn ⟨rfl, rfl⟩
  · rw [if_neg c1] at hst
    repeat ((conv => whnf); (first | refine ztx ?_ | refine LNext.nilr ?_ | refine zne ?_ | refine zga ?_ | refine zxa ?_ | refine zca ?_ | refine zcb ?_ | refine zgb ?_ | refine zgd1 ?_ | refine zge ?_ | refine zgf ?_ | refine zgj ?_ | refine zgk ?_ | refine eqStr ?_ | refine neqStr ?_ | refine eqSlNil ?_ | refine capSlice ?_ | refine zgm ?_ | refine zgn ?_ | refine zgo ?_ | refine zba ?_ | refine zbb ?_ | refine zbc ?_ | refine zbd ?_ | refine zbe ?_ | refine zbf ?_ | refine zia ?_ | refine zib ?_ | refine zic ?_ | refine zid1 ?_ | refine zif1 ?_ | refine zig ?_ | refine zih ?_ | refine lint_u8_mod ?_ | refine zua ?_ | refine zgs ?_ | refine LRes.mk ?_ | refine LIn.step ?_ | refine zdr ?_ | refine zna (fun _ => ?_) | refine znb (fun _ => ?_) | refine znc (fun _ => ?_) | refine newSlice0 (fun _ => ?_)))
    exact ⟨(k + 1, n + m), ⟨hk, by show i + (k + 1) ≤ _; omega, p4, by simp only [if_neg c1]; simp only [Prod.mk.injEq, true_and, and_true]; omega⟩, by show 7 - (k + 1) < 7 - k; omega, zSu, zEn⟩
theorem rText_ct (M : List As) (rb : Nat) (a : Option Addr) (cap : Nat) (b : Bs) (i : Nat) (bad : Bool) (h : RS M a cap b) (hi : i ≤ b.length) :
    Ctr Tryd.prog 70 #[.pointer (some ⟨rb, 0, none⟩)] (qc rb a cap b i bad :: M) (fun v M' => v = .string (rTxtP b (i, bad)).1 ∧ (rTxtP b (i, bad)).1.size ≤ 140737488355328 ∧ M' = qc rb a cap b (rTxtP b (i, bad)).2.1 (rTxtP b (i, bad)).2.2 :: M) := by
  have hlen := h.len
  refine ctr_of (Γ := tab) (vs := [_]) fn70 rfl ?_
  repeat ((conv => whnf); (first | refine ztx ?_ | refine LNext.nilr ?_ | refine zne ?_ | refine zga ?_ | refine zxa ?_ | refine zca ?_ | refine zcb ?_ | refine zgb ?_ | refine zgd1 ?_ | refine zge ?_ | refine zgf ?_ | refine zgj ?_ | refine zgk ?_ | refine eqStr ?_ | refine neqStr ?_ | refine eqSlNil ?_ | refine capSlice ?_ | refine zgm ?_ | refine zgn ?_ | refine zgo ?_ | refine zba ?_ | refine zbb ?_ | refine zbc ?_ | refine zbd ?_ | refine zbe ?_ | refine zbf ?_ | refine zia ?_ | refine zib ?_ | refine zic ?_ | refine zid1 ?_ | refine zif1 ?_ | refine zig ?_ | refine zih ?_ | refine lint_u8_mod ?_ | refine zua ?_ | refine zgs ?_ | refine LRes.mk ?_ | refine LIn.step ?_ | refine zdr ?_ | refine zna (fun _ => ?_) | refine znb (fun _ => ?_) | refine znc (fun _ => ?_) | refine newSlice0 (fun _ => ?_)))
  refine call1 (rNum_ct M rb a cap b i bad h hi) zSp ?_
  rintro v M' ⟨rfl, hM⟩
  rw [hM]
  clear hM
  have hn := rNumP_in (s := (i, bad)) hi
  have hlt := rNumP_lt b (i, bad)
  unfold rTxtP
  generalize rNumP b (i, bad) = q at *
  obtain ⟨n, i1, bad1⟩ := q
  dsimp only at hn hlt ⊢
  cases bad1 with
  | true =>
    rw [if_pos (Or.inl rfl)]
    repeat ((conv => whnf); (first | refine ztx ?_ | refine LNext.nilr ?_ | refine zne ?_ | refine zga ?_ | refine zxa ?_ | refine zca ?_ | refine zcb ?_ | refine zgb ?_ | refine zgd1 ?_ | refine zge ?_ | refine zgf ?_ | refine zgj ?_ | refine zgk ?_ | refine eqStr ?_ | refine neqStr ?_ | refine eqSlNil ?_ | refine capSlice ?_ | refine zgm ?_ | refine zgn ?_ | refine zgo ?_ | refine zba ?_ | refine zbb ?_ | refine zbc ?_ | refine zbd ?_ | refine zbe ?_ | refine zbf ?_ | refine zia ?_ | refine zib ?_ | refine zic ?_ | refine zid1 ?_ | refine zif1 ?_ | refine zig ?_ | refine zih ?_ | refine lint_u8_mod ?_ | refine zua ?_ | refine zgs ?_ | refine LRes.mk ?_ | refine LIn.step ?_ | refine zdr ?_ | refine zna (fun _ => ?_) | refine znb (fun _ => ?_) | refine znc (fun _ => ?_) | refine newSlice0 (fun _ => ?_)))
    show Fin _ _ _; exact Fin.of (qc rb a cap b i1 true :: M) zEn ⟨rfl, by show 0 ≤ _; omega, rfl⟩
  | false =>
  by_cases z : b.length - i1 < n
  · rw [if_pos (Or.inr z)]
    repeat ((conv => whnf); (first | refine ztx ?_ | refine LNext.nilr ?_ | refine zne ?_ | refine zga ?_ | refine zxa ?_ | refine zca ?_ | refine zcb ?_ | refine zgb ?_ | refine zgd1 ?_ | refine zge ?_ | refine zgf ?_ | refine zgj ?_ | refine zgk ?_ | refine eqStr ?_ | refine neqStr ?_ | refine eqSlNil ?_ | refine capSlice ?_ | refine zgm ?_ | refine zgn ?_ | refine zgo ?_ | refine zba ?_ | refine zbb ?_ | refine zbc ?_ | refine zbd ?_ | refine zbe ?_ | refine zbf ?_ | refine zia ?_ | refine zib ?_ | refine zic ?_ | refine zid1 ?_ | refine zif1 ?_ | refine zig ?_ | refine zih ?_ | refine lint_u8_mod ?_ | refine zua ?_ | refine zgs ?_ | refine LRes.mk ?_ | refine LIn.step ?_ | refine zdr ?_ | refine zna (fun _ => ?_) | refine znb (fun _ => ?_) | refine znc (fun _ => ?_) | refine newSlice0 (fun _ => ?_)))
    show Fin _ _ _; exact Fin.of (qc rb a cap b i1 true :: M) zEn ⟨rfl, by show 0 ≤ _; omega, rfl⟩
  rw [if_neg (by simp; omega)]
  have hdl : ((b.drop i1).take n).length = i1 + n - i1 := by rw [List.length_take, List.length_drop]; omega
  have hsz : ((b.drop i1).take n).toArray.size ≤ 140737488355328 := by rw [List.size_toArray, hdl]; omega
  repeat ((conv => whnf); (first | refine ztx ?_ | refine LNext.nilr ?_ | refine zne ?_ | refine zga ?_ | refine zxa ?_ | refine zca ?_ | refine zcb ?_ | refine zgb ?_ | refine zgd1 ?_ | refine zge ?_ | refine zgf ?_ | refine zgj ?_ | refine zgk ?_ | refine eqStr ?_ | refine neqStr ?_ | refine eqSlNil ?_ | refine capSlice ?_ | refine zgm ?_ | refine zgn ?_ | refine zgo ?_ | refine zba ?_ | refine zbb ?_ | refine zbc ?_ | refine zbd ?_ | refine zbe ?_ | refine zbf ?_ | refine zia ?_ | refine zib ?_ | refine zic ?_ | refine zid1 ?_ | refine zif1 ?_ | refine zig ?_ | refine zih ?_ | refine lint_u8_mod ?_ | refine zua ?_ | refine zgs ?_ | refine LRes.mk ?_ | refine LIn.step ?_ | refine zna (fun _ => ?_) | refine znb (fun _ => ?_) | refine znc (fun _ => ?_) | refine newSlice0 (fun _ => ?_)))
  refine zdr ?_
  repeat ((conv => whnf); (first | refine ztx ?_ | refine LNext.nilr ?_ | refine zne ?_ | refine zga ?_ | refine zxa ?_ | refine zca ?_ | refine zcb ?_ | refine zgb ?_ | refine zgd1 ?_ | refine zge ?_ | refine zgf ?_ | refine zgj ?_ | refine zgk ?_ | refine eqStr ?_ | refine neqStr ?_ | refine eqSlNil ?_ | refine capSlice ?_ | refine zgm ?_ | refine zgn ?_ | refine zgo ?_ | refine zba ?_ | refine zbb ?_ | refine zbc ?_ | refine zbd ?_ | refine zbe ?_ | refine zbf ?_ | refine zia ?_ | refine zib ?_ | refine zic ?_ | refine zid1 ?_ | refine zif1 ?_ | refine zig ?_ | refine zih ?_ | refine lint_u8_mod ?_ | refine zua ?_ | refine zgs ?_ | refine LRes.mk ?_ | refine LIn.step ?_ | refine zna (fun _ => ?_) | refine znb (fun _ => ?_) | refine znc (fun _ => ?_) | refine newSlice0 (fun _ => ?_)))
  refine LDraw.ov [(43, .T)] (by decide +kernel) ?_
  repeat ((conv => whnf); (first | refine ztx ?_ | refine LNext.nilr ?_ | refine zne ?_ | refine zga ?_ | refine zxa ?_ | refine zca ?_ | refine zcb ?_ | refine zgb ?_ | refine zgd1 ?_ | refine zge ?_ | refine zgf ?_ | refine zgj ?_ | refine zgk ?_ | refine eqStr ?_ | refine neqStr ?_ | refine eqSlNil ?_ | refine capSlice ?_ | refine zgm ?_ | refine zgn ?_ | refine zgo ?_ | refine zba ?_ | refine zbb ?_ | refine zbc ?_ | refine zbd ?_ | refine zbe ?_ | refine zbf ?_ | refine zia ?_ | refine zib ?_ | refine zic ?_ | refine zid1 ?_ | refine zif1 ?_ | refine zig ?_ | refine zih ?_ | refine lint_u8_mod ?_ | refine zua ?_ | refine zgs ?_ | refine LRes.mk ?_ | refine LIn.step ?_ | refine zdr ?_ | refine zna (fun _ => ?_) | refine znb (fun _ => ?_) | refine znc (fun _ => ?_) | refine newSlice0 (fun _ => ?_)))
  refine sliceLH tab (lo := i1) (hi := i1 + n) rfl rfl (by omega) (fun _ _ => by have := h.le; omega) ?_
  repeat ((conv => whnf); (first | refine ztx ?_ | refine LNext.nilr ?_ | refine zne ?_ | refine zga ?_ | refine zxa ?_ | refine zca ?_ | refine zcb ?_ | refine zgb ?_ | refine zgd1 ?_ | refine zge ?_ | refine zgf ?_ | refine zgj ?_ | refine zgk ?_ | refine eqStr ?_ | refine neqStr ?_ | refine eqSlNil ?_ | refine capSlice ?_ | refine zgm ?_ | refine zgn ?_ | refine zgo ?_ | refine zba ?_ | refine zbb ?_ | refine zbc ?_ | refine zbd ?_ | refine zbe ?_ | refine zbf ?_ | refine zia ?_ | refine zib ?_ | refine zic ?_ | refine zid1 ?_ | refine zif1 ?_ | refine zig ?_ | refine zih ?_ | refine lint_u8_mod ?_ | refine zua ?_ | refine zgs ?_ | refine LRes.mk ?_ | refine LIn.step ?_ | refine zdr ?_ | refine zna (fun _ => ?_) | refine znb (fun _ => ?_) | refine znc (fun _ => ?_) | refine newSlice0 (fun _ => ?_)))
  refine convBS tab (xs := (b.drop i1).take n) ((h.rd.there.off h.le).take n) hdl rfl rfl rfl ?_
  repeat ((conv => whnf); (first | refine ztx ?_ | refine LNext.nilr ?_ | refine zne ?_ | refine zga ?_ | refine zxa ?_ | refine zca ?_ | refine zcb ?_ | refine zgb ?_ | refine zgd1 ?_ | refine zge ?_ | refine zgf ?_ | refine zgj ?_ | refine zgk ?_ | refine eqStr ?_ | refine neqStr ?_ | refine eqSlNil ?_ | refine capSlice ?_ | refine zgm ?_ | refine zgn ?_ | refine zgo ?_ | refine zba ?_ | refine zbb ?_ | refine zbc ?_ | refine zbd ?_ | refine zbe ?_ | refine zbf ?_ | refine zia ?_ | refine zib ?_ | refine zic ?_ | refine zid1 ?_ | refine zif1 ?_ | refine zig ?_ | refine zih ?_ | refine lint_u8_mod ?_ | refine zua ?_ | refine zgs ?_ | refine LRes.mk ?_ | refine LIn.step ?_ | refine zdr ?_ | refine zna (fun _ => ?_) | refine znb (fun _ => ?_) | refine znc (fun _ => ?_) | refine newSlice0 (fun _ => ?_)))
  show Fin _ _ _; exact Fin.of (qc rb a cap b (i1 + n) false :: M) zEn ⟨rfl, hsz, rfl⟩
theorem rVec_ct (M : List As) (rb : Nat) (a : Option Addr) (cap : Nat) (b : Bs) (i : Nat) (bad : Bool) (h : RS M a cap b) (hi : i ≤ b.length) :
    Ctr Tryd.prog 72 #[.pointer (some ⟨rb, 0, none⟩)] (qc rb a cap b i bad :: M) (fun v M' => v = .agg (encV4 (rVecP b (i, bad)).1).toArray ∧ M' = qc rb a cap b (rVecP b (i, bad)).2.1 (rVecP b (i, bad)).2.2 :: M) := by
  refine ctr_of (Γ := tab) (vs := [_]) fn72 rfl ?_
  unfold rVecP
  dsimp only
  repeat (first | ((conv => whnf); (first | refine ztx ?_ | refine LNext.nilr ?_ | refine zne ?_ | refine zga ?_ | refine zxa ?_ | refine zca ?_ | refine zcb ?_ | refine zgb ?_ | refine zgd1 ?_ | refine zge ?_ | refine zgf ?_ | refine zgj ?_ | refine zgk ?_ | refine eqStr ?_ | refine neqStr ?_ | refine eqSlNil ?_ | refine capSlice ?_ | refine zgm ?_ | refine zgn ?_ | refine zgo ?_ | refine zba ?_ | refine zbb ?_ | refine zbc ?_ | refine zbd ?_ | refine zbe ?_ | refine zbf ?_ | refine zia ?_ | refine zib ?_ | refine zic ?_ | refine zid1 ?_ | refine zif1 ?_ | refine zig ?_ | refine zih ?_ | refine lint_u8_mod ?_ | refine zua ?_ | refine zgs ?_ | refine LRes.mk ?_ | refine LIn.step ?_ | refine zdr ?_ | refine zna (fun _ => ?_) | refine znb (fun _ => ?_) | refine znc (fun _ => ?_) | refine newSlice0 (fun _ => ?_))) | (show LLoop _ _ _ _ _ _; refine LLoop.unroll (Γ := tab) ?_))
  refine call1 (rNum_ct M rb a cap b i bad h hi) zSp ?_
  rintro v M' ⟨rfl, hM⟩
  rw [hM]
  clear hM
  have g1 := rNumP_in (s := (i, bad)) hi
  generalize rNumP b (i, bad) = q at *
  obtain ⟨n1, i1, d1⟩ := q
  dsimp only at g1 ⊢
  repeat (first | ((conv => whnf); (first | refine ztx ?_ | refine LNext.nilr ?_ | refine zne ?_ | refine zga ?_ | refine zxa ?_ | refine zca ?_ | refine zcb ?_ | refine zgb ?_ | refine zgd1 ?_ | refine zge ?_ | refine zgf ?_ | refine zgj ?_ | refine zgk ?_ | refine eqStr ?_ | refine neqStr ?_ | refine eqSlNil ?_ | refine capSlice ?_ | refine zgm ?_ | refine zgn ?_ | refine zgo ?_ | refine zba ?_ | refine zbb ?_ | refine zbc ?_ | refine zbd ?_ | refine zbe ?_ | refine zbf ?_ | refine zia ?_ | refine zib ?_ | refine zic ?_ | refine zid1 ?_ | refine zif1 ?_ | refine zig ?_ | refine zih ?_ | refine lint_u8_mod ?_ | refine zua ?_ | refine zgs ?_ | refine LRes.mk ?_ | refine LIn.step ?_ | refine zdr ?_ | refine zna (fun _ => ?_) | refine znb (fun _ => ?_) | refine znc (fun _ => ?_) | refine newSlice0 (fun _ => ?_))) | (show LLoop _ _ _ _ _ _; refine LLoop.unroll (Γ := tab) ?_))
  refine call1 (rNum_ct M rb a cap b i1 d1 h g1) zSp ?_
  rintro v M' ⟨rfl, hM⟩
  rw [hM]
  clear hM
  have g2 := rNumP_in (s := (i1, d1)) g1
  generalize rNumP b (i1, d1) = q at *
  obtain ⟨n2, i2, d2⟩ := q
  dsimp only at g2 ⊢
  repeat (first | ((conv => whnf); (first | refine ztx ?_ | refine LNext.nilr ?_ | refine zne ?_ | refine zga ?_ | refine zxa ?_ | refine zca ?_ | refine zcb ?_ | refine zgb ?_ | refine zgd1 ?_ | refine zge ?_ | refine zgf ?_ | refine zgj ?_ | refine zgk ?_ | refine eqStr ?_ | refine neqStr ?_ | refine eqSlNil ?_ | refine capSlice ?_ | refine zgm ?_ | refine zgn ?_ | refine zgo ?_ | refine zba ?_ | refine zbb ?_ | refine zbc ?_ | refine zbd ?_ | refine zbe ?_ | refine zbf ?_ | refine zia ?_ | refine zib ?_ | refine zic ?_ | refine zid1 ?_ | refine zif1 ?_ | refine zig ?_ | refine zih ?_ | refine lint_u8_mod ?_ | refine zua ?_ | refine zgs ?_ | refine LRes.mk ?_ | refine LIn.step ?_ | refine zdr ?_ | refine zna (fun _ => ?_) | refine znb (fun _ => ?_) | refine znc (fun _ => ?_) | refine newSlice0 (fun _ => ?_))) | (show LLoop _ _ _ _ _ _; refine LLoop.unroll (Γ := tab) ?_))
  refine call1 (rNum_ct M rb a cap b i2 d2 h g2) zSp ?_
  rintro v M' ⟨rfl, hM⟩
  rw [hM]
  clear hM
  have g3 := rNumP_in (s := (i2, d2)) g2
  generalize rNumP b (i2, d2) = q at *
  obtain ⟨n3, i3, d3⟩ := q
  dsimp only at g3 ⊢
  repeat (first | ((conv => whnf); (first | refine ztx ?_ | refine LNext.nilr ?_ | refine zne ?_ | refine zga ?_ | refine zxa ?_ | refine zca ?_ | refine zcb ?_ | refine zgb ?_ | refine zgd1 ?_ | refine zge ?_ | refine zgf ?_ | refine zgj ?_ | refine zgk ?_ | refine eqStr ?_ | refine neqStr ?_ | refine eqSlNil ?_ | refine capSlice ?_ | refine zgm ?_ | refine zgn ?_ | refine zgo ?_ | refine zba ?_ | refine zbb ?_ | refine zbc ?_ | refine zbd ?_ | refine zbe ?_ | refine zbf ?_ | refine zia ?_ | refine zib ?_ | refine zic ?_ | refine zid1 ?_ | refine zif1 ?_ | refine zig ?_ | refine zih ?_ | refine lint_u8_mod ?_ | refine zua ?_ | refine zgs ?_ | refine LRes.mk ?_ | refine LIn.step ?_ | refine zdr ?_ | refine zna (fun _ => ?_) | refine znb (fun _ => ?_) | refine znc (fun _ => ?_) | refine newSlice0 (fun _ => ?_))) | (show LLoop _ _ _ _ _ _; refine LLoop.unroll (Γ := tab) ?_))
  refine call1 (rNum_ct M rb a cap b i3 d3 h g3) zSp ?_
  rintro v M' ⟨rfl, hM⟩
  rw [hM]
  clear hM
  generalize rNumP b (i3, d3) = q at *
  obtain ⟨n4, i4, d4⟩ := q
  dsimp only
  repeat (first | ((conv => whnf); (first | refine ztx ?_ | refine LNext.nilr ?_ | refine zne ?_ | refine zga ?_ | refine zxa ?_ | refine zca ?_ | refine zcb ?_ | refine zgb ?_ | refine zgd1 ?_ | refine zge ?_ | refine zgf ?_ | refine zgj ?_ | refine zgk ?_ | refine eqStr ?_ | refine neqStr ?_ | refine eqSlNil ?_ | refine capSlice ?_ | refine zgm ?_ | refine zgn ?_ | refine zgo ?_ | refine zba ?_ | refine zbb ?_ | refine zbc ?_ | refine zbd ?_ | refine zbe ?_ | refine zbf ?_ | refine zia ?_ | refine zib ?_ | refine zic ?_ | refine zid1 ?_ | refine zif1 ?_ | refine zig ?_ | refine zih ?_ | refine lint_u8_mod ?_ | refine zua ?_ | refine zgs ?_ | refine LRes.mk ?_ | refine LIn.step ?_ | refine zdr ?_ | refine zna (fun _ => ?_) | refine znb (fun _ => ?_) | refine znc (fun _ => ?_) | refine newSlice0 (fun _ => ?_))) | (show LLoop _ _ _ _ _ _; refine LLoop.unroll (Γ := tab) ?_))
  show Fin _ _ _; exact Fin.of (qc rb a cap b i4 d4 :: M) zEn ⟨rfl, rfl⟩
end Go.Proofs.YtjmfnakplmmpnaaDoor

namespace Go.Proofs.YtjmfnakplmmpnaaDoor
open Go.Sl
set_option linter.unusedVariables false
set_option linter.unusedSimpArgs false
set_option maxRecDepth 100000
set_option maxHeartbeats 1000000
theorem cntP_le (s : PS) : (cntP s).1 ≤ 64 := by
  unfold cntP
  split
  · exact Nat.zero_le _
  · omega
theorem many_step {α : Type} {f : PS → α × PS} {k i : Nat} {acc : List α} {s0 s : PS} (hi : i < k) (h : (manyP f k s0) = (acc ++ (manyP f (k - i) s).1, (manyP f (k - i) s).2)) :
    (manyP f k s0) = ((acc ++ [(f s).1]) ++ (manyP f (k - (i + 1)) (f s).2).1, (manyP f (k - (i + 1)) (f s).2).2) := by
  rw [h, show k - i = (k - (i + 1)) + 1 by omega]
  conv => lhs; unfold manyP
  simp
theorem many_end {α : Type} {f : PS → α × PS} {k i : Nat} {acc : List α} {s0 s : PS} (hi : ¬ i < k) (h : (manyP f k s0) = (acc ++ (manyP f (k - i) s).1, (manyP f (k - i) s).2)) : manyP f k s0 = (acc, s) := by
  rw [h, show k - i = 0 by omega]
  show (acc ++ [], s) = _
  rw [List.append_nil]
abbrev jc (J : Nat) (n1 : Nat) (tn : ByteArray) (n3 n4 : Nat) (pa : Option Addr) (pn pc : Nat) (ta : Option Addr) (tl tc : Nat) : As := Sl.pt J (.cells #[.int .i64 n1, .string tn, .int .i64 n3, .int .i64 n4, .slice pa pn pc, .slice ta tl tc, .int .i64 0, .int .i64 0, .slice none 0 0, .int .i64 0, .slice none 0 0] 30 (0, 0))
abbrev jz (R : Nat) : As := Sl.pt R (.cells #[.int .i64 0, .string ⟨#[]⟩, .int .i64 0, .int .i64 0, .slice none 0 0, .slice none 0 0, .int .i64 0, .int .i64 0, .slice none 0 0, .int .i64 0, .slice none 0 0] 30 (0, 0))
abbrev LI (α : Type) := Nat × (Option Addr × Nat) × (Bs × Bool) × (Option Addr × Nat) × List α
theorem job_ct (M : List As) (rb : Nat) (a : Option Addr) (cap : Nat) (bs : Bs) (bad : Bool) (h : RS M a cap bs) :
    Ctr Tryd.prog 68 #[.pointer (some ⟨rb, 0, none⟩)] (rc rb a cap bs bad :: M) (fun v M' => ∃ a' cap' pa pc ta tc, ∃ j : JV, v = .agg (encJ j).toArray ∧ j.par.a = pa ∧ nfJ j = (jobP (bs, bad)).1 ∧ RS M a' cap' (jobP (bs, bad)).2.1 ∧ j.tenant.size ≤ 140737488355328 ∧ j.par = ⟨pa, pc, j.par.xs⟩ ∧ j.tasks = ⟨ta, tc, j.tasks.xs⟩ ∧ j.nodes = ⟨none, 0, []⟩ ∧ j.don = ⟨none, 0, []⟩ ∧ j.par.xs.length ≤ 64 ∧ j.tasks.xs.length ≤ 64 ∧
      M' = rc rb a' cap' (jobP (bs, bad)).2.1 (jobP (bs, bad)).2.2 :: ERow 2 1 Go.Proofs.YtjmfnakplmmpnaaDoor.encI pa j.par.xs.length pc j.par.xs :: ERow 23 4 encV4 ta j.tasks.xs.length tc j.tasks.xs :: M) := by
  refine ctr_of (Γ := tab) (vs := [_]) fn68 rfl ?_
  unfold jobP
  dsimp only
  repeat ((conv => whnf); (first | refine ztx ?_ | refine LNext.nilr ?_ | refine zne ?_ | refine zga ?_ | refine zxa ?_ | refine zca ?_ | refine zcb ?_ | refine zgb ?_ | refine zgd1 ?_ | refine zge ?_ | refine zgf ?_ | refine zgj ?_ | refine zgk ?_ | refine eqStr ?_ | refine neqStr ?_ | refine eqSlNil ?_ | refine capSlice ?_ | refine zgm ?_ | refine zgn ?_ | refine zgo ?_ | refine zba ?_ | refine zbb ?_ | refine zbc ?_ | refine zbd ?_ | refine zbe ?_ | refine zbf ?_ | refine zia ?_ | refine zib ?_ | refine zic ?_ | refine zid1 ?_ | refine zif1 ?_ | refine zig ?_ | refine zih ?_ | refine lint_u8_mod ?_ | refine zua ?_ | refine zgs ?_ | refine LRes.mk ?_ | refine LIn.step ?_ | refine zdr ?_ | refine zna (fun _ => ?_) | refine znb (fun _ => ?_) | refine znc (fun _ => ?_) | refine newSlice0 (fun _ => ?_)))
  refine call1 (num_ct M rb a cap bs bad h) zSp ?_
  rintro v M' ⟨a1, c1, rfl, h1, hM⟩
  subst hM
  generalize numP (bs, bad) = q at *
  obtain ⟨n1, b1, d1⟩ := q
  dsimp only at h1 ⊢
  repeat ((conv => whnf); (first | refine ztx ?_ | refine LNext.nilr ?_ | refine zne ?_ | refine zga ?_ | refine zxa ?_ | refine zca ?_ | refine zcb ?_ | refine zgb ?_ | refine zgd1 ?_ | refine zge ?_ | refine zgf ?_ | refine zgj ?_ | refine zgk ?_ | refine eqStr ?_ | refine neqStr ?_ | refine eqSlNil ?_ | refine capSlice ?_ | refine zgm ?_ | refine zgn ?_ | refine zgo ?_ | refine zba ?_ | refine zbb ?_ | refine zbc ?_ | refine zbd ?_ | refine zbe ?_ | refine zbf ?_ | refine zia ?_ | refine zib ?_ | refine zic ?_ | refine zid1 ?_ | refine zif1 ?_ | refine zig ?_ | refine zih ?_ | refine lint_u8_mod ?_ | refine zua ?_ | refine zgs ?_ | refine LRes.mk ?_ | refine LIn.step ?_ | refine zdr ?_ | refine zna (fun _ => ?_) | refine znb (fun _ => ?_) | refine znc (fun _ => ?_) | refine newSlice0 (fun _ => ?_)))
  refine call1 (text_ct M rb a1 c1 b1 d1 h1) zSp ?_
  rintro v M' ⟨a2, c2, rfl, h2, hz, hM⟩
  subst hM
  generalize txtP (b1, d1) = q at *
  obtain ⟨tn, b2, d2⟩ := q
  dsimp only at h2 hz ⊢
  repeat ((conv => whnf); (first | refine ztx ?_ | refine LNext.nilr ?_ | refine zne ?_ | refine zga ?_ | refine zxa ?_ | refine zca ?_ | refine zcb ?_ | refine zgb ?_ | refine zgd1 ?_ | refine zge ?_ | refine zgf ?_ | refine zgj ?_ | refine zgk ?_ | refine eqStr ?_ | refine neqStr ?_ | refine eqSlNil ?_ | refine capSlice ?_ | refine zgm ?_ | refine zgn ?_ | refine zgo ?_ | refine zba ?_ | refine zbb ?_ | refine zbc ?_ | refine zbd ?_ | refine zbe ?_ | refine zbf ?_ | refine zia ?_ | refine zib ?_ | refine zic ?_ | refine zid1 ?_ | refine zif1 ?_ | refine zig ?_ | refine zih ?_ | refine lint_u8_mod ?_ | refine zua ?_ | refine zgs ?_ | refine LRes.mk ?_ | refine LIn.step ?_ | refine zdr ?_ | refine zna (fun _ => ?_) | refine znb (fun _ => ?_) | refine znc (fun _ => ?_) | refine newSlice0 (fun _ => ?_)))
  refine call1 (num_ct M rb a2 c2 b2 d2 h2) zSp ?_
  rintro v M' ⟨a3, c3, rfl, h3, hM⟩
  subst hM
  generalize numP (b2, d2) = q at *
  obtain ⟨n3, b3, d3⟩ := q
  dsimp only at h3 ⊢
  repeat ((conv => whnf); (first | refine ztx ?_ | refine LNext.nilr ?_ | refine zne ?_ | refine zga ?_ | refine zxa ?_ | refine zca ?_ | refine zcb ?_ | refine zgb ?_ | refine zgd1 ?_ | refine zge ?_ | refine zgf ?_ | refine zgj ?_ | refine zgk ?_ | refine eqStr ?_ | refine neqStr ?_ | refine eqSlNil ?_ | refine capSlice ?_ | refine zgm ?_ | refine zgn ?_ | refine zgo ?_ | refine zba ?_ | refine zbb ?_ | refine zbc ?_ | refine zbd ?_ | refine zbe ?_ | refine zbf ?_ | refine zia ?_ | refine zib ?_ | refine zic ?_ | refine zid1 ?_ | refine zif1 ?_ | refine zig ?_ | refine zih ?_ | refine lint_u8_mod ?_ | refine zua ?_ | refine zgs ?_ | refine LRes.mk ?_ | refine LIn.step ?_ | refine zdr ?_ | refine zna (fun _ => ?_) | refine znb (fun _ => ?_) | refine znc (fun _ => ?_) | refine newSlice0 (fun _ => ?_)))
  refine call1 (num_ct M rb a3 c3 b3 d3 h3) zSp ?_
  rintro v M' ⟨a4, c4, rfl, h4, hM⟩
  subst hM
  generalize numP (b3, d3) = q at *
  obtain ⟨n4, b4, d4⟩ := q
  dsimp only at h4 ⊢
  repeat ((conv => whnf); (first | refine ztx ?_ | refine LNext.nilr ?_ | refine zne ?_ | refine zga ?_ | refine zxa ?_ | refine zca ?_ | refine zcb ?_ | refine zgb ?_ | refine zgd1 ?_ | refine zge ?_ | refine zgf ?_ | refine zgj ?_ | refine zgk ?_ | refine eqStr ?_ | refine neqStr ?_ | refine eqSlNil ?_ | refine capSlice ?_ | refine zgm ?_ | refine zgn ?_ | refine zgo ?_ | refine zba ?_ | refine zbb ?_ | refine zbc ?_ | refine zbd ?_ | refine zbe ?_ | refine zbf ?_ | refine zia ?_ | refine zib ?_ | refine zic ?_ | refine zid1 ?_ | refine zif1 ?_ | refine zig ?_ | refine zih ?_ | refine lint_u8_mod ?_ | refine zua ?_ | refine zgs ?_ | refine LRes.mk ?_ | refine LIn.step ?_ | refine zdr ?_ | refine zna (fun _ => ?_) | refine znb (fun _ => ?_) | refine znc (fun _ => ?_) | refine newSlice0 (fun _ => ?_)))
  refine call1 (cnt_ct M rb a4 c4 b4 d4 h4) zSp ?_
  rintro v M' ⟨a5, c5, rfl, h5, hM⟩
  subst hM
  have hk := cntP_le (b4, d4)
  generalize cntP (b4, d4) = q at *
  obtain ⟨k, b5, d5⟩ := q
  dsimp only at h5 hk ⊢
  repeat ((conv => whnf); (first | refine ztx ?_ | refine LNext.nilr ?_ | refine zne ?_ | refine zga ?_ | refine zxa ?_ | refine zca ?_ | refine zcb ?_ | refine zgb ?_ | refine zgd1 ?_ | refine zge ?_ | refine zgf ?_ | refine zgj ?_ | refine zgk ?_ | refine eqStr ?_ | refine neqStr ?_ | refine eqSlNil ?_ | refine capSlice ?_ | refine zgm ?_ | refine zgn ?_ | refine zgo ?_ | refine zba ?_ | refine zbb ?_ | refine zbc ?_ | refine zbd ?_ | refine zbe ?_ | refine zbf ?_ | refine zia ?_ | refine zib ?_ | refine zic ?_ | refine zid1 ?_ | refine zif1 ?_ | refine zig ?_ | refine zih ?_ | refine lint_u8_mod ?_ | refine zua ?_ | refine zgs ?_ | refine LRes.mk ?_ | refine LIn.step ?_ | refine zdr ?_ | refine zna (fun _ => ?_) | refine znb (fun _ => ?_) | refine znc (fun _ => ?_) | refine newSlice0 (fun _ => ?_)))
  rename_i R J
  refine LLoop.invN (fun x : LI Int => [(0, .pointer (some ⟨rb, 0, none⟩)), (2, .pointer (some ⟨R, 0, none⟩)), (3, .pointer (some ⟨J, 0, none⟩)), (14, .int .i64 k), (15, .int .i64 x.1)])
    (fun x => rc rb x.2.1.1 x.2.1.2 x.2.2.1.1 x.2.2.1.2 :: jc J n1 tn n3 n4 x.2.2.2.1.1 x.2.2.2.2.length x.2.2.2.1.2 none 0 0 :: jz R :: ERow 2 1 Go.Proofs.YtjmfnakplmmpnaaDoor.encI x.2.2.2.1.1 x.2.2.2.2.length x.2.2.2.1.2 x.2.2.2.2 :: M)
    (fun x => x.1 ≤ k ∧ RS M x.2.1.1 x.2.1.2 x.2.2.1.1 ∧ x.2.2.2.2.length = x.1 ∧ manyP numI k (b5, d5) = (x.2.2.2.2 ++ (manyP numI (k - x.1) x.2.2.1).1, (manyP numI (k - x.1) x.2.2.1).2))
    (fun x => k - x.1) (0, (a5, c5), (b5, d5), (none, 0), []) ⟨Nat.zero_le _, h5, rfl, rfl⟩ zSu (Ent.trans (ent_e0 (E := 2) (sz := 1) (enc := Go.Proofs.YtjmfnakplmmpnaaDoor.encI)) zEn) ?_
  rintro ⟨i, ⟨a6, c6⟩, ⟨b6, d6⟩, ⟨pa, pc⟩, xs⟩ ⟨hi, h6, hx, hm⟩
  dsimp only at hi h6 hx hm ⊢
  by_cases p1 : i < k
  · have hst := many_step p1 hm
    refine LNext.go tab ?_
    repeat ((conv => whnf); (first | refine ztx ?_ | refine LNext.nilr ?_ | refine zne ?_ | refine zga ?_ | refine zxa ?_ | refine zca ?_ | refine zcb ?_ | refine zgb ?_ | refine zgd1 ?_ | refine zge ?_ | refine zgf ?_ | refine zgj ?_ | refine zgk ?_ | refine eqStr ?_ | refine neqStr ?_ | refine eqSlNil ?_ | refine capSlice ?_ | refine zgm ?_ | refine zgn ?_ | refine zgo ?_ | refine zba ?_ | refine zbb ?_ | refine zbc ?_ | refine zbd ?_ | refine zbe ?_ | refine zbf ?_ | refine zia ?_ | refine zib ?_ | refine zic ?_ | refine zid1 ?_ | refine zif1 ?_ | refine zig ?_ | refine zih ?_ | refine lint_u8_mod ?_ | refine zua ?_ | refine zgs ?_ | refine LRes.mk ?_ | refine LIn.step ?_ | refine zna (fun _ => ?_) | refine znb (fun _ => ?_) | refine znc (fun _ => ?_) | refine newSlice0 (fun _ => ?_)))
    refine LDraw.parts [Sl.pt J _] (by decide +kernel) zSp ?_
    repeat ((conv => whnf); (first | refine ztx ?_ | refine LNext.nilr ?_ | refine zne ?_ | refine zga ?_ | refine zxa ?_ | refine zca ?_ | refine zcb ?_ | refine zgb ?_ | refine zgd1 ?_ | refine zge ?_ | refine zgf ?_ | refine zgj ?_ | refine zgk ?_ | refine eqStr ?_ | refine neqStr ?_ | refine eqSlNil ?_ | refine capSlice ?_ | refine zgm ?_ | refine zgn ?_ | refine zgo ?_ | refine zba ?_ | refine zbb ?_ | refine zbc ?_ | refine zbd ?_ | refine zbe ?_ | refine zbf ?_ | refine zia ?_ | refine zib ?_ | refine zic ?_ | refine zid1 ?_ | refine zif1 ?_ | refine zig ?_ | refine zih ?_ | refine lint_u8_mod ?_ | refine zua ?_ | refine zgs ?_ | refine LRes.mk ?_ | refine LIn.step ?_ | refine zdr ?_ | refine zna (fun _ => ?_) | refine znb (fun _ => ?_) | refine znc (fun _ => ?_) | refine newSlice0 (fun _ => ?_)))
    refine call1 (num_ct M rb a6 c6 b6 d6 h6) zSp ?_
    rintro v M' ⟨a7, c7, rfl, h7, hM⟩
    subst hM
    have hnI : numI (b6, d6) = (((numP (b6, d6)).1 : Int), (numP (b6, d6)).2) := rfl
    rw [hnI] at hst
    generalize numP (b6, d6) = q at *
    obtain ⟨n7, b7, d7⟩ := q
    dsimp only at h7 hst ⊢
    repeat ((conv => whnf); (first | refine ztx ?_ | refine LNext.nilr ?_ | refine zne ?_ | refine zga ?_ | refine zxa ?_ | refine zca ?_ | refine zcb ?_ | refine zgb ?_ | refine zgd1 ?_ | refine zge ?_ | refine zgf ?_ | refine zgj ?_ | refine zgk ?_ | refine eqStr ?_ | refine neqStr ?_ | refine eqSlNil ?_ | refine capSlice ?_ | refine zgm ?_ | refine zgn ?_ | refine zgo ?_ | refine zba ?_ | refine zbb ?_ | refine zbc ?_ | refine zbd ?_ | refine zbe ?_ | refine zbf ?_ | refine zia ?_ | refine zib ?_ | refine zic ?_ | refine zid1 ?_ | refine zif1 ?_ | refine zig ?_ | refine zih ?_ | refine lint_u8_mod ?_ | refine zua ?_ | refine zgs ?_ | refine LRes.mk ?_ | refine LIn.step ?_ | refine zdr ?_ | refine zna (fun _ => ?_) | refine znb (fun _ => ?_) | refine znc (fun _ => ?_) | refine newSlice0 (fun _ => ?_)))
    refine appendE tab (enc := Go.Proofs.YtjmfnakplmmpnaaDoor.encI) (xs := xs) ([(n7 : Int)]) zTk (by intro _; rfl) rfl rfl rfl rfl rfl zCs (by intro x hx; simp at hx; subst hx; rfl) (by simp only [maxLen]; omega) (by omega) (by omega) (fun g c => ?_)
    rw [show xs.length + 1 = (xs ++ [(n7 : Int)]).length by simp]
    repeat ((conv => whnf); (first | refine ztx ?_ | refine LNext.nilr ?_ | refine zne ?_ | refine zga ?_ | refine zxa ?_ | refine zca ?_ | refine zcb ?_ | refine zgb ?_ | refine zgd1 ?_ | refine zge ?_ | refine zgf ?_ | refine zgj ?_ | refine zgk ?_ | refine eqStr ?_ | refine neqStr ?_ | refine eqSlNil ?_ | refine capSlice ?_ | refine zgm ?_ | refine zgn ?_ | refine zgo ?_ | refine zba ?_ | refine zbb ?_ | refine zbc ?_ | refine zbd ?_ | refine zbe ?_ | refine zbf ?_ | refine zia ?_ | refine zib ?_ | refine zic ?_ | refine zid1 ?_ | refine zif1 ?_ | refine zig ?_ | refine zih ?_ | refine lint_u8_mod ?_ | refine zua ?_ | refine zgs ?_ | refine LRes.mk ?_ | refine LIn.step ?_ | refine zdr ?_ | refine zna (fun _ => ?_) | refine znb (fun _ => ?_) | refine znc (fun _ => ?_) | refine newSlice0 (fun _ => ?_)))
    exact ⟨(i + 1, (a7, c7), (b7, d7), (some ⟨g, 0, none⟩, c), xs ++ [(n7 : Int)]), ⟨p1, h7, by show (xs ++ [(n7 : Int)]).length = i + 1; simp [hx], hst⟩, by show k - (i + 1) < k - i; omega, zSu, zEn⟩
  have he := many_end p1 hm
  rw [he]
  have hxk : xs.length ≤ 64 := by omega
  clear hm he
  dsimp only
  refine LNext.go tab ?_
  repeat ((conv => whnf); (first | refine ztx ?_ | refine LNext.nilr ?_ | refine zne ?_ | refine zga ?_ | refine zxa ?_ | refine zca ?_ | refine zcb ?_ | refine zgb ?_ | refine zgd1 ?_ | refine zge ?_ | refine zgf ?_ | refine zgj ?_ | refine zgk ?_ | refine eqStr ?_ | refine neqStr ?_ | refine eqSlNil ?_ | refine capSlice ?_ | refine zgm ?_ | refine zgn ?_ | refine zgo ?_ | refine zba ?_ | refine zbb ?_ | refine zbc ?_ | refine zbd ?_ | refine zbe ?_ | refine zbf ?_ | refine zia ?_ | refine zib ?_ | refine zic ?_ | refine zid1 ?_ | refine zif1 ?_ | refine zig ?_ | refine zih ?_ | refine lint_u8_mod ?_ | refine zua ?_ | refine zgs ?_ | refine LRes.mk ?_ | refine LIn.step ?_ | refine zdr ?_ | refine zna (fun _ => ?_) | refine znb (fun _ => ?_) | refine znc (fun _ => ?_) | refine newSlice0 (fun _ => ?_)))
  refine call1 (cnt_ct M rb a6 c6 b6 d6 h6) zSp ?_
  rintro v M' ⟨a8, c8, rfl, h8, hM⟩
  subst hM
  have hk2 := cntP_le (b6, d6)
  generalize cntP (b6, d6) = q at *
  obtain ⟨k2, b8, d8⟩ := q
  dsimp only at h8 hk2 ⊢
  repeat ((conv => whnf); (first | refine ztx ?_ | refine LNext.nilr ?_ | refine zne ?_ | refine zga ?_ | refine zxa ?_ | refine zca ?_ | refine zcb ?_ | refine zgb ?_ | refine zgd1 ?_ | refine zge ?_ | refine zgf ?_ | refine zgj ?_ | refine zgk ?_ | refine eqStr ?_ | refine neqStr ?_ | refine eqSlNil ?_ | refine capSlice ?_ | refine zgm ?_ | refine zgn ?_ | refine zgo ?_ | refine zba ?_ | refine zbb ?_ | refine zbc ?_ | refine zbd ?_ | refine zbe ?_ | refine zbf ?_ | refine zia ?_ | refine zib ?_ | refine zic ?_ | refine zid1 ?_ | refine zif1 ?_ | refine zig ?_ | refine zih ?_ | refine lint_u8_mod ?_ | refine zua ?_ | refine zgs ?_ | refine LRes.mk ?_ | refine LIn.step ?_ | refine zdr ?_ | refine zna (fun _ => ?_) | refine znb (fun _ => ?_) | refine znc (fun _ => ?_) | refine newSlice0 (fun _ => ?_)))
  refine LLoop.invN (fun x : LI V4 => [(0, .pointer (some ⟨rb, 0, none⟩)), (2, .pointer (some ⟨R, 0, none⟩)), (3, .pointer (some ⟨J, 0, none⟩)), (26, .int .i64 k2), (27, .int .i64 x.1)])
    (fun x => rc rb x.2.1.1 x.2.1.2 x.2.2.1.1 x.2.2.1.2 :: jc J n1 tn n3 n4 pa xs.length pc x.2.2.2.1.1 x.2.2.2.2.length x.2.2.2.1.2 :: jz R :: ERow 2 1 Go.Proofs.YtjmfnakplmmpnaaDoor.encI pa xs.length pc xs :: ERow 23 4 encV4 x.2.2.2.1.1 x.2.2.2.2.length x.2.2.2.1.2 x.2.2.2.2 :: M)
    (fun x => x.1 ≤ k2 ∧ RS M x.2.1.1 x.2.1.2 x.2.2.1.1 ∧ x.2.2.2.2.length = x.1 ∧ manyP vecP k2 (b8, d8) = (x.2.2.2.2 ++ (manyP vecP (k2 - x.1) x.2.2.1).1, (manyP vecP (k2 - x.1) x.2.2.1).2))
    (fun x => k2 - x.1) (0, (a8, c8), (b8, d8), (none, 0), []) ⟨Nat.zero_le _, h8, rfl, rfl⟩ zSu (Ent.trans (ent_e0 (E := 23) (sz := 4) (enc := encV4)) zEn) ?_
  rintro ⟨i, ⟨a9, c9⟩, ⟨b9, d9⟩, ⟨ta, tc⟩, ys⟩ ⟨hi, h9, hx, hm⟩
  dsimp only at hi h9 hx hm ⊢
  by_cases p1 : i < k2
  · have hst := many_step p1 hm
    refine LNext.go tab ?_
    repeat ((conv => whnf); (first | refine ztx ?_ | refine LNext.nilr ?_ | refine zne ?_ | refine zga ?_ | refine zxa ?_ | refine zca ?_ | refine zcb ?_ | refine zgb ?_ | refine zgd1 ?_ | refine zge ?_ | refine zgf ?_ | refine zgj ?_ | refine zgk ?_ | refine eqStr ?_ | refine neqStr ?_ | refine eqSlNil ?_ | refine capSlice ?_ | refine zgm ?_ | refine zgn ?_ | refine zgo ?_ | refine zba ?_ | refine zbb ?_ | refine zbc ?_ | refine zbd ?_ | refine zbe ?_ | refine zbf ?_ | refine zia ?_ | refine zib ?_ | refine zic ?_ | refine zid1 ?_ | refine zif1 ?_ | refine zig ?_ | refine zih ?_ | refine lint_u8_mod ?_ | refine zua ?_ | refine zgs ?_ | refine LRes.mk ?_ | refine LIn.step ?_ | refine zna (fun _ => ?_) | refine znb (fun _ => ?_) | refine znc (fun _ => ?_) | refine newSlice0 (fun _ => ?_)))
    refine LDraw.parts [Sl.pt J _] (by decide +kernel) zSp ?_
    repeat ((conv => whnf); (first | refine ztx ?_ | refine LNext.nilr ?_ | refine zne ?_ | refine zga ?_ | refine zxa ?_ | refine zca ?_ | refine zcb ?_ | refine zgb ?_ | refine zgd1 ?_ | refine zge ?_ | refine zgf ?_ | refine zgj ?_ | refine zgk ?_ | refine eqStr ?_ | refine neqStr ?_ | refine eqSlNil ?_ | refine capSlice ?_ | refine zgm ?_ | refine zgn ?_ | refine zgo ?_ | refine zba ?_ | refine zbb ?_ | refine zbc ?_ | refine zbd ?_ | refine zbe ?_ | refine zbf ?_ | refine zia ?_ | refine zib ?_ | refine zic ?_ | refine zid1 ?_ | refine zif1 ?_ | refine zig ?_ | refine zih ?_ | refine lint_u8_mod ?_ | refine zua ?_ | refine zgs ?_ | refine LRes.mk ?_ | refine LIn.step ?_ | refine zdr ?_ | refine zna (fun _ => ?_) | refine znb (fun _ => ?_) | refine znc (fun _ => ?_) | refine newSlice0 (fun _ => ?_)))
    refine call1 (vec_ct M rb a9 c9 b9 d9 h9) zSp ?_
    rintro v M' ⟨a7, c7, rfl, h7, hM⟩
    subst hM
    generalize vecP (b9, d9) = q at *
    obtain ⟨v7, b7, d7⟩ := q
    dsimp only at h7 hst ⊢
    repeat ((conv => whnf); (first | refine ztx ?_ | refine LNext.nilr ?_ | refine zne ?_ | refine zga ?_ | refine zxa ?_ | refine zca ?_ | refine zcb ?_ | refine zgb ?_ | refine zgd1 ?_ | refine zge ?_ | refine zgf ?_ | refine zgj ?_ | refine zgk ?_ | refine eqStr ?_ | refine neqStr ?_ | refine eqSlNil ?_ | refine capSlice ?_ | refine zgm ?_ | refine zgn ?_ | refine zgo ?_ | refine zba ?_ | refine zbb ?_ | refine zbc ?_ | refine zbd ?_ | refine zbe ?_ | refine zbf ?_ | refine zia ?_ | refine zib ?_ | refine zic ?_ | refine zid1 ?_ | refine zif1 ?_ | refine zig ?_ | refine zih ?_ | refine lint_u8_mod ?_ | refine zua ?_ | refine zgs ?_ | refine LRes.mk ?_ | refine LIn.step ?_ | refine zdr ?_ | refine zna (fun _ => ?_) | refine znb (fun _ => ?_) | refine znc (fun _ => ?_) | refine newSlice0 (fun _ => ?_)))
    refine appendE tab (enc := encV4) (xs := ys) ([v7]) zTk (by intro _; rfl) rfl rfl rfl rfl rfl zCs (by intro x hx; simp at hx; subst hx; rfl) (by simp only [maxLen]; omega) (by omega) (by omega) (fun g c => ?_)
    rw [show ys.length + 1 = (ys ++ [v7]).length by simp]
    repeat ((conv => whnf); (first | refine ztx ?_ | refine LNext.nilr ?_ | refine zne ?_ | refine zga ?_ | refine zxa ?_ | refine zca ?_ | refine zcb ?_ | refine zgb ?_ | refine zgd1 ?_ | refine zge ?_ | refine zgf ?_ | refine zgj ?_ | refine zgk ?_ | refine eqStr ?_ | refine neqStr ?_ | refine eqSlNil ?_ | refine capSlice ?_ | refine zgm ?_ | refine zgn ?_ | refine zgo ?_ | refine zba ?_ | refine zbb ?_ | refine zbc ?_ | refine zbd ?_ | refine zbe ?_ | refine zbf ?_ | refine zia ?_ | refine zib ?_ | refine zic ?_ | refine zid1 ?_ | refine zif1 ?_ | refine zig ?_ | refine zih ?_ | refine lint_u8_mod ?_ | refine zua ?_ | refine zgs ?_ | refine LRes.mk ?_ | refine LIn.step ?_ | refine zdr ?_ | refine zna (fun _ => ?_) | refine znb (fun _ => ?_) | refine znc (fun _ => ?_) | refine newSlice0 (fun _ => ?_)))
    exact ⟨(i + 1, (a7, c7), (b7, d7), (some ⟨g, 0, none⟩, c), ys ++ [v7]), ⟨p1, h7, by show (ys ++ [v7]).length = i + 1; simp [hx], hst⟩, by show k2 - (i + 1) < k2 - i; omega, zSu, zEn⟩
  have he := many_end p1 hm
  rw [he]
  have hyk : ys.length ≤ 64 := by omega
  clear hm he
  dsimp only
  refine LNext.go tab ?_
  repeat ((conv => whnf); (first | refine ztx ?_ | refine LNext.nilr ?_ | refine zne ?_ | refine zga ?_ | refine zxa ?_ | refine zca ?_ | refine zcb ?_ | refine zgb ?_ | refine zgd1 ?_ | refine zge ?_ | refine zgf ?_ | refine zgj ?_ | refine zgk ?_ | refine eqStr ?_ | refine neqStr ?_ | refine eqSlNil ?_ | refine capSlice ?_ | refine zgm ?_ | refine zgn ?_ | refine zgo ?_ | refine zba ?_ | refine zbb ?_ | refine zbc ?_ | refine zbd ?_ | refine zbe ?_ | refine zbf ?_ | refine zia ?_ | refine zib ?_ | refine zic ?_ | refine zid1 ?_ | refine zif1 ?_ | refine zig ?_ | refine zih ?_ | refine lint_u8_mod ?_ | refine zua ?_ | refine zgs ?_ | refine LRes.mk ?_ | refine LIn.step ?_ | refine zdr ?_ | refine zna (fun _ => ?_) | refine znb (fun _ => ?_) | refine znc (fun _ => ?_) | refine newSlice0 (fun _ => ?_)))
  show Fin _ _ _; exact Fin.of (rc rb a9 c9 b9 d9 :: ERow 2 1 Go.Proofs.YtjmfnakplmmpnaaDoor.encI pa xs.length pc xs :: ERow 23 4 encV4 ta ys.length tc ys :: M) zEn ⟨a9, c9, pa, pc, ta, tc, ⟨n1, tn, n3, n4, ⟨pa, pc, xs⟩, ⟨ta, tc, ys⟩, 0, 0, ⟨none, 0, []⟩, 0, ⟨none, 0, []⟩⟩, rfl, rfl, rfl, h9, hz, rfl, rfl, rfl, rfl, hxk, hyk, rfl⟩
end Go.Proofs.YtjmfnakplmmpnaaDoor
