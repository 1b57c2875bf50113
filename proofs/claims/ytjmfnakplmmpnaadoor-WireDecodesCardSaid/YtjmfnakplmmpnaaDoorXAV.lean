import Derived.Test.YtjmfnakplmmpnaaDoorXAU
import Derived.Shelf.Bytes.GrowSlice
import Derived.Ground.NamesProg
import Derived.Test.YtjmfnakplmmpnaaDoorProg
namespace Go.Proofs.YtjmfnakplmmpnaaDoor
open Go.Sl
set_option linter.unusedVariables false
set_option linter.unusedSimpArgs false
set_option maxRecDepth 100000
set_option maxHeartbeats 4000000
end Go.Proofs.YtjmfnakplmmpnaaDoor

namespace Go.Proofs.YtjmfnakplmmpnaaDoor
open Go.Sl
set_option linter.unusedVariables false
set_option linter.unusedSimpArgs false
set_option maxRecDepth 100000
set_option maxHeartbeats 4000000
structure Pcs (M : List As) (a : Option Addr) (ps : List (SlV UInt8)) : Prop where
  rd : RdH M a 1 encP ps
  each : ∀ p ∈ ps, RdH M p.a 1 encU p.xs
  nil : ∀ p ∈ ps, p.a = none → p.xs.length = 0
  le : ∀ p ∈ ps, p.xs.length ≤ 9223372036854775807
theorem Pcs.there {M : List As} {y : As} {a : Option Addr} {ps : List (SlV UInt8)} (h : Pcs M a ps) : Pcs (y :: M) a ps := ⟨h.rd.there, fun p hp => (h.each p hp).there, h.nil, h.le⟩
theorem hd_nil0 {α : Type} {a : Option Addr} {n cap : Nat} {xs : List α} (r : RowHd a n cap xs) (h : a = none) : xs = [] := by
  have h1 := r.nil h
  have h2 := r.le
  have h3 := r.len
  exact List.eq_nil_of_length_eq_zero (by omega)
theorem ext3 {P : Program} {f : FuncId} {args : Array Value} {M : List As} {R : Value → List As → Prop} {k : Value → List As → Prop} (hs : Ctr P f args M R) (hR : ∀ v M', R v M' → ∃ X, M' = X ++ M ∧ k v X) : LExt P f args M k :=
  ⟨k, (hs.weaken (Ent.refl _) (fun v M' h => by obtain ⟨X, e, hk⟩ := hR v M' h; exact ⟨X, hk, e⟩)).to, fun _ _ h => h⟩
theorem Pcs.app {M N : List As} {a : Option Addr} {ps : List (SlV UInt8)} (h : Pcs M a ps) : Pcs (M ++ N) a ps := ⟨h.rd.app, fun p hp => (h.each p hp).app, h.nil, h.le⟩
section
variable {P : Program} {α : Type} {enc : α → List Value} {E : TypeId} {sz : Nat}
end
end Go.Proofs.YtjmfnakplmmpnaaDoor

namespace Go.Proofs.YtjmfnakplmmpnaaDoor
open Go.Sl
set_option linter.unusedVariables false
set_option linter.unusedSimpArgs false
set_option maxRecDepth 100000
set_option maxHeartbeats 1000000
section
variable {P : Program} {M N : List As}
def conc : Option TypeDesc → Bool
  | some (.interface _) => false
  | some _ => true
  | none => false
theorem mkIface [Γ : Tab P] {t : TypeId} {v : Value} {k : Value → Prop} (hk : k (.iface t v)) (hu : conc (Γ.und t) = true := by rfl) : LGet P (Instr.makeInterface t v) M k :=
  ⟨.iface t v, fun w _ => by
    cases h : Γ.und t with
    | none => rw [h] at hu; cases hu
    | some d =>
      have h1 := Γ.und_ok _ _ h
      unfold Instr.makeInterface
      rw [Sem.run_bind, run_underlying h1]
      rw [h] at hu
      cases d <;> first | (cases hu; done) | rfl, hk⟩
theorem taYes [Γ : Tab P] {t xt : TypeId} {v : Value} {k : Value → Prop} (hk : k (.tuple #[v, .bool true])) (hu : conc (Γ.und t) = true := by rfl) : LGet P (Instr.typeAssert (.iface t v) xt t true) M k :=
  ⟨.tuple #[v, .bool true], fun w _ => by
    cases h : Γ.und t with
    | none => rw [h] at hu; cases hu
    | some d =>
      have h1 := Γ.und_ok _ _ h
      unfold Instr.typeAssert
      rw [Sem.run_bind, run_underlying h1]
      rw [h] at hu
      cases d <;> first | (cases hu; done) | simp, hk⟩
theorem taNo [Γ : Tab P] {t xt ta : TypeId} {v z : Value} {sz by' : Nat} {k : Value → Prop} (hk : k (.tuple #[z, .bool false])) (hne : Nat.beq t ta = false := by rfl) (hi : Γ.inf ta = some (z, sz, by') := by rfl) (hu : conc (Γ.und ta) = true := by rfl) : LGet P (Instr.typeAssert (.iface t v) xt ta true) M k :=
  ⟨.tuple #[z, .bool false], fun w _ => by
    have hne' : ¬ t = ta := fun e => by rw [e, Nat.beq_refl] at hne; cases hne
    have hz := zero_of Γ hi w
    cases h : Γ.und ta with
    | none => rw [h] at hu; cases hu
    | some d =>
      have h1 := Γ.und_ok _ _ h
      unfold Instr.typeAssert
      rw [Sem.run_bind, run_underlying h1]
      rw [h] at hu
      cases d <;> first | (cases hu; done) | simp [hne', hz], hk⟩
theorem taNil [Γ : Tab P] {xt ta : TypeId} {z : Value} {sz by' : Nat} {k : Value → Prop} (hk : k (.tuple #[z, .bool false])) (hi : Γ.inf ta = some (z, sz, by') := by rfl) (hu : conc (Γ.und ta) = true := by rfl) : LGet P (Instr.typeAssert .nilIface xt ta true) M k :=
  ⟨.tuple #[z, .bool false], fun w _ => by
    have hz := zero_of Γ hi w
    cases h : Γ.und ta with
    | none => rw [h] at hu; cases hu
    | some d =>
      have h1 := Γ.und_ok _ _ h
      unfold Instr.typeAssert
      rw [Sem.run_bind, run_underlying h1]
      rw [h] at hu
      cases d <;> first | (cases hu; done) | simp [hz], hk⟩
def methOf (P : Program) (t : TypeId) (m : String) : Option FuncId := match P.info? t with
  | some i => match i.methods.find? (·.name == m) with
    | some r => match r.func, r.path.toList with
      | some (f, false), [] => some f
      | _, _ => none
    | none => none
  | none => none
def notPtr : Option TypeDesc → Bool
  | some (.pointer _) => false
  | some _ => true
  | none => false
theorem invVal [Γ : Tab P] {t : TypeId} {v : Value} {m : String} {f : FuncId} {args : Array Value} {k : Value → List As → Prop} (hm : methOf P t m = some f) (hc : LCall P f (#[v] ++ args) M k) (hu : notPtr (Γ.und t) = true := by rfl) : LInv P (.iface t v) m args M k :=
  ⟨f, #[v] ++ args, (fun w => by
    cases h : Γ.und t with
    | none => rw [h] at hu; cases hu
    | some d =>
      have h1 := Γ.und_ok _ _ h
      rw [h] at hu
      unfold methOf at hm
      split at hm
      · rename_i i hi
        split at hm
        · rename_i r hr
          split at hm
          · rename_i f' hf hp
            injection hm with hm
            subst hm
            have hpe : r.path = #[] := by
              have := congrArg List.toArray hp
              simpa using this
            unfold callMethod
            rw [Sem.run_bind, run_program]
            simp only [Result.andThen_ok]
            obtain ⟨n, hn⟩ : ∃ n, P.types.size + Made.depth = n + 1 := ⟨P.types.size + Made.depth - 1, by
              have : 0 < Made.depth := by decide
              omega⟩
            rw [hn]
            rw [Sem.run_bind]
            have hmet : (method (n + 1) t v m).run P w = .ok (f', v) w := by
              unfold method
              simp [typeInfo, hi, hr, hp, follow, hf, receiverAt, run_underlying h1]
              cases d <;> first | (cases hu; done) | rfl | simp [Place.get]
            rw [hmet]
            rfl
          · cases hm
        · cases hm
      · cases hm), hc⟩
end
end Go.Proofs.YtjmfnakplmmpnaaDoor

namespace Go.Proofs.YtjmfnakplmmpnaaDoor
open Go.Sl
set_option linter.unusedVariables false
set_option linter.unusedSimpArgs false
set_option maxRecDepth 100000
set_option maxHeartbeats 1000000
theorem SameBytes_ct (M : List As) (a b : Option Addr) (ca cb : Nat) (xs ys : Bs) (hx : RdH M a 1 encU xs) (hy : RdH M b 1 encU ys) (hn : xs.length ≤ 9223372036854775807) (hm : ys.length ≤ 9223372036854775807) :
    Ctr Tryd.prog 18 #[.slice a xs.length ca, .slice b ys.length cb] M (fun v M' => v = .bool (decide (xs = ys)) ∧ M' = M) := by
  refine Ctr.rd (okg fn18) hx (fun rx => ?_)
  refine Ctr.rd (okg fn18) hy (fun ry => ?_)
  refine ctr_of (Γ := tab) (vs := [_, _]) fn18 rfl ?_
  by_cases hl : xs.length = ys.length
  · repeat ((conv => whnf); (first | refine ztx ?_ | refine LNext.nilr ?_ | refine zne ?_ | refine zga ?_ | refine zxa ?_ | refine zca ?_ | refine zcb ?_ | refine zgb ?_ | refine zgd1 ?_ | refine zge ?_ | refine zgf ?_ | refine zgj ?_ | refine zgk ?_ | refine eqStr ?_ | refine neqStr ?_ | refine eqSlNil ?_ | refine capSlice ?_ | refine zgm ?_ | refine zgn ?_ | refine zgo ?_ | refine zba ?_ | refine zbb ?_ | refine zbc ?_ | refine zbd ?_ | refine zbe ?_ | refine zbf ?_ | refine zia ?_ | refine zib ?_ | refine zic ?_ | refine zid1 ?_ | refine zif1 ?_ | refine zig ?_ | refine zih ?_ | refine lint_u8_mod ?_ | refine zua ?_ | refine zgs ?_ | refine LRes.mk ?_ | refine LIn.step ?_ | refine zdr ?_ | refine zna (fun _ => ?_) | refine znb (fun _ => ?_) | refine znc (fun _ => ?_) | refine newSlice0 (fun _ => ?_)))
    refine LLoop.inv (Γ := tab) (fun i : Nat => [(0, .slice a xs.length ca), (1, .slice b ys.length cb), (5, .int .i64 i)]) (fun _ => M) (fun i => i ≤ xs.length ∧ ∀ j, j < i → gd xs j = gd ys j) (fun i => xs.length - i) 0 ⟨Nat.zero_le _, fun j hj => absurd hj (Nat.not_lt_zero _)⟩ zSu zEn ?_
    rintro i ⟨hi, hb⟩
    by_cases h1 : i < xs.length
    · obtain ⟨g, o, rfl, l1⟩ := rx.get h1
      obtain ⟨g', o', rfl, l2⟩ := ry.get (i := i) (by omega)
      by_cases he : gd xs i = gd ys i
      · have he' : (gd xs i).toNat = (gd ys i).toNat := by rw [he]
        repeat ((conv => whnf); (first | refine ztx ?_ | refine LNext.nilr ?_ | refine zne ?_ | refine zga ?_ | refine zxa ?_ | refine zca ?_ | refine zcb ?_ | refine zgb ?_ | refine zgd1 ?_ | refine zge ?_ | refine zgf ?_ | refine zgj ?_ | refine zgk ?_ | refine eqStr ?_ | refine neqStr ?_ | refine eqSlNil ?_ | refine capSlice ?_ | refine zgm ?_ | refine zgn ?_ | refine zgo ?_ | refine zba ?_ | refine zbb ?_ | refine zbc ?_ | refine zbd ?_ | refine zbe ?_ | refine zbf ?_ | refine zia ?_ | refine zib ?_ | refine zic ?_ | refine zid1 ?_ | refine zif1 ?_ | refine zig ?_ | refine zih ?_ | refine lint_u8_mod ?_ | refine zua ?_ | refine zgs ?_ | refine LRes.mk ?_ | refine LIn.step ?_ | refine zdr ?_ | refine zna (fun _ => ?_) | refine znb (fun _ => ?_) | refine znc (fun _ => ?_) | refine newSlice0 (fun _ => ?_)))
        exact ⟨i + 1, ⟨h1, fun j hj => by
          by_cases q : j = i
          · subst q; exact he
          · exact hb j (by omega)⟩, by omega, zSu, zEn⟩
      · have he' : (gd xs i).toNat ≠ (gd ys i).toNat := fun q => he (UInt8.toNat_inj.1 q)
        repeat ((conv => whnf); (first | refine ztx ?_ | refine LNext.nilr ?_ | refine zne ?_ | refine zga ?_ | refine zxa ?_ | refine zca ?_ | refine zcb ?_ | refine zgb ?_ | refine zgd1 ?_ | refine zge ?_ | refine zgf ?_ | refine zgj ?_ | refine zgk ?_ | refine eqStr ?_ | refine neqStr ?_ | refine eqSlNil ?_ | refine capSlice ?_ | refine zgm ?_ | refine zgn ?_ | refine zgo ?_ | refine zba ?_ | refine zbb ?_ | refine zbc ?_ | refine zbd ?_ | refine zbe ?_ | refine zbf ?_ | refine zia ?_ | refine zib ?_ | refine zic ?_ | refine zid1 ?_ | refine zif1 ?_ | refine zig ?_ | refine zih ?_ | refine lint_u8_mod ?_ | refine zua ?_ | refine zgs ?_ | refine LRes.mk ?_ | refine LIn.step ?_ | refine zdr ?_ | refine zna (fun _ => ?_) | refine znb (fun _ => ?_) | refine znc (fun _ => ?_) | refine newSlice0 (fun _ => ?_)))
        have hne : ¬ xs = ys := fun q => he (by rw [q])
        show Fin _ _ _; exact Fin.of M zEn ⟨by rw [decide_eq_false hne], rfl⟩
    · repeat ((conv => whnf); (first | refine ztx ?_ | refine LNext.nilr ?_ | refine zne ?_ | refine zga ?_ | refine zxa ?_ | refine zca ?_ | refine zcb ?_ | refine zgb ?_ | refine zgd1 ?_ | refine zge ?_ | refine zgf ?_ | refine zgj ?_ | refine zgk ?_ | refine eqStr ?_ | refine neqStr ?_ | refine eqSlNil ?_ | refine capSlice ?_ | refine zgm ?_ | refine zgn ?_ | refine zgo ?_ | refine zba ?_ | refine zbb ?_ | refine zbc ?_ | refine zbd ?_ | refine zbe ?_ | refine zbf ?_ | refine zia ?_ | refine zib ?_ | refine zic ?_ | refine zid1 ?_ | refine zif1 ?_ | refine zig ?_ | refine zih ?_ | refine lint_u8_mod ?_ | refine zua ?_ | refine zgs ?_ | refine LRes.mk ?_ | refine LIn.step ?_ | refine zdr ?_ | refine zna (fun _ => ?_) | refine znb (fun _ => ?_) | refine znc (fun _ => ?_) | refine newSlice0 (fun _ => ?_)))
      have heq : xs = ys := gd_ext hl (fun k hk => hb k (by omega))
      show Fin _ _ _; exact Fin.of M zEn ⟨by rw [decide_eq_true heq], rfl⟩
  · repeat ((conv => whnf); (first | refine ztx ?_ | refine LNext.nilr ?_ | refine zne ?_ | refine zga ?_ | refine zxa ?_ | refine zca ?_ | refine zcb ?_ | refine zgb ?_ | refine zgd1 ?_ | refine zge ?_ | refine zgf ?_ | refine zgj ?_ | refine zgk ?_ | refine eqStr ?_ | refine neqStr ?_ | refine eqSlNil ?_ | refine capSlice ?_ | refine zgm ?_ | refine zgn ?_ | refine zgo ?_ | refine zba ?_ | refine zbb ?_ | refine zbc ?_ | refine zbd ?_ | refine zbe ?_ | refine zbf ?_ | refine zia ?_ | refine zib ?_ | refine zic ?_ | refine zid1 ?_ | refine zif1 ?_ | refine zig ?_ | refine zih ?_ | refine lint_u8_mod ?_ | refine zua ?_ | refine zgs ?_ | refine LRes.mk ?_ | refine LIn.step ?_ | refine zdr ?_ | refine zna (fun _ => ?_) | refine znb (fun _ => ?_) | refine znc (fun _ => ?_) | refine newSlice0 (fun _ => ?_)))
    have hne : ¬ xs = ys := fun q => hl (by rw [q])
    show Fin _ _ _; exact Fin.of M zEn ⟨by rw [decide_eq_false hne], rfl⟩
section
variable {P : Program} {M N : List As}
theorem newMakeC (Γ : Tab P) {t el : TypeId} {n c : Nat} {z : Value} {sz by' : Nat} {k : Value → As → Prop} (hk : ∀ b, k (.slice (some ⟨b, 0, none⟩) n c) (Sl.pt b (.cells (sliceCells z.cells (c * sz)) el))) (hu : Γ.und t = some (.slice el)) (hi : Γ.inf el = some (z, sz, by')) (hnc : n ≤ c) (hn : c ≤ 9223372036854775807) (hb : by' * c ≤ 281474976710656) :
    LNew P (Instr.makeSlice t (.int .i64 n) (.int .i64 c)) k :=
  ⟨fun b => .slice (some ⟨b, 0, none⟩) n c, .cells (sliceCells z.cells (c * sz)) el, fun w => by
    have h1 := Γ.und_ok _ _ hu
    obtain ⟨i, hi1, hi2, hi3, hi4⟩ := Γ.inf_ok _ _ _ _ hi
    have hw : IntKind.i64.wrap (n : Int) = (n : Int) := IntWalk.i64_in _ (by omega)
    have hw2 : IntKind.i64.wrap (c : Int) = (c : Int) := IntWalk.i64_in _ (by omega)
    have hb' : ¬ ((by' : Int) * (c : Int) > 2 ^ 48) := by
      have : (by' : Int) * (c : Int) = ((by' * c : Nat) : Int) := by simp
      rw [this]; omega
    have hb3 : ¬ ((by' : Int) * (n : Int) > 2 ^ 48) := by
      have h9 : by' * n ≤ by' * c := Nat.mul_le_mul_left _ hnc
      have : (by' : Int) * (n : Int) = ((by' * n : Nat) : Int) := by simp
      rw [this]; omega
    unfold Instr.makeSlice
    have hneg : ¬ ((n : Int) < 0) := by omega
    have hneg2 : ¬ ((c : Int) < 0) := by omega
    have hlt : ¬ ((c : Int) < (n : Int)) := by omega
    have hb2 : ¬ (281474976710656 < (by' : Int) * (c : Int)) := by simpa using hb'
    have hb4 : ¬ (281474976710656 < (by' : Int) * (n : Int)) := by simpa using hb3
    have hz : (zeroValue el).run P w = .ok z w := zero_of Γ hi w
    have hsz : (sizeOf el).run P w = .ok sz w := size_of Γ hi w
    by_cases h0 : c * sz = 0
    · simp [run_underlying h1, asInt, asIntOf, typeInfo, hi1, hi4, hw, hw2, hb', hb2, hb4, hneg, hneg2, hlt, hsz, h0, newRow, sliceCells]
      congr 2
      apply Array.ext'
      simp
    · simp [run_underlying h1, asInt, asIntOf, typeInfo, hi1, hi4, hw, hw2, hb', hb2, hb4, hneg, hneg2, hlt, hsz, h0, hz, newRow, ← sliceCells_eq], hk⟩
theorem Take.room {α : Type} {enc : α → List Value} {z : Array Value} {sz c b n : Nat} {E : TypeId} {M : List As} (x0 : α) (he : ∀ x, (enc x).length = sz) (hz : z.toList = enc x0) (hs : 0 < sz) (hc : c ≤ maxLen) (hn : n ≤ c) : Take (Sl.pt b (.cells (sliceCells z (c * sz)) E) :: M) (ERow E sz enc (some ⟨b, 0, none⟩) n c (List.replicate n x0)) M := ⟨by
  have h1 := (Take.made (E := E) (enc := enc) (z := z) (sz := sz) (n := c) (b := b) (M := M) x0 hz (he x0) hs hc).h
  have h2 := ERow.shrink (E := E) (sz := sz) (enc := enc) he (a := some ⟨b, 0, none⟩) (n := c) (m := n) (cap := c) (xs := List.replicate c x0) (M := M) hn
  rw [List.take_replicate, Nat.min_eq_left hn] at h2
  exact Ent.trans h1 h2⟩
variable {α : Type} {enc : α → List Value} {E : TypeId} {sz : Nat}
theorem storeEnd (Γ : Tab P) {t : TypeId} {g o n cap : Nat} {v z : Value} {by' : Nat} {xs : List α} {k : List As → Prop} (x : α) (tk : Take M (ERow E sz enc (some ⟨g, 0, none⟩) n cap xs) N) (he : ∀ x, (enc x).length = sz) (h2 : Γ.inf t = some (z, sz, by')) (ho : o = n * sz) (hle : n < cap) (hv : v.cells.toList = enc x) (h1 : (enc x).all Value.oneC = true)
    (hk : k (ERow E sz enc (some ⟨g, 0, none⟩) (n + 1) cap (xs ++ [x]) :: N)) : LRunU P (Instr.storeAt t (.pointer (some ⟨g, o, none⟩)) v) M k :=
  ⟨fun M' => M' = ERow E sz enc (some ⟨g, 0, none⟩) (n + 1) cap (xs ++ [x]) :: N, fun F w s => by
    have s1 := s.ent (Ent.app tk.h (Ent.refl F))
    obtain ⟨w', hr, hs', hn⟩ := writeEnd_sat (P := P) (ys := [x]) he (fun y hy => by rw [List.mem_singleton] at hy; rw [hy]; exact h1) (by simp; omega) s1
    refine ⟨w', _, ?_, rfl, hs', hn⟩
    subst ho
    have hsz : v.cells.size = sz := by rw [← Array.length_toList, hv, he]
    have e : List.flatMap enc [x] = v.cells.toList := by simp [hv]
    rw [e] at hr
    simp [Instr.storeAt, Instr.sureAddr, storeVar, size_of Γ h2, hsz, hr], fun M' e => e ▸ hk⟩
theorem copyEndS (Γ : Tab P) {T T' ty : TypeId} {z : Value} {bytes g o n cap dl dc : Nat} {s : ByteArray} {xs : List UInt8} {k : Value → List As → Prop} (tk : Take M (ERow E 1 encU (some ⟨g, 0, none⟩) n cap xs) N) (hu : Γ.und T = some (.slice E)) (hi : Γ.inf E = some (z, 1, bytes))
    (ho : o = n) (hmd : s.size ≤ dl) (hle : n + s.size ≤ cap)
    (hk : k (.int .i64 s.size) (ERow E 1 encU (some ⟨g, 0, none⟩) (n + s.size) cap (xs ++ s.data.toList) :: N)) :
    LRun P (Builtin.copy_ #[T, T'] ty #[.slice (some ⟨g, o, none⟩) dl dc, .string s]) M k :=
  ⟨fun v M' => v = .int .i64 s.size ∧ M' = ERow E 1 encU (some ⟨g, 0, none⟩) (n + s.size) cap (xs ++ s.data.toList) :: N, fun F w st => by
    have s1 := st.ent (Ent.app tk.h (Ent.refl F))
    have hl : s.data.toList.length = s.size := by rw [Array.length_toList]; rfl
    obtain ⟨w', hr, hs', hn⟩ := writeEnd_sat (P := P) (ys := s.data.toList) encU_len (fun y hy => rfl) (by omega) s1
    rw [hl] at hs'
    refine ⟨_, w', _, ?_, ⟨rfl, rfl⟩, hs', hn⟩
    have hu' := Γ.und_ok _ _ hu
    have hmin : Nat.min s.size dl = s.size := Nat.min_eq_left hmd
    subst ho
    rw [Nat.mul_one] at hr
    have hex : s.extract 0 s.size = s := by simp
    have hf : ((s.extract 0 s.size).data.map fun b : UInt8 => Value.int .u8 (b.toNat : Int)).toList = s.data.toList.flatMap encU := by
      rw [hex, Array.toList_map]
      induction s.data.toList with
      | nil => rfl
      | cons a l ih => rw [List.map_cons, List.flatMap_cons, ih]; rfl
    have hf2 : ((s.extract 0 s.size).data.map fun b : UInt8 => Value.int .u8 (b.toNat : Int)) = (s.data.toList.flatMap encU).toArray := by rw [← hf]
    simp [Builtin.copy_, run_underlying hu', Builtin.lenOf, size_of Γ hi, hmin, Builtin.firstCells, hr, goInt]
    have e5 : List.take s.size (List.map (fun b : UInt8 => Value.int .u8 (b.toNat : Int)) s.data.toList) = s.data.toList.flatMap encU := by
      rw [List.take_of_length_le (by rw [List.length_map]; omega)]
      induction s.data.toList with
      | nil => rfl
      | cons a l ih => rw [List.map_cons, List.flatMap_cons, ih]; rfl
    rw [e5, hr]
    rfl, fun v M' ⟨e1, e2⟩ => by subst e1; subst e2; exact hk⟩
end
end Go.Proofs.YtjmfnakplmmpnaaDoor

namespace Go.Proofs.YtjmfnakplmmpnaaDoor
open Go.Sl
set_option linter.unusedVariables false
set_option linter.unusedSimpArgs false
set_option maxRecDepth 100000
set_option maxHeartbeats 1000000
abbrev BufC (wb : Nat) (a : Option Addr) (n cap : Nat) (lr : Int) : As := pt wb (.cells #[.slice a n cap, .int .i64 0, .int .i8 lr] 97)
theorem Len_ct (wb : Nat) (a : Option Addr) (n cap : Nat) (lr : Int) (h : n ≤ 9223372036854775807) : Ctr Tryd.prog 74 #[.pointer (some ⟨wb, 0, none⟩)] [BufC wb a n cap lr] (fun v M' => v = .int .i64 n ∧ M' = [BufC wb a n cap lr]) := by
  refine ctr_of (Γ := tab) (vs := [_]) fn74 rfl ?_
  repeat ((conv => whnf); (first | refine ztx ?_ | refine LNext.nilr ?_ | refine zne ?_ | refine zga ?_ | refine zxa ?_ | refine zca ?_ | refine zcb ?_ | refine zgb ?_ | refine zgd1 ?_ | refine zge ?_ | refine zgf ?_ | refine zgj ?_ | refine zgk ?_ | refine eqStr ?_ | refine neqStr ?_ | refine eqSlNil ?_ | refine capSlice ?_ | refine zgm ?_ | refine zgn ?_ | refine zgo ?_ | refine zba ?_ | refine zbb ?_ | refine zbc ?_ | refine zbd ?_ | refine zbe ?_ | refine zbf ?_ | refine zia ?_ | refine zib ?_ | refine zic ?_ | refine zid1 ?_ | refine zif1 ?_ | refine zig ?_ | refine zih ?_ | refine lint_u8_mod ?_ | refine zua ?_ | refine zgs ?_ | refine LRes.mk ?_ | refine LIn.step ?_ | refine zdr ?_ | refine zna (fun _ => ?_) | refine znb (fun _ => ?_) | refine znc (fun _ => ?_) | refine newSlice0 (fun _ => ?_)))
  show Fin _ _ _; exact Fin.of [BufC wb a n cap lr] zEn ⟨by simp [tupled], rfl⟩
theorem tryYes_ct (wb : Nat) (a : Option Addr) (n cap m : Nat) (lr : Int) (h : n + m ≤ cap) (hc : cap ≤ 9223372036854775807) : Ctr Tryd.prog 57 #[.pointer (some ⟨wb, 0, none⟩), .int .i64 m] [BufC wb a n cap lr] (fun v M' => v = .tuple #[.int .i64 n, .bool true] ∧ M' = [BufC wb a (n + m) cap lr]) := by
  refine ctr_of (Γ := tab) (vs := [_, _]) fn57 rfl ?_
  repeat ((conv => whnf); (first | refine ztx ?_ | refine LNext.nilr ?_ | refine zne ?_ | refine zga ?_ | refine zxa ?_ | refine zca ?_ | refine zcb ?_ | refine zgb ?_ | refine zgd1 ?_ | refine zge ?_ | refine zgf ?_ | refine zgj ?_ | refine zgk ?_ | refine eqStr ?_ | refine neqStr ?_ | refine eqSlNil ?_ | refine capSlice ?_ | refine zgm ?_ | refine zgn ?_ | refine zgo ?_ | refine zba ?_ | refine zbb ?_ | refine zbc ?_ | refine zbd ?_ | refine zbe ?_ | refine zbf ?_ | refine zia ?_ | refine zib ?_ | refine zic ?_ | refine zid1 ?_ | refine zif1 ?_ | refine zig ?_ | refine zih ?_ | refine lint_u8_mod ?_ | refine zua ?_ | refine zgs ?_ | refine LRes.mk ?_ | refine LIn.step ?_ | refine zdr ?_ | refine zna (fun _ => ?_) | refine znb (fun _ => ?_) | refine znc (fun _ => ?_) | refine newSlice0 (fun _ => ?_)))
  refine sliceHi2 tab (hi := n + m) rfl rfl (fun _ _ => h) ?_
  repeat ((conv => whnf); (first | refine ztx ?_ | refine LNext.nilr ?_ | refine zne ?_ | refine zga ?_ | refine zxa ?_ | refine zca ?_ | refine zcb ?_ | refine zgb ?_ | refine zgd1 ?_ | refine zge ?_ | refine zgf ?_ | refine zgj ?_ | refine zgk ?_ | refine eqStr ?_ | refine neqStr ?_ | refine eqSlNil ?_ | refine capSlice ?_ | refine zgm ?_ | refine zgn ?_ | refine zgo ?_ | refine zba ?_ | refine zbb ?_ | refine zbc ?_ | refine zbd ?_ | refine zbe ?_ | refine zbf ?_ | refine zia ?_ | refine zib ?_ | refine zic ?_ | refine zid1 ?_ | refine zif1 ?_ | refine zig ?_ | refine zih ?_ | refine lint_u8_mod ?_ | refine zua ?_ | refine zgs ?_ | refine LRes.mk ?_ | refine LIn.step ?_ | refine zdr ?_ | refine zna (fun _ => ?_) | refine znb (fun _ => ?_) | refine znc (fun _ => ?_) | refine newSlice0 (fun _ => ?_)))
  show Fin _ _ _; exact Fin.of [BufC wb a (n + m) cap lr] zEn ⟨rfl, rfl⟩
theorem tryNo_ct (wb : Nat) (a : Option Addr) (n cap m : Nat) (lr : Int) (h : cap < n + m) (hn : n ≤ cap) (hc : cap ≤ 9223372036854775807) : Ctr Tryd.prog 57 #[.pointer (some ⟨wb, 0, none⟩), .int .i64 m] [BufC wb a n cap lr] (fun v M' => v = .tuple #[.int .i64 0, .bool false] ∧ M' = [BufC wb a n cap lr]) := by
  refine ctr_of (Γ := tab) (vs := [_, _]) fn57 rfl ?_
  repeat ((conv => whnf); (first | refine ztx ?_ | refine LNext.nilr ?_ | refine zne ?_ | refine zga ?_ | refine zxa ?_ | refine zca ?_ | refine zcb ?_ | refine zgb ?_ | refine zgd1 ?_ | refine zge ?_ | refine zgf ?_ | refine zgj ?_ | refine zgk ?_ | refine eqStr ?_ | refine neqStr ?_ | refine eqSlNil ?_ | refine capSlice ?_ | refine zgm ?_ | refine zgn ?_ | refine zgo ?_ | refine zba ?_ | refine zbb ?_ | refine zbc ?_ | refine zbd ?_ | refine zbe ?_ | refine zbf ?_ | refine zia ?_ | refine zib ?_ | refine zic ?_ | refine zid1 ?_ | refine zif1 ?_ | refine zig ?_ | refine zih ?_ | refine lint_u8_mod ?_ | refine zua ?_ | refine zgs ?_ | refine LRes.mk ?_ | refine LIn.step ?_ | refine zdr ?_ | refine zna (fun _ => ?_) | refine znb (fun _ => ?_) | refine znc (fun _ => ?_) | refine newSlice0 (fun _ => ?_)))
  show Fin _ _ _; exact Fin.of [BufC wb a n cap lr] zEn ⟨rfl, rfl⟩
theorem grow0_ct (wb m : Nat) (lr : Int) (h0 : 0 < m) (h : m ≤ 64) : Ctr Tryd.prog 58 #[.pointer (some ⟨wb, 0, none⟩), .int .i64 m] [BufC wb none 0 0 lr] (fun v M' => ∃ g, v = .int .i64 0 ∧ M' = [BufC wb (some ⟨g, 0, none⟩) m 64 lr, BR (some ⟨g, 0, none⟩) 0 64 []]) := by
  refine ctr_of (Γ := tab) (vs := [_, _]) fn58 rfl ?_
  repeat ((conv => whnf); (first | refine ztx ?_ | refine LNext.nilr ?_ | refine zne ?_ | refine zga ?_ | refine zxa ?_ | refine zca ?_ | refine zcb ?_ | refine zgb ?_ | refine zgd1 ?_ | refine zge ?_ | refine zgf ?_ | refine zgj ?_ | refine zgk ?_ | refine eqStr ?_ | refine neqStr ?_ | refine eqSlNil ?_ | refine capSlice ?_ | refine zgm ?_ | refine zgn ?_ | refine zgo ?_ | refine zba ?_ | refine zbb ?_ | refine zbc ?_ | refine zbd ?_ | refine zbe ?_ | refine zbf ?_ | refine zia ?_ | refine zib ?_ | refine zic ?_ | refine zid1 ?_ | refine zif1 ?_ | refine zig ?_ | refine zih ?_ | refine lint_u8_mod ?_ | refine zua ?_ | refine zgs ?_ | refine LRes.mk ?_ | refine LIn.step ?_ | refine zdr ?_ | refine zna (fun _ => ?_) | refine znb (fun _ => ?_) | refine znc (fun _ => ?_) | refine newSlice0 (fun _ => ?_)))
  (first | refine call2 (Len_ct wb none 0 0 lr (by decide)) zSq ?_ | refine ext2 (Len_ct wb none 0 0 lr (by decide)) zSq ?_)
  rintro v rfl
  repeat ((conv => whnf); (first | refine ztx ?_ | refine LNext.nilr ?_ | refine zne ?_ | refine zga ?_ | refine zxa ?_ | refine zca ?_ | refine zcb ?_ | refine zgb ?_ | refine zgd1 ?_ | refine zge ?_ | refine zgf ?_ | refine zgj ?_ | refine zgk ?_ | refine eqStr ?_ | refine neqStr ?_ | refine eqSlNil ?_ | refine capSlice ?_ | refine zgm ?_ | refine zgn ?_ | refine zgo ?_ | refine zba ?_ | refine zbb ?_ | refine zbc ?_ | refine zbd ?_ | refine zbe ?_ | refine zbf ?_ | refine zia ?_ | refine zib ?_ | refine zic ?_ | refine zid1 ?_ | refine zif1 ?_ | refine zig ?_ | refine zih ?_ | refine lint_u8_mod ?_ | refine zua ?_ | refine zgs ?_ | refine LRes.mk ?_ | refine LIn.step ?_ | refine zdr ?_ | refine zna (fun _ => ?_) | refine znb (fun _ => ?_) | refine znc (fun _ => ?_) | refine newSlice0 (fun _ => ?_)))
  (first | refine call2 (tryNo_ct wb none 0 0 m lr (by omega) (by decide) (by decide)) zSq ?_ | refine ext2 (tryNo_ct wb none 0 0 m lr (by omega) (by decide) (by decide)) zSq ?_)
  rintro v rfl
  repeat ((conv => whnf); (first | refine ztx ?_ | refine LNext.nilr ?_ | refine zne ?_ | refine zga ?_ | refine zxa ?_ | refine zca ?_ | refine zcb ?_ | refine zgb ?_ | refine zgd1 ?_ | refine zge ?_ | refine zgf ?_ | refine zgj ?_ | refine zgk ?_ | refine eqStr ?_ | refine neqStr ?_ | refine eqSlNil ?_ | refine capSlice ?_ | refine zgm ?_ | refine zgn ?_ | refine zgo ?_ | refine zba ?_ | refine zbb ?_ | refine zbc ?_ | refine zbd ?_ | refine zbe ?_ | refine zbf ?_ | refine zia ?_ | refine zib ?_ | refine zic ?_ | refine zid1 ?_ | refine zif1 ?_ | refine zig ?_ | refine zih ?_ | refine lint_u8_mod ?_ | refine zua ?_ | refine zgs ?_ | refine LRes.mk ?_ | refine LIn.step ?_ | refine zdr ?_ | refine zna (fun _ => ?_) | refine znb (fun _ => ?_) | refine znc (fun _ => ?_) | refine newSlice0 (fun _ => ?_)))
  refine newMakeC tab (n := m) (c := 64) (fun g => ?_) (by rfl) (by rfl) h (by decide) (by decide)
  repeat ((conv => whnf); (first | refine ztx ?_ | refine LNext.nilr ?_ | refine zne ?_ | refine zga ?_ | refine zxa ?_ | refine zca ?_ | refine zcb ?_ | refine zgb ?_ | refine zgd1 ?_ | refine zge ?_ | refine zgf ?_ | refine zgj ?_ | refine zgk ?_ | refine eqStr ?_ | refine neqStr ?_ | refine eqSlNil ?_ | refine capSlice ?_ | refine zgm ?_ | refine zgn ?_ | refine zgo ?_ | refine zba ?_ | refine zbb ?_ | refine zbc ?_ | refine zbd ?_ | refine zbe ?_ | refine zbf ?_ | refine zia ?_ | refine zib ?_ | refine zic ?_ | refine zid1 ?_ | refine zif1 ?_ | refine zig ?_ | refine zih ?_ | refine lint_u8_mod ?_ | refine zua ?_ | refine zgs ?_ | refine LRes.mk ?_ | refine LIn.step ?_ | refine zdr ?_ | refine zna (fun _ => ?_) | refine znb (fun _ => ?_) | refine znc (fun _ => ?_) | refine newSlice0 (fun _ => ?_)))
  show Fin _ _ _; exact Fin.of [BufC wb (some ⟨g, 0, none⟩) m 64 lr, BR (some ⟨g, 0, none⟩) 0 64 []] (Ent.trans zEn (Ent.cons _ (Take.room (E := 5) (enc := encU) (n := 0) (c := 64) (0 : UInt8) encU_len rfl (by decide) (by decide) (by decide)).h)) ⟨g, rfl, rfl⟩
end Go.Proofs.YtjmfnakplmmpnaaDoor

namespace Go.Proofs
open Go.Shelf
def Tryd.lay290_ren : Go.Shelf.Ren := ⟨fun | 290 => 76 | 324 => 79 | n => n, fun | 37 => 41 | 3 => 3 | 0 => 0 | 4 => 4 | 20 => 20 | 75 => 99 | 5 => 5 | 80 => 139 | 9 => 9 | n => n, fun | 14 => 0 | n => n⟩
theorem Tryd.lay290 : Go.Proofs.LaysM.n290 Tryd.prog Tryd.lay290_ren := {
  mixed := by kernel_rfl
  f290 := Tryd.func76.trans (congrArg some (by kernel_rfl))
  f324 := Tryd.func79.trans (congrArg some (by kernel_rfl))
  t0 := Tryd.underlying0
  a0 := Tryd.isAgg0
  z0 := Tryd.sizeOf0
  v0 := Tryd.zeroValue0
  t3 := Tryd.underlying3
  a3 := Tryd.isAgg3
  z3 := Tryd.sizeOf3
  v3 := Tryd.zeroValue3
  t4 := Tryd.underlying4
  a4 := Tryd.isAgg4
  z4 := Tryd.sizeOf4
  v4 := Tryd.zeroValue4
  t20 := Tryd.underlying20
  a20 := Tryd.isAgg20
  z20 := Tryd.sizeOf20
  v20 := Tryd.zeroValue20
  t37 := Tryd.underlying41
  a37 := Tryd.isAgg41
  z37 := Tryd.sizeOf41
  v37 := Tryd.zeroValue41
  t75 := Tryd.underlying99
  a75 := Tryd.isAgg99
  z75 := Tryd.sizeOf99
  v75 := Tryd.zeroValue99
  g14 := by kernel_rfl
  t5 := Tryd.underlying5
  a5 := Tryd.isAgg5
  z5 := Tryd.sizeOf5
  v5 := Tryd.zeroValue5
  t9 := Tryd.underlying9
  a9 := Tryd.isAgg9
  z9 := Tryd.sizeOf9
  v9 := Tryd.zeroValue9
  t80 := Tryd.underlying139
  a80 := Tryd.isAgg139
  z80 := Tryd.sizeOf139
  v80 := Tryd.zeroValue139
  i0 := by kernel_rfl
  i3 := by kernel_rfl
  i4 := by kernel_rfl
  i5 := by kernel_rfl
  i9 := by kernel_rfl
  i20 := by kernel_rfl
  i37 := by kernel_rfl
  i75 := by kernel_rfl
  i80 := by kernel_rfl
  m14 := by kernel_rfl }
end Go.Proofs

namespace Go.Proofs.YtjmfnakplmmpnaaDoor
open Go.Sl
set_option linter.unusedVariables false
set_option linter.unusedSimpArgs false
set_option maxRecDepth 100000
set_option maxHeartbeats 1000000
theorem growS_ct (M N : List As) (g n cap m : Nat) (bs : Bs) (tk : Take M (BR (some ⟨g, 0, none⟩) n cap bs) N) (h1 : n ≤ cap) (hm : 1 ≤ m) (hs : n + m ≤ 1000000) (hc : cap ≤ 1000000) (hl : bs.length = n) :
    Ctr Tryd.prog 76 #[.slice (some ⟨g, 0, none⟩) n cap, .int .i64 m] M (fun v M' => ∃ g' cap', v = .slice (some ⟨g', 0, none⟩) n cap' ∧ n + m ≤ cap' ∧ M' = BR (some ⟨g', 0, none⟩) n cap' bs :: M) :=
  ⟨okg fn76, fun F w s => by
    have s0 := s.ent (Ent.app tk.h (Ent.refl F))
    obtain ⟨k1, k2, d, l1, l2, r, sF⟩ := s0
    have hr := r.2
    rcases hr.2 with ⟨h0, _⟩ | ⟨g', cur, ha, hg, hnc, hcm, hcs, htake⟩
    · cases h0
    cases ha
    have hwg : w.heap[g]? = some (.cells cur 5 (0, 0)) := l1 _ _ hg
    have hone : ∀ v ∈ cur.toList.take n, v.oneCell' = true := fun v hv => by
      rw [Nat.mul_one] at htake
      rw [htake] at hv
      obtain ⟨x, _, hx⟩ := List.mem_flatMap.1 hv
      simp [encU] at hx
      subst hx
      exact oneC_ok rfl
    refine Calls.mono (Any.bytes_growSlice_row Tryd.lay290 g n cap m cur w hwg (by rw [hcs, Nat.mul_one]) h1 hm (by omega) (by omega) hone) ?_
    rintro e w' ⟨cap2, cells, rfl, q1, q2, q3, q4, q5, q6⟩
    have hown : w'.ownsRow w.heap.size 5 1 (.slice (some ⟨w.heap.size, 0, none⟩) n cap2) n (bs.flatMap encU) := by
      refine ⟨by rw [flat_len encU_len, hl], .inr ⟨w.heap.size, cap2, cells, rfl, Nat.le_refl _, q1, by omega, q5, by rw [q2, Nat.mul_one], ?_⟩⟩
      rw [Nat.mul_one] at htake ⊢
      rw [q3, htake]
    obtain ⟨a, c, hv, s3⟩ := Sat.newRow s q6 hown
    injection hv with e1 e2 e3
    subst e1; subst e3
    exact ⟨_, _, rfl, ⟨w.heap.size, cap2, rfl, q4, rfl⟩, s3.ent (Ent.head fun h r => ⟨hl, r⟩), ⟨q6.os, q6.tape, q6.output, q6.size⟩⟩⟩
theorem offA0 (g cap : Nat) : offA (some ⟨g, 0, none⟩) 1 0 cap = some ⟨g, 0, none⟩ := by
  unfold offA
  split <;> rfl
theorem grow1_ct (wb g n cap m : Nat) (lr : Int) (bs : Bs) (h1 : n ≤ cap) (h2 : cap < n + m) (hm : 1 ≤ m) (hs : n + m ≤ 1000000) (hl : bs.length = n) :
    Ctr Tryd.prog 58 #[.pointer (some ⟨wb, 0, none⟩), .int .i64 m] [BufC wb (some ⟨g, 0, none⟩) n cap lr, BR (some ⟨g, 0, none⟩) n cap bs] (fun v M' => ∃ g' cap', v = .int .i64 n ∧ n + m ≤ cap' ∧ M' = [BufC wb (some ⟨g', 0, none⟩) (n + m) cap' lr, BR (some ⟨g', 0, none⟩) n cap' bs]) := by
  refine ctr_of (Γ := tab) (vs := [_, _]) fn58 rfl ?_
  have hcq : ((n : Int) == 0) = decide (n = 0) := by
    by_cases h : n = 0
    · subst h; rfl
    · rw [decide_eq_false h]; simpa using h
  repeat ((conv => whnf); (first | refine ztx ?_ | refine LNext.nilr ?_ | refine zne ?_ | refine zga ?_ | refine zxa ?_ | refine zca ?_ | refine zcb ?_ | refine zgb ?_ | refine zgd1 ?_ | refine zge ?_ | refine zgf ?_ | refine zgj ?_ | refine zgk ?_ | refine eqStr ?_ | refine neqStr ?_ | refine eqSlNil ?_ | refine capSlice ?_ | refine zgm ?_ | refine zgn ?_ | refine zgo ?_ | refine zba ?_ | refine zbb ?_ | refine zbc ?_ | refine zbd ?_ | refine zbe ?_ | refine zbf ?_ | refine zia ?_ | refine zib ?_ | refine zic ?_ | refine zid1 ?_ | refine zif1 ?_ | refine zig ?_ | refine zih ?_ | refine lint_u8_mod ?_ | refine zua ?_ | refine zgs ?_ | refine LRes.mk ?_ | refine LIn.step ?_ | refine zdr ?_ | refine zna (fun _ => ?_) | refine znb (fun _ => ?_) | refine znc (fun _ => ?_) | refine newSlice0 (fun _ => ?_)))
  (first | refine call2 (Len_ct wb (some ⟨g, 0, none⟩) n cap lr (by omega)) zSq ?_ | refine ext2 (Len_ct wb (some ⟨g, 0, none⟩) n cap lr (by omega)) zSq ?_)
  rintro v rfl
  by_cases h0 : n = 0
  · repeat ((conv => whnf); (first | refine ztx ?_ | refine LNext.nilr ?_ | refine zne ?_ | refine zga ?_ | refine zxa ?_ | refine zca ?_ | refine zcb ?_ | refine zgb ?_ | refine zgd1 ?_ | refine zge ?_ | refine zgf ?_ | refine zgj ?_ | refine zgk ?_ | refine eqStr ?_ | refine neqStr ?_ | refine eqSlNil ?_ | refine capSlice ?_ | refine zgm ?_ | refine zgn ?_ | refine zgo ?_ | refine zba ?_ | refine zbb ?_ | refine zbc ?_ | refine zbd ?_ | refine zbe ?_ | refine zbf ?_ | refine zia ?_ | refine zib ?_ | refine zic ?_ | refine zid1 ?_ | refine zif1 ?_ | refine zig ?_ | refine zih ?_ | refine lint_u8_mod ?_ | refine zua ?_ | refine zgs ?_ | refine LRes.mk ?_ | refine LIn.step ?_ | refine zdr ?_ | refine zna (fun _ => ?_) | refine znb (fun _ => ?_) | refine znc (fun _ => ?_) | refine newSlice0 (fun _ => ?_)))
    (first | refine call2 (tryNo_ct wb (some ⟨g, 0, none⟩) n cap m lr h2 h1 (by omega)) zSq ?_ | refine ext2 (tryNo_ct wb (some ⟨g, 0, none⟩) n cap m lr h2 h1 (by omega)) zSq ?_)
    rintro v rfl
    repeat ((conv => whnf); (first | refine ztx ?_ | refine LNext.nilr ?_ | refine zne ?_ | refine zga ?_ | refine zxa ?_ | refine zca ?_ | refine zcb ?_ | refine zgb ?_ | refine zgd1 ?_ | refine zge ?_ | refine zgf ?_ | refine zgj ?_ | refine zgk ?_ | refine eqStr ?_ | refine neqStr ?_ | refine eqSlNil ?_ | refine capSlice ?_ | refine zgm ?_ | refine zgn ?_ | refine zgo ?_ | refine zba ?_ | refine zbb ?_ | refine zbc ?_ | refine zbd ?_ | refine zbe ?_ | refine zbf ?_ | refine zia ?_ | refine zib ?_ | refine zic ?_ | refine zid1 ?_ | refine zif1 ?_ | refine zig ?_ | refine zih ?_ | refine lint_u8_mod ?_ | refine zua ?_ | refine zgs ?_ | refine LRes.mk ?_ | refine LIn.step ?_ | refine zdr ?_ | refine zna (fun _ => ?_) | refine znb (fun _ => ?_) | refine znc (fun _ => ?_) | refine newSlice0 (fun _ => ?_)))
    refine ldiv (cap / 2) (by decide) (tdiv_nat cap 2) (by omega) ?_
    repeat ((conv => whnf); (first | refine ztx ?_ | refine LNext.nilr ?_ | refine zne ?_ | refine zga ?_ | refine zxa ?_ | refine zca ?_ | refine zcb ?_ | refine zgb ?_ | refine zgd1 ?_ | refine zge ?_ | refine zgf ?_ | refine zgj ?_ | refine zgk ?_ | refine eqStr ?_ | refine neqStr ?_ | refine eqSlNil ?_ | refine capSlice ?_ | refine zgm ?_ | refine zgn ?_ | refine zgo ?_ | refine zba ?_ | refine zbb ?_ | refine zbc ?_ | refine zbd ?_ | refine zbe ?_ | refine zbf ?_ | refine zia ?_ | refine zib ?_ | refine zic ?_ | refine zid1 ?_ | refine zif1 ?_ | refine zig ?_ | refine zih ?_ | refine lint_u8_mod ?_ | refine zua ?_ | refine zgs ?_ | refine LRes.mk ?_ | refine LIn.step ?_ | refine zdr ?_ | refine zna (fun _ => ?_) | refine znb (fun _ => ?_) | refine znc (fun _ => ?_) | refine newSlice0 (fun _ => ?_)))
    refine sliceLo2 tab (lo := 0) rfl rfl (Nat.zero_le _) ?_
    rw [offA0]
    repeat ((conv => whnf); (first | refine ztx ?_ | refine LNext.nilr ?_ | refine zne ?_ | refine zga ?_ | refine zxa ?_ | refine zca ?_ | refine zcb ?_ | refine zgb ?_ | refine zgd1 ?_ | refine zge ?_ | refine zgf ?_ | refine zgj ?_ | refine zgk ?_ | refine eqStr ?_ | refine neqStr ?_ | refine eqSlNil ?_ | refine capSlice ?_ | refine zgm ?_ | refine zgn ?_ | refine zgo ?_ | refine zba ?_ | refine zbb ?_ | refine zbc ?_ | refine zbd ?_ | refine zbe ?_ | refine zbf ?_ | refine zia ?_ | refine zib ?_ | refine zic ?_ | refine zid1 ?_ | refine zif1 ?_ | refine zig ?_ | refine zih ?_ | refine lint_u8_mod ?_ | refine zua ?_ | refine zgs ?_ | refine LRes.mk ?_ | refine LIn.step ?_ | refine zdr ?_ | refine zna (fun _ => ?_) | refine znb (fun _ => ?_) | refine znc (fun _ => ?_) | refine newSlice0 (fun _ => ?_)))
    rw [Int.zero_add]
    refine ext3 (growS_ct _ _ g n cap m bs zTk h1 hm hs (by omega) hl) ?_
    rintro v M' ⟨g', cap', rfl, hcap, rfl⟩
    refine ⟨[BR (some ⟨g', 0, none⟩) n cap' bs], rfl, ?_⟩
    repeat ((conv => whnf); (first | refine ztx ?_ | refine LNext.nilr ?_ | refine zne ?_ | refine zga ?_ | refine zxa ?_ | refine zca ?_ | refine zcb ?_ | refine zgb ?_ | refine zgd1 ?_ | refine zge ?_ | refine zgf ?_ | refine zgj ?_ | refine zgk ?_ | refine eqStr ?_ | refine neqStr ?_ | refine eqSlNil ?_ | refine capSlice ?_ | refine zgm ?_ | refine zgn ?_ | refine zgo ?_ | refine zba ?_ | refine zbb ?_ | refine zbc ?_ | refine zbd ?_ | refine zbe ?_ | refine zbf ?_ | refine zia ?_ | refine zib ?_ | refine zic ?_ | refine zid1 ?_ | refine zif1 ?_ | refine zig ?_ | refine zih ?_ | refine lint_u8_mod ?_ | refine zua ?_ | refine zgs ?_ | refine LRes.mk ?_ | refine LIn.step ?_ | refine zdr ?_ | refine zna (fun _ => ?_) | refine znb (fun _ => ?_) | refine znc (fun _ => ?_) | refine newSlice0 (fun _ => ?_)))
    refine sliceHi2 tab (hi := n + m) rfl rfl (fun _ _ => hcap) ?_
    repeat ((conv => whnf); (first | refine ztx ?_ | refine LNext.nilr ?_ | refine zne ?_ | refine zga ?_ | refine zxa ?_ | refine zca ?_ | refine zcb ?_ | refine zgb ?_ | refine zgd1 ?_ | refine zge ?_ | refine zgf ?_ | refine zgj ?_ | refine zgk ?_ | refine eqStr ?_ | refine neqStr ?_ | refine eqSlNil ?_ | refine capSlice ?_ | refine zgm ?_ | refine zgn ?_ | refine zgo ?_ | refine zba ?_ | refine zbb ?_ | refine zbc ?_ | refine zbd ?_ | refine zbe ?_ | refine zbf ?_ | refine zia ?_ | refine zib ?_ | refine zic ?_ | refine zid1 ?_ | refine zif1 ?_ | refine zig ?_ | refine zih ?_ | refine lint_u8_mod ?_ | refine zua ?_ | refine zgs ?_ | refine LRes.mk ?_ | refine LIn.step ?_ | refine zdr ?_ | refine zna (fun _ => ?_) | refine znb (fun _ => ?_) | refine znc (fun _ => ?_) | refine newSlice0 (fun _ => ?_)))
    show Fin _ _ _; exact Fin.of [BufC wb (some ⟨g', 0, none⟩) (n + m) cap' lr, BR (some ⟨g', 0, none⟩) n cap' bs] zEn ⟨g', cap', rfl, hcap, rfl⟩
  · repeat ((conv => whnf); (first | refine ztx ?_ | refine LNext.nilr ?_ | refine zne ?_ | refine zga ?_ | refine zxa ?_ | refine zca ?_ | refine zcb ?_ | refine zgb ?_ | refine zgd1 ?_ | refine zge ?_ | refine zgf ?_ | refine zgj ?_ | refine zgk ?_ | refine eqStr ?_ | refine neqStr ?_ | refine eqSlNil ?_ | refine capSlice ?_ | refine zgm ?_ | refine zgn ?_ | refine zgo ?_ | refine zba ?_ | refine zbb ?_ | refine zbc ?_ | refine zbd ?_ | refine zbe ?_ | refine zbf ?_ | refine zia ?_ | refine zib ?_ | refine zic ?_ | refine zid1 ?_ | refine zif1 ?_ | refine zig ?_ | refine zih ?_ | refine lint_u8_mod ?_ | refine zua ?_ | refine zgs ?_ | refine LRes.mk ?_ | refine LIn.step ?_ | refine zdr ?_ | refine zna (fun _ => ?_) | refine znb (fun _ => ?_) | refine znc (fun _ => ?_) | refine newSlice0 (fun _ => ?_)))
    (first | refine call2 (tryNo_ct wb (some ⟨g, 0, none⟩) n cap m lr h2 h1 (by omega)) zSq ?_ | refine ext2 (tryNo_ct wb (some ⟨g, 0, none⟩) n cap m lr h2 h1 (by omega)) zSq ?_)
    rintro v rfl
    repeat ((conv => whnf); (first | refine ztx ?_ | refine LNext.nilr ?_ | refine zne ?_ | refine zga ?_ | refine zxa ?_ | refine zca ?_ | refine zcb ?_ | refine zgb ?_ | refine zgd1 ?_ | refine zge ?_ | refine zgf ?_ | refine zgj ?_ | refine zgk ?_ | refine eqStr ?_ | refine neqStr ?_ | refine eqSlNil ?_ | refine capSlice ?_ | refine zgm ?_ | refine zgn ?_ | refine zgo ?_ | refine zba ?_ | refine zbb ?_ | refine zbc ?_ | refine zbd ?_ | refine zbe ?_ | refine zbf ?_ | refine zia ?_ | refine zib ?_ | refine zic ?_ | refine zid1 ?_ | refine zif1 ?_ | refine zig ?_ | refine zih ?_ | refine lint_u8_mod ?_ | refine zua ?_ | refine zgs ?_ | refine LRes.mk ?_ | refine LIn.step ?_ | refine zdr ?_ | refine zna (fun _ => ?_) | refine znb (fun _ => ?_) | refine znc (fun _ => ?_) | refine newSlice0 (fun _ => ?_)))
    refine ldiv (cap / 2) (by decide) (tdiv_nat cap 2) (by omega) ?_
    repeat ((conv => whnf); (first | refine ztx ?_ | refine LNext.nilr ?_ | refine zne ?_ | refine zga ?_ | refine zxa ?_ | refine zca ?_ | refine zcb ?_ | refine zgb ?_ | refine zgd1 ?_ | refine zge ?_ | refine zgf ?_ | refine zgj ?_ | refine zgk ?_ | refine eqStr ?_ | refine neqStr ?_ | refine eqSlNil ?_ | refine capSlice ?_ | refine zgm ?_ | refine zgn ?_ | refine zgo ?_ | refine zba ?_ | refine zbb ?_ | refine zbc ?_ | refine zbd ?_ | refine zbe ?_ | refine zbf ?_ | refine zia ?_ | refine zib ?_ | refine zic ?_ | refine zid1 ?_ | refine zif1 ?_ | refine zig ?_ | refine zih ?_ | refine lint_u8_mod ?_ | refine zua ?_ | refine zgs ?_ | refine LRes.mk ?_ | refine LIn.step ?_ | refine zdr ?_ | refine zna (fun _ => ?_) | refine znb (fun _ => ?_) | refine znc (fun _ => ?_) | refine newSlice0 (fun _ => ?_)))
    refine sliceLo2 tab (lo := 0) rfl rfl (Nat.zero_le _) ?_
    rw [offA0]
    repeat ((conv => whnf); (first | refine ztx ?_ | refine LNext.nilr ?_ | refine zne ?_ | refine zga ?_ | refine zxa ?_ | refine zca ?_ | refine zcb ?_ | refine zgb ?_ | refine zgd1 ?_ | refine zge ?_ | refine zgf ?_ | refine zgj ?_ | refine zgk ?_ | refine eqStr ?_ | refine neqStr ?_ | refine eqSlNil ?_ | refine capSlice ?_ | refine zgm ?_ | refine zgn ?_ | refine zgo ?_ | refine zba ?_ | refine zbb ?_ | refine zbc ?_ | refine zbd ?_ | refine zbe ?_ | refine zbf ?_ | refine zia ?_ | refine zib ?_ | refine zic ?_ | refine zid1 ?_ | refine zif1 ?_ | refine zig ?_ | refine zih ?_ | refine lint_u8_mod ?_ | refine zua ?_ | refine zgs ?_ | refine LRes.mk ?_ | refine LIn.step ?_ | refine zdr ?_ | refine zna (fun _ => ?_) | refine znb (fun _ => ?_) | refine znc (fun _ => ?_) | refine newSlice0 (fun _ => ?_)))
    rw [Int.zero_add]
    refine ext3 (growS_ct _ _ g n cap m bs zTk h1 hm hs (by omega) hl) ?_
    rintro v M' ⟨g', cap', rfl, hcap, rfl⟩
    refine ⟨[BR (some ⟨g', 0, none⟩) n cap' bs], rfl, ?_⟩
    repeat ((conv => whnf); (first | refine ztx ?_ | refine LNext.nilr ?_ | refine zne ?_ | refine zga ?_ | refine zxa ?_ | refine zca ?_ | refine zcb ?_ | refine zgb ?_ | refine zgd1 ?_ | refine zge ?_ | refine zgf ?_ | refine zgj ?_ | refine zgk ?_ | refine eqStr ?_ | refine neqStr ?_ | refine eqSlNil ?_ | refine capSlice ?_ | refine zgm ?_ | refine zgn ?_ | refine zgo ?_ | refine zba ?_ | refine zbb ?_ | refine zbc ?_ | refine zbd ?_ | refine zbe ?_ | refine zbf ?_ | refine zia ?_ | refine zib ?_ | refine zic ?_ | refine zid1 ?_ | refine zif1 ?_ | refine zig ?_ | refine zih ?_ | refine lint_u8_mod ?_ | refine zua ?_ | refine zgs ?_ | refine LRes.mk ?_ | refine LIn.step ?_ | refine zdr ?_ | refine zna (fun _ => ?_) | refine znb (fun _ => ?_) | refine znc (fun _ => ?_) | refine newSlice0 (fun _ => ?_)))
    refine sliceHi2 tab (hi := n + m) rfl rfl (fun _ _ => hcap) ?_
    repeat ((conv => whnf); (first | refine ztx ?_ | refine LNext.nilr ?_ | refine zne ?_ | refine zga ?_ | refine zxa ?_ | refine zca ?_ | refine zcb ?_ | refine zgb ?_ | refine zgd1 ?_ | refine zge ?_ | refine zgf ?_ | refine zgj ?_ | refine zgk ?_ | refine eqStr ?_ | refine neqStr ?_ | refine eqSlNil ?_ | refine capSlice ?_ | refine zgm ?_ | refine zgn ?_ | refine zgo ?_ | refine zba ?_ | refine zbb ?_ | refine zbc ?_ | refine zbd ?_ | refine zbe ?_ | refine zbf ?_ | refine zia ?_ | refine zib ?_ | refine zic ?_ | refine zid1 ?_ | refine zif1 ?_ | refine zig ?_ | refine zih ?_ | refine lint_u8_mod ?_ | refine zua ?_ | refine zgs ?_ | refine LRes.mk ?_ | refine LIn.step ?_ | refine zdr ?_ | refine zna (fun _ => ?_) | refine znb (fun _ => ?_) | refine znc (fun _ => ?_) | refine newSlice0 (fun _ => ?_)))
    show Fin _ _ _; exact Fin.of [BufC wb (some ⟨g', 0, none⟩) (n + m) cap' lr, BR (some ⟨g', 0, none⟩) n cap' bs] zEn ⟨g', cap', rfl, hcap, rfl⟩
end Go.Proofs.YtjmfnakplmmpnaaDoor

namespace Go.Proofs.YtjmfnakplmmpnaaDoor
open Go.Sl
set_option linter.unusedVariables false
set_option linter.unusedSimpArgs false
set_option maxRecDepth 100000
set_option maxHeartbeats 1000000
def Bf (wb : Nat) (bs : Bs) : As := fun h => ∃ (a : Option Addr) (cap : Nat) (lr : Int), Stars [BufC wb a bs.length cap lr, BR a bs.length cap bs] h
theorem Bf.shut {wb : Nat} {bs : Bs} {a : Option Addr} {cap : Nat} {lr : Int} {M : List As} : Ent (BufC wb a bs.length cap lr :: BR a bs.length cap bs :: M) (Bf wb bs :: M) := fun k s => by
  have s' : Stars ([BufC wb a bs.length cap lr, BR a bs.length cap bs] ++ M) k := s
  obtain ⟨h1, h2, d, l1, l2, s1, s2⟩ := Stars.app.1 s'
  exact ⟨h1, h2, d, l1, l2, ⟨a, cap, lr, s1⟩, s2⟩
theorem Bf.open' {wb : Nat} {bs : Bs} {M : List As} (h : Hp) (s : Stars (Bf wb bs :: M) h) : ∃ x : Option Addr × Nat × Int, RowHd x.1 bs.length x.2.1 bs ∧ Stars (BufC wb x.1 bs.length x.2.1 x.2.2 :: BR x.1 bs.length x.2.1 bs :: M) h := by
  obtain ⟨h1, h2, d, l1, l2, ⟨a, cap, lr, s1⟩, s2⟩ := s
  have st : Stars ([BufC wb a bs.length cap lr, BR a bs.length cap bs] ++ M) h := Stars.app.2 ⟨h1, h2, d, l1, l2, s1, s2⟩
  exact ⟨(a, cap, lr), RowHd.of (Take.there Take.here) st, st⟩
theorem Bf.ctr {f : FuncId} {args : Array Value} {wb : Nat} {bs : Bs} {M : List As} {R : Value → List As → Prop} (hc : CallOk Tryd.prog f)
    (h : ∀ a cap lr, RowHd a bs.length cap bs → Ctr Tryd.prog f args (BufC wb a bs.length cap lr :: BR a bs.length cap bs :: M) R) : Ctr Tryd.prog f args (Bf wb bs :: M) R := by
  refine Ctr.ex hc (Bf.open' (wb := wb) (bs := bs) (M := M)) ?_
  rintro ⟨a, cap, lr⟩ hd
  exact h a cap lr hd
theorem grow_ct (wb m : Nat) (a : Option Addr) (cap : Nat) (lr : Int) (bs : Bs) (hd : RowHd a bs.length cap bs) (h2 : cap < bs.length + m) (hm : 1 ≤ m) (hs : bs.length + m ≤ 1000000) (h0 : a = none → m ≤ 64) :
    Ctr Tryd.prog 58 #[.pointer (some ⟨wb, 0, none⟩), .int .i64 m] [BufC wb a bs.length cap lr, BR a bs.length cap bs] (fun v M' => ∃ g' cap', v = .int .i64 bs.length ∧ bs.length + m ≤ cap' ∧ M' = [BufC wb (some ⟨g', 0, none⟩) (bs.length + m) cap' lr, BR (some ⟨g', 0, none⟩) bs.length cap' bs]) := by
  cases a with
  | none =>
    have h3 := hd_nil0 hd rfl
    have h4 := hd.nil rfl
    subst h3
    subst h4
    refine (grow0_ct wb m lr (by omega) (h0 rfl)).weaken (Ent.cons _ (Ent.nil _)) ?_
    rintro v M' ⟨g, rfl, rfl⟩
    exact ⟨g, 64, rfl, by have := h0 rfl; simpa using this, by simp⟩
  | some ad =>
    obtain ⟨g, hg⟩ := hd.some' ad rfl
    rw [hg]
    exact grow1_ct wb g bs.length cap m lr bs hd.le h2 hm hs rfl
theorem bf_room {wb g cap : Nat} {lr : Int} {bs ys : Bs} {n : Nat} (hn : n = (bs ++ ys).length) : Ent [BufC wb (some ⟨g, 0, none⟩) n cap lr, BR (some ⟨g, 0, none⟩) n cap (bs ++ ys)] [Bf wb (bs ++ ys)] := by
  subst hn; exact Bf.shut (M := [])
theorem WByte_ct (wb : Nat) (bs : Bs) (c : UInt8) (hl : bs.length ≤ 100000) : Ctr Tryd.prog 36 #[.pointer (some ⟨wb, 0, none⟩), .int .u8 (c.toNat : Int)] [Bf wb bs] (fun v M' => v = .nilIface ∧ M' = [Bf wb (bs ++ [c])]) := by
  refine Bf.ctr (okg fn36) (fun a cap lr hd => ?_)
  have hle := hd.le
  have hmx := hd.max
  simp only [maxLen] at hmx
  have hl2 : bs.length + 1 = (bs ++ [c]).length := by simp
  refine ctr_of (Γ := tab) (vs := [_, _]) fn36 rfl ?_
  by_cases hroom : bs.length + 1 ≤ cap
  · have hne : a ≠ none := fun q => by have := hd.nil q; omega
    obtain ⟨ad, rfl⟩ := Option.ne_none_iff_exists'.1 hne
    obtain ⟨g, hg⟩ := hd.some' ad rfl
    rw [hg]
    repeat ((conv => whnf); (first | refine ztx ?_ | refine LNext.nilr ?_ | refine zne ?_ | refine zga ?_ | refine zxa ?_ | refine zca ?_ | refine zcb ?_ | refine zgb ?_ | refine zgd1 ?_ | refine zge ?_ | refine zgf ?_ | refine zgj ?_ | refine zgk ?_ | refine eqStr ?_ | refine neqStr ?_ | refine eqSlNil ?_ | refine capSlice ?_ | refine zgm ?_ | refine zgn ?_ | refine zgo ?_ | refine zba ?_ | refine zbb ?_ | refine zbc ?_ | refine zbd ?_ | refine zbe ?_ | refine zbf ?_ | refine zia ?_ | refine zib ?_ | refine zic ?_ | refine zid1 ?_ | refine zif1 ?_ | refine zig ?_ | refine zih ?_ | refine lint_u8_mod ?_ | refine zua ?_ | refine zgs ?_ | refine LRes.mk ?_ | refine LIn.step ?_ | refine zdr ?_ | refine zna (fun _ => ?_) | refine znb (fun _ => ?_) | refine znc (fun _ => ?_) | refine newSlice0 (fun _ => ?_)))
    refine call1 (tryYes_ct wb (some ⟨g, 0, none⟩) bs.length cap 1 0 hroom hmx) zSp ?_
    rintro v M' ⟨rfl, rfl⟩
    repeat ((conv => whnf); (first | refine ztx ?_ | refine LNext.nilr ?_ | refine zne ?_ | refine zga ?_ | refine zxa ?_ | refine zca ?_ | refine zcb ?_ | refine zgb ?_ | refine zgd1 ?_ | refine zge ?_ | refine zgf ?_ | refine zgj ?_ | refine zgk ?_ | refine eqStr ?_ | refine neqStr ?_ | refine eqSlNil ?_ | refine capSlice ?_ | refine zgm ?_ | refine zgn ?_ | refine zgo ?_ | refine zba ?_ | refine zbb ?_ | refine zbc ?_ | refine zbd ?_ | refine zbe ?_ | refine zbf ?_ | refine zia ?_ | refine zib ?_ | refine zic ?_ | refine zid1 ?_ | refine zif1 ?_ | refine zig ?_ | refine zih ?_ | refine lint_u8_mod ?_ | refine zua ?_ | refine zgs ?_ | refine LRes.mk ?_ | refine LIn.step ?_ | refine zdr ?_ | refine zna (fun _ => ?_) | refine znb (fun _ => ?_) | refine znc (fun _ => ?_) | refine newSlice0 (fun _ => ?_)))
    refine storeEnd tab (n := bs.length) (xs := bs) c zTk encU_len rfl (by omega) (by omega) (by rfl) (by rfl) ?_
    repeat ((conv => whnf); (first | refine ztx ?_ | refine LNext.nilr ?_ | refine zne ?_ | refine zga ?_ | refine zxa ?_ | refine zca ?_ | refine zcb ?_ | refine zgb ?_ | refine zgd1 ?_ | refine zge ?_ | refine zgf ?_ | refine zgj ?_ | refine zgk ?_ | refine eqStr ?_ | refine neqStr ?_ | refine eqSlNil ?_ | refine capSlice ?_ | refine zgm ?_ | refine zgn ?_ | refine zgo ?_ | refine zba ?_ | refine zbb ?_ | refine zbc ?_ | refine zbd ?_ | refine zbe ?_ | refine zbf ?_ | refine zia ?_ | refine zib ?_ | refine zic ?_ | refine zid1 ?_ | refine zif1 ?_ | refine zig ?_ | refine zih ?_ | refine lint_u8_mod ?_ | refine zua ?_ | refine zgs ?_ | refine LRes.mk ?_ | refine LIn.step ?_ | refine zdr ?_ | refine zna (fun _ => ?_) | refine znb (fun _ => ?_) | refine znc (fun _ => ?_) | refine newSlice0 (fun _ => ?_)))
    show Fin _ _ _; exact Fin.of [Bf wb (bs ++ [c])] (Ent.trans zEn (bf_room (cap := cap) (lr := 0) hl2)) ⟨rfl, rfl⟩
  · repeat ((conv => whnf); (first | refine ztx ?_ | refine LNext.nilr ?_ | refine zne ?_ | refine zga ?_ | refine zxa ?_ | refine zca ?_ | refine zcb ?_ | refine zgb ?_ | refine zgd1 ?_ | refine zge ?_ | refine zgf ?_ | refine zgj ?_ | refine zgk ?_ | refine eqStr ?_ | refine neqStr ?_ | refine eqSlNil ?_ | refine capSlice ?_ | refine zgm ?_ | refine zgn ?_ | refine zgo ?_ | refine zba ?_ | refine zbb ?_ | refine zbc ?_ | refine zbd ?_ | refine zbe ?_ | refine zbf ?_ | refine zia ?_ | refine zib ?_ | refine zic ?_ | refine zid1 ?_ | refine zif1 ?_ | refine zig ?_ | refine zih ?_ | refine lint_u8_mod ?_ | refine zua ?_ | refine zgs ?_ | refine LRes.mk ?_ | refine LIn.step ?_ | refine zdr ?_ | refine zna (fun _ => ?_) | refine znb (fun _ => ?_) | refine znc (fun _ => ?_) | refine newSlice0 (fun _ => ?_)))
    refine call1 (tryNo_ct wb a bs.length cap 1 0 (by omega) hle hmx) zSp ?_
    rintro v M' ⟨rfl, rfl⟩
    repeat ((conv => whnf); (first | refine ztx ?_ | refine LNext.nilr ?_ | refine zne ?_ | refine zga ?_ | refine zxa ?_ | refine zca ?_ | refine zcb ?_ | refine zgb ?_ | refine zgd1 ?_ | refine zge ?_ | refine zgf ?_ | refine zgj ?_ | refine zgk ?_ | refine eqStr ?_ | refine neqStr ?_ | refine eqSlNil ?_ | refine capSlice ?_ | refine zgm ?_ | refine zgn ?_ | refine zgo ?_ | refine zba ?_ | refine zbb ?_ | refine zbc ?_ | refine zbd ?_ | refine zbe ?_ | refine zbf ?_ | refine zia ?_ | refine zib ?_ | refine zic ?_ | refine zid1 ?_ | refine zif1 ?_ | refine zig ?_ | refine zih ?_ | refine lint_u8_mod ?_ | refine zua ?_ | refine zgs ?_ | refine LRes.mk ?_ | refine LIn.step ?_ | refine zdr ?_ | refine zna (fun _ => ?_) | refine znb (fun _ => ?_) | refine znc (fun _ => ?_) | refine newSlice0 (fun _ => ?_)))
    refine call1 (grow_ct wb 1 a cap 0 bs hd (by omega) (Nat.le_refl _) (by omega) (fun _ => by decide)) zSp ?_
    rintro v M' ⟨g', cap', rfl, hc', rfl⟩
    repeat ((conv => whnf); (first | refine ztx ?_ | refine LNext.nilr ?_ | refine zne ?_ | refine zga ?_ | refine zxa ?_ | refine zca ?_ | refine zcb ?_ | refine zgb ?_ | refine zgd1 ?_ | refine zge ?_ | refine zgf ?_ | refine zgj ?_ | refine zgk ?_ | refine eqStr ?_ | refine neqStr ?_ | refine eqSlNil ?_ | refine capSlice ?_ | refine zgm ?_ | refine zgn ?_ | refine zgo ?_ | refine zba ?_ | refine zbb ?_ | refine zbc ?_ | refine zbd ?_ | refine zbe ?_ | refine zbf ?_ | refine zia ?_ | refine zib ?_ | refine zic ?_ | refine zid1 ?_ | refine zif1 ?_ | refine zig ?_ | refine zih ?_ | refine lint_u8_mod ?_ | refine zua ?_ | refine zgs ?_ | refine LRes.mk ?_ | refine LIn.step ?_ | refine zdr ?_ | refine zna (fun _ => ?_) | refine znb (fun _ => ?_) | refine znc (fun _ => ?_) | refine newSlice0 (fun _ => ?_)))
    refine storeEnd tab (n := bs.length) (xs := bs) c zTk encU_len rfl (by omega) (by omega) (by rfl) (by rfl) ?_
    repeat ((conv => whnf); (first | refine ztx ?_ | refine LNext.nilr ?_ | refine zne ?_ | refine zga ?_ | refine zxa ?_ | refine zca ?_ | refine zcb ?_ | refine zgb ?_ | refine zgd1 ?_ | refine zge ?_ | refine zgf ?_ | refine zgj ?_ | refine zgk ?_ | refine eqStr ?_ | refine neqStr ?_ | refine eqSlNil ?_ | refine capSlice ?_ | refine zgm ?_ | refine zgn ?_ | refine zgo ?_ | refine zba ?_ | refine zbb ?_ | refine zbc ?_ | refine zbd ?_ | refine zbe ?_ | refine zbf ?_ | refine zia ?_ | refine zib ?_ | refine zic ?_ | refine zid1 ?_ | refine zif1 ?_ | refine zig ?_ | refine zih ?_ | refine lint_u8_mod ?_ | refine zua ?_ | refine zgs ?_ | refine LRes.mk ?_ | refine LIn.step ?_ | refine zdr ?_ | refine zna (fun _ => ?_) | refine znb (fun _ => ?_) | refine znc (fun _ => ?_) | refine newSlice0 (fun _ => ?_)))
    show Fin _ _ _; exact Fin.of [Bf wb (bs ++ [c])] (Ent.trans zEn (bf_room (cap := cap') (lr := 0) hl2)) ⟨rfl, rfl⟩
theorem offAn {g n cap : Nat} (h : cap ≠ n) : offA (some ⟨g, 0, none⟩) 1 n cap = some ⟨g, n, none⟩ := by
  unfold offA
  rw [if_neg h]
  show some (Addr.add _ _) = _
  unfold Addr.add
  split <;> simp_all
theorem WStr_ct (wb : Nat) (bs : Bs) (s : ByteArray) (hl : bs.length + s.size ≤ 100000) (hs : 0 < s.size) (hb : bs ≠ []) : Ctr Tryd.prog 59 #[.pointer (some ⟨wb, 0, none⟩), .string s] [Bf wb bs] (fun v M' => v = .tuple #[.int .i64 s.size, .nilIface] ∧ M' = [Bf wb (bs ++ s.data.toList)]) := by
  refine Bf.ctr (okg fn59) (fun a cap lr hd => ?_)
  have hle := hd.le
  have hmx := hd.max
  simp only [maxLen] at hmx
  have hsl : s.data.toList.length = s.size := by rw [Array.length_toList]; rfl
  have hl2 : bs.length + s.size = (bs ++ s.data.toList).length := by rw [List.length_append, hsl]
  have hne : a ≠ none := fun q => hb (hd_nil0 hd q)
  obtain ⟨ad, rfl⟩ := Option.ne_none_iff_exists'.1 hne
  obtain ⟨g, hg⟩ := hd.some' ad rfl
  refine ctr_of (Γ := tab) (vs := [_, _]) fn59 rfl ?_
  by_cases hroom : bs.length + s.size ≤ cap
  · rw [hg]
    repeat ((conv => whnf); (first | refine ztx ?_ | refine LNext.nilr ?_ | refine zne ?_ | refine zga ?_ | refine zxa ?_ | refine zca ?_ | refine zcb ?_ | refine zgb ?_ | refine zgd1 ?_ | refine zge ?_ | refine zgf ?_ | refine zgj ?_ | refine zgk ?_ | refine eqStr ?_ | refine neqStr ?_ | refine eqSlNil ?_ | refine capSlice ?_ | refine zgm ?_ | refine zgn ?_ | refine zgo ?_ | refine zba ?_ | refine zbb ?_ | refine zbc ?_ | refine zbd ?_ | refine zbe ?_ | refine zbf ?_ | refine zia ?_ | refine zib ?_ | refine zic ?_ | refine zid1 ?_ | refine zif1 ?_ | refine zig ?_ | refine zih ?_ | refine lint_u8_mod ?_ | refine zua ?_ | refine zgs ?_ | refine LRes.mk ?_ | refine LIn.step ?_ | refine zdr ?_ | refine zna (fun _ => ?_) | refine znb (fun _ => ?_) | refine znc (fun _ => ?_) | refine newSlice0 (fun _ => ?_)))
    refine call1 (tryYes_ct wb (some ⟨g, 0, none⟩) bs.length cap s.size 0 hroom hmx) zSp ?_
    rintro v M' ⟨rfl, rfl⟩
    repeat ((conv => whnf); (first | refine ztx ?_ | refine LNext.nilr ?_ | refine zne ?_ | refine zga ?_ | refine zxa ?_ | refine zca ?_ | refine zcb ?_ | refine zgb ?_ | refine zgd1 ?_ | refine zge ?_ | refine zgf ?_ | refine zgj ?_ | refine zgk ?_ | refine eqStr ?_ | refine neqStr ?_ | refine eqSlNil ?_ | refine capSlice ?_ | refine zgm ?_ | refine zgn ?_ | refine zgo ?_ | refine zba ?_ | refine zbb ?_ | refine zbc ?_ | refine zbd ?_ | refine zbe ?_ | refine zbf ?_ | refine zia ?_ | refine zib ?_ | refine zic ?_ | refine zid1 ?_ | refine zif1 ?_ | refine zig ?_ | refine zih ?_ | refine lint_u8_mod ?_ | refine zua ?_ | refine zgs ?_ | refine LRes.mk ?_ | refine LIn.step ?_ | refine zdr ?_ | refine zna (fun _ => ?_) | refine znb (fun _ => ?_) | refine znc (fun _ => ?_) | refine newSlice0 (fun _ => ?_)))
    refine sliceLo2 tab (lo := bs.length) rfl rfl (by omega) ?_
    rw [offAn (by omega)]
    repeat ((conv => whnf); (first | refine ztx ?_ | refine LNext.nilr ?_ | refine zne ?_ | refine zga ?_ | refine zxa ?_ | refine zca ?_ | refine zcb ?_ | refine zgb ?_ | refine zgd1 ?_ | refine zge ?_ | refine zgf ?_ | refine zgj ?_ | refine zgk ?_ | refine eqStr ?_ | refine neqStr ?_ | refine eqSlNil ?_ | refine capSlice ?_ | refine zgm ?_ | refine zgn ?_ | refine zgo ?_ | refine zba ?_ | refine zbb ?_ | refine zbc ?_ | refine zbd ?_ | refine zbe ?_ | refine zbf ?_ | refine zia ?_ | refine zib ?_ | refine zic ?_ | refine zid1 ?_ | refine zif1 ?_ | refine zig ?_ | refine zih ?_ | refine lint_u8_mod ?_ | refine zua ?_ | refine zgs ?_ | refine LRes.mk ?_ | refine LIn.step ?_ | refine zdr ?_ | refine zna (fun _ => ?_) | refine znb (fun _ => ?_) | refine znc (fun _ => ?_) | refine newSlice0 (fun _ => ?_)))
    refine copyEndS tab (n := bs.length) (xs := bs) zTk rfl rfl rfl (by omega) (by omega) ?_
    repeat ((conv => whnf); (first | refine ztx ?_ | refine LNext.nilr ?_ | refine zne ?_ | refine zga ?_ | refine zxa ?_ | refine zca ?_ | refine zcb ?_ | refine zgb ?_ | refine zgd1 ?_ | refine zge ?_ | refine zgf ?_ | refine zgj ?_ | refine zgk ?_ | refine eqStr ?_ | refine neqStr ?_ | refine eqSlNil ?_ | refine capSlice ?_ | refine zgm ?_ | refine zgn ?_ | refine zgo ?_ | refine zba ?_ | refine zbb ?_ | refine zbc ?_ | refine zbd ?_ | refine zbe ?_ | refine zbf ?_ | refine zia ?_ | refine zib ?_ | refine zic ?_ | refine zid1 ?_ | refine zif1 ?_ | refine zig ?_ | refine zih ?_ | refine lint_u8_mod ?_ | refine zua ?_ | refine zgs ?_ | refine LRes.mk ?_ | refine LIn.step ?_ | refine zdr ?_ | refine zna (fun _ => ?_) | refine znb (fun _ => ?_) | refine znc (fun _ => ?_) | refine newSlice0 (fun _ => ?_)))
    show Fin _ _ _; exact Fin.of [Bf wb (bs ++ s.data.toList)] (Ent.trans zEn (bf_room (cap := cap) (lr := 0) hl2)) ⟨rfl, rfl⟩
  · repeat ((conv => whnf); (first | refine ztx ?_ | refine LNext.nilr ?_ | refine zne ?_ | refine zga ?_ | refine zxa ?_ | refine zca ?_ | refine zcb ?_ | refine zgb ?_ | refine zgd1 ?_ | refine zge ?_ | refine zgf ?_ | refine zgj ?_ | refine zgk ?_ | refine eqStr ?_ | refine neqStr ?_ | refine eqSlNil ?_ | refine capSlice ?_ | refine zgm ?_ | refine zgn ?_ | refine zgo ?_ | refine zba ?_ | refine zbb ?_ | refine zbc ?_ | refine zbd ?_ | refine zbe ?_ | refine zbf ?_ | refine zia ?_ | refine zib ?_ | refine zic ?_ | refine zid1 ?_ | refine zif1 ?_ | refine zig ?_ | refine zih ?_ | refine lint_u8_mod ?_ | refine zua ?_ | refine zgs ?_ | refine LRes.mk ?_ | refine LIn.step ?_ | refine zdr ?_ | refine zna (fun _ => ?_) | refine znb (fun _ => ?_) | refine znc (fun _ => ?_) | refine newSlice0 (fun _ => ?_)))
    refine call1 (tryNo_ct wb (some ad) bs.length cap s.size 0 (by omega) hle hmx) zSp ?_
    rintro v M' ⟨rfl, rfl⟩
    repeat ((conv => whnf); (first | refine ztx ?_ | refine LNext.nilr ?_ | refine zne ?_ | refine zga ?_ | refine zxa ?_ | refine zca ?_ | refine zcb ?_ | refine zgb ?_ | refine zgd1 ?_ | refine zge ?_ | refine zgf ?_ | refine zgj ?_ | refine zgk ?_ | refine eqStr ?_ | refine neqStr ?_ | refine eqSlNil ?_ | refine capSlice ?_ | refine zgm ?_ | refine zgn ?_ | refine zgo ?_ | refine zba ?_ | refine zbb ?_ | refine zbc ?_ | refine zbd ?_ | refine zbe ?_ | refine zbf ?_ | refine zia ?_ | refine zib ?_ | refine zic ?_ | refine zid1 ?_ | refine zif1 ?_ | refine zig ?_ | refine zih ?_ | refine lint_u8_mod ?_ | refine zua ?_ | refine zgs ?_ | refine LRes.mk ?_ | refine LIn.step ?_ | refine zdr ?_ | refine zna (fun _ => ?_) | refine znb (fun _ => ?_) | refine znc (fun _ => ?_) | refine newSlice0 (fun _ => ?_)))
    refine call1 (grow_ct wb s.size (some ad) cap 0 bs hd (by omega) (by omega) (by omega) (fun q => by cases q)) zSp ?_
    rintro v M' ⟨g', cap', rfl, hc', rfl⟩
    repeat ((conv => whnf); (first | refine ztx ?_ | refine LNext.nilr ?_ | refine zne ?_ | refine zga ?_ | refine zxa ?_ | refine zca ?_ | refine zcb ?_ | refine zgb ?_ | refine zgd1 ?_ | refine zge ?_ | refine zgf ?_ | refine zgj ?_ | refine zgk ?_ | refine eqStr ?_ | refine neqStr ?_ | refine eqSlNil ?_ | refine capSlice ?_ | refine zgm ?_ | refine zgn ?_ | refine zgo ?_ | refine zba ?_ | refine zbb ?_ | refine zbc ?_ | refine zbd ?_ | refine zbe ?_ | refine zbf ?_ | refine zia ?_ | refine zib ?_ | refine zic ?_ | refine zid1 ?_ | refine zif1 ?_ | refine zig ?_ | refine zih ?_ | refine lint_u8_mod ?_ | refine zua ?_ | refine zgs ?_ | refine LRes.mk ?_ | refine LIn.step ?_ | refine zdr ?_ | refine zna (fun _ => ?_) | refine znb (fun _ => ?_) | refine znc (fun _ => ?_) | refine newSlice0 (fun _ => ?_)))
    refine sliceLo2 tab (lo := bs.length) rfl rfl (by omega) ?_
    rw [offAn (by omega)]
    repeat ((conv => whnf); (first | refine ztx ?_ | refine LNext.nilr ?_ | refine zne ?_ | refine zga ?_ | refine zxa ?_ | refine zca ?_ | refine zcb ?_ | refine zgb ?_ | refine zgd1 ?_ | refine zge ?_ | refine zgf ?_ | refine zgj ?_ | refine zgk ?_ | refine eqStr ?_ | refine neqStr ?_ | refine eqSlNil ?_ | refine capSlice ?_ | refine zgm ?_ | refine zgn ?_ | refine zgo ?_ | refine zba ?_ | refine zbb ?_ | refine zbc ?_ | refine zbd ?_ | refine zbe ?_ | refine zbf ?_ | refine zia ?_ | refine zib ?_ | refine zic ?_ | refine zid1 ?_ | refine zif1 ?_ | refine zig ?_ | refine zih ?_ | refine lint_u8_mod ?_ | refine zua ?_ | refine zgs ?_ | refine LRes.mk ?_ | refine LIn.step ?_ | refine zdr ?_ | refine zna (fun _ => ?_) | refine znb (fun _ => ?_) | refine znc (fun _ => ?_) | refine newSlice0 (fun _ => ?_)))
    refine copyEndS tab (n := bs.length) (xs := bs) zTk rfl rfl rfl (by omega) (by omega) ?_
    repeat ((conv => whnf); (first | refine ztx ?_ | refine LNext.nilr ?_ | refine zne ?_ | refine zga ?_ | refine zxa ?_ | refine zca ?_ | refine zcb ?_ | refine zgb ?_ | refine zgd1 ?_ | refine zge ?_ | refine zgf ?_ | refine zgj ?_ | refine zgk ?_ | refine eqStr ?_ | refine neqStr ?_ | refine eqSlNil ?_ | refine capSlice ?_ | refine zgm ?_ | refine zgn ?_ | refine zgo ?_ | refine zba ?_ | refine zbb ?_ | refine zbc ?_ | refine zbd ?_ | refine zbe ?_ | refine zbf ?_ | refine zia ?_ | refine zib ?_ | refine zic ?_ | refine zid1 ?_ | refine zif1 ?_ | refine zig ?_ | refine zih ?_ | refine lint_u8_mod ?_ | refine zua ?_ | refine zgs ?_ | refine LRes.mk ?_ | refine LIn.step ?_ | refine zdr ?_ | refine zna (fun _ => ?_) | refine znb (fun _ => ?_) | refine znc (fun _ => ?_) | refine newSlice0 (fun _ => ?_)))
    show Fin _ _ _; exact Fin.of [Bf wb (bs ++ s.data.toList)] (Ent.trans zEn (bf_room (cap := cap') (lr := 0) hl2)) ⟨rfl, rfl⟩
theorem Write_ct (wb : Nat) (bs : Bs) (sa : Option Addr) (sc : Nat) (ys : Bs) (hl : bs.length + ys.length ≤ 100000) (hs : 0 < ys.length) (hb : bs ≠ []) : Ctr Tryd.prog 60 #[.pointer (some ⟨wb, 0, none⟩), .slice sa ys.length sc] [Bf wb bs, BR sa ys.length sc ys] (fun v M' => v = .tuple #[.int .i64 ys.length, .nilIface] ∧ M' = [Bf wb (bs ++ ys), BR sa ys.length sc ys]) := by
  refine Bf.ctr (okg fn60) (fun a cap lr hd => ?_)
  have hle := hd.le
  have hmx := hd.max
  simp only [maxLen] at hmx
  have hl2 : bs.length + ys.length = (bs ++ ys).length := (List.length_append ..).symm
  have hne : a ≠ none := fun q => hb (hd_nil0 hd q)
  obtain ⟨ad, rfl⟩ := Option.ne_none_iff_exists'.1 hne
  obtain ⟨g, hg⟩ := hd.some' ad rfl
  refine Ctr.row (E := 5) (sz := 1) (enc := encU) (a := sa) (n := ys.length) (cap := sc) (xs := ys) (okg fn60) zTk (fun hdy => ?_)
  refine ctr_of (Γ := tab) (vs := [_, _]) fn60 rfl ?_
  by_cases hroom : bs.length + ys.length ≤ cap
  · rw [hg]
    repeat ((conv => whnf); (first | refine ztx ?_ | refine LNext.nilr ?_ | refine zne ?_ | refine zga ?_ | refine zxa ?_ | refine zca ?_ | refine zcb ?_ | refine zgb ?_ | refine zgd1 ?_ | refine zge ?_ | refine zgf ?_ | refine zgj ?_ | refine zgk ?_ | refine eqStr ?_ | refine neqStr ?_ | refine eqSlNil ?_ | refine capSlice ?_ | refine zgm ?_ | refine zgn ?_ | refine zgo ?_ | refine zba ?_ | refine zbb ?_ | refine zbc ?_ | refine zbd ?_ | refine zbe ?_ | refine zbf ?_ | refine zia ?_ | refine zib ?_ | refine zic ?_ | refine zid1 ?_ | refine zif1 ?_ | refine zig ?_ | refine zih ?_ | refine lint_u8_mod ?_ | refine zua ?_ | refine zgs ?_ | refine LRes.mk ?_ | refine LIn.step ?_ | refine zdr ?_ | refine zna (fun _ => ?_) | refine znb (fun _ => ?_) | refine znc (fun _ => ?_) | refine newSlice0 (fun _ => ?_)))
    refine call1 (tryYes_ct wb (some ⟨g, 0, none⟩) bs.length cap ys.length 0 hroom hmx) zSp ?_
    rintro v M' ⟨rfl, rfl⟩
    repeat ((conv => whnf); (first | refine ztx ?_ | refine LNext.nilr ?_ | refine zne ?_ | refine zga ?_ | refine zxa ?_ | refine zca ?_ | refine zcb ?_ | refine zgb ?_ | refine zgd1 ?_ | refine zge ?_ | refine zgf ?_ | refine zgj ?_ | refine zgk ?_ | refine eqStr ?_ | refine neqStr ?_ | refine eqSlNil ?_ | refine capSlice ?_ | refine zgm ?_ | refine zgn ?_ | refine zgo ?_ | refine zba ?_ | refine zbb ?_ | refine zbc ?_ | refine zbd ?_ | refine zbe ?_ | refine zbf ?_ | refine zia ?_ | refine zib ?_ | refine zic ?_ | refine zid1 ?_ | refine zif1 ?_ | refine zig ?_ | refine zih ?_ | refine lint_u8_mod ?_ | refine zua ?_ | refine zgs ?_ | refine LRes.mk ?_ | refine LIn.step ?_ | refine zdr ?_ | refine zna (fun _ => ?_) | refine znb (fun _ => ?_) | refine znc (fun _ => ?_) | refine newSlice0 (fun _ => ?_)))
    refine sliceLo2 tab (lo := bs.length) rfl rfl (by omega) ?_
    rw [offAn (by omega)]
    repeat ((conv => whnf); (first | refine ztx ?_ | refine LNext.nilr ?_ | refine zne ?_ | refine zga ?_ | refine zxa ?_ | refine zca ?_ | refine zcb ?_ | refine zgb ?_ | refine zgd1 ?_ | refine zge ?_ | refine zgf ?_ | refine zgj ?_ | refine zgk ?_ | refine eqStr ?_ | refine neqStr ?_ | refine eqSlNil ?_ | refine capSlice ?_ | refine zgm ?_ | refine zgn ?_ | refine zgo ?_ | refine zba ?_ | refine zbb ?_ | refine zbc ?_ | refine zbd ?_ | refine zbe ?_ | refine zbf ?_ | refine zia ?_ | refine zib ?_ | refine zic ?_ | refine zid1 ?_ | refine zif1 ?_ | refine zig ?_ | refine zih ?_ | refine lint_u8_mod ?_ | refine zua ?_ | refine zgs ?_ | refine LRes.mk ?_ | refine LIn.step ?_ | refine zdr ?_ | refine zna (fun _ => ?_) | refine znb (fun _ => ?_) | refine znc (fun _ => ?_) | refine newSlice0 (fun _ => ?_)))
    refine copyEnd tab (n := bs.length) (xs := bs) (m := ys.length) ys zTk encU_len rfl rfl rfl (by omega) rfl (by omega) (by omega) (fun q => absurd (hd_nil0 hdy q) (fun e => by rw [e] at hs; simp at hs)) zRd (fun _ _ => rfl) ?_
    repeat ((conv => whnf); (first | refine ztx ?_ | refine LNext.nilr ?_ | refine zne ?_ | refine zga ?_ | refine zxa ?_ | refine zca ?_ | refine zcb ?_ | refine zgb ?_ | refine zgd1 ?_ | refine zge ?_ | refine zgf ?_ | refine zgj ?_ | refine zgk ?_ | refine eqStr ?_ | refine neqStr ?_ | refine eqSlNil ?_ | refine capSlice ?_ | refine zgm ?_ | refine zgn ?_ | refine zgo ?_ | refine zba ?_ | refine zbb ?_ | refine zbc ?_ | refine zbd ?_ | refine zbe ?_ | refine zbf ?_ | refine zia ?_ | refine zib ?_ | refine zic ?_ | refine zid1 ?_ | refine zif1 ?_ | refine zig ?_ | refine zih ?_ | refine lint_u8_mod ?_ | refine zua ?_ | refine zgs ?_ | refine LRes.mk ?_ | refine LIn.step ?_ | refine zdr ?_ | refine zna (fun _ => ?_) | refine znb (fun _ => ?_) | refine znc (fun _ => ?_) | refine newSlice0 (fun _ => ?_)))
    show Fin _ _ _; exact Fin.of [Bf wb (bs ++ ys), BR sa ys.length sc ys] (Ent.trans zEn (Ent.app (M := [BR sa ys.length sc ys]) (M' := [BR sa ys.length sc ys])  (bf_room (cap := cap) (lr := 0) hl2) (Ent.refl _))) ⟨rfl, rfl⟩
  · repeat ((conv => whnf); (first | refine ztx ?_ | refine LNext.nilr ?_ | refine zne ?_ | refine zga ?_ | refine zxa ?_ | refine zca ?_ | refine zcb ?_ | refine zgb ?_ | refine zgd1 ?_ | refine zge ?_ | refine zgf ?_ | refine zgj ?_ | refine zgk ?_ | refine eqStr ?_ | refine neqStr ?_ | refine eqSlNil ?_ | refine capSlice ?_ | refine zgm ?_ | refine zgn ?_ | refine zgo ?_ | refine zba ?_ | refine zbb ?_ | refine zbc ?_ | refine zbd ?_ | refine zbe ?_ | refine zbf ?_ | refine zia ?_ | refine zib ?_ | refine zic ?_ | refine zid1 ?_ | refine zif1 ?_ | refine zig ?_ | refine zih ?_ | refine lint_u8_mod ?_ | refine zua ?_ | refine zgs ?_ | refine LRes.mk ?_ | refine LIn.step ?_ | refine zdr ?_ | refine zna (fun _ => ?_) | refine znb (fun _ => ?_) | refine znc (fun _ => ?_) | refine newSlice0 (fun _ => ?_)))
    refine call1 (tryNo_ct wb (some ad) bs.length cap ys.length 0 (by omega) hle hmx) zSp ?_
    rintro v M' ⟨rfl, rfl⟩
    repeat ((conv => whnf); (first | refine ztx ?_ | refine LNext.nilr ?_ | refine zne ?_ | refine zga ?_ | refine zxa ?_ | refine zca ?_ | refine zcb ?_ | refine zgb ?_ | refine zgd1 ?_ | refine zge ?_ | refine zgf ?_ | refine zgj ?_ | refine zgk ?_ | refine eqStr ?_ | refine neqStr ?_ | refine eqSlNil ?_ | refine capSlice ?_ | refine zgm ?_ | refine zgn ?_ | refine zgo ?_ | refine zba ?_ | refine zbb ?_ | refine zbc ?_ | refine zbd ?_ | refine zbe ?_ | refine zbf ?_ | refine zia ?_ | refine zib ?_ | refine zic ?_ | refine zid1 ?_ | refine zif1 ?_ | refine zig ?_ | refine zih ?_ | refine lint_u8_mod ?_ | refine zua ?_ | refine zgs ?_ | refine LRes.mk ?_ | refine LIn.step ?_ | refine zdr ?_ | refine zna (fun _ => ?_) | refine znb (fun _ => ?_) | refine znc (fun _ => ?_) | refine newSlice0 (fun _ => ?_)))
    refine call1 (grow_ct wb ys.length (some ad) cap 0 bs hd (by omega) (by omega) (by omega) (fun q => by cases q)) zSp ?_
    rintro v M' ⟨g', cap', rfl, hc', rfl⟩
    repeat ((conv => whnf); (first | refine ztx ?_ | refine LNext.nilr ?_ | refine zne ?_ | refine zga ?_ | refine zxa ?_ | refine zca ?_ | refine zcb ?_ | refine zgb ?_ | refine zgd1 ?_ | refine zge ?_ | refine zgf ?_ | refine zgj ?_ | refine zgk ?_ | refine eqStr ?_ | refine neqStr ?_ | refine eqSlNil ?_ | refine capSlice ?_ | refine zgm ?_ | refine zgn ?_ | refine zgo ?_ | refine zba ?_ | refine zbb ?_ | refine zbc ?_ | refine zbd ?_ | refine zbe ?_ | refine zbf ?_ | refine zia ?_ | refine zib ?_ | refine zic ?_ | refine zid1 ?_ | refine zif1 ?_ | refine zig ?_ | refine zih ?_ | refine lint_u8_mod ?_ | refine zua ?_ | refine zgs ?_ | refine LRes.mk ?_ | refine LIn.step ?_ | refine zdr ?_ | refine zna (fun _ => ?_) | refine znb (fun _ => ?_) | refine znc (fun _ => ?_) | refine newSlice0 (fun _ => ?_)))
    refine sliceLo2 tab (lo := bs.length) rfl rfl (by omega) ?_
    rw [offAn (by omega)]
    repeat ((conv => whnf); (first | refine ztx ?_ | refine LNext.nilr ?_ | refine zne ?_ | refine zga ?_ | refine zxa ?_ | refine zca ?_ | refine zcb ?_ | refine zgb ?_ | refine zgd1 ?_ | refine zge ?_ | refine zgf ?_ | refine zgj ?_ | refine zgk ?_ | refine eqStr ?_ | refine neqStr ?_ | refine eqSlNil ?_ | refine capSlice ?_ | refine zgm ?_ | refine zgn ?_ | refine zgo ?_ | refine zba ?_ | refine zbb ?_ | refine zbc ?_ | refine zbd ?_ | refine zbe ?_ | refine zbf ?_ | refine zia ?_ | refine zib ?_ | refine zic ?_ | refine zid1 ?_ | refine zif1 ?_ | refine zig ?_ | refine zih ?_ | refine lint_u8_mod ?_ | refine zua ?_ | refine zgs ?_ | refine LRes.mk ?_ | refine LIn.step ?_ | refine zdr ?_ | refine zna (fun _ => ?_) | refine znb (fun _ => ?_) | refine znc (fun _ => ?_) | refine newSlice0 (fun _ => ?_)))
    refine copyEnd tab (n := bs.length) (xs := bs) (m := ys.length) ys zTk encU_len rfl rfl rfl (by omega) rfl (by omega) (by omega) (fun q => absurd (hd_nil0 hdy q) (fun e => by rw [e] at hs; simp at hs)) zRd (fun _ _ => rfl) ?_
    repeat ((conv => whnf); (first | refine ztx ?_ | refine LNext.nilr ?_ | refine zne ?_ | refine zga ?_ | refine zxa ?_ | refine zca ?_ | refine zcb ?_ | refine zgb ?_ | refine zgd1 ?_ | refine zge ?_ | refine zgf ?_ | refine zgj ?_ | refine zgk ?_ | refine eqStr ?_ | refine neqStr ?_ | refine eqSlNil ?_ | refine capSlice ?_ | refine zgm ?_ | refine zgn ?_ | refine zgo ?_ | refine zba ?_ | refine zbb ?_ | refine zbc ?_ | refine zbd ?_ | refine zbe ?_ | refine zbf ?_ | refine zia ?_ | refine zib ?_ | refine zic ?_ | refine zid1 ?_ | refine zif1 ?_ | refine zig ?_ | refine zih ?_ | refine lint_u8_mod ?_ | refine zua ?_ | refine zgs ?_ | refine LRes.mk ?_ | refine LIn.step ?_ | refine zdr ?_ | refine zna (fun _ => ?_) | refine znb (fun _ => ?_) | refine znc (fun _ => ?_) | refine newSlice0 (fun _ => ?_)))
    show Fin _ _ _; exact Fin.of [Bf wb (bs ++ ys), BR sa ys.length sc ys] (Ent.trans zEn (Ent.app (M := [BR sa ys.length sc ys]) (M' := [BR sa ys.length sc ys])  (bf_room (cap := cap') (lr := 0) hl2) (Ent.refl _))) ⟨rfl, rfl⟩
end Go.Proofs.YtjmfnakplmmpnaaDoor

namespace Go.Proofs.YtjmfnakplmmpnaaDoor
open Go.Sl
set_option linter.unusedVariables false
set_option linter.unusedSimpArgs false
set_option maxRecDepth 100000
set_option maxHeartbeats 1000000
theorem BBytes_ct (wb : Nat) (bs : Bs) (hb : bs ≠ []) : Ctr Tryd.prog 39 #[.pointer (some ⟨wb, 0, none⟩)] [Bf wb bs] (fun v M' => ∃ a cap, v = .slice a bs.length cap ∧ M' = [BR a bs.length cap bs]) := by
  refine Bf.ctr (okg fn39) (fun a cap lr hd => ?_)
  have hne : a ≠ none := fun q => hb (hd_nil0 hd q)
  obtain ⟨ad, rfl⟩ := Option.ne_none_iff_exists'.1 hne
  obtain ⟨g, hg⟩ := hd.some' ad rfl
  rw [hg]
  refine ctr_of (Γ := tab) (vs := [_]) fn39 rfl ?_
  repeat ((conv => whnf); (first | refine ztx ?_ | refine LNext.nilr ?_ | refine zne ?_ | refine zga ?_ | refine zxa ?_ | refine zca ?_ | refine zcb ?_ | refine zgb ?_ | refine zgd1 ?_ | refine zge ?_ | refine zgf ?_ | refine zgj ?_ | refine zgk ?_ | refine eqStr ?_ | refine neqStr ?_ | refine eqSlNil ?_ | refine capSlice ?_ | refine zgm ?_ | refine zgn ?_ | refine zgo ?_ | refine zba ?_ | refine zbb ?_ | refine zbc ?_ | refine zbd ?_ | refine zbe ?_ | refine zbf ?_ | refine zia ?_ | refine zib ?_ | refine zic ?_ | refine zid1 ?_ | refine zif1 ?_ | refine zig ?_ | refine zih ?_ | refine lint_u8_mod ?_ | refine zua ?_ | refine zgs ?_ | refine LRes.mk ?_ | refine LIn.step ?_ | refine zdr ?_ | refine zna (fun _ => ?_) | refine znb (fun _ => ?_) | refine znc (fun _ => ?_) | refine newSlice0 (fun _ => ?_)))
  refine sliceLo2 tab (lo := 0) rfl rfl (Nat.zero_le _) ?_
  rw [offA0]
  repeat ((conv => whnf); (first | refine ztx ?_ | refine LNext.nilr ?_ | refine zne ?_ | refine zga ?_ | refine zxa ?_ | refine zca ?_ | refine zcb ?_ | refine zgb ?_ | refine zgd1 ?_ | refine zge ?_ | refine zgf ?_ | refine zgj ?_ | refine zgk ?_ | refine eqStr ?_ | refine neqStr ?_ | refine eqSlNil ?_ | refine capSlice ?_ | refine zgm ?_ | refine zgn ?_ | refine zgo ?_ | refine zba ?_ | refine zbb ?_ | refine zbc ?_ | refine zbd ?_ | refine zbe ?_ | refine zbf ?_ | refine zia ?_ | refine zib ?_ | refine zic ?_ | refine zid1 ?_ | refine zif1 ?_ | refine zig ?_ | refine zih ?_ | refine lint_u8_mod ?_ | refine zua ?_ | refine zgs ?_ | refine LRes.mk ?_ | refine LIn.step ?_ | refine zdr ?_ | refine zna (fun _ => ?_) | refine znb (fun _ => ?_) | refine znc (fun _ => ?_) | refine newSlice0 (fun _ => ?_)))
  show Fin _ _ _; exact Fin.of [BR (some ⟨g, 0, none⟩) bs.length cap bs] zEn ⟨_, _, rfl, rfl⟩
def encN (n : Nat) : List Value := [.int .i64 (n : Int)]
def sevs (l : List Nat) : Bs := l.flatMap seven
theorem sevs_snoc (l : List Nat) (n : Nat) : sevs (l ++ [n]) = sevs l ++ seven n := by unfold sevs; rw [List.flatMap_append]; simp
theorem sevs_len : ∀ {l : List Nat}, (∀ n ∈ l, n < 9223372036854775808) → (sevs l).length ≤ 9 * l.length
  | [], _ => Nat.le_refl _
  | n :: l, h => by
    have h1 := sevs_len (l := l) (fun m hm => h m (List.mem_cons_of_mem _ hm))
    have h2 := seven_len (h n (List.mem_cons_self ..))
    unfold sevs at h1 ⊢
    rw [List.flatMap_cons, List.length_append, List.length_cons]; omega
theorem wnum_ct (wb : Nat) (bs : Bs) (a : Option Addr) (cap : Nat) (l : List Nat) (M : List As) (hr : RdH M a 1 encN l) (hl : ∀ n ∈ l, n < 9223372036854775808) (hs : bs.length + 9 * l.length ≤ 50000) (hb : bs ≠ []) :
    Ctr Tryd.prog 38 #[.pointer (some ⟨wb, 0, none⟩), .slice a l.length cap] (Bf wb bs :: M) (fun v M' => v = .tuple #[] ∧ M' = Bf wb (bs ++ sevs l) :: M) := by
  refine ctr_of (Γ := tab) (vs := [_, _]) fn38 rfl ?_
  repeat ((conv => whnf); (first | refine ztx ?_ | refine LNext.nilr ?_ | refine zne ?_ | refine zga ?_ | refine zxa ?_ | refine zca ?_ | refine zcb ?_ | refine zgb ?_ | refine zgd1 ?_ | refine zge ?_ | refine zgf ?_ | refine zgj ?_ | refine zgk ?_ | refine eqStr ?_ | refine neqStr ?_ | refine eqSlNil ?_ | refine capSlice ?_ | refine zgm ?_ | refine zgn ?_ | refine zgo ?_ | refine zba ?_ | refine zbb ?_ | refine zbc ?_ | refine zbd ?_ | refine zbe ?_ | refine zbf ?_ | refine zia ?_ | refine zib ?_ | refine zic ?_ | refine zid1 ?_ | refine zif1 ?_ | refine zig ?_ | refine zih ?_ | refine lint_u8_mod ?_ | refine zua ?_ | refine zgs ?_ | refine LRes.mk ?_ | refine LIn.step ?_ | refine zdr ?_ | refine zna (fun _ => ?_) | refine znb (fun _ => ?_) | refine znc (fun _ => ?_) | refine newSlice0 (fun _ => ?_)))
  refine LLoop.invN (fun i : Nat => [(0, .pointer (some ⟨wb, 0, none⟩)), (6, .slice a l.length cap), (7, .int .i64 l.length), (8, .int .i64 i)]) (fun i => Bf wb (bs ++ sevs (l.take i)) :: M) (fun i => i ≤ l.length) (fun i => l.length - i) 0 (Nat.zero_le _) zSu (by rw [List.take_zero]; show Ent _ (Bf wb (bs ++ []) :: M); rw [List.append_nil]; exact zEn) ?_
  intro i hi
  by_cases h1 : i < l.length
  · refine LNext.rd (a := a) (xs := l) (sz := 1) (enc := encN) hr.there (fun rx => ?_)
    obtain ⟨g, o, rfl, lz⟩ := rx.get h1
    have hn := hl _ (gd_mem h1)
    have hsl := sevs_len (l := l.take i) (fun n hn => hl n (List.mem_of_mem_take hn))
    have hs7 := seven_len hn
    have htl : (l.take i).length = i := by rw [List.length_take]; omega
    have htk : bs ++ sevs (l.take (i + 1)) = bs ++ sevs (l.take i) ++ seven (gd l i) := by rw [gd_take h1, sevs_snoc, List.append_assoc]
    have hbl : (bs ++ sevs (l.take i)).length = bs.length + (sevs (l.take i)).length := List.length_append ..
    have hbn : bs ++ sevs (l.take i) ≠ [] := fun q => hb (List.append_eq_nil_iff.1 q).1
    refine LNext.go tab ?_
    repeat ((conv => whnf); (first | refine ztx ?_ | refine LNext.nilr ?_ | refine zne ?_ | refine zga ?_ | refine zxa ?_ | refine zca ?_ | refine zcb ?_ | refine zgb ?_ | refine zgd1 ?_ | refine zge ?_ | refine zgf ?_ | refine zgj ?_ | refine zgk ?_ | refine eqStr ?_ | refine neqStr ?_ | refine eqSlNil ?_ | refine capSlice ?_ | refine zgm ?_ | refine zgn ?_ | refine zgo ?_ | refine zba ?_ | refine zbb ?_ | refine zbc ?_ | refine zbd ?_ | refine zbe ?_ | refine zbf ?_ | refine zia ?_ | refine zib ?_ | refine zic ?_ | refine zid1 ?_ | refine zif1 ?_ | refine zig ?_ | refine zih ?_ | refine lint_u8_mod ?_ | refine zua ?_ | refine zgs ?_ | refine LRes.mk ?_ | refine LIn.step ?_ | refine zdc ?_ | refine zna (fun _ => ?_) | refine znb (fun _ => ?_) | refine znc (fun _ => ?_) | refine newSlice0 (fun _ => ?_)))
    refine zu64 ?_ (by omega)
    repeat ((conv => whnf); (first | refine ztx ?_ | refine LNext.nilr ?_ | refine zne ?_ | refine zga ?_ | refine zxa ?_ | refine zca ?_ | refine zcb ?_ | refine zgb ?_ | refine zgd1 ?_ | refine zge ?_ | refine zgf ?_ | refine zgj ?_ | refine zgk ?_ | refine eqStr ?_ | refine neqStr ?_ | refine eqSlNil ?_ | refine capSlice ?_ | refine zgm ?_ | refine zgn ?_ | refine zgo ?_ | refine zba ?_ | refine zbb ?_ | refine zbc ?_ | refine zbd ?_ | refine zbe ?_ | refine zbf ?_ | refine zia ?_ | refine zib ?_ | refine zic ?_ | refine zid1 ?_ | refine zif1 ?_ | refine zig ?_ | refine zih ?_ | refine lint_u8_mod ?_ | refine zua ?_ | refine zgs ?_ | refine LRes.mk ?_ | refine LIn.step ?_ | refine zdc ?_ | refine zna (fun _ => ?_) | refine znb (fun _ => ?_) | refine znc (fun _ => ?_) | refine newSlice0 (fun _ => ?_)))
    refine call1 ((sAppend_ct none 0 [] (gd l i) [] (by omega) (by simp)).weaken ent_e0 (fun _ _ h => h)) zSp ?_
    rintro v M' ⟨a1, c1, rfl, rfl⟩
    rw [List.nil_append]
    repeat ((conv => whnf); (first | refine ztx ?_ | refine LNext.nilr ?_ | refine zne ?_ | refine zga ?_ | refine zxa ?_ | refine zca ?_ | refine zcb ?_ | refine zgb ?_ | refine zgd1 ?_ | refine zge ?_ | refine zgf ?_ | refine zgj ?_ | refine zgk ?_ | refine eqStr ?_ | refine neqStr ?_ | refine eqSlNil ?_ | refine capSlice ?_ | refine zgm ?_ | refine zgn ?_ | refine zgo ?_ | refine zba ?_ | refine zbb ?_ | refine zbc ?_ | refine zbd ?_ | refine zbe ?_ | refine zbf ?_ | refine zia ?_ | refine zib ?_ | refine zic ?_ | refine zid1 ?_ | refine zif1 ?_ | refine zig ?_ | refine zih ?_ | refine lint_u8_mod ?_ | refine zua ?_ | refine zgs ?_ | refine LRes.mk ?_ | refine LIn.step ?_ | refine zdc ?_ | refine zna (fun _ => ?_) | refine znb (fun _ => ?_) | refine znc (fun _ => ?_) | refine newSlice0 (fun _ => ?_)))
    refine call1 (Write_ct wb (bs ++ sevs (l.take i)) a1 c1 (seven (gd l i)) (by omega) (by omega) hbn) zSp ?_
    rintro v M' ⟨rfl, rfl⟩
    repeat ((conv => whnf); (first | refine ztx ?_ | refine LNext.nilr ?_ | refine zne ?_ | refine zga ?_ | refine zxa ?_ | refine zca ?_ | refine zcb ?_ | refine zgb ?_ | refine zgd1 ?_ | refine zge ?_ | refine zgf ?_ | refine zgj ?_ | refine zgk ?_ | refine eqStr ?_ | refine neqStr ?_ | refine eqSlNil ?_ | refine capSlice ?_ | refine zgm ?_ | refine zgn ?_ | refine zgo ?_ | refine zba ?_ | refine zbb ?_ | refine zbc ?_ | refine zbd ?_ | refine zbe ?_ | refine zbf ?_ | refine zia ?_ | refine zib ?_ | refine zic ?_ | refine zid1 ?_ | refine zif1 ?_ | refine zig ?_ | refine zih ?_ | refine lint_u8_mod ?_ | refine zua ?_ | refine zgs ?_ | refine LRes.mk ?_ | refine LIn.step ?_ | refine zdc ?_ | refine zna (fun _ => ?_) | refine znb (fun _ => ?_) | refine znc (fun _ => ?_) | refine newSlice0 (fun _ => ?_)))
    rw [← htk]
    exact ⟨i + 1, h1, by omega, zSu, zEn⟩
  · have hil : l.take i = l := List.take_of_length_le (by omega)
    rw [hil]
    refine LNext.go tab ?_
    repeat ((conv => whnf); (first | refine ztx ?_ | refine LNext.nilr ?_ | refine zne ?_ | refine zga ?_ | refine zxa ?_ | refine zca ?_ | refine zcb ?_ | refine zgb ?_ | refine zgd1 ?_ | refine zge ?_ | refine zgf ?_ | refine zgj ?_ | refine zgk ?_ | refine eqStr ?_ | refine neqStr ?_ | refine eqSlNil ?_ | refine capSlice ?_ | refine zgm ?_ | refine zgn ?_ | refine zgo ?_ | refine zba ?_ | refine zbb ?_ | refine zbc ?_ | refine zbd ?_ | refine zbe ?_ | refine zbf ?_ | refine zia ?_ | refine zib ?_ | refine zic ?_ | refine zid1 ?_ | refine zif1 ?_ | refine zig ?_ | refine zih ?_ | refine lint_u8_mod ?_ | refine zua ?_ | refine zgs ?_ | refine LRes.mk ?_ | refine LIn.step ?_ | refine zdr ?_ | refine zna (fun _ => ?_) | refine znb (fun _ => ?_) | refine znc (fun _ => ?_) | refine newSlice0 (fun _ => ?_)))
    show Fin _ _ _; exact Fin.of (Bf wb (bs ++ sevs l) :: M) zEn ⟨rfl, rfl⟩
def txtB (s : ByteArray) : Bs := seven s.size ++ s.data.toList
theorem wtext_ct (wb : Nat) (bs : Bs) (s : ByteArray) (M : List As) (hs : 0 < s.size) (hl : bs.length + s.size ≤ 40000) (hb : bs ≠ []) :
    Ctr Tryd.prog 37 #[.pointer (some ⟨wb, 0, none⟩), .string s] (Bf wb bs :: M) (fun v M' => v = .tuple #[] ∧ M' = Bf wb (bs ++ txtB s) :: M) := by
  have hs7 := seven_len (n := s.size) (by omega)
  refine ctr_of (Γ := tab) (vs := [_, _]) fn37 rfl ?_
  repeat ((conv => whnf); (first | refine ztx ?_ | refine LNext.nilr ?_ | refine zne ?_ | refine zga ?_ | refine zxa ?_ | refine zca ?_ | refine zcb ?_ | refine zgb ?_ | refine zgd1 ?_ | refine zge ?_ | refine zgf ?_ | refine zgj ?_ | refine zgk ?_ | refine eqStr ?_ | refine neqStr ?_ | refine eqSlNil ?_ | refine capSlice ?_ | refine zgm ?_ | refine zgn ?_ | refine zgo ?_ | refine zba ?_ | refine zbb ?_ | refine zbc ?_ | refine zbd ?_ | refine zbe ?_ | refine zbf ?_ | refine zia ?_ | refine zib ?_ | refine zic ?_ | refine zid1 ?_ | refine zif1 ?_ | refine zig ?_ | refine zih ?_ | refine lint_u8_mod ?_ | refine zua ?_ | refine zgs ?_ | refine LRes.mk ?_ | refine LIn.step ?_ | refine zdr ?_ | refine zna (fun _ => ?_) | refine znb (fun _ => ?_) | refine znc (fun _ => ?_) | refine newSlice0 (fun _ => ?_)))
  rename_i g
  have hwn := wnum_ct wb bs (some ⟨g, 0, none⟩) 1 [s.size] [Sl.pt g (.cells #[.int .i64 s.size] 2 (0, 0))] (RdH.pt (enc := encN) (fun _ => rfl) (by rfl)) (fun n hn => by rw [List.mem_singleton] at hn; omega) (by simp; omega) hb
  have e1 : sevs [s.size] = seven s.size := by unfold sevs; simp
  rw [e1] at hwn
  refine call1 hwn zSp ?_
  rintro v M' ⟨rfl, rfl⟩
  repeat ((conv => whnf); (first | refine ztx ?_ | refine LNext.nilr ?_ | refine zne ?_ | refine zga ?_ | refine zxa ?_ | refine zca ?_ | refine zcb ?_ | refine zgb ?_ | refine zgd1 ?_ | refine zge ?_ | refine zgf ?_ | refine zgj ?_ | refine zgk ?_ | refine eqStr ?_ | refine neqStr ?_ | refine eqSlNil ?_ | refine capSlice ?_ | refine zgm ?_ | refine zgn ?_ | refine zgo ?_ | refine zba ?_ | refine zbb ?_ | refine zbc ?_ | refine zbd ?_ | refine zbe ?_ | refine zbf ?_ | refine zia ?_ | refine zib ?_ | refine zic ?_ | refine zid1 ?_ | refine zif1 ?_ | refine zig ?_ | refine zih ?_ | refine lint_u8_mod ?_ | refine zua ?_ | refine zgs ?_ | refine LRes.mk ?_ | refine LIn.step ?_ | refine zdr ?_ | refine zna (fun _ => ?_) | refine znb (fun _ => ?_) | refine znc (fun _ => ?_) | refine newSlice0 (fun _ => ?_)))
  refine call1 (WStr_ct wb (bs ++ seven s.size) s (by rw [List.length_append]; omega) hs (fun q => hb (List.append_eq_nil_iff.1 q).1)) zSp ?_
  rintro v M' ⟨rfl, rfl⟩
  repeat ((conv => whnf); (first | refine ztx ?_ | refine LNext.nilr ?_ | refine zne ?_ | refine zga ?_ | refine zxa ?_ | refine zca ?_ | refine zcb ?_ | refine zgb ?_ | refine zgd1 ?_ | refine zge ?_ | refine zgf ?_ | refine zgj ?_ | refine zgk ?_ | refine eqStr ?_ | refine neqStr ?_ | refine eqSlNil ?_ | refine capSlice ?_ | refine zgm ?_ | refine zgn ?_ | refine zgo ?_ | refine zba ?_ | refine zbb ?_ | refine zbc ?_ | refine zbd ?_ | refine zbe ?_ | refine zbf ?_ | refine zia ?_ | refine zib ?_ | refine zic ?_ | refine zid1 ?_ | refine zif1 ?_ | refine zig ?_ | refine zih ?_ | refine lint_u8_mod ?_ | refine zua ?_ | refine zgs ?_ | refine LRes.mk ?_ | refine LIn.step ?_ | refine zdr ?_ | refine zna (fun _ => ?_) | refine znb (fun _ => ?_) | refine znc (fun _ => ?_) | refine newSlice0 (fun _ => ?_)))
  refine Fin.of (Bf wb (bs ++ txtB s) :: M) ?_ ⟨rfl, rfl⟩
  unfold txtB
  rw [← List.append_assoc]
  exact zEn
end Go.Proofs.YtjmfnakplmmpnaaDoor

namespace Go.Proofs.YtjmfnakplmmpnaaDoor
open Go.Sl
set_option linter.unusedVariables false
set_option linter.unusedSimpArgs false
set_option maxRecDepth 100000
set_option maxHeartbeats 1000000
theorem decode_pos (s : ByteArray) (i : Nat) : 1 ≤ (Utf8.decode s i).2 := by
  unfold Utf8.decode
  dsimp only
  repeat' split
  all_goals first | exact Nat.le_refl 1 | (show 1 ≤ 2; decide) | (show 1 ≤ 3; decide) | (show 1 ≤ 4; decide)
def okR (c : Nat) : Bool := (decide (97 ≤ c) && decide (c ≤ 122)) || (decide (48 ≤ c) && decide (c ≤ 57)) || decide (c = 45) || decide (c = 95) || (decide (945 ≤ c) && decide (c ≤ 969))
def nmC (s : ByteArray) (pos : Nat) : Option Nat :=
  if h : pos < s.size then
    if okR (Utf8.decode s pos).1 = true then (nmC s (pos + (Utf8.decode s pos).2)).map (· + 1) else none
  else some 0
termination_by s.size - pos
decreasing_by have := decode_pos s pos; omega
def nameR (s : ByteArray) : Bool := match nmC s 0 with
  | some n => decide (1 ≤ n) && decide (n ≤ 16)
  | none => false
section
variable {P : Program} {M N : List As}
theorem rangeStr (Γ : Tab P) {t : TypeId} {s : ByteArray} {k : Value → List As → Prop} (hu : Γ.und t = some .string) (hk : ∀ b, k (.pointer (some ⟨b, 0, none⟩)) (Sl.pt b (.stringIter s 0) :: M)) : LRun P (Instr.range t (.string s)) M k :=
  ⟨fun v M' => ∃ b, v = .pointer (some ⟨b, 0, none⟩) ∧ M' = Sl.pt b (.stringIter s 0) :: M, fun F w st => by
    have hu' := Γ.und_ok _ _ hu
    refine ⟨_, w.alloc (.stringIter s 0), _, ?_, ⟨w.heap.size, rfl, rfl⟩, st.alloc _, Nx.alloc _ _⟩
    have hn : (newObj (.stringIter s 0)).run P w = .ok w.heap.size (w.alloc (.stringIter s 0)) := rfl
    simp [Instr.range, run_underlying hu', hn], fun v M' ⟨b, e1, e2⟩ => by subst e1; subst e2; exact hk b⟩
theorem nextStr {ty : TypeId} {s : ByteArray} {b pos : Nat} {k : Value → List As → Prop} (tk : Take M (Sl.pt b (.stringIter s pos)) N) (hp : pos < s.size)
    (hk : k (.tuple #[.bool true, .int .i64 (pos : Int), .int .i32 ((Utf8.decode s pos).1 : Int)]) (Sl.pt b (.stringIter s (pos + (Utf8.decode s pos).2)) :: N)) : LRun P (Instr.next (.pointer (some ⟨b, 0, none⟩)) true ty) M k :=
  ⟨fun v M' => v = .tuple #[.bool true, .int .i64 (pos : Int), .int .i32 ((Utf8.decode s pos).1 : Int)] ∧ M' = Sl.pt b (.stringIter s (pos + (Utf8.decode s pos).2)) :: N, fun F w st => by
    have s1 := st.ent (Ent.app tk.h (Ent.refl F))
    have hb := Sat.pt s1
    have hlt : b < w.heap.size := (Array.getElem?_eq_some_iff.1 hb).1
    have hg : (getObj b).run P w = .ok (.stringIter s pos) w := by simp [getObj, Sem.run, hb]
    have hset : (setObj b (.stringIter s (pos + (Utf8.decode s pos).2))).run P w = .ok () { w with heap := w.heap.setIfInBounds b (.stringIter s (pos + (Utf8.decode s pos).2)) } := by simp [setObj, Sem.run, hb]
    refine ⟨_, { w with heap := w.heap.setIfInBounds b (.stringIter s (pos + (Utf8.decode s pos).2)) }, _, ?_, ⟨rfl, rfl⟩, Sat.setBlock s1 (fun c hc => ?_) ?_, ⟨rfl, rfl, rfl, by simp⟩⟩
    · simp [Instr.next, hg, hp, hset, goInt]
    · show (w.heap.setIfInBounds b _)[c]? = w.heap[c]?
      rw [Array.getElem?_setIfInBounds_ne (Ne.symm hc)]
    · show (w.heap.setIfInBounds b _)[b]? = _
      rw [Array.getElem?_setIfInBounds_self]
      simp [hlt], fun v M' ⟨e1, e2⟩ => by subst e1; subst e2; exact hk⟩
theorem nextEnd {ty : TypeId} {s : ByteArray} {b pos : Nat} {k : Value → List As → Prop} (tk : Take M (Sl.pt b (.stringIter s pos)) N) (hp : ¬ pos < s.size) (hk : k (.tuple #[.bool false]) M) : LRun P (Instr.next (.pointer (some ⟨b, 0, none⟩)) true ty) M k :=
  ⟨fun v M' => v = .tuple #[.bool false] ∧ M' = M, fun F w st => by
    have s1 := st.ent (Ent.app tk.h (Ent.refl F))
    have hb := Sat.pt s1
    refine ⟨_, w, _, ?_, ⟨rfl, rfl⟩, st, Nx.refl _⟩
    have hg : (getObj b).run P w = .ok (.stringIter s pos) w := by simp [getObj, Sem.run, hb]
    simp [Instr.next, hg, hp], fun v M' ⟨e1, e2⟩ => by subst e1; subst e2; exact hk⟩
end
theorem nmC_step {s : ByteArray} {pos : Nat} (h : pos < s.size) : nmC s pos = if okR (Utf8.decode s pos).1 = true then (nmC s (pos + (Utf8.decode s pos).2)).map (· + 1) else none := by
  rw [nmC, dif_pos h]
theorem nmC_end {s : ByteArray} {pos : Nat} (h : ¬ pos < s.size) : nmC s pos = some 0 := by
  rw [nmC, dif_neg h]
theorem Name_ct (s : ByteArray) (hs : s.size ≤ 9223372036854775806) : Ctr Tryd.prog 62 #[.string s] [] (fun v M' => v = .bool (nameR s) ∧ M' = []) := by
  refine ctr_of (Γ := tab) (vs := [_]) fn62 rfl ?_
  repeat ((conv => whnf); (first | refine ztx ?_ | refine LNext.nilr ?_ | refine zne ?_ | refine zga ?_ | refine zxa ?_ | refine zca ?_ | refine zcb ?_ | refine zgb ?_ | refine zgd1 ?_ | refine zge ?_ | refine zgf ?_ | refine zgj ?_ | refine zgk ?_ | refine eqStr ?_ | refine neqStr ?_ | refine eqSlNil ?_ | refine capSlice ?_ | refine zgm ?_ | refine zgn ?_ | refine zgo ?_ | refine zba ?_ | refine zbb ?_ | refine zbc ?_ | refine zbd ?_ | refine zbe ?_ | refine zbf ?_ | refine zia ?_ | refine zib ?_ | refine zic ?_ | refine zid1 ?_ | refine zif1 ?_ | refine zig ?_ | refine zih ?_ | refine lint_u8_mod ?_ | refine zua ?_ | refine zgs ?_ | refine LRes.mk ?_ | refine LIn.step ?_ | refine zdr ?_ | refine zna (fun _ => ?_) | refine znb (fun _ => ?_) | refine znc (fun _ => ?_) | refine newSlice0 (fun _ => ?_)))
  refine rangeStr tab rfl (fun b => ?_)
  repeat ((conv => whnf); (first | refine ztx ?_ | refine LNext.nilr ?_ | refine zne ?_ | refine zga ?_ | refine zxa ?_ | refine zca ?_ | refine zcb ?_ | refine zgb ?_ | refine zgd1 ?_ | refine zge ?_ | refine zgf ?_ | refine zgj ?_ | refine zgk ?_ | refine eqStr ?_ | refine neqStr ?_ | refine eqSlNil ?_ | refine capSlice ?_ | refine zgm ?_ | refine zgn ?_ | refine zgo ?_ | refine zba ?_ | refine zbb ?_ | refine zbc ?_ | refine zbd ?_ | refine zbe ?_ | refine zbf ?_ | refine zia ?_ | refine zib ?_ | refine zic ?_ | refine zid1 ?_ | refine zif1 ?_ | refine zig ?_ | refine zih ?_ | refine lint_u8_mod ?_ | refine zua ?_ | refine zgs ?_ | refine LRes.mk ?_ | refine LIn.step ?_ | refine zdr ?_ | refine zna (fun _ => ?_) | refine znb (fun _ => ?_) | refine znc (fun _ => ?_) | refine newSlice0 (fun _ => ?_)))
  refine LLoop.invN (fun i : Nat × Nat => [(3, .int .i64 i.2), (7, .pointer (some ⟨b, 0, none⟩))]) (fun i => [pt b (.stringIter s i.1)]) (fun i => i.2 ≤ i.1 ∧ i.2 ≤ s.size ∧ nmC s 0 = (nmC s i.1).map (· + i.2)) (fun i => s.size - i.1) (0, 0) ⟨Nat.le_refl _, Nat.zero_le _, by simp⟩ zSu zEn ?_
  rintro ⟨pos, n⟩ ⟨h1, h2, h3⟩
  dsimp only at h1 h2 h3
  by_cases hp : pos < s.size
  · have hst := nmC_step hp
    have hd := decode_pos s pos
    refine LNext.go tab ?_
    repeat ((conv => whnf); (first | refine ztx ?_ | refine LNext.nilr ?_ | refine zne ?_ | refine zga ?_ | refine zxa ?_ | refine zca ?_ | refine zcb ?_ | refine zgb ?_ | refine zgd1 ?_ | refine zge ?_ | refine zgf ?_ | refine zgj ?_ | refine zgk ?_ | refine eqStr ?_ | refine neqStr ?_ | refine eqSlNil ?_ | refine capSlice ?_ | refine zgm ?_ | refine zgn ?_ | refine zgo ?_ | refine zba ?_ | refine zbb ?_ | refine zbc ?_ | refine zbd ?_ | refine zbe ?_ | refine zbf ?_ | refine zia ?_ | refine zib ?_ | refine zic ?_ | refine zid1 ?_ | refine zif1 ?_ | refine zig ?_ | refine zih ?_ | refine lint_u8_mod ?_ | refine zua ?_ | refine zgs ?_ | refine LRes.mk ?_ | refine LIn.step ?_ | refine zdc ?_ | refine zna (fun _ => ?_) | refine znb (fun _ => ?_) | refine znc (fun _ => ?_) | refine newSlice0 (fun _ => ?_)))
    refine nextStr Take.here hp ?_
    generalize (Utf8.decode s pos).1 = c at hst
    generalize (Utf8.decode s pos).2 = d at hst hd
    repeat ((conv => whnf); (first | refine ztx ?_ | refine LNext.nilr ?_ | refine zne ?_ | refine zga ?_ | refine zxa ?_ | refine zca ?_ | refine zcb ?_ | refine zgb ?_ | refine zgd1 ?_ | refine zge ?_ | refine zgf ?_ | refine zgj ?_ | refine zgk ?_ | refine eqStr ?_ | refine neqStr ?_ | refine eqSlNil ?_ | refine capSlice ?_ | refine zgm ?_ | refine zgn ?_ | refine zgo ?_ | refine zba ?_ | refine zbb ?_ | refine zbc ?_ | refine zbd ?_ | refine zbe ?_ | refine zbf ?_ | refine zia ?_ | refine zib ?_ | refine zic ?_ | refine zid1 ?_ | refine zif1 ?_ | refine zig ?_ | refine zih ?_ | refine lint_u8_mod ?_ | refine zua ?_ | refine zgs ?_ | refine LRes.mk ?_ | refine LIn.step ?_ | refine zdc ?_ | refine zna (fun _ => ?_) | refine znb (fun _ => ?_) | refine znc (fun _ => ?_) | refine newSlice0 (fun _ => ?_)))
    have bad : okR c = false → nameR s = false := fun q => by
      rw [q] at hst
      rw [if_neg (by simp)] at hst
      rw [hst] at h3
      unfold nameR
      rw [h3]
      rfl
    have good : okR c = true → nmC s 0 = (nmC s (pos + d)).map (· + (n + 1)) := fun q => by
      rw [if_pos q] at hst
      rw [h3, hst]
      cases nmC s (pos + d) with
      | none => rfl
      | some m => simp; omega
    rcases (by omega : c < 45 ∨ c = 45 ∨ (45 < c ∧ c < 48) ∨ (48 ≤ c ∧ c ≤ 57) ∨ (57 < c ∧ c < 95) ∨ c = 95 ∨ c = 96 ∨ (97 ≤ c ∧ c ≤ 122) ∨ (122 < c ∧ c < 945) ∨ (945 ≤ c ∧ c ≤ 969) ∨ 969 < c) with q | q | q | q | q | q | q | q | q | q | q
    · have hk : okR c = false := by simp [okR]; omega
      repeat ((conv => whnf); (first | refine ztx ?_ | refine LNext.nilr ?_ | refine zne ?_ | refine zga ?_ | refine zxa ?_ | refine zca ?_ | refine zcb ?_ | refine zgb ?_ | refine zgd1 ?_ | refine zge ?_ | refine zgf ?_ | refine zgj ?_ | refine zgk ?_ | refine eqStr ?_ | refine neqStr ?_ | refine eqSlNil ?_ | refine capSlice ?_ | refine zgm ?_ | refine zgn ?_ | refine zgo ?_ | refine zba ?_ | refine zbb ?_ | refine zbc ?_ | refine zbd ?_ | refine zbe ?_ | refine zbf ?_ | refine zia ?_ | refine zib ?_ | refine zic ?_ | refine zid1 ?_ | refine zif1 ?_ | refine zig ?_ | refine zih ?_ | refine lint_u8_mod ?_ | refine zua ?_ | refine zgs ?_ | refine LRes.mk ?_ | refine LIn.step ?_ | refine zdc ?_ | refine zna (fun _ => ?_) | refine znb (fun _ => ?_) | refine znc (fun _ => ?_) | refine newSlice0 (fun _ => ?_)))
      show Fin _ _ _; exact Fin.of [] zEn ⟨by rw [bad hk], rfl⟩
    · have hk : okR c = true := by simp [okR]; omega
      repeat ((conv => whnf); (first | refine ztx ?_ | refine LNext.nilr ?_ | refine zne ?_ | refine zga ?_ | refine zxa ?_ | refine zca ?_ | refine zcb ?_ | refine zgb ?_ | refine zgd1 ?_ | refine zge ?_ | refine zgf ?_ | refine zgj ?_ | refine zgk ?_ | refine eqStr ?_ | refine neqStr ?_ | refine eqSlNil ?_ | refine capSlice ?_ | refine zgm ?_ | refine zgn ?_ | refine zgo ?_ | refine zba ?_ | refine zbb ?_ | refine zbc ?_ | refine zbd ?_ | refine zbe ?_ | refine zbf ?_ | refine zia ?_ | refine zib ?_ | refine zic ?_ | refine zid1 ?_ | refine zif1 ?_ | refine zig ?_ | refine zih ?_ | refine lint_u8_mod ?_ | refine zua ?_ | refine zgs ?_ | refine LRes.mk ?_ | refine LIn.step ?_ | refine zdc ?_ | refine zna (fun _ => ?_) | refine znb (fun _ => ?_) | refine znc (fun _ => ?_) | refine newSlice0 (fun _ => ?_)))
      exact ⟨(pos + d, n + 1), ⟨by show n + 1 ≤ pos + d; omega, by show n + 1 ≤ s.size; omega, good hk⟩, by show s.size - (pos + d) < s.size - pos; omega, zSu, zEn⟩
    · have hk : okR c = false := by simp [okR]; omega
      repeat ((conv => whnf); (first | refine ztx ?_ | refine LNext.nilr ?_ | refine zne ?_ | refine zga ?_ | refine zxa ?_ | refine zca ?_ | refine zcb ?_ | refine zgb ?_ | refine zgd1 ?_ | refine zge ?_ | refine zgf ?_ | refine zgj ?_ | refine zgk ?_ | refine eqStr ?_ | refine neqStr ?_ | refine eqSlNil ?_ | refine capSlice ?_ | refine zgm ?_ | refine zgn ?_ | refine zgo ?_ | refine zba ?_ | refine zbb ?_ | refine zbc ?_ | refine zbd ?_ | refine zbe ?_ | refine zbf ?_ | refine zia ?_ | refine zib ?_ | refine zic ?_ | refine zid1 ?_ | refine zif1 ?_ | refine zig ?_ | refine zih ?_ | refine lint_u8_mod ?_ | refine zua ?_ | refine zgs ?_ | refine LRes.mk ?_ | refine LIn.step ?_ | refine zdc ?_ | refine zna (fun _ => ?_) | refine znb (fun _ => ?_) | refine znc (fun _ => ?_) | refine newSlice0 (fun _ => ?_)))
      show Fin _ _ _; exact Fin.of [] zEn ⟨by rw [bad hk], rfl⟩
    · have hk : okR c = true := by simp [okR]; omega
      repeat ((conv => whnf); (first | refine ztx ?_ | refine LNext.nilr ?_ | refine zne ?_ | refine zga ?_ | refine zxa ?_ | refine zca ?_ | refine zcb ?_ | refine zgb ?_ | refine zgd1 ?_ | refine zge ?_ | refine zgf ?_ | refine zgj ?_ | refine zgk ?_ | refine eqStr ?_ | refine neqStr ?_ | refine eqSlNil ?_ | refine capSlice ?_ | refine zgm ?_ | refine zgn ?_ | refine zgo ?_ | refine zba ?_ | refine zbb ?_ | refine zbc ?_ | refine zbd ?_ | refine zbe ?_ | refine zbf ?_ | refine zia ?_ | refine zib ?_ | refine zic ?_ | refine zid1 ?_ | refine zif1 ?_ | refine zig ?_ | refine zih ?_ | refine lint_u8_mod ?_ | refine zua ?_ | refine zgs ?_ | refine LRes.mk ?_ | refine LIn.step ?_ | refine zdc ?_ | refine zna (fun _ => ?_) | refine znb (fun _ => ?_) | refine znc (fun _ => ?_) | refine newSlice0 (fun _ => ?_)))
      exact ⟨(pos + d, n + 1), ⟨by show n + 1 ≤ pos + d; omega, by show n + 1 ≤ s.size; omega, good hk⟩, by show s.size - (pos + d) < s.size - pos; omega, zSu, zEn⟩
    · have hk : okR c = false := by simp [okR]; omega
      repeat ((conv => whnf); (first | refine ztx ?_ | refine LNext.nilr ?_ | refine zne ?_ | refine zga ?_ | refine zxa ?_ | refine zca ?_ | refine zcb ?_ | refine zgb ?_ | refine zgd1 ?_ | refine zge ?_ | refine zgf ?_ | refine zgj ?_ | refine zgk ?_ | refine eqStr ?_ | refine neqStr ?_ | refine eqSlNil ?_ | refine capSlice ?_ | refine zgm ?_ | refine zgn ?_ | refine zgo ?_ | refine zba ?_ | refine zbb ?_ | refine zbc ?_ | refine zbd ?_ | refine zbe ?_ | refine zbf ?_ | refine zia ?_ | refine zib ?_ | refine zic ?_ | refine zid1 ?_ | refine zif1 ?_ | refine zig ?_ | refine zih ?_ | refine lint_u8_mod ?_ | refine zua ?_ | refine zgs ?_ | refine LRes.mk ?_ | refine LIn.step ?_ | refine zdc ?_ | refine zna (fun _ => ?_) | refine znb (fun _ => ?_) | refine znc (fun _ => ?_) | refine newSlice0 (fun _ => ?_)))
      show Fin _ _ _; exact Fin.of [] zEn ⟨by rw [bad hk], rfl⟩
    · have hk : okR c = true := by simp [okR]; omega
      repeat ((conv => whnf); (first | refine ztx ?_ | refine LNext.nilr ?_ | refine zne ?_ | refine zga ?_ | refine zxa ?_ | refine zca ?_ | refine zcb ?_ | refine zgb ?_ | refine zgd1 ?_ | refine zge ?_ | refine zgf ?_ | refine zgj ?_ | refine zgk ?_ | refine eqStr ?_ | refine neqStr ?_ | refine eqSlNil ?_ | refine capSlice ?_ | refine zgm ?_ | refine zgn ?_ | refine zgo ?_ | refine zba ?_ | refine zbb ?_ | refine zbc ?_ | refine zbd ?_ | refine zbe ?_ | refine zbf ?_ | refine zia ?_ | refine zib ?_ | refine zic ?_ | refine zid1 ?_ | refine zif1 ?_ | refine zig ?_ | refine zih ?_ | refine lint_u8_mod ?_ | refine zua ?_ | refine zgs ?_ | refine LRes.mk ?_ | refine LIn.step ?_ | refine zdc ?_ | refine zna (fun _ => ?_) | refine znb (fun _ => ?_) | refine znc (fun _ => ?_) | refine newSlice0 (fun _ => ?_)))
      exact ⟨(pos + d, n + 1), ⟨by show n + 1 ≤ pos + d; omega, by show n + 1 ≤ s.size; omega, good hk⟩, by show s.size - (pos + d) < s.size - pos; omega, zSu, zEn⟩
    · have hk : okR c = false := by simp [okR]; omega
      repeat ((conv => whnf); (first | refine ztx ?_ | refine LNext.nilr ?_ | refine zne ?_ | refine zga ?_ | refine zxa ?_ | refine zca ?_ | refine zcb ?_ | refine zgb ?_ | refine zgd1 ?_ | refine zge ?_ | refine zgf ?_ | refine zgj ?_ | refine zgk ?_ | refine eqStr ?_ | refine neqStr ?_ | refine eqSlNil ?_ | refine capSlice ?_ | refine zgm ?_ | refine zgn ?_ | refine zgo ?_ | refine zba ?_ | refine zbb ?_ | refine zbc ?_ | refine zbd ?_ | refine zbe ?_ | refine zbf ?_ | refine zia ?_ | refine zib ?_ | refine zic ?_ | refine zid1 ?_ | refine zif1 ?_ | refine zig ?_ | refine zih ?_ | refine lint_u8_mod ?_ | refine zua ?_ | refine zgs ?_ | refine LRes.mk ?_ | refine LIn.step ?_ | refine zdc ?_ | refine zna (fun _ => ?_) | refine znb (fun _ => ?_) | refine znc (fun _ => ?_) | refine newSlice0 (fun _ => ?_)))
      show Fin _ _ _; exact Fin.of [] zEn ⟨by rw [bad hk], rfl⟩
    · have hk : okR c = true := by simp [okR]; omega
      repeat ((conv => whnf); (first | refine ztx ?_ | refine LNext.nilr ?_ | refine zne ?_ | refine zga ?_ | refine zxa ?_ | refine zca ?_ | refine zcb ?_ | refine zgb ?_ | refine zgd1 ?_ | refine zge ?_ | refine zgf ?_ | refine zgj ?_ | refine zgk ?_ | refine eqStr ?_ | refine neqStr ?_ | refine eqSlNil ?_ | refine capSlice ?_ | refine zgm ?_ | refine zgn ?_ | refine zgo ?_ | refine zba ?_ | refine zbb ?_ | refine zbc ?_ | refine zbd ?_ | refine zbe ?_ | refine zbf ?_ | refine zia ?_ | refine zib ?_ | refine zic ?_ | refine zid1 ?_ | refine zif1 ?_ | refine zig ?_ | refine zih ?_ | refine lint_u8_mod ?_ | refine zua ?_ | refine zgs ?_ | refine LRes.mk ?_ | refine LIn.step ?_ | refine zdc ?_ | refine zna (fun _ => ?_) | refine znb (fun _ => ?_) | refine znc (fun _ => ?_) | refine newSlice0 (fun _ => ?_)))
      exact ⟨(pos + d, n + 1), ⟨by show n + 1 ≤ pos + d; omega, by show n + 1 ≤ s.size; omega, good hk⟩, by show s.size - (pos + d) < s.size - pos; omega, zSu, zEn⟩
    · have hk : okR c = false := by simp [okR]; omega
      repeat ((conv => whnf); (first | refine ztx ?_ | refine LNext.nilr ?_ | refine zne ?_ | refine zga ?_ | refine zxa ?_ | refine zca ?_ | refine zcb ?_ | refine zgb ?_ | refine zgd1 ?_ | refine zge ?_ | refine zgf ?_ | refine zgj ?_ | refine zgk ?_ | refine eqStr ?_ | refine neqStr ?_ | refine eqSlNil ?_ | refine capSlice ?_ | refine zgm ?_ | refine zgn ?_ | refine zgo ?_ | refine zba ?_ | refine zbb ?_ | refine zbc ?_ | refine zbd ?_ | refine zbe ?_ | refine zbf ?_ | refine zia ?_ | refine zib ?_ | refine zic ?_ | refine zid1 ?_ | refine zif1 ?_ | refine zig ?_ | refine zih ?_ | refine lint_u8_mod ?_ | refine zua ?_ | refine zgs ?_ | refine LRes.mk ?_ | refine LIn.step ?_ | refine zdc ?_ | refine zna (fun _ => ?_) | refine znb (fun _ => ?_) | refine znc (fun _ => ?_) | refine newSlice0 (fun _ => ?_)))
      show Fin _ _ _; exact Fin.of [] zEn ⟨by rw [bad hk], rfl⟩
    · have hk : okR c = true := by simp [okR]; omega
      repeat ((conv => whnf); (first | refine ztx ?_ | refine LNext.nilr ?_ | refine zne ?_ | refine zga ?_ | refine zxa ?_ | refine zca ?_ | refine zcb ?_ | refine zgb ?_ | refine zgd1 ?_ | refine zge ?_ | refine zgf ?_ | refine zgj ?_ | refine zgk ?_ | refine eqStr ?_ | refine neqStr ?_ | refine eqSlNil ?_ | refine capSlice ?_ | refine zgm ?_ | refine zgn ?_ | refine zgo ?_ | refine zba ?_ | refine zbb ?_ | refine zbc ?_ | refine zbd ?_ | refine zbe ?_ | refine zbf ?_ | refine zia ?_ | refine zib ?_ | refine zic ?_ | refine zid1 ?_ | refine zif1 ?_ | refine zig ?_ | refine zih ?_ | refine lint_u8_mod ?_ | refine zua ?_ | refine zgs ?_ | refine LRes.mk ?_ | refine LIn.step ?_ | refine zdc ?_ | refine zna (fun _ => ?_) | refine znb (fun _ => ?_) | refine znc (fun _ => ?_) | refine newSlice0 (fun _ => ?_)))
      exact ⟨(pos + d, n + 1), ⟨by show n + 1 ≤ pos + d; omega, by show n + 1 ≤ s.size; omega, good hk⟩, by show s.size - (pos + d) < s.size - pos; omega, zSu, zEn⟩
    · have hk : okR c = false := by simp [okR]; omega
      repeat ((conv => whnf); (first | refine ztx ?_ | refine LNext.nilr ?_ | refine zne ?_ | refine zga ?_ | refine zxa ?_ | refine zca ?_ | refine zcb ?_ | refine zgb ?_ | refine zgd1 ?_ | refine zge ?_ | refine zgf ?_ | refine zgj ?_ | refine zgk ?_ | refine eqStr ?_ | refine neqStr ?_ | refine eqSlNil ?_ | refine capSlice ?_ | refine zgm ?_ | refine zgn ?_ | refine zgo ?_ | refine zba ?_ | refine zbb ?_ | refine zbc ?_ | refine zbd ?_ | refine zbe ?_ | refine zbf ?_ | refine zia ?_ | refine zib ?_ | refine zic ?_ | refine zid1 ?_ | refine zif1 ?_ | refine zig ?_ | refine zih ?_ | refine lint_u8_mod ?_ | refine zua ?_ | refine zgs ?_ | refine LRes.mk ?_ | refine LIn.step ?_ | refine zdc ?_ | refine zna (fun _ => ?_) | refine znb (fun _ => ?_) | refine znc (fun _ => ?_) | refine newSlice0 (fun _ => ?_)))
      show Fin _ _ _; exact Fin.of [] zEn ⟨by rw [bad hk], rfl⟩
  · refine LNext.go tab ?_
    repeat ((conv => whnf); (first | refine ztx ?_ | refine LNext.nilr ?_ | refine zne ?_ | refine zga ?_ | refine zxa ?_ | refine zca ?_ | refine zcb ?_ | refine zgb ?_ | refine zgd1 ?_ | refine zge ?_ | refine zgf ?_ | refine zgj ?_ | refine zgk ?_ | refine eqStr ?_ | refine neqStr ?_ | refine eqSlNil ?_ | refine capSlice ?_ | refine zgm ?_ | refine zgn ?_ | refine zgo ?_ | refine zba ?_ | refine zbb ?_ | refine zbc ?_ | refine zbd ?_ | refine zbe ?_ | refine zbf ?_ | refine zia ?_ | refine zib ?_ | refine zic ?_ | refine zid1 ?_ | refine zif1 ?_ | refine zig ?_ | refine zih ?_ | refine lint_u8_mod ?_ | refine zua ?_ | refine zgs ?_ | refine LRes.mk ?_ | refine LIn.step ?_ | refine zdc ?_ | refine zna (fun _ => ?_) | refine znb (fun _ => ?_) | refine znc (fun _ => ?_) | refine newSlice0 (fun _ => ?_)))
    refine nextEnd Take.here hp ?_
    repeat ((conv => whnf); (first | refine ztx ?_ | refine LNext.nilr ?_ | refine zne ?_ | refine zga ?_ | refine zxa ?_ | refine zca ?_ | refine zcb ?_ | refine zgb ?_ | refine zgd1 ?_ | refine zge ?_ | refine zgf ?_ | refine zgj ?_ | refine zgk ?_ | refine eqStr ?_ | refine neqStr ?_ | refine eqSlNil ?_ | refine capSlice ?_ | refine zgm ?_ | refine zgn ?_ | refine zgo ?_ | refine zba ?_ | refine zbb ?_ | refine zbc ?_ | refine zbd ?_ | refine zbe ?_ | refine zbf ?_ | refine zia ?_ | refine zib ?_ | refine zic ?_ | refine zid1 ?_ | refine zif1 ?_ | refine zig ?_ | refine zih ?_ | refine lint_u8_mod ?_ | refine zua ?_ | refine zgs ?_ | refine LRes.mk ?_ | refine LIn.step ?_ | refine zdc ?_ | refine zna (fun _ => ?_) | refine znb (fun _ => ?_) | refine znc (fun _ => ?_) | refine newSlice0 (fun _ => ?_)))
    have he := nmC_end hp
    rw [he] at h3
    have hn : nameR s = (decide (1 ≤ n) && decide (n ≤ 16)) := by
      unfold nameR
      rw [h3]
      simp
    by_cases q1 : 1 ≤ n
    · by_cases q2 : n ≤ 16
      · repeat ((conv => whnf); (first | refine ztx ?_ | refine LNext.nilr ?_ | refine zne ?_ | refine zga ?_ | refine zxa ?_ | refine zca ?_ | refine zcb ?_ | refine zgb ?_ | refine zgd1 ?_ | refine zge ?_ | refine zgf ?_ | refine zgj ?_ | refine zgk ?_ | refine eqStr ?_ | refine neqStr ?_ | refine eqSlNil ?_ | refine capSlice ?_ | refine zgm ?_ | refine zgn ?_ | refine zgo ?_ | refine zba ?_ | refine zbb ?_ | refine zbc ?_ | refine zbd ?_ | refine zbe ?_ | refine zbf ?_ | refine zia ?_ | refine zib ?_ | refine zic ?_ | refine zid1 ?_ | refine zif1 ?_ | refine zig ?_ | refine zih ?_ | refine lint_u8_mod ?_ | refine zua ?_ | refine zgs ?_ | refine LRes.mk ?_ | refine LIn.step ?_ | refine zdr ?_ | refine zna (fun _ => ?_) | refine znb (fun _ => ?_) | refine znc (fun _ => ?_) | refine newSlice0 (fun _ => ?_)))
        show Fin _ _ _; exact Fin.of [] zEn ⟨by rw [hn]; simp [q1, q2, tupled]; omega, rfl⟩
      · repeat ((conv => whnf); (first | refine ztx ?_ | refine LNext.nilr ?_ | refine zne ?_ | refine zga ?_ | refine zxa ?_ | refine zca ?_ | refine zcb ?_ | refine zgb ?_ | refine zgd1 ?_ | refine zge ?_ | refine zgf ?_ | refine zgj ?_ | refine zgk ?_ | refine eqStr ?_ | refine neqStr ?_ | refine eqSlNil ?_ | refine capSlice ?_ | refine zgm ?_ | refine zgn ?_ | refine zgo ?_ | refine zba ?_ | refine zbb ?_ | refine zbc ?_ | refine zbd ?_ | refine zbe ?_ | refine zbf ?_ | refine zia ?_ | refine zib ?_ | refine zic ?_ | refine zid1 ?_ | refine zif1 ?_ | refine zig ?_ | refine zih ?_ | refine lint_u8_mod ?_ | refine zua ?_ | refine zgs ?_ | refine LRes.mk ?_ | refine LIn.step ?_ | refine zdr ?_ | refine zna (fun _ => ?_) | refine znb (fun _ => ?_) | refine znc (fun _ => ?_) | refine newSlice0 (fun _ => ?_)))
        show Fin _ _ _; exact Fin.of [] zEn ⟨by rw [hn]; simp [q1, q2, tupled]; omega, rfl⟩
    · repeat ((conv => whnf); (first | refine ztx ?_ | refine LNext.nilr ?_ | refine zne ?_ | refine zga ?_ | refine zxa ?_ | refine zca ?_ | refine zcb ?_ | refine zgb ?_ | refine zgd1 ?_ | refine zge ?_ | refine zgf ?_ | refine zgj ?_ | refine zgk ?_ | refine eqStr ?_ | refine neqStr ?_ | refine eqSlNil ?_ | refine capSlice ?_ | refine zgm ?_ | refine zgn ?_ | refine zgo ?_ | refine zba ?_ | refine zbb ?_ | refine zbc ?_ | refine zbd ?_ | refine zbe ?_ | refine zbf ?_ | refine zia ?_ | refine zib ?_ | refine zic ?_ | refine zid1 ?_ | refine zif1 ?_ | refine zig ?_ | refine zih ?_ | refine lint_u8_mod ?_ | refine zua ?_ | refine zgs ?_ | refine LRes.mk ?_ | refine LIn.step ?_ | refine zdr ?_ | refine zna (fun _ => ?_) | refine znb (fun _ => ?_) | refine znc (fun _ => ?_) | refine newSlice0 (fun _ => ?_)))
      show Fin _ _ _; exact Fin.of [] zEn ⟨by rw [hn]; simp [q1, tupled], rfl⟩
def encW (s : ByteArray) : List Value := [.string s]
theorem names_ct (M : List As) (a : Option Addr) (cap : Nat) (l : List ByteArray) (hr : RdH M a 1 encW l) (hl : l.length ≤ 9223372036854775807) (hs : ∀ s ∈ l, s.size ≤ 9223372036854775806) :
    Ctr Tryd.prog 44 #[.slice a l.length cap] M (fun v M' => v = .bool (l.all nameR) ∧ M' = M) := by
  refine ctr_of (Γ := tab) (vs := [_]) fn44 rfl ?_
  repeat ((conv => whnf); (first | refine ztx ?_ | refine LNext.nilr ?_ | refine zne ?_ | refine zga ?_ | refine zxa ?_ | refine zca ?_ | refine zcb ?_ | refine zgb ?_ | refine zgd1 ?_ | refine zge ?_ | refine zgf ?_ | refine zgj ?_ | refine zgk ?_ | refine eqStr ?_ | refine neqStr ?_ | refine eqSlNil ?_ | refine capSlice ?_ | refine zgm ?_ | refine zgn ?_ | refine zgo ?_ | refine zba ?_ | refine zbb ?_ | refine zbc ?_ | refine zbd ?_ | refine zbe ?_ | refine zbf ?_ | refine zia ?_ | refine zib ?_ | refine zic ?_ | refine zid1 ?_ | refine zif1 ?_ | refine zig ?_ | refine zih ?_ | refine lint_u8_mod ?_ | refine zua ?_ | refine zgs ?_ | refine LRes.mk ?_ | refine LIn.step ?_ | refine zdr ?_ | refine zna (fun _ => ?_) | refine znb (fun _ => ?_) | refine znc (fun _ => ?_) | refine newSlice0 (fun _ => ?_)))
  refine LLoop.invN (fun i : Nat => [(5, .slice a l.length cap), (6, .int .i64 l.length), (7, .int .i64 i)]) (fun _ => M) (fun i => i ≤ l.length ∧ (l.take i).all nameR = true) (fun i => l.length - i) 0 ⟨Nat.zero_le _, by simp⟩ zSu zEn ?_
  rintro i ⟨h1, h2⟩
  by_cases hp : i < l.length
  · refine LNext.rd (a := a) (xs := l) (sz := 1) (enc := encW) hr (fun rx => ?_)
    obtain ⟨g, o, rfl, lz⟩ := rx.get hp
    have hm := gd_mem hp
    refine LNext.go tab ?_
    repeat ((conv => whnf); (first | refine ztx ?_ | refine LNext.nilr ?_ | refine zne ?_ | refine zga ?_ | refine zxa ?_ | refine zca ?_ | refine zcb ?_ | refine zgb ?_ | refine zgd1 ?_ | refine zge ?_ | refine zgf ?_ | refine zgj ?_ | refine zgk ?_ | refine eqStr ?_ | refine neqStr ?_ | refine eqSlNil ?_ | refine capSlice ?_ | refine zgm ?_ | refine zgn ?_ | refine zgo ?_ | refine zba ?_ | refine zbb ?_ | refine zbc ?_ | refine zbd ?_ | refine zbe ?_ | refine zbf ?_ | refine zia ?_ | refine zib ?_ | refine zic ?_ | refine zid1 ?_ | refine zif1 ?_ | refine zig ?_ | refine zih ?_ | refine lint_u8_mod ?_ | refine zua ?_ | refine zgs ?_ | refine LRes.mk ?_ | refine LIn.step ?_ | refine zdc ?_ | refine zna (fun _ => ?_) | refine znb (fun _ => ?_) | refine znc (fun _ => ?_) | refine newSlice0 (fun _ => ?_)))
    (first | refine call2 (Name_ct (gd l i) (hs _ hm)) zSq ?_ | refine ext2 (Name_ct (gd l i) (hs _ hm)) zSq ?_)
    rintro v rfl
    cases hq : nameR (gd l i) with
    | true =>
      repeat ((conv => whnf); (first | refine ztx ?_ | refine LNext.nilr ?_ | refine zne ?_ | refine zga ?_ | refine zxa ?_ | refine zca ?_ | refine zcb ?_ | refine zgb ?_ | refine zgd1 ?_ | refine zge ?_ | refine zgf ?_ | refine zgj ?_ | refine zgk ?_ | refine eqStr ?_ | refine neqStr ?_ | refine eqSlNil ?_ | refine capSlice ?_ | refine zgm ?_ | refine zgn ?_ | refine zgo ?_ | refine zba ?_ | refine zbb ?_ | refine zbc ?_ | refine zbd ?_ | refine zbe ?_ | refine zbf ?_ | refine zia ?_ | refine zib ?_ | refine zic ?_ | refine zid1 ?_ | refine zif1 ?_ | refine zig ?_ | refine zih ?_ | refine lint_u8_mod ?_ | refine zua ?_ | refine zgs ?_ | refine LRes.mk ?_ | refine LIn.step ?_ | refine zdc ?_ | refine zna (fun _ => ?_) | refine znb (fun _ => ?_) | refine znc (fun _ => ?_) | refine newSlice0 (fun _ => ?_)))
      exact ⟨i + 1, ⟨hp, by rw [gd_take hp, List.all_append, h2]; simp [hq]⟩, by omega, zSu, zEn⟩
    | false =>
      have hf : l.all nameR = false := by
        rw [List.all_eq_false]
        exact ⟨_, hm, by rw [hq]; simp⟩
      repeat ((conv => whnf); (first | refine ztx ?_ | refine LNext.nilr ?_ | refine zne ?_ | refine zga ?_ | refine zxa ?_ | refine zca ?_ | refine zcb ?_ | refine zgb ?_ | refine zgd1 ?_ | refine zge ?_ | refine zgf ?_ | refine zgj ?_ | refine zgk ?_ | refine eqStr ?_ | refine neqStr ?_ | refine eqSlNil ?_ | refine capSlice ?_ | refine zgm ?_ | refine zgn ?_ | refine zgo ?_ | refine zba ?_ | refine zbb ?_ | refine zbc ?_ | refine zbd ?_ | refine zbe ?_ | refine zbf ?_ | refine zia ?_ | refine zib ?_ | refine zic ?_ | refine zid1 ?_ | refine zif1 ?_ | refine zig ?_ | refine zih ?_ | refine lint_u8_mod ?_ | refine zua ?_ | refine zgs ?_ | refine LRes.mk ?_ | refine LIn.step ?_ | refine zdc ?_ | refine zna (fun _ => ?_) | refine znb (fun _ => ?_) | refine znc (fun _ => ?_) | refine newSlice0 (fun _ => ?_)))
      show Fin _ _ _; exact Fin.of M zEn ⟨by rw [hf], rfl⟩
  · have hil : l.take i = l := List.take_of_length_le (by omega)
    rw [hil] at h2
    refine LNext.go tab ?_
    repeat ((conv => whnf); (first | refine ztx ?_ | refine LNext.nilr ?_ | refine zne ?_ | refine zga ?_ | refine zxa ?_ | refine zca ?_ | refine zcb ?_ | refine zgb ?_ | refine zgd1 ?_ | refine zge ?_ | refine zgf ?_ | refine zgj ?_ | refine zgk ?_ | refine eqStr ?_ | refine neqStr ?_ | refine eqSlNil ?_ | refine capSlice ?_ | refine zgm ?_ | refine zgn ?_ | refine zgo ?_ | refine zba ?_ | refine zbb ?_ | refine zbc ?_ | refine zbd ?_ | refine zbe ?_ | refine zbf ?_ | refine zia ?_ | refine zib ?_ | refine zic ?_ | refine zid1 ?_ | refine zif1 ?_ | refine zig ?_ | refine zih ?_ | refine lint_u8_mod ?_ | refine zua ?_ | refine zgs ?_ | refine LRes.mk ?_ | refine LIn.step ?_ | refine zdr ?_ | refine zna (fun _ => ?_) | refine znb (fun _ => ?_) | refine znc (fun _ => ?_) | refine newSlice0 (fun _ => ?_)))
    show Fin _ _ _; exact Fin.of M zEn ⟨by rw [h2], rfl⟩
end Go.Proofs.YtjmfnakplmmpnaaDoor
