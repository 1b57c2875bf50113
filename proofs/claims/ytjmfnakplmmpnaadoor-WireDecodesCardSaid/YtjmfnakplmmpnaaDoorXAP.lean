import Derived.Test.YtjmfnakplmmpnaaDoorXAO
import Derived.Laws.IdiomStrings
namespace Go.Sl
open Go.MapKept
set_option linter.unusedVariables false
set_option linter.unusedSimpArgs false
set_option linter.unusedSectionVars false
section
variable {P : Program} {κ β : Type} [DecidableEq κ] {d : TypeDesc} {ek : κ → Value} {ev : β → Value} {b : Nat} {L : List (κ × β)} {M N : List As}
end
section
variable {P : Program} {M : List As} {k : Value → Prop}
theorem idxStr (Γ : Tab P) {t : TypeId} {kd : IntKind} {s : ByteArray} {i : Nat} (hu : Γ.und t = some .string) (hi : i < s.size) (hk : k (.int .u8 ((gd s.data.toList i).toNat : Int))) : LGet P (Instr.index t (.string s) (.int kd (i : Int))) M k :=
  ⟨_, fun w _ => by
    have h1 := Γ.und_ok _ _ hu
    have hd : s[i]? = some s[i] := by rw [getElem?_pos s i hi]
    have e : gd s.data.toList i = s[i] := gd_of (by
      have hi' : i < s.data.size := hi
      rw [Array.getElem?_toList, Array.getElem?_eq_getElem hi']; rfl)
    unfold Instr.index
    simp [asIntOf, run_underlying h1, hd, e], hk⟩
theorem sliceHi2 (Γ : Tab P) {t el : TypeId} {kd : IntKind} {a : Option Addr} {len cap hi : Nat} {z : Value} {sz by' : Nat} (hu : Γ.und t = some (.slice el)) (hi' : Γ.inf el = some (z, sz, by')) (hle : ∀ h, Stars M h → hi ≤ cap)
    (hk : k (.slice a hi cap)) : LGet P (Instr.sliceAt t (.slice a len cap) none (some (.int kd (hi : Int))) none) M k :=
  ⟨_, fun w s => by
    have h1 := Γ.und_ok _ _ hu
    have h3 : (0 : Int) ≤ (hi : Int) ∧ (hi : Int) ≤ (cap : Int) := by have := hle _ s; omega
    have hb : (Instr.sliceBound (.int kd (hi : Int)) cap .sliceAcap).run P w = .ok hi w := by
      simp [Instr.sliceBound, asIntOf, h3]
    have hs : (Instr.sliceBounds true len cap none (some (.int kd (hi : Int))) none).run P w = .ok (0, hi, cap) w := by
      simp [Instr.sliceBounds, hb]
    unfold Instr.sliceAt
    simp only [Sem.run_bind, run_underlying h1, Result.andThen_ok]
    unfold Instr.slice
    simp only [Sem.run_bind, run_underlying h1, Result.andThen_ok, hs, size_of Γ hi']
    cases a <;> simp [Addr.add], hk⟩
def offA (a : Option Addr) (sz lo cap : Nat) : Option Addr := if cap = lo then a else a.map (·.add (lo * sz))
theorem sliceLH (Γ : Tab P) {t el : TypeId} {kd kd' : IntKind} {a : Option Addr} {len cap lo hi : Nat} {z : Value} {sz by' : Nat} (hu : Γ.und t = some (.slice el)) (hi' : Γ.inf el = some (z, sz, by')) (hl : lo ≤ hi) (hle : ∀ h, Stars M h → hi ≤ cap)
    (hk : k (.slice (offA a sz lo cap) (hi - lo) (cap - lo))) : LGet P (Instr.sliceAt t (.slice a len cap) (some (.int kd (lo : Int))) (some (.int kd' (hi : Int))) none) M k :=
  ⟨_, fun w s => by
    have h1 := Γ.und_ok _ _ hu
    have h3 : (0 : Int) ≤ (hi : Int) ∧ (hi : Int) ≤ (cap : Int) := by have := hle _ s; omega
    have h4 : (0 : Int) ≤ (lo : Int) ∧ (lo : Int) ≤ (hi : Int) := by omega
    have hb : (Instr.sliceBound (.int kd' (hi : Int)) cap .sliceAcap).run P w = .ok hi w := by
      simp [Instr.sliceBound, asIntOf, h3]
    have hb2 : (Instr.sliceBound (.int kd (lo : Int)) hi .sliceB).run P w = .ok lo w := by
      simp [Instr.sliceBound, asIntOf, h4]
    have hs : (Instr.sliceBounds true len cap (some (.int kd (lo : Int))) (some (.int kd' (hi : Int))) none).run P w = .ok (lo, hi, cap) w := by
      simp [Instr.sliceBounds, hb, hb2]
    unfold Instr.sliceAt
    simp only [Sem.run_bind, run_underlying h1, Result.andThen_ok]
    unfold Instr.slice
    simp only [Sem.run_bind, run_underlying h1, Result.andThen_ok, hs, size_of Γ hi']
    rfl, hk⟩
theorem sliceLo2 (Γ : Tab P) {t el : TypeId} {kd : IntKind} {a : Option Addr} {len cap lo : Nat} {z : Value} {sz by' : Nat} (hu : Γ.und t = some (.slice el)) (hi' : Γ.inf el = some (z, sz, by')) (hle : lo ≤ len)
    (hk : k (.slice (offA a sz lo cap) (len - lo) (cap - lo))) : LGet P (Instr.sliceAt t (.slice a len cap) (some (.int kd (lo : Int))) none none) M k :=
  ⟨_, fun w s => by
    have h1 := Γ.und_ok _ _ hu
    have h4 : (0 : Int) ≤ (lo : Int) ∧ (lo : Int) ≤ (len : Int) := by omega
    have hb2 : (Instr.sliceBound (.int kd (lo : Int)) len .sliceB).run P w = .ok lo w := by
      simp [Instr.sliceBound, asIntOf, h4]
    have hs : (Instr.sliceBounds true len cap (some (.int kd (lo : Int))) none none).run P w = .ok (lo, len, cap) w := by
      simp [Instr.sliceBounds, hb2]
    unfold Instr.sliceAt
    simp only [Sem.run_bind, run_underlying h1, Result.andThen_ok]
    unfold Instr.slice
    simp only [Sem.run_bind, run_underlying h1, Result.andThen_ok, hs, size_of Γ hi']
    rfl, hk⟩
end
section
variable {α : Type} {enc : α → List Value} {M : List As} {sz : Nat}
theorem RdH.off {a : Option Addr} {xs : List α} (r : RdH M a sz enc xs) {lo cap : Nat} (hc : xs.length ≤ cap) : RdH M (offA a sz lo cap) sz enc (xs.drop lo) := by
  unfold offA
  by_cases c : cap = lo
  · rw [if_pos c, List.drop_of_length_le (by omega)]; exact .nil
  · rw [if_neg c]
    exact ⟨fun h s => by
      rcases r.h h s with e | ⟨b, o, e, l⟩
      · subst e; exact .inl (by simp)
      · subst e
        refine .inr ⟨b, o + lo * sz, by simp [Addr.add], fun i x hx j v hj => ?_⟩
        have := l (lo + i) x (by rw [List.getElem?_drop] at hx; exact hx) j v hj
        rw [show o + lo * sz + i * sz + j = o + (lo + i) * sz + j by rw [Nat.add_mul]; omega]
        exact this⟩
end
end Go.Sl
