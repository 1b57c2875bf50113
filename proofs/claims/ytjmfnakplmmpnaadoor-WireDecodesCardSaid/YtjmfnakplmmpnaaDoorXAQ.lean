import Derived.Test.YtjmfnakplmmpnaaDoorXAP
namespace Go.Sl
set_option linter.unusedVariables false
set_option linter.unusedSimpArgs false
set_option linter.unusedSectionVars false
def encU (x : UInt8) : List Value := [.int .u8 (x.toNat : Int)]
theorem encU_len (x : UInt8) : (encU x).length = 1 := rfl
def RdA {α : Type} (a : Option Addr) (sz : Nat) (enc : α → List Value) (xs : List α) : As := fun h =>
  xs = [] ∨ ∃ b o, a = some ⟨b, o, none⟩ ∧ ∀ i x, xs[i]? = some x → ∀ j v, (enc x)[j]? = some v → ∃ cs T fr, h b = some (.cells cs T fr) ∧ cs[o + i * sz + j]? = some v
section
variable {α : Type} {enc : α → List Value} {M : List As} {sz : Nat} {a : Option Addr} {xs : List α}
theorem RdA.mono {h k : Hp} (r : RdA a sz enc xs h) (l : Hp.le h k) : RdA a sz enc xs k := by
  rcases r with r | ⟨b, o, e, r⟩
  · exact .inl r
  · refine .inr ⟨b, o, e, fun i x hx j v hj => ?_⟩
    obtain ⟨cs, T, fr, h1, h2⟩ := r i x hx j v hj
    exact ⟨cs, T, fr, l _ _ h1, h2⟩
end
section
variable {P : Program}
variable {M N : List As} {k : Value → List As → Prop}
theorem convBS [Γ : Tab P] {s d el : TypeId} {a : Option Addr} {cap : Nat} {xs : List UInt8} {K : Value → Prop} (hr : RdH M a 1 encU xs) (hk : K (.string ⟨xs.toArray⟩)) (hu : Γ.und s = some (.slice el) := by rfl) (hd : Γ.und d = some .string := by rfl) (he : Γ.und el = some (.int .u8) := by rfl) :
    LGet P (convert s d (.slice a xs.length cap)) M K :=
  ⟨_, fun w s' => by
    have h1 := Γ.und_ok _ _ hu
    have h2 := Γ.und_ok _ _ hd
    have h3 := Γ.und_ok _ _ he
    rcases hr.h _ s' with e | ⟨b, o, rfl, l⟩
    · subst e
      cases a with
      | none => simp [convert, run_underlying h1, run_underlying h2, run_underlying h3, Conv.bytesToString]; rfl
      | some ad => exact run_convert_bytes_back (P := P) w s d el ad cap [] h1 h3 h2 (fun j hj => absurd hj (Nat.not_lt_zero _))
    · refine run_convert_bytes_back (P := P) w s d el _ cap xs h1 h3 h2 (fun j hj => ?_)
      obtain ⟨cs, T, fr, q1, q2⟩ := l j _ (List.getElem?_eq_getElem hj) 0 _ rfl
      have q1' : w.heap[b]? = some (.cells cs T fr) := q1
      have ha : Addr.add ⟨b, o, none⟩ j = ⟨b, o + j, none⟩ := by cases j <;> simp [Addr.add]
      rw [ha]
      unfold World.cell?
      simp only
      rw [q1']
      rw [show o + j * 1 + 0 = o + j by omega] at q2
      simpa using q2, hk⟩
end
section
variable {P : Program} {M N : List As} {k : Value → Prop}
theorem zgs [Γ : Tab P] {t : TypeId} {kd : IntKind} {s : ByteArray} {i : Nat} (hk : k (.int .u8 ((gd s.data.toList i).toNat : Int))) (hu : Γ.und t = some .string := by rfl) (hi : i < s.size := by omega) : LGet P (Instr.index t (.string s) (.int kd (i : Int))) M k := idxStr Γ hu hi hk
end
section
variable {P : Program} {M : List As} {k : Value → Prop}
end
end Go.Sl
