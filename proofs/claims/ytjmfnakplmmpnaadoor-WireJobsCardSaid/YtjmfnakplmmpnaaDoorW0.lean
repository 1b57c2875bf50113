import Derived.Test.YtjmfnakplmmpnaaDoorB1
/-! Laws: interfaces, texts that are ranged over, rows with room; comparing bytes. -/
namespace Go.Proofs.YtjmfnakplmmpnaaDoor
open Go.Sl
set_option linter.unusedVariables false
set_option linter.unusedSimpArgs false
set_option maxRecDepth 100000
set_option maxHeartbeats 1000000

section
variable {P : Program} {M N : List As}
/-! Interfaces. -/
def conc : Option TypeDesc → Bool
  | some (.interface _) => false
  | some _ => true
  | none => false
theorem mkIface [Γ : Tab P] {t : TypeId} {v : Value} {k : Value → Prop} (hk : k (.iface t v)) (hu : conc (Γ.und t) = true := by rfl) : LGet P (Instr.makeInterface t v) M k :=
  ⟨.iface t v, fun w _ => by
    cases h : Γ.und t with
    | none => rw [h] at hu; cases hu
    | some d =>
      have h1 := Γ.und_ok _ _ h
      unfold Instr.makeInterface
      rw [Sem.run_bind, run_underlying h1]
      rw [h] at hu
      cases d <;> first | (cases hu; done) | rfl, hk⟩
theorem taYes [Γ : Tab P] {t xt : TypeId} {v : Value} {k : Value → Prop} (hk : k (.tuple #[v, .bool true])) (hu : conc (Γ.und t) = true := by rfl) : LGet P (Instr.typeAssert (.iface t v) xt t true) M k :=
  ⟨.tuple #[v, .bool true], fun w _ => by
    cases h : Γ.und t with
    | none => rw [h] at hu; cases hu
    | some d =>
      have h1 := Γ.und_ok _ _ h
      unfold Instr.typeAssert
      rw [Sem.run_bind, run_underlying h1]
      rw [h] at hu
      cases d <;> first | (cases hu; done) | simp, hk⟩
theorem taNo [Γ : Tab P] {t xt ta : TypeId} {v z : Value} {sz by' : Nat} {k : Value → Prop} (hk : k (.tuple #[z, .bool false])) (hne : Nat.beq t ta = false := by rfl) (hi : Γ.inf ta = some (z, sz, by') := by rfl) (hu : conc (Γ.und ta) = true := by rfl) : LGet P (Instr.typeAssert (.iface t v) xt ta true) M k :=
  ⟨.tuple #[z, .bool false], fun w _ => by
    have hne' : ¬ t = ta := fun e => by rw [e, Nat.beq_refl] at hne; cases hne
    have hz := zero_of Γ hi w
    cases h : Γ.und ta with
    | none => rw [h] at hu; cases hu
    | some d =>
      have h1 := Γ.und_ok _ _ h
      unfold Instr.typeAssert
      rw [Sem.run_bind, run_underlying h1]
      rw [h] at hu
      cases d <;> first | (cases hu; done) | simp [hne', hz], hk⟩
theorem taNil [Γ : Tab P] {xt ta : TypeId} {z : Value} {sz by' : Nat} {k : Value → Prop} (hk : k (.tuple #[z, .bool false])) (hi : Γ.inf ta = some (z, sz, by') := by rfl) (hu : conc (Γ.und ta) = true := by rfl) : LGet P (Instr.typeAssert .nilIface xt ta true) M k :=
  ⟨.tuple #[z, .bool false], fun w _ => by
    have hz := zero_of Γ hi w
    cases h : Γ.und ta with
    | none => rw [h] at hu; cases hu
    | some d =>
      have h1 := Γ.und_ok _ _ h
      unfold Instr.typeAssert
      rw [Sem.run_bind, run_underlying h1]
      rw [h] at hu
      cases d <;> first | (cases hu; done) | simp [hz], hk⟩
def methOf (P : Program) (t : TypeId) (m : String) : Option FuncId := match P.info? t with
  | some i => match i.methods.find? (·.name == m) with
    | some r => match r.func, r.path.toList with
      | some (f, false), [] => some f
      | _, _ => none
    | none => none
  | none => none
def notPtr : Option TypeDesc → Bool
  | some (.pointer _) => false
  | some _ => true
  | none => false
theorem invVal [Γ : Tab P] {t : TypeId} {v : Value} {m : String} {f : FuncId} {args : Array Value} {k : Value → List As → Prop} (hm : methOf P t m = some f) (hc : LCall P f (#[v] ++ args) M k) (hu : notPtr (Γ.und t) = true := by rfl) : LInv P (.iface t v) m args M k :=
  ⟨f, #[v] ++ args, (fun w => by
    cases h : Γ.und t with
    | none => rw [h] at hu; cases hu
    | some d =>
      have h1 := Γ.und_ok _ _ h
      rw [h] at hu
      unfold methOf at hm
      split at hm
      · rename_i i hi
        split at hm
        · rename_i r hr
          split at hm
          · rename_i f' hf hp
            injection hm with hm
            subst hm
            have hpe : r.path = #[] := by
              have := congrArg List.toArray hp
              simpa using this
            unfold callMethod
            rw [Sem.run_bind, run_program]
            simp only [Result.andThen_ok]
            obtain ⟨n, hn⟩ : ∃ n, P.types.size + Made.depth = n + 1 := ⟨P.types.size + Made.depth - 1, by
              have : 0 < Made.depth := by decide
              omega⟩
            rw [hn]
            rw [Sem.run_bind]
            have hmet : (method (n + 1) t v m).run P w = .ok (f', v) w := by
              unfold method
              simp [typeInfo, hi, hr, hp, follow, hf, receiverAt, run_underlying h1]
              cases d <;> first | (cases hu; done) | rfl | simp [Place.get]
            rw [hmet]
            rfl
          · cases hm
        · cases hm
      · cases hm), hc⟩
end
end Go.Proofs.YtjmfnakplmmpnaaDoor
