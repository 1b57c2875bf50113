import Derived.Test.YtchaijafpmofdaaSlI
import Derived.ChangeKeysEq
/-! Comparing arrays. -/
namespace Go.Sl
set_option linter.unusedVariables false
set_option linter.unusedSimpArgs false
section
variable {P : Program}
theorem items_int (Γ : Tab P) {el : TypeId} {kd : IntKind} (d : Nat) (he : Γ.und el = some (.int kd)) (xs ys : List Int) (w : World) : ∀ (is : List Nat), (∀ i ∈ is, i < xs.length ∧ i < ys.length) →
    (Op.eqItems (d + 1) el 1 (xs.map (Value.int kd)).toArray (ys.map (Value.int kd)).toArray is).run P w = .ok (is.all (fun i => xs.getD i 0 == ys.getD i 0)) w := by
  intro is
  induction is with
  | nil => intro _; simp [Op.eqItems]
  | cons i is ih =>
    intro h
    have hi := h i (List.mem_cons_self ..)
    have hr := ih (fun j hj => h j (List.mem_cons_of_mem _ hj))
    have hp : ∀ zs : List Int, i < zs.length → (part el (zs.map (Value.int kd)).toArray (i * 1)).run P w = .ok (.int kd (zs.getD i 0)) w := by
      intro zs hz
      unfold part
      rw [Sem.run_bind, isOne_of Γ (by rw [he]; rfl)]
      simp [hz]
    have hq : ∀ a b : Int, (Op.equalIn (d + 1) el (.int kd a) (.int kd b)).run P w = .ok (a == b) w := by
      intro a b
      simp [Op.equalIn, run_underlying (Γ.und_ok _ _ he)]
    simp only [Op.eqItems, Sem.run_bind, hp xs hi.1, hp ys hi.2, hq, Result.andThen_ok, List.all_cons]
    cases hb : (xs.getD i 0 == ys.getD i 0)
    · simp
    · simpa using hr
theorem equal_arr (Γ : Tab P) {t el : TypeId} {n by' : Nat} {z : Value} {kd : IntKind} {xs ys : List Int} (hu : Γ.und t = some (.array n el)) (he : Γ.und el = some (.int kd)) (hi : Γ.inf el = some (z, 1, by')) (hx : xs.length = n) (hy : ys.length = n) (w : World) :
    (Op.equal t (.agg (xs.map (Value.int kd)).toArray) (.agg (ys.map (Value.int kd)).toArray)).run P w = .ok (decide (xs = ys)) w := by
  obtain ⟨i, hi1, hi2, hi3, hi4⟩ := Γ.inf_ok _ _ _ _ hi
  have hc : P.cellsOf el = 1 := by simp [Program.cellsOf, hi1, hi3]
  unfold Op.equal
  rw [show Op.maxDepth = 9998 + 1 + 1 from rfl, run_equalIn_array w (9998 + 1) _ _ (Γ.und_ok _ _ hu) hi1, hc, items_int Γ 9998 he xs ys w _ (fun i h => by have := List.mem_range.1 h; omega)]
  congr 1
  by_cases e : xs = ys
  · subst e; simp
  · have : ¬ (∀ x, x < n → xs.getD x 0 = ys.getD x 0) := by
      intro h
      apply e
      apply List.ext_getElem (by omega)
      intro i h1 h2
      have := h i (by omega)
      simpa [List.getD_eq_getElem?_getD, h1, h2] using this
    simp only [e, decide_false]
    rw [← Bool.not_eq_true, List.all_eq_true]
    simpa using this
theorem guard_agg {op : BinOp} {t : TypeId} {x y : Operand} {a b : Array Value} (hg : P.eqGuardType P.depth t = false) (w : World) : (eqGuard op t x y (.agg a) (.agg b)).run P w = .ok () w := by
  cases op <;> simp [eqGuard, hg]
theorem eqArr (Γ : Tab P) {t el : TypeId} {n by' : Nat} {z : Value} {kd : IntKind} {xs ys : List Int} {x y : Operand} {M : List As} {k : Value → Prop} (hu : Γ.und t = some (.array n el)) (he : Γ.und el = some (.int kd)) (hi : Γ.inf el = some (z, 1, by'))
    (hg : P.eqGuardType P.depth t = false) (hx : xs.length = n) (hy : ys.length = n) (hk : k (.bool (decide (xs = ys)))) :
    LGet P (do eqGuard .eql t x y (.agg (xs.map (Value.int kd)).toArray) (.agg (ys.map (Value.int kd)).toArray); binOp .eql t (.agg (xs.map (Value.int kd)).toArray) (.agg (ys.map (Value.int kd)).toArray)) M k :=
  ⟨_, fun w s => eq_of_equal (guard_agg hg w) rfl (equal_arr Γ hu he hi hx hy w), hk⟩
theorem neqArr (Γ : Tab P) {t el : TypeId} {n by' : Nat} {z : Value} {kd : IntKind} {xs ys : List Int} {x y : Operand} {M : List As} {k : Value → Prop} (hu : Γ.und t = some (.array n el)) (he : Γ.und el = some (.int kd)) (hi : Γ.inf el = some (z, 1, by'))
    (hg : P.eqGuardType P.depth t = false) (hx : xs.length = n) (hy : ys.length = n) (hk : k (.bool (!decide (xs = ys)))) :
    LGet P (do eqGuard .neq t x y (.agg (xs.map (Value.int kd)).toArray) (.agg (ys.map (Value.int kd)).toArray); binOp .neq t (.agg (xs.map (Value.int kd)).toArray) (.agg (ys.map (Value.int kd)).toArray)) M k :=
  ⟨_, fun w s => neq_of_equal (guard_agg hg w) rfl (equal_arr Γ hu he hi hx hy w), hk⟩
end
end Go.Sl
