import Derived.Test.YtchaijafpmofdaaSlO
import Derived.Laws.IdiomStrings
/-! More laws: maps (len, delete, nil), texts, slices of what is read. -/
namespace Go.Sl
open Go.MapKept
set_option linter.unusedVariables false
set_option linter.unusedSimpArgs false
set_option linter.unusedSectionVars false

section
variable {P : Program} {κ β : Type} [DecidableEq κ] {d : TypeDesc} {ek : κ → Value} {ev : β → Value} {b : Nat} {L : List (κ × β)} {M N : List As}
theorem lenMap (Γ : Tab P) {t kt el ty : TypeId} {k : Value → Prop} (hu : Γ.und t = some (.map kt el)) (hm : HasMap M d ek ev b L) (hk : k (.int .i64 (L.length : Nat))) : LGet P (Builtin.len_ #[t] ty #[.map (some b)]) M k :=
  ⟨_, fun w s => by
    obtain ⟨es, c, e, hl, hs⟩ := hm.h _ s
    have e' : w.heap[b]? = some (.map es c) := e
    have h1 := Γ.und_ok _ _ hu
    have hlen : es.size = L.length := by have := congrArg List.length hl; simpa using this
    unfold Builtin.len_
    simp [run_underlying h1, MapKept.run_getObj_map e', hlen, goInt], hk⟩
theorem lenMap0 (Γ : Tab P) {t kt el ty : TypeId} {k : Value → Prop} (hu : Γ.und t = some (.map kt el)) (hk : k (.int .i64 0)) : LGet P (Builtin.len_ #[t] ty #[.map none]) M k :=
  ⟨_, fun w s => by
    have h1 := Γ.und_ok _ _ hu
    unfold Builtin.len_
    simp [run_underlying h1, goInt], hk⟩
theorem map_erase {α γ : Type} (f : α → γ) : ∀ (l : List α) (j : Nat), (l.eraseIdx j).map f = (l.map f).eraseIdx j
  | [], _ => rfl
  | _ :: _, 0 => rfl
  | _ :: l, j + 1 => by simp only [List.map_cons, List.eraseIdx_cons_succ, map_erase f l j]
theorem delL_none : ∀ (L : List (κ × β)) (k : κ), idxL L k = none → delL k L = L
  | [], _, _ => rfl
  | p :: L, k, h => by
    unfold idxL at h
    unfold delL
    split at h
    · cases h
    · rename_i hp
      rw [if_neg hp]
      cases hq : idxL L k with
      | none => rw [delL_none L k hq]
      | some q => rw [hq] at h; cases h
/-- delete(m, k) -/
theorem delMap (Γ : Tab P) {t kt el ty kty : TypeId} {k : κ} {K : Value → List As → Prop} (he : KeyEnc d ek) (hu : Γ.und t = some (.map kt el)) (hkt : Γ.und kt = some d) (tk : Take M (MapA d ek ev b L) N)
    (hk : K (.tuple #[]) (MapA d ek ev b (delL k L) :: N)) : LRun P (Builtin.delete_ #[t, kty] ty #[.map (some b), ek k]) M K :=
  ⟨fun v M' => v = .tuple #[] ∧ M' = MapA d ek ev b (delL k L) :: N, fun F w s => by
    have s1 := s.ent (Ent.app tk.h (Ent.refl F))
    obtain ⟨g1, g2, gd, gl1, gl2, ⟨es, c, e, hl, hst⟩, gs⟩ := s1
    have e' : w.heap[b]? = some (.map es c) := gl1 _ _ e
    have hf := findNow_L (ev := ev) he k es.toList L 0 hl
    have h1 := Γ.und_ok _ _ hu
    have h2 := Γ.und_ok _ _ hkt
    have s2 : Sat w (Sl.pt b (.map es c) :: (N ++ F)) := ⟨g1, g2, gd, gl1, gl2, e, gs⟩
    have fin : ∀ (es' : Array MapEntry), (Builtin.delete_ #[t, kty] ty #[.map (some b), ek k]).run P w = .ok (.tuple #[]) { w with heap := w.heap.setIfInBounds b (.map es' c) } →
        es'.toList.map (fun e => (e.key, e.val)) = (delL k L).map (fun p => (ek p.1, ev p.2)) → Stamped es' c → ∃ v w' M', (Builtin.delete_ #[t, kty] ty #[.map (some b), ek k]).run P w = .ok v w' ∧ (v = .tuple #[] ∧ M' = MapA d ek ev b (delL k L) :: N) ∧ Sat w' (M' ++ F) ∧ Nx w w' := by
      intro es' hr hl' hs'
      have hh := heap_set (o' := .map es' c) e'
      have s3 : Sat { w with heap := w.heap.setIfInBounds b (.map es' c) } (Sl.pt b (.map es' c) :: (N ++ F)) := s2.setBlock (fun q hq => hh.2 q hq) hh.1
      refine ⟨_, _, _, hr, ⟨rfl, rfl⟩, s3.ent (Ent.head (fun h' (q : h' b = _) => ⟨es', c, q, hl', hs'⟩)), ⟨rfl, rfl, rfl, by simp⟩⟩
    cases hq : idxL L k with
    | none =>
      rw [hq] at hf
      refine fin es ?_ (by rw [delL_none L k hq]; exact hl) hst
      simp [Builtin.delete_, run_underlying h1, MapKept.run_getObj_map e', run_checkKey h2 (he.key k), run_findKey h2 hf, MapKept.run_setObj_map _ e']
    | some q =>
      obtain ⟨j, x0⟩ := q
      rw [hq] at hf
      simp only [Option.map_some, Nat.zero_add] at hf
      obtain ⟨hs1, hs2, hs3⟩ := setLk_idx L k x0 hq
      have hlen : es.toList.length = L.length := by have := congrArg List.length hl; simpa using this
      have hjs : j < es.size := by simpa using (by omega : j < es.toList.length)
      refine fin (es.eraseIdxIfInBounds j) ?_ ?_ (stamped_erase hst j)
      · simp [Builtin.delete_, run_underlying h1, MapKept.run_getObj_map e', run_checkKey h2 (he.key k), run_findKey h2 hf, MapKept.run_setObj_map _ e']
      · rw [hs2]
        have : (es.eraseIdxIfInBounds j).toList = es.toList.eraseIdx j := by
          unfold Array.eraseIdxIfInBounds
          rw [dif_pos hjs, Array.toList_eraseIdx]
        rw [this, map_erase, hl, map_erase], fun v M' ⟨e1, e2⟩ => by subst e1; subst e2; exact hk⟩
theorem equalIn_map_nil (Γ : Tab P) {t kt el : TypeId} {a : Option Nat} (hu : Γ.und t = some (.map kt el)) (d : Nat) (w : World) : (Op.equalIn (d + 1) t (.map a) (.map none)).run P w = .ok a.isNone w := by
  cases a <;> simp [Op.equalIn, run_underlying (Γ.und_ok _ _ hu)]
theorem eqMapNil [Γ : Tab P] {t kt el : TypeId} {x y : Operand} {a : Option Nat} {k : Value → Prop} (hk : k (.bool a.isNone)) (hu : Γ.und t = some (.map kt el) := by rfl) : LGet P (do eqGuard .eql t x y (.map a) (.map none); binOp .eql t (.map a) (.map none)) M k :=
  ⟨_, fun w s => eq_of_equal (r := a.isNone) rfl rfl (equalIn_map_nil Γ hu 9999 w), hk⟩
theorem neqMapNil [Γ : Tab P] {t kt el : TypeId} {x y : Operand} {a : Option Nat} {k : Value → Prop} (hk : k (.bool (!a.isNone))) (hu : Γ.und t = some (.map kt el) := by rfl) : LGet P (do eqGuard .neq t x y (.map a) (.map none); binOp .neq t (.map a) (.map none)) M k :=
  ⟨_, fun w s => neq_of_equal (r := a.isNone) rfl rfl (equalIn_map_nil Γ hu 9999 w), hk⟩
end
section
variable {P : Program} {M : List As} {k : Value → Prop}
/-- s[i] -/
theorem idxStr (Γ : Tab P) {t : TypeId} {kd : IntKind} {s : ByteArray} {i : Nat} (hu : Γ.und t = some .string) (hi : i < s.size) (hk : k (.int .u8 ((gd s.data.toList i).toNat : Int))) : LGet P (Instr.index t (.string s) (.int kd (i : Int))) M k :=
  ⟨_, fun w _ => by
    have h1 := Γ.und_ok _ _ hu
    have hd : s[i]? = some s[i] := by rw [getElem?_pos s i hi]
    have e : gd s.data.toList i = s[i] := gd_of (by
      have hi' : i < s.data.size := hi
      rw [Array.getElem?_toList, Array.getElem?_eq_getElem hi']; rfl)
    unfold Instr.index
    simp [asIntOf, run_underlying h1, hd, e], hk⟩
theorem addStr {t : TypeId} {x y : Operand} {a b : ByteArray} (h : a.size + b.size ≤ 9223372036854775807) (hk : k (.string (a ++ b))) : LGet P (do eqGuard .add t x y (.string a) (.string b); binOp .add t (.string a) (.string b)) M k :=
  ⟨_, fun w _ => by
    have h' : ¬ ((a.size + b.size : Nat) : Int) > IntKind.i64.max := by
      have : IntKind.i64.max = 9223372036854775807 := by decide
      rw [this]; omega
    simp only [eqGuard, binOp, Op.stringOp, if_neg h']
    rfl, hk⟩
/-- x[:hi] -/
theorem sliceHi2 (Γ : Tab P) {t el : TypeId} {kd : IntKind} {a : Option Addr} {len cap hi : Nat} {z : Value} {sz by' : Nat} (hu : Γ.und t = some (.slice el)) (hi' : Γ.inf el = some (z, sz, by')) (hle : ∀ h, Stars M h → hi ≤ cap)
    (hk : k (.slice a hi cap)) : LGet P (Instr.sliceAt t (.slice a len cap) none (some (.int kd (hi : Int))) none) M k :=
  ⟨_, fun w s => by
    have h1 := Γ.und_ok _ _ hu
    have h3 : (0 : Int) ≤ (hi : Int) ∧ (hi : Int) ≤ (cap : Int) := by have := hle _ s; omega
    have hb : (Instr.sliceBound (.int kd (hi : Int)) cap .sliceAcap).run P w = .ok hi w := by
      simp [Instr.sliceBound, asIntOf, h3]
    have hs : (Instr.sliceBounds true len cap none (some (.int kd (hi : Int))) none).run P w = .ok (0, hi, cap) w := by
      simp [Instr.sliceBounds, hb]
    unfold Instr.sliceAt
    simp only [Sem.run_bind, run_underlying h1, Result.andThen_ok]
    unfold Instr.slice
    simp only [Sem.run_bind, run_underlying h1, Result.andThen_ok, hs, size_of Γ hi']
    cases a <;> simp [Addr.add], hk⟩
/-- The place behind some elements. -/
def offA (a : Option Addr) (sz lo cap : Nat) : Option Addr := if cap = lo then a else a.map (·.add (lo * sz))
/-- x[lo:hi] -/
theorem sliceLH (Γ : Tab P) {t el : TypeId} {kd kd' : IntKind} {a : Option Addr} {len cap lo hi : Nat} {z : Value} {sz by' : Nat} (hu : Γ.und t = some (.slice el)) (hi' : Γ.inf el = some (z, sz, by')) (hl : lo ≤ hi) (hle : ∀ h, Stars M h → hi ≤ cap)
    (hk : k (.slice (offA a sz lo cap) (hi - lo) (cap - lo))) : LGet P (Instr.sliceAt t (.slice a len cap) (some (.int kd (lo : Int))) (some (.int kd' (hi : Int))) none) M k :=
  ⟨_, fun w s => by
    have h1 := Γ.und_ok _ _ hu
    have h3 : (0 : Int) ≤ (hi : Int) ∧ (hi : Int) ≤ (cap : Int) := by have := hle _ s; omega
    have h4 : (0 : Int) ≤ (lo : Int) ∧ (lo : Int) ≤ (hi : Int) := by omega
    have hb : (Instr.sliceBound (.int kd' (hi : Int)) cap .sliceAcap).run P w = .ok hi w := by
      simp [Instr.sliceBound, asIntOf, h3]
    have hb2 : (Instr.sliceBound (.int kd (lo : Int)) hi .sliceB).run P w = .ok lo w := by
      simp [Instr.sliceBound, asIntOf, h4]
    have hs : (Instr.sliceBounds true len cap (some (.int kd (lo : Int))) (some (.int kd' (hi : Int))) none).run P w = .ok (lo, hi, cap) w := by
      simp [Instr.sliceBounds, hb, hb2]
    unfold Instr.sliceAt
    simp only [Sem.run_bind, run_underlying h1, Result.andThen_ok]
    unfold Instr.slice
    simp only [Sem.run_bind, run_underlying h1, Result.andThen_ok, hs, size_of Γ hi']
    rfl, hk⟩
/-- x[lo:] -/
theorem sliceLo2 (Γ : Tab P) {t el : TypeId} {kd : IntKind} {a : Option Addr} {len cap lo : Nat} {z : Value} {sz by' : Nat} (hu : Γ.und t = some (.slice el)) (hi' : Γ.inf el = some (z, sz, by')) (hle : lo ≤ len)
    (hk : k (.slice (offA a sz lo cap) (len - lo) (cap - lo))) : LGet P (Instr.sliceAt t (.slice a len cap) (some (.int kd (lo : Int))) none none) M k :=
  ⟨_, fun w s => by
    have h1 := Γ.und_ok _ _ hu
    have h4 : (0 : Int) ≤ (lo : Int) ∧ (lo : Int) ≤ (len : Int) := by omega
    have hb2 : (Instr.sliceBound (.int kd (lo : Int)) len .sliceB).run P w = .ok lo w := by
      simp [Instr.sliceBound, asIntOf, h4]
    have hs : (Instr.sliceBounds true len cap (some (.int kd (lo : Int))) none none).run P w = .ok (lo, len, cap) w := by
      simp [Instr.sliceBounds, hb2]
    unfold Instr.sliceAt
    simp only [Sem.run_bind, run_underlying h1, Result.andThen_ok]
    unfold Instr.slice
    simp only [Sem.run_bind, run_underlying h1, Result.andThen_ok, hs, size_of Γ hi']
    rfl, hk⟩
/-- x[:hi:mx] -/
theorem sliceHM (Γ : Tab P) {t el : TypeId} {kd kd' : IntKind} {a : Option Addr} {len cap hi mx : Nat} {z : Value} {sz by' : Nat} (hu : Γ.und t = some (.slice el)) (hi' : Γ.inf el = some (z, sz, by')) (hl : hi ≤ mx) (hle : ∀ h, Stars M h → mx ≤ cap)
    (hk : k (.slice a hi mx)) : LGet P (Instr.sliceAt t (.slice a len cap) none (some (.int kd (hi : Int))) (some (.int kd' (mx : Int)))) M k :=
  ⟨_, fun w s => by
    have h1 := Γ.und_ok _ _ hu
    have h3 : (0 : Int) ≤ (mx : Int) ∧ (mx : Int) ≤ (cap : Int) := by have := hle _ s; omega
    have h4 : (0 : Int) ≤ (hi : Int) ∧ (hi : Int) ≤ (mx : Int) := by omega
    have hb : (Instr.sliceBound (.int kd' (mx : Int)) cap .slice3Acap).run P w = .ok mx w := by
      simp [Instr.sliceBound, asIntOf, h3]
    have hb2 : (Instr.sliceBound (.int kd (hi : Int)) mx .slice3B).run P w = .ok hi w := by
      simp [Instr.sliceBound, asIntOf, h4]
    have hs : (Instr.sliceBounds true len cap none (some (.int kd (hi : Int))) (some (.int kd' (mx : Int)))).run P w = .ok (0, hi, mx) w := by
      simp [Instr.sliceBounds, hb, hb2]
    unfold Instr.sliceAt
    simp only [Sem.run_bind, run_underlying h1, Result.andThen_ok]
    unfold Instr.slice
    simp only [Sem.run_bind, run_underlying h1, Result.andThen_ok, hs, size_of Γ hi']
    cases a <;> simp [Addr.add], hk⟩
end
section
variable {α : Type} {enc : α → List Value} {M : List As} {sz : Nat}
/-- A row that was laid whole. -/
theorem Take.lit {E : TypeId} {b n : Nat} {cs : Array Value} (xs : List α) (hx : cs.toList = xs.flatMap enc) (he : ∀ x, (enc x).length = sz) (hn : xs.length = n) (hm : n ≤ maxLen) : Take (Sl.pt b (.cells cs E (0, 0)) :: M) (ERow E sz enc (some ⟨b, 0, none⟩) n n xs) M := ⟨Ent.head (fun h e => by
  have hl : (xs.flatMap enc).length = n * sz := by rw [flat_len he, hn]
  refine ⟨hn, by rw [hl], .inr ⟨b, cs, rfl, e, Nat.le_refl _, hm, ?_, ?_⟩⟩
  · rw [← hl, ← hx]; simp
  · rw [hx, ← hl, List.take_length])⟩
/-- What is read of a slice's end. -/
theorem RdH.off {a : Option Addr} {xs : List α} (r : RdH M a sz enc xs) {lo cap : Nat} (hc : xs.length ≤ cap) : RdH M (offA a sz lo cap) sz enc (xs.drop lo) := by
  unfold offA
  by_cases c : cap = lo
  · rw [if_pos c, List.drop_of_length_le (by omega)]; exact .nil
  · rw [if_neg c]
    exact ⟨fun h s => by
      rcases r.h h s with e | ⟨b, o, e, l⟩
      · subst e; exact .inl (by simp)
      · subst e
        refine .inr ⟨b, o + lo * sz, by simp [Addr.add], fun i x hx j v hj => ?_⟩
        have := l (lo + i) x (by rw [List.getElem?_drop] at hx; exact hx) j v hj
        rw [show o + lo * sz + i * sz + j = o + (lo + i) * sz + j by rw [Nat.add_mul]; omega]
        exact this⟩
end
end Go.Sl
