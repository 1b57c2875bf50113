import Derived.Test.YtchaijafpmofdaaSlL
import Derived.MapKept
import Derived.ChangeMaps4
/-! Maps. -/
namespace Go.Sl
open Go.MapKept
set_option linter.unusedVariables false
set_option linter.unusedSimpArgs false
set_option linter.unusedSectionVars false
set_option linter.unnecessarySimpa false

instance decBA : DecidableEq ByteArray := fun a b => decidable_of_iff (a.data = b.data) (by cases a; cases b; simp)
instance lawBA : LawfulBEq ByteArray where
  eq_of_beq := fun h => (bytes_beq _ _).1 h
  rfl := (bytes_beq _ _).2 rfl
/-- Keys of one kind, as values. -/
structure KeyEnc {κ : Type} (d : TypeDesc) (ek : κ → Value) : Prop where
  key : ∀ k, IsKey d (ek k)
  inj : ∀ k k', ek k = ek k' → k = k'
theorem keyStr : KeyEnc .string Value.string := ⟨fun _ => trivial, fun _ _ h => by cases h; rfl⟩
theorem keyInt : KeyEnc (.int .i64) (Value.int .i64) := ⟨fun _ => rfl, fun _ _ h => by cases h; rfl⟩
section
variable {κ β : Type} [DecidableEq κ]
def getL : List (κ × β) → κ → Option β
  | [], _ => none
  | p :: L, k => if p.1 = k then some p.2 else getL L k
def setLk (k : κ) (v : β) : List (κ × β) → List (κ × β)
  | [] => []
  | p :: L => if p.1 = k then (k, v) :: L else p :: setLk k v L
def delL (k : κ) : List (κ × β) → List (κ × β)
  | [] => []
  | p :: L => if p.1 = k then L else p :: delL k L
def putL (L : List (κ × β)) (k : κ) (v : β) : List (κ × β) := match getL L k with | some _ => setLk k v L | none => L ++ [(k, v)]
/-- The block is a map that holds just these. -/
def MapA (d : TypeDesc) (ek : κ → Value) (ev : β → Value) (b : Nat) (L : List (κ × β)) : As := fun h =>
  ∃ es clock, h b = some (.map es clock) ∧ es.toList.map (fun e => (e.key, e.val)) = L.map (fun p => (ek p.1, ev p.2)) ∧ Stamped es clock
def idxL : List (κ × β) → κ → Option (Nat × β)
  | [], _ => none
  | p :: L, k => if p.1 = k then some (0, p.2) else (idxL L k).map (fun q => (q.1 + 1, q.2))
theorem getL_idx : ∀ (L : List (κ × β)) (k : κ), getL L k = (idxL L k).map (·.2)
  | [], _ => rfl
  | p :: L, k => by
    unfold getL idxL
    split
    · rfl
    · rw [getL_idx L k]; cases idxL L k <;> rfl
theorem setLk_idx : ∀ (L : List (κ × β)) (k : κ) (v : β) {j : Nat} {x : β}, idxL L k = some (j, x) → setLk k v L = L.set j (k, v) ∧ delL k L = L.eraseIdx j ∧ j < L.length
  | [], _, _, _, _, h => by cases h
  | p :: L, k, v, j, x, h => by
    unfold idxL at h
    unfold setLk delL
    split at h
    · cases h; rename_i hp; rw [if_pos hp, if_pos hp]; exact ⟨rfl, rfl, by simp⟩
    · rename_i hp
      rw [if_neg hp, if_neg hp]
      cases hq : idxL L k with
      | none => rw [hq] at h; cases h
      | some q =>
        rw [hq] at h
        obtain ⟨j', x'⟩ := q
        cases h
        obtain ⟨h1, h2, h3⟩ := setLk_idx L k v hq
        exact ⟨by rw [h1]; rfl, by rw [h2]; rfl, by simp; omega⟩
variable {d : TypeDesc} {ek : κ → Value} {ev : β → Value}
theorem findNow_L (he : KeyEnc d ek) (k : κ) : ∀ (l : List MapEntry) (L : List (κ × β)) (i : Nat), l.map (fun e => (e.key, e.val)) = L.map (fun p => (ek p.1, ev p.2)) → Instr.findNow d (ek k) l i = some ((idxL L k).map (fun q => (i + q.1, ev q.2)))
  | [], [], _, _ => rfl
  | [], p :: L, _, h => by cases h
  | e :: l, [], _, h => by cases h
  | e :: l, p :: L, i, h => by
    simp only [List.map_cons, List.cons.injEq, Prod.mk.injEq] at h
    obtain ⟨⟨h1, h2⟩, h3⟩ := h
    obtain ⟨r, hr, hiff⟩ := sameNow_of_keys (he.key k) (he.key p.1)
    unfold Instr.findNow idxL
    rw [h1, hr]
    cases r with
    | true =>
      have : p.1 = k := (he.inj _ _ (hiff.1 rfl)).symm
      rw [if_pos this]
      simp [h2]
    | false =>
      have : ¬ p.1 = k := fun e' => by rw [e'] at hiff; have := hiff.2 rfl; cases this
      rw [if_neg this]
      show Instr.findNow d (ek k) l (i + 1) = _
      rw [findNow_L he k l L (i + 1) h3]
      cases idxL L k with
      | none => rfl
      | some q => simp; omega
end
section
variable {P : Program} {κ β : Type} [DecidableEq κ] {d : TypeDesc} {ek : κ → Value} {ev : β → Value} {b : Nat} {L : List (κ × β)} {M N : List As}
/-- The map is found in memory. -/
structure HasMap (M : List As) (d : TypeDesc) (ek : κ → Value) (ev : β → Value) (b : Nat) (L : List (κ × β)) : Prop where
  h : ∀ h, Stars M h → ∃ es clock, h b = some (.map es clock) ∧ es.toList.map (fun e => (e.key, e.val)) = L.map (fun p => (ek p.1, ev p.2)) ∧ Stamped es clock
theorem HasMap.here : HasMap (MapA d ek ev b L :: M) d ek ev b L := ⟨fun h ⟨h1, h2, _, l1, l2, ⟨es, c, e, r⟩, _⟩ => ⟨es, c, l1 _ _ e, r⟩⟩
theorem HasMap.there {y : As} (t : HasMap M d ek ev b L) : HasMap (y :: M) d ek ev b L := ⟨fun h ⟨_, h2, _, _, l2, _, s⟩ => let ⟨es, c, e, r⟩ := t.h h2 s; ⟨es, c, l2 _ _ e, r⟩⟩
theorem HasMap.right {A : List As} (t : HasMap M d ek ev b L) : HasMap (A ++ M) d ek ev b L := ⟨fun h s => t.h h (Ent.dropl h s)⟩
/-- m[k] -/
theorem lookup1 (Γ : Tab P) {t kt el : TypeId} {z : Value} {sz by' : Nat} {k : κ} {K : Value → Prop} (hk : K (match getL L k with | some x => ev x | none => z)) (he : KeyEnc d ek) (hu : Γ.und t = some (.map kt el)) (hkt : Γ.und kt = some d) (hi : Γ.inf el = some (z, sz, by')) (hm : HasMap M d ek ev b L) :
    LGet P (Instr.lookup t (.map (some b)) (ek k) false) M K :=
  ⟨_, fun w s => by
    obtain ⟨es, c, e, hl, hs⟩ := hm.h _ s
    have e' : w.heap[b]? = some (.map es c) := e
    have hf := findNow_L (ev := ev) he k es.toList L 0 hl
    rw [getL_idx]
    have h1 := Γ.und_ok _ _ hu
    have h2 := Γ.und_ok _ _ hkt
    unfold Instr.lookup
    simp only [Sem.run_bind, run_underlying h1, Result.andThen_ok, MapKept.run_getObj_map e', Sem.run_pure, run_checkKey h2 (he.key k), run_findKey h2 hf]
    cases idxL L k with
    | none => simp [zero_of Γ hi]
    | some q => simp, hk⟩
/-- .. of no map. -/
theorem lookup0 (Γ : Tab P) {t kt el : TypeId} {z : Value} {sz by' : Nat} {k : κ} {K : Value → Prop} (hk : K z) (he : KeyEnc d ek) (hu : Γ.und t = some (.map kt el)) (hkt : Γ.und kt = some d) (hi : Γ.inf el = some (z, sz, by')) :
    LGet P (Instr.lookup t (.map none) (ek k) false) M K :=
  ⟨_, fun w s => by
    have h1 := Γ.und_ok _ _ hu
    have h2 := Γ.und_ok _ _ hkt
    have hf : Instr.findNow d (ek k) ([] : List MapEntry) 0 = some none := rfl
    unfold Instr.lookup
    simp only [Sem.run_bind, run_underlying h1, Result.andThen_ok, Sem.run_pure, run_checkKey h2 (he.key k)]
    rw [run_findKey h2 hf]
    simp [zero_of Γ hi], hk⟩
/-- m[k] = v -/
theorem put1 (Γ : Tab P) {t kt el : TypeId} {k : κ} {x : β} {K : List As → Prop} (hk : K (MapA d ek ev b (putL L k x) :: N)) (he : KeyEnc d ek) (hu : Γ.und t = some (.map kt el)) (hkt : Γ.und kt = some d) (tk : Take M (MapA d ek ev b L) N) :
    LRunU P (Instr.mapUpdate t (.map (some b)) (ek k) (ev x)) M K :=
  ⟨fun M' => M' = MapA d ek ev b (putL L k x) :: N, fun F w s => by
    have s1 := s.ent (Ent.app tk.h (Ent.refl F))
    obtain ⟨g1, g2, gd, gl1, gl2, ⟨es, c, e, hl, hst⟩, gs⟩ := s1
    have e' : w.heap[b]? = some (.map es c) := gl1 _ _ e
    have hf := findNow_L (ev := ev) he k es.toList L 0 hl
    have h1 := Γ.und_ok _ _ hu
    have h2 := Γ.und_ok _ _ hkt
    have s2 : Sat w (Sl.pt b (.map es c) :: (N ++ F)) := ⟨g1, g2, gd, gl1, gl2, e, gs⟩
    have fin : ∀ (es' : Array MapEntry) (c' : Nat), (Instr.mapUpdate t (.map (some b)) (ek k) (ev x)).run P w = .ok () { w with heap := w.heap.setIfInBounds b (.map es' c') } →
        es'.toList.map (fun e => (e.key, e.val)) = (putL L k x).map (fun p => (ek p.1, ev p.2)) → Stamped es' c' → ∃ w' M', (Instr.mapUpdate t (.map (some b)) (ek k) (ev x)).run P w = .ok () w' ∧ M' = MapA d ek ev b (putL L k x) :: N ∧ Sat w' (M' ++ F) ∧ Nx w w' := by
      intro es' c' hr hl' hs'
      have hh := heap_set (o' := .map es' c') e'
      have s3 : Sat { w with heap := w.heap.setIfInBounds b (.map es' c') } (Sl.pt b (.map es' c') :: (N ++ F)) := s2.setBlock (fun q hq => hh.2 q hq) hh.1
      refine ⟨_, _, hr, rfl, s3.ent (Ent.head (fun h' (q : h' b = _) => ⟨es', c', q, hl', hs'⟩)), ⟨rfl, rfl, rfl, by simp⟩⟩
    have hall : ∀ y ∈ es.toList, IsKey d y.key := fun y hy => by
      have : (y.key, y.val) ∈ L.map (fun p => (ek p.1, ev p.2)) := by rw [← hl]; exact List.mem_map.2 ⟨y, hy, rfl⟩
      obtain ⟨p, _, hp⟩ := List.mem_map.1 this
      simp only [Prod.mk.injEq] at hp
      rw [← hp.1]; exact he.key _
    unfold putL at fin ⊢
    rw [getL_idx] at fin ⊢
    cases hq : idxL L k with
    | none =>
      rw [hq] at hf fin
      refine fin (es.push ⟨ek k, ev x, c⟩) (c + 1) ?_ ?_ ?_
      · simp [Instr.mapUpdate, run_underlying h1, MapKept.run_getObj_map e', run_checkKey h2 (he.key k), run_findKey h2 hf, MapKept.run_setObj_map _ e', Result.andThen]
      · simp [hl]
      · refine stamped_push hst ?_
        rcases findNow_spec (he.key k) es.toList 0 hall with ⟨_, h⟩ | ⟨j, y, h, _, _⟩
        · exact h
        · rw [hf] at h; cases h
    | some q =>
      obtain ⟨j, x0⟩ := q
      rw [hq] at hf fin
      simp only [Option.map_some, Nat.zero_add] at hf fin
      obtain ⟨hs1, hs2, hs3⟩ := setLk_idx L k x hq
      have hlen : es.toList.length = L.length := by have := congrArg List.length hl; simpa using this
      have hjs : j < es.size := by simpa using (by omega : j < es.toList.length)
      have hj : es[j]? = some es[j] := Array.getElem?_eq_getElem hjs
      have hjt : es.toList[j]? = some es[j] := by simpa using hj
      have hkey : es[j].key = ek k := by
        rcases findNow_spec (he.key k) es.toList 0 hall with ⟨h, _⟩ | ⟨j', y, h, h', h''⟩
        · rw [hf] at h; cases h
        · rw [hf] at h
          simp only [Option.some.injEq, Prod.mk.injEq, Nat.zero_add] at h
          obtain ⟨h1', _⟩ := h
          rw [← h1', hjt] at h'
          injection h' with h'
          rw [h']; exact h''
      have hset : (es.modify j (fun e' => { e' with key := ek k, val := ev x })).toList.map (fun e => (e.key, e.val)) = (es.toList.map (fun e => (e.key, e.val))).set j (ek k, ev x) := by
        apply List.ext_getElem?
        intro q
        rw [List.getElem?_map, Array.toList_modify, List.getElem?_modify, List.getElem?_set, List.getElem?_map]
        by_cases e1 : j = q
        · subst e1
          rw [hjt]
          simp [hjs]
        · simp [e1]
      refine fin (es.modify j (fun e' => { e' with key := ek k, val := ev x })) c ?_ ?_ ?_
      · simp only [Instr.mapUpdate, Sem.run_bind, run_underlying h1, MapKept.run_getObj_map e', run_checkKey h2 (he.key k), run_findKey h2 hf, Result.andThen_ok, hj, Option.map_some, Option.getD_some, hkey, run_keyThatStays (he.key k), MapKept.run_setObj_map _ e']
      · rw [hset, hl, hs1, List.map_set]
      · refine stamped_modify hst _ _ (fun _ _ => rfl) (fun e0 _ he0 => ?_)
        rw [hj] at he0; cases he0; exact hkey.symm, fun M' e => e ▸ hk⟩
theorem MapA.new {h : Hp} (e : h b = some (.map #[] 0)) : MapA d ek ev b ([] : List (κ × β)) h := ⟨#[], 0, e, rfl, by intro x hx; simp at hx, by simp, by simp⟩
theorem Take.map0 : Take (Sl.pt b (.map #[] 0) :: M) (MapA d ek ev b ([] : List (κ × β))) M := ⟨Ent.head (fun h e => MapA.new e)⟩
end
section
variable {κ β : Type} [DecidableEq κ]
theorem getL_setLk : ∀ (L : List (κ × β)) (k k' : κ) (v : β), (getL L k).isSome → getL (setLk k v L) k' = if k' = k then some v else getL L k'
  | [], k, k', v, h => by cases h
  | p :: L, k, k', v, h => by
    unfold setLk
    by_cases e : p.1 = k
    · rw [if_pos e]
      show (if k = k' then some v else getL L k') = _
      by_cases e2 : k' = k
      · subst e2; simp
      · rw [if_neg (fun q => e2 q.symm), if_neg e2]
        show getL L k' = (if p.1 = k' then some p.2 else getL L k')
        rw [if_neg (fun q => e2 (q.symm.trans e))]
    · rw [if_neg e]
      have h' : (getL L k).isSome := by unfold getL at h; rw [if_neg e] at h; exact h
      show (if p.1 = k' then some p.2 else getL (setLk k v L) k') = _
      rw [getL_setLk L k k' v h']
      by_cases e2 : p.1 = k'
      · rw [if_pos e2]
        have : ¬ k' = k := fun q => e (e2.trans q)
        rw [if_neg this]
        unfold getL
        rw [if_pos e2]
      · rw [if_neg e2]
        by_cases e3 : k' = k
        · rw [if_pos e3, if_pos e3]
        · rw [if_neg e3, if_neg e3]
          conv => rhs; unfold getL
          rw [if_neg e2]
theorem getL_app : ∀ (L : List (κ × β)) (k k' : κ) (v : β), getL L k = none → getL (L ++ [(k, v)]) k' = if k' = k then some v else getL L k'
  | [], k, k', v, _ => by
    show (if k = k' then some v else none) = _
    by_cases e : k' = k
    · subst e; simp [getL]
    · rw [if_neg (fun q => e q.symm), if_neg e]; rfl
  | p :: L, k, k', v, h => by
    unfold getL at h
    by_cases e : p.1 = k
    · rw [if_pos e] at h; cases h
    · rw [if_neg e] at h
      show (if p.1 = k' then some p.2 else getL (L ++ [(k, v)]) k') = _
      rw [getL_app L k k' v h]
      by_cases e2 : p.1 = k'
      · rw [if_pos e2]
        have : ¬ k' = k := fun q => e (e2.trans q)
        rw [if_neg this]
        unfold getL
        rw [if_pos e2]
      · rw [if_neg e2]
        by_cases e3 : k' = k
        · rw [if_pos e3, if_pos e3]
        · rw [if_neg e3, if_neg e3]
          conv => rhs; unfold getL
          rw [if_neg e2]
theorem getL_put (L : List (κ × β)) (k k' : κ) (v : β) : getL (putL L k v) k' = if k' = k then some v else getL L k' := by
  unfold putL
  cases h : getL L k with
  | none => exact getL_app L k k' v h
  | some x => exact getL_setLk L k k' v (by rw [h]; rfl)
end
section
variable {P : Program} {κ β : Type} [DecidableEq κ] {d : TypeDesc} {ek : κ → Value} {ev : β → Value} {b : Nat} {L : List (κ × β)} {M N : List As}
end

/-! make([]T, n) -/
section
variable {P : Program}
theorem newMake (Γ : Tab P) {t el : TypeId} {n : Nat} {z : Value} {sz by' : Nat} {k : Value → As → Prop} (hk : ∀ b, k (.slice (some ⟨b, 0, none⟩) n n) (Sl.pt b (.cells (sliceCells z.cells (n * sz)) el))) (hu : Γ.und t = some (.slice el)) (hi : Γ.inf el = some (z, sz, by')) (hn : n ≤ 9223372036854775807) (hb : by' * n ≤ 281474976710656) :
    LNew P (Instr.makeSlice t (.int .i64 n) (.int .i64 n)) k :=
  ⟨fun b => .slice (some ⟨b, 0, none⟩) n n, .cells (sliceCells z.cells (n * sz)) el, fun w => by
    have h1 := Γ.und_ok _ _ hu
    obtain ⟨i, hi1, hi2, hi3, hi4⟩ := Γ.inf_ok _ _ _ _ hi
    have hw : IntKind.i64.wrap (n : Int) = (n : Int) := IntWalk.i64_in _ (by omega)
    have hb' : ¬ ((by' : Int) * (n : Int) > 2 ^ 48) := by
      have : (by' : Int) * (n : Int) = ((by' * n : Nat) : Int) := by simp
      rw [this]; omega
    unfold Instr.makeSlice
    have hneg : ¬ ((n : Int) < 0) := by omega
    have hb2 : ¬ (281474976710656 < (by' : Int) * (n : Int)) := by simpa using hb'
    have hz : (zeroValue el).run P w = .ok z w := zero_of Γ hi w
    have hsz : (sizeOf el).run P w = .ok sz w := size_of Γ hi w
    by_cases h0 : n * sz = 0
    · simp [run_underlying h1, asInt, asIntOf, typeInfo, hi1, hi4, hw, hb', hb2, hneg, hsz, h0, newRow, sliceCells]
      congr 2
      apply Array.ext'
      simp
    · simp [run_underlying h1, asInt, asIntOf, typeInfo, hi1, hi4, hw, hb', hb2, hneg, hsz, h0, hz, newRow, ← sliceCells_eq], hk⟩
theorem sliceCells_flat {z : Array Value} {sz : Nat} (hz : z.size = sz) (hs : 0 < sz) (n : Nat) : (sliceCells z (n * sz)).toList = (List.replicate n ()).flatMap (fun _ => z.toList) := by
  apply List.ext_getElem?
  intro q
  have hl : ((List.replicate n ()).flatMap (fun _ => z.toList)).length = n * sz := by rw [flat_len (sz := sz) (by intro _; simpa using hz)]; simp
  by_cases hq : q < n * sz
  · have hd : q / sz < n := by rw [Nat.div_lt_iff_lt_mul hs]; exact hq
    have h1 := flat_get (enc := fun _ : Unit => z.toList) (sz := sz) (by intro _; simpa using hz) (xs := List.replicate n ()) (i := q / sz) (x := ()) (j := q % sz) (by simp [hd]) (Nat.mod_lt _ hs)
    rw [Nat.div_add_mod'] at h1
    rw [h1]
    have hm : q % sz < z.size := by rw [hz]; exact Nat.mod_lt _ hs
    simp [sliceCells, hq, hz, hm, Array.getD_eq_getD_getElem?]
    rw [Array.getElem?_eq_getElem hm]; rfl
  · rw [List.getElem?_eq_none (by simp [sliceCells]; omega), List.getElem?_eq_none (by rw [hl]; omega)]
/-- The row of what was made. -/
theorem Take.made {α : Type} {enc : α → List Value} {z : Array Value} {sz n b : Nat} {E : TypeId} {M : List As} (x0 : α) (hz : z.toList = enc x0) (he : (enc x0).length = sz) (hs : 0 < sz) (hn : n ≤ maxLen) : Take (Sl.pt b (.cells (sliceCells z (n * sz)) E) :: M) (ERow E sz enc (some ⟨b, 0, none⟩) n n (List.replicate n x0)) M := ⟨Ent.head (fun h e => by
  have hzs : z.size = sz := by rw [← he, ← hz]; simp
  have hf := sliceCells_flat hzs hs n
  have hfe : ∀ m : Nat, (List.replicate m x0).flatMap enc = (List.replicate m ()).flatMap (fun _ => z.toList) := by
    intro m
    rw [hz]
    induction m with
    | zero => rfl
    | succ m ih => rw [List.replicate_succ, List.replicate_succ, List.flatMap_cons, List.flatMap_cons, ih]
  have hfe := hfe n
  refine ⟨by simp, ?_, .inr ⟨b, _, rfl, e, Nat.le_refl _, hn, ?_, ?_⟩⟩
  · rw [hfe, ← hf]; simp [sliceCells]
  · simp [sliceCells]
  · rw [hfe, ← hf, List.take_of_length_le (by simp [sliceCells])])⟩
end
end Go.Sl
