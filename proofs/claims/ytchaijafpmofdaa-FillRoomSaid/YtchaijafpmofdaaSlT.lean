import Derived.Test.YtchaijafpmofdaaSlJ
import Derived.WalkKit
import Derived.ProofKit
import Derived.OpenShut
import Derived.ShutString
import Derived.ChangeOld
import Derived.Below
import Derived.Carry
/-! From a contract to a statement: what the arguments hold, and old memory. -/
namespace Go.Sl
open Go.ChangeShapes Go.WideShapes Go.ChangeAt Go.RowKit
set_option linter.unusedVariables false
set_option linter.unusedSimpArgs false

/-- All that was there is there. -/
def Old (w0 : World) : As := fun h => ∀ b o, w0.heap[b]? = some o → h b = some o
theorem old_sat (w : World) : Sat w [Old w] := ⟨hpOf w, Hp.nil, (by intro b; exact .inr rfl), Hp.le_refl _, Hp.nil_le _, fun b o h => h, trivial⟩
theorem Cell.old {w : World} {b o : Nat} {v : Value} (h : w.cell? ⟨b, o, none⟩ = some v) : Cell [Old w] b o v := ⟨fun h' ⟨h1, h2, d, l1, l2, a, s⟩ => by
  unfold World.cell? at h
  split at h
  · rename_i cs T fr hb
    simp at h
    exact ⟨cs, T, fr, l1 _ _ (a _ _ hb), h⟩
  · cases h⟩
theorem old_below {w w' : World} (s : Sat w' [Old w]) (n : Nx w w') : Below w.heap.size w w' := by
  refine ⟨n.os, n.tape, n.output, n.size, fun k hk => ?_⟩
  obtain ⟨h1, h2, d, l1, l2, a, _⟩ := s
  have h0 : w.heap[k]? = some w.heap[k] := Array.getElem?_eq_getElem hk
  rw [h0]
  exact l1 _ _ (a _ _ h0)
section
variable {P : Program}
/-- THE WALK's END. -/
theorem law_walk {f : FuncId} {args : Array Value} {w : World} (h : Ctr P f args [Old w] (fun v M' => v = .bool true ∧ M' = [Old w])) :
    Calls P f args w fun e w' => e = .returned (.bool true) ∧ Below w.heap.size w w' :=
  Calls.mono (h.2 [] w (by simpa using old_sat w)) fun e w' ⟨v, M', he, ⟨hv, hM⟩, hs, hn⟩ => by
    subst hv; subst hM
    exact ⟨he, old_below (by simpa using hs) hn⟩

/-- A call that asks nothing of memory. -/
theorem Ctr.anywhere {f : FuncId} {args : Array Value} {p : Value → Prop} {M : List As} (h : Ctr P f args [] (fun v M' => p v ∧ M' = [])) : Ctr P f args M (fun v M' => p v ∧ M' = M) :=
  ⟨h.1, fun F w s => Calls.mono (h.2 (M ++ F) w (by simpa using s)) fun e w' ⟨v, M', he, ⟨hv, hM⟩, hs, hn⟩ => ⟨v, M, he, ⟨hv, rfl⟩, by subst hM; simpa using hs, hn⟩⟩

/-! What an argument's cells hold: a Lean value, laid by 'enc', of which 'good' is known. -/
def Opens (P : Program) (w : World) (t : TypeId) {α : Type} (enc : α → List Value) (good : α → Prop) : Prop :=
  ∀ {H : Type} (en : TypeId × Value → H) (fuel : Nat) (cs : List Value) (r : DataW H × List MemPlace), DataW.trod en P w 0 (fun _ => true) true fuel t cs = some r → ∃ x, cs = enc x ∧ good x
variable (Γ : Tab P) {w : World}
def encI (k : IntKind) (n : Int) : List Value := [.int k n]
def encB (b : Bool) : List Value := [.bool b]
def encS (s : ByteArray) : List Value := [.string s]
theorem Opens.int {t : TypeId} {k : IntKind} (hu : Γ.und t = some (.int k)) : Opens P w t (encI k) (fun n => (Lit.int k n).wf = true) := fun en fuel cs r h => by
  obtain ⟨n, h1, _, h3⟩ := DataW.trod_int (Γ.und_ok _ _ hu) h
  exact ⟨n, h1, h3⟩
theorem Opens.bool {t : TypeId} (hu : Γ.und t = some .bool) : Opens P w t encB (fun _ => True) := fun en fuel cs r h => by
  obtain ⟨n, h1, _⟩ := DataW.trod_bool (Γ.und_ok _ _ hu) h
  exact ⟨n, h1, trivial⟩
theorem Opens.str {t : TypeId} (hu : Γ.und t = some .string) : Opens P w t encS (fun s => s.size ≤ maxLen) := fun en fuel cs r h => by
  obtain ⟨n, h1, _, h3⟩ := DataW.trod_string (Γ.und_ok _ _ hu) h
  exact ⟨n, h1, h3⟩
/-- A slice that came in. -/
structure SlV (α : Type) where
  a : Option Addr
  cap : Nat
  xs : List α
def SlV.val {α : Type} (s : SlV α) : Value := .slice s.a s.xs.length s.cap
def encL {α : Type} (s : SlV α) : List Value := [s.val]
structure SlV.Good {α : Type} (w : World) (enc : α → List Value) (good : α → Prop) (s : SlV α) : Prop where
  le : s.xs.length ≤ s.cap
  cap : s.cap ≤ maxLen
  each : ∀ x ∈ s.xs, good x
  at' : s.xs = [] ∨ ∃ b o, s.a = some ⟨b, o, none⟩ ∧ ∀ j v, (s.xs.flatMap enc)[j]? = some v → w.cell? ⟨b, o + j, none⟩ = some v
theorem SlV.Good.nil0 {α : Type} {w : World} {enc : α → List Value} {good : α → Prop} {s : SlV α} (g : SlV.Good w enc good s) (h : s.a = none) : s.xs.length = 0 := by
  rcases g.at' with e | ⟨b, o, e, _⟩
  · rw [e]; rfl
  · rw [h] at e; cases e
theorem cells?_get {w : World} {base : Nat} {a : Addr} {n : Nat} {cs : List Value} (h : w.cells? base a n = some cs) : cs.length = n ∧ ∀ j v, cs[j]? = some v → w.cell? (a.add j) = some v := by
  unfold World.cells? at h
  split at h
  · have key : ∀ (is : List Nat) (cs : List Value), is.mapM (fun i => w.cell? (a.add i)) = some cs → cs.length = is.length ∧ ∀ (j : Nat) (v : Value), cs[j]? = some v → ∃ i, is[j]? = some i ∧ w.cell? (a.add i) = some v := by
      intro is
      induction is with
      | nil => intro cs h; simp at h; subst h; exact ⟨rfl, fun j v hj => by simp at hj⟩
      | cons i is ih =>
        intro cs h
        rw [List.mapM_cons] at h
        cases hc : w.cell? (a.add i) with
        | none => simp [hc] at h
        | some u =>
          cases hr : is.mapM (fun i => w.cell? (a.add i)) with
          | none => simp [hc, hr] at h
          | some us =>
            simp [hc, hr] at h
            subst h
            obtain ⟨h1, h2⟩ := ih us hr
            refine ⟨by simp [h1], fun j v hj => ?_⟩
            cases j with
            | zero => simp at hj; subst hj; exact ⟨i, rfl, hc⟩
            | succ j => simp at hj; obtain ⟨i', h3, h4⟩ := h2 j v hj; exact ⟨i', by simpa using h3, h4⟩
    obtain ⟨h1, h2⟩ := key _ _ h
    refine ⟨by simpa using h1, fun j v hj => ?_⟩
    obtain ⟨i, h3, h4⟩ := h2 j v hj
    have : i = j := by
      have := List.getElem?_eq_some_iff.1 h3
      obtain ⟨hl, he⟩ := this
      simpa using he.symm
    rw [← this]; exact h4
  · cases h
theorem cell?_spot {w : World} {a : Addr} {v : Value} (h : w.cell? a = some v) : a.spot = none := by
  unfold World.cell? at h
  split at h
  · split at h
    · cases h
    · rename_i hs; simpa using hs
  · cases h
theorem exists_list {α : Type} {p : Nat → α → Prop} : ∀ (n : Nat), (∀ i, i < n → ∃ x, p i x) → ∃ xs : List α, xs.length = n ∧ ∀ i x, xs[i]? = some x → p i x := by
  intro n
  induction n with
  | zero => intro _; exact ⟨[], rfl, fun i x h => by simp at h⟩
  | succ n ih =>
    intro h
    obtain ⟨xs, h1, h2⟩ := ih (fun i hi => h i (by omega))
    obtain ⟨y, hy⟩ := h n (by omega)
    refine ⟨xs ++ [y], by simp [h1], fun i x hx => ?_⟩
    by_cases hi : i < n
    · rw [List.getElem?_append_left (by omega)] at hx; exact h2 i x hx
    · have : i = n := by
        have := (List.getElem?_eq_some_iff.1 hx).1
        simp [h1] at this; omega
      subst this
      rw [List.getElem?_append_right (by omega)] at hx
      simp [h1] at hx
      subst hx; exact hy
theorem flat_at {α : Type} {enc : α → List Value} {sz : Nat} (he : ∀ x, (enc x).length = sz) (hs : 0 < sz) {xs : List α} {j : Nat} {v : Value} (h : (xs.flatMap enc)[j]? = some v) : ∃ x, xs[j / sz]? = some x ∧ (enc x)[j % sz]? = some v := by
  have hlt := (List.getElem?_eq_some_iff.1 h).1
  rw [flat_len he] at hlt
  have hd : j / sz < xs.length := by rw [Nat.div_lt_iff_lt_mul hs]; exact hlt
  refine ⟨xs[j / sz], List.getElem?_eq_getElem hd, ?_⟩
  have := flat_get he (List.getElem?_eq_getElem hd) (Nat.mod_lt j hs)
  rw [show j / sz * sz + j % sz = j from Nat.div_add_mod' j sz] at this
  rw [← this]; exact h
theorem cellsOf_ok {t : TypeId} {z : Value} {sz by' : Nat} (hi : Γ.inf t = some (z, sz, by')) : P.cellsOf t = sz := by
  obtain ⟨i, hi1, hi2, hi3, hi4⟩ := Γ.inf_ok _ _ _ _ hi
  simp [Program.cellsOf, hi1, hi3]
theorem Opens.slice {t e : TypeId} {z : Value} {sz by' : Nat} {α : Type} {enc : α → List Value} {good : α → Prop} (hu : Γ.und t = some (.slice e)) (hi : Γ.inf e = some (z, sz, by')) (hs : 0 < sz) (he : ∀ x, (enc x).length = sz) (ho : Opens P w e enc good) :
    Opens P w t encL (SlV.Good w enc good) := fun en fuel cs r h => by
  rcases DataW.trod_slice (Γ.und_ok _ _ hu) h with ⟨rfl, _⟩ | ⟨a, len, cap, elems, rest, n, _, rfl, _, hb, hl, hm, hlen, hel, _, _⟩
  · exact ⟨⟨none, 0, []⟩, rfl, ⟨Nat.le_refl _, Nat.zero_le _, (by intro x hx; simp at hx), .inl rfl⟩⟩
  rw [cellsOf_ok Γ hi] at hel
  have each : ∀ i, i < len → ∃ x, good x ∧ ∀ j v, (enc x)[j]? = some v → w.cell? ((a.add (i * sz)).add j) = some v := by
    intro i hi
    have h1 := hel i hi
    rw [List.getElem?_eq_getElem (by omega)] at h1
    simp only [Option.bind_eq_some_iff] at h1
    obtain ⟨ccs, h2, h3⟩ := h1
    obtain ⟨x, rfl, hx⟩ := ho en _ _ _ h3
    exact ⟨x, hx, (cells?_get h2).2⟩
  obtain ⟨xs, hxl, hxs⟩ := exists_list len each
  refine ⟨⟨some a, cap, xs⟩, by simp [encL, SlV.val, hxl], ⟨by simp [hxl]; exact hl, hm, ?_, ?_⟩⟩
  · intro x hx
    obtain ⟨i, hi, rfl⟩ := List.mem_iff_getElem.1 hx
    exact (hxs i _ (List.getElem?_eq_getElem hi)).1
  · cases hx0 : xs with
    | nil => exact .inl rfl
    | cons x0 xr =>
      right
      have hspot : a.spot = none := by
        have h0 := (hxs 0 x0 (by rw [hx0]; rfl)).2 0 ((enc x0)[0]'(by rw [he]; exact hs)) (List.getElem?_eq_getElem _)
        simp [Addr.add] at h0
        exact cell?_spot h0
      obtain ⟨b, o, s⟩ := a
      simp at hspot
      subst hspot
      refine ⟨b, o, rfl, fun j v hj => ?_⟩
      rw [show SlV.xs (⟨some ⟨b, o, none⟩, cap, x0 :: xr⟩ : SlV α) = xs from hx0.symm] at hj
      obtain ⟨x, h1, h2⟩ := flat_at he hs hj
      have h3 := (hxs _ x h1).2 _ _ h2
      have e : ((⟨b, o, none⟩ : Addr).add (j / sz * sz)).add (j % sz) = ⟨b, o + j, none⟩ := by
        have := Nat.div_add_mod' j sz
        unfold Addr.add
        split <;> split <;> simp_all <;> omega
      rw [e] at h3; exact h3
def encA {α : Type} {n : Nat} (enc : α → List Value) (xs : {xs : List α // xs.length = n}) : List Value := xs.1.flatMap enc
theorem encA_len {α : Type} {n sz : Nat} {enc : α → List Value} (he : ∀ x, (enc x).length = sz) (xs : {xs : List α // xs.length = n}) : (encA enc xs).length = n * sz := by rw [encA, flat_len he, xs.2]
theorem flat_of_pieces {α : Type} {enc : α → List Value} {sz : Nat} (he : ∀ x, (enc x).length = sz) : ∀ {xs : List α} {cs : List Value}, cs.length = xs.length * sz → (∀ i x, xs[i]? = some x → (cs.drop (i * sz)).take sz = enc x) → cs = xs.flatMap enc := by
  intro xs
  induction xs with
  | nil => intro cs hl _; simp at hl; simp [hl]
  | cons x xs ih =>
    intro cs hl h
    have h0 := h 0 x rfl
    simp at h0
    have hl' : (cs.drop sz).length = xs.length * sz := by rw [List.length_drop, hl, List.length_cons, Nat.succ_mul]; omega
    have := ih hl' (fun i y hy => by
      have := h (i + 1) y hy
      rw [List.drop_drop, Nat.add_comm sz, ← Nat.succ_mul]; exact this)
    rw [List.flatMap_cons, ← this, ← h0, List.take_append_drop]
theorem Opens.arr {t e : TypeId} {n : Nat} {z z' : Value} {sz by' tz by'' : Nat} {α : Type} {enc : α → List Value} {good : α → Prop} (hu : Γ.und t = some (.array n e)) (hi : Γ.inf e = some (z, sz, by')) (hi' : Γ.inf t = some (z', tz, by'')) (htz : tz = n * sz) (he : ∀ x, (enc x).length = sz) (ho : Opens P w e enc good) :
    Opens P w t (encA (n := n) enc) (fun xs => ∀ x ∈ xs.1, good x) := fun en fuel cs r h => by
  obtain ⟨xs, m, _, _, hl, hlen, hel⟩ := DataW.trod_array (Γ.und_ok _ _ hu) h
  rw [cellsOf_ok Γ hi'] at hl
  rw [cellsOf_ok Γ hi] at hel
  have each : ∀ i, i < n → ∃ x, good x ∧ (cs.drop (i * sz)).take sz = enc x := by
    intro i hi
    have h1 := hel i hi
    rw [List.getElem?_eq_getElem (by omega)] at h1
    obtain ⟨x, h2, h3⟩ := ho en _ _ _ h1
    exact ⟨x, h3, h2⟩
  obtain ⟨ys, hyl, hys⟩ := exists_list n each
  refine ⟨⟨ys, hyl⟩, ?_, ?_⟩
  · exact flat_of_pieces he (by rw [hl, htz, hyl]) (fun i x hx => (hys i x hx).2)
  · intro x hx
    obtain ⟨i, hi, rfl⟩ := List.mem_iff_getElem.1 hx
    exact (hys i _ (List.getElem?_eq_getElem hi)).1

/-- .. in other words. -/
theorem Opens.map {t : TypeId} {α β : Type} {enc : α → List Value} {good : α → Prop} {enc' : β → List Value} {good' : β → Prop} (f : α → β) (he : ∀ x, good x → enc x = enc' (f x)) (hg : ∀ x, good x → good' (f x)) (ho : Opens P w t enc good) : Opens P w t enc' good' := fun en fuel cs r h => by
  obtain ⟨x, h1, h2⟩ := ho en _ _ _ h
  exact ⟨f x, h1.trans (he x h2), hg x h2⟩
theorem wf_range {k : IntKind} {n : Int} (h : (Lit.int k n).wf = true) : k.min ≤ n ∧ n ≤ k.max := by
  simpa [Lit.wf] using h
theorem wf_i64 {n : Int} (h : (Lit.int .i64 n).wf = true) : -9223372036854775808 ≤ n ∧ n ≤ 9223372036854775807 := wf_range h
theorem Opens.byte {t : TypeId} (hu : Γ.und t = some (.int .u8)) : Opens P w t (fun x : UInt8 => [Value.int .u8 (x.toNat : Int)]) (fun _ => True) :=
  Opens.map (fun n : Int => UInt8.ofNat n.toNat) (fun n h => by
    have h1 : 0 ≤ n ∧ n ≤ 255 := wf_range h
    have h2 : (UInt8.ofNat n.toNat).toNat = n.toNat := by simp [UInt8.toNat_ofNat']; omega
    rw [h2]
    unfold encI
    rw [show ((n.toNat : Nat) : Int) = n by omega]) (fun _ _ => trivial) (Opens.int Γ hu)
theorem Opens.u16 {t : TypeId} (hu : Γ.und t = some (.int .u16)) : Opens P w t (fun x : Nat => [Value.int .u16 (x : Int)]) (fun n => n < 65536) :=
  Opens.map (fun n : Int => n.toNat) (fun n h => by
    have h1 : 0 ≤ n ∧ n ≤ 65535 := wf_range h
    unfold encI
    rw [show ((n.toNat : Nat) : Int) = n by omega]) (fun n h => by have h1 : 0 ≤ n ∧ n ≤ 65535 := wf_range h; omega) (Opens.int Γ hu)
/-- The fields from one on, from a place on. -/
def OpensF (P : Program) (w : World) (fs : List Field) (off : Nat) {α : Type} (enc : α → List Value) (good : α → Prop) : Prop :=
  ∀ {H : Type} (en : TypeId × Value → H) (fuel : Nat) (cs : List Value), (∀ f ∈ fs, ∃ r : DataW H × List MemPlace, DataW.trod en P w 0 (fun _ => true) true fuel f.type ((cs.drop f.offset).take (P.cellsOf f.type)) = some r) → ∃ (x : α) (n : Nat), (cs.drop off).take n = enc x ∧ n = (fs.map (fun f => P.cellsOf f.type)).sum ∧ good x
theorem OpensF.nil {off : Nat} : OpensF P w [] off (fun _ : Unit => []) (fun _ => True) := fun en fuel cs h => ⟨(), 0, by simp, rfl, trivial⟩
theorem OpensF.cons {f : Field} {fs : List Field} {off sz by' : Nat} {z : Value} {α β : Type} {enc : α → List Value} {good : α → Prop} {enc' : β → List Value} {good' : β → Prop} (hi : Γ.inf f.type = some (z, sz, by')) (hoff : f.offset = off) (ho : Opens P w f.type enc good) (hr : OpensF P w fs (off + sz) enc' good') :
    OpensF P w (f :: fs) off (fun x : α × β => enc x.1 ++ enc' x.2) (fun x => good x.1 ∧ good' x.2) := fun en fuel cs h => by
  obtain ⟨r, h1⟩ := h f (List.mem_cons_self ..)
  obtain ⟨x, h2, h3⟩ := ho en _ _ _ h1
  obtain ⟨y, n, h4, h5, h6⟩ := hr en fuel cs (fun g hg => h g (List.mem_cons_of_mem _ hg))
  rw [cellsOf_ok Γ hi, hoff] at h2
  refine ⟨(x, y), sz + n, ?_, by simp [cellsOf_ok Γ hi, h5], h3, h6⟩
  rw [List.take_add, h2, List.drop_drop, h4]
theorem Opens.struct {t : TypeId} {fs : Array Field} {z : Value} {sz by' : Nat} {α : Type} {enc : α → List Value} {good : α → Prop} (hu : Γ.und t = some (.struct fs)) (hi : Γ.inf t = some (z, sz, by')) (ho : OpensF P w fs.toList 0 enc good) (hsum : (fs.toList.map (fun f => P.cellsOf f.type)).sum = sz) :
    Opens P w t enc good := fun en fuel cs r h => by
  obtain ⟨xs, m, _, _, hl, hlen, hel⟩ := DataW.trod_struct (Γ.und_ok _ _ hu) h
  rw [cellsOf_ok Γ hi] at hl
  obtain ⟨x, n, h1, h2, h3⟩ := ho en m cs (fun f hf => by
    obtain ⟨i, hi, rfl⟩ := List.mem_iff_getElem.1 hf
    have := hel i _ (by rw [Array.getElem?_eq_getElem (by simpa using hi)])
    rw [List.getElem?_eq_getElem (by simp at hi; omega)] at this
    exact ⟨_, this⟩)
  refine ⟨x, ?_, h3⟩
  rw [← h1, List.drop_zero, List.take_of_length_le (by omega)]

/-- An argument of one cell, and one of many. -/
theorem open1 {t : TypeId} {v : Value} {H : Type} {en : TypeId × Value → H} {d : DataW H} {p : List MemPlace} {α : Type} {enc : α → List Value} {good : α → Prop} {g : α → Value} (hg : ∀ x, enc x = [g x]) (hn : oneD (Γ.und t) = true) (hval : Value.okWide P w .any 0 t v) (ho : Opens P w t enc good) (h : DataW.Trod en P w 0 (fun _ => true) true t v d p) : ∃ x, v = g x ∧ good x := by
  obtain ⟨fuel, h⟩ := h
  obtain ⟨x, h1, h2⟩ := ho en _ _ _ h
  refine ⟨x, ?_, h2⟩
  rw [hg] at h1
  cases hd : Γ.und t with
  | none => rw [hd] at hn; cases hn
  | some dd =>
    have hu := Γ.und_ok _ _ hd
    rw [hd] at hn
    have hna : ∀ cs, v ≠ .agg cs := by
      rintro cs rfl
      unfold Value.okWide at hval
      rw [hu] at hval
      cases dd <;> simp [oneD] at hn <;> simp [Cell.okWide, Cell.ok, hu] at hval
    cases v <;> first | (simp [Value.cells] at h1; exact h1) | exact (hna _ rfl).elim
theorem openN {t : TypeId} {v : Value} {H : Type} {en : TypeId × Value → H} {d : DataW H} {p : List MemPlace} {α : Type} {enc : α → List Value} {good : α → Prop} (hn : aggD (Γ.und t) = true) (hval : Value.okWide P w .any 0 t v) (ho : Opens P w t enc good) (h : DataW.Trod en P w 0 (fun _ => true) true t v d p) : ∃ x, v = .agg (enc x).toArray ∧ good x := by
  obtain ⟨fuel, h⟩ := h
  obtain ⟨x, h1, h2⟩ := ho en _ _ _ h
  refine ⟨x, ?_, h2⟩
  cases hd : Γ.und t with
  | none => rw [hd] at hn; cases hn
  | some dd =>
    have hu := Γ.und_ok _ _ hd
    rw [hd] at hn
    have hag : ∃ cs, v = .agg cs := by
      unfold Value.okWide at hval
      rw [hu] at hval
      cases dd <;> simp [aggD] at hn
      · obtain ⟨cs, rfl, _⟩ := hval; exact ⟨_, rfl⟩
      · obtain ⟨cs, rfl, _⟩ := hval; exact ⟨_, rfl⟩
    obtain ⟨cs, rfl⟩ := hag
    rw [← h1]
    simp [Value.cells]
end
end Go.Sl
