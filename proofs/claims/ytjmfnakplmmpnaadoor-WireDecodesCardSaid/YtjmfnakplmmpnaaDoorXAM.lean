import Derived.Test.YtjmfnakplmmpnaaDoorXAL
import Derived.MapKept
import Derived.ChangeMaps4
namespace Go.Sl
open Go.MapKept
set_option linter.unusedVariables false
set_option linter.unusedSimpArgs false
set_option linter.unusedSectionVars false
set_option linter.unnecessarySimpa false
instance decBA : DecidableEq ByteArray := fun a b => decidable_of_iff (a.data = b.data) (by cases a; cases b; simp)
instance lawBA : LawfulBEq ByteArray where
  eq_of_beq := fun h => (bytes_beq _ _).1 h
  rfl := (bytes_beq _ _).2 rfl
structure KeyEnc {κ : Type} (d : TypeDesc) (ek : κ → Value) : Prop where
  key : ∀ k, IsKey d (ek k)
  inj : ∀ k k', ek k = ek k' → k = k'
section
variable {κ β : Type} [DecidableEq κ]
def MapA (d : TypeDesc) (ek : κ → Value) (ev : β → Value) (b : Nat) (L : List (κ × β)) : As := fun h =>
  ∃ es clock, h b = some (.map es clock) ∧ es.toList.map (fun e => (e.key, e.val)) = L.map (fun p => (ek p.1, ev p.2)) ∧ Stamped es clock
variable {d : TypeDesc} {ek : κ → Value} {ev : β → Value}
end
section
variable {P : Program} {κ β : Type} [DecidableEq κ] {d : TypeDesc} {ek : κ → Value} {ev : β → Value} {b : Nat} {L : List (κ × β)} {M N : List As}
structure HasMap (M : List As) (d : TypeDesc) (ek : κ → Value) (ev : β → Value) (b : Nat) (L : List (κ × β)) : Prop where
  h : ∀ h, Stars M h → ∃ es clock, h b = some (.map es clock) ∧ es.toList.map (fun e => (e.key, e.val)) = L.map (fun p => (ek p.1, ev p.2)) ∧ Stamped es clock
theorem HasMap.here : HasMap (MapA d ek ev b L :: M) d ek ev b L := ⟨fun h ⟨h1, h2, _, l1, l2, ⟨es, c, e, r⟩, _⟩ => ⟨es, c, l1 _ _ e, r⟩⟩
theorem HasMap.there {y : As} (t : HasMap M d ek ev b L) : HasMap (y :: M) d ek ev b L := ⟨fun h ⟨_, h2, _, _, l2, _, s⟩ => let ⟨es, c, e, r⟩ := t.h h2 s; ⟨es, c, l2 _ _ e, r⟩⟩
theorem HasMap.right {A : List As} (t : HasMap M d ek ev b L) : HasMap (A ++ M) d ek ev b L := ⟨fun h s => t.h h (Ent.dropl h s)⟩
theorem MapA.new {h : Hp} (e : h b = some (.map #[] 0)) : MapA d ek ev b ([] : List (κ × β)) h := ⟨#[], 0, e, rfl, by intro x hx; simp at hx, by simp, by simp⟩
theorem Take.map0 : Take (Sl.pt b (.map #[] 0) :: M) (MapA d ek ev b ([] : List (κ × β))) M := ⟨Ent.head (fun h e => MapA.new e)⟩
end
section
variable {κ β : Type} [DecidableEq κ]
end
section
variable {P : Program} {κ β : Type} [DecidableEq κ] {d : TypeDesc} {ek : κ → Value} {ev : β → Value} {b : Nat} {L : List (κ × β)} {M N : List As}
end
section
variable {P : Program}
theorem sliceCells_flat {z : Array Value} {sz : Nat} (hz : z.size = sz) (hs : 0 < sz) (n : Nat) : (sliceCells z (n * sz)).toList = (List.replicate n ()).flatMap (fun _ => z.toList) := by
  apply List.ext_getElem?
  intro q
  have hl : ((List.replicate n ()).flatMap (fun _ => z.toList)).length = n * sz := by rw [flat_len (sz := sz) (by intro _; simpa using hz)]; simp
  by_cases hq : q < n * sz
  · have hd : q / sz < n := by rw [Nat.div_lt_iff_lt_mul hs]; exact hq
    have h1 := flat_get (enc := fun _ : Unit => z.toList) (sz := sz) (by intro _; simpa using hz) (xs := List.replicate n ()) (i := q / sz) (x := ()) (j := q % sz) (by simp [hd]) (Nat.mod_lt _ hs)
    rw [Nat.div_add_mod'] at h1
    rw [h1]
    have hm : q % sz < z.size := by rw [hz]; exact Nat.mod_lt _ hs
    simp [sliceCells, hq, hz, hm, Array.getD_eq_getD_getElem?]
    rw [Array.getElem?_eq_getElem hm]; rfl
  · rw [List.getElem?_eq_none (by simp [sliceCells]; omega), List.getElem?_eq_none (by rw [hl]; omega)]
theorem Take.made {α : Type} {enc : α → List Value} {z : Array Value} {sz n b : Nat} {E : TypeId} {M : List As} (x0 : α) (hz : z.toList = enc x0) (he : (enc x0).length = sz) (hs : 0 < sz) (hn : n ≤ maxLen) : Take (Sl.pt b (.cells (sliceCells z (n * sz)) E) :: M) (ERow E sz enc (some ⟨b, 0, none⟩) n n (List.replicate n x0)) M := ⟨Ent.head (fun h e => by
  have hzs : z.size = sz := by rw [← he, ← hz]; simp
  have hf := sliceCells_flat hzs hs n
  have hfe : ∀ m : Nat, (List.replicate m x0).flatMap enc = (List.replicate m ()).flatMap (fun _ => z.toList) := by
    intro m
    rw [hz]
    induction m with
    | zero => rfl
    | succ m ih => rw [List.replicate_succ, List.replicate_succ, List.flatMap_cons, List.flatMap_cons, ih]
  have hfe := hfe n
  refine ⟨by simp, ?_, .inr ⟨b, _, rfl, e, Nat.le_refl _, hn, ?_, ?_⟩⟩
  · rw [hfe, ← hf]; simp [sliceCells]
  · simp [sliceCells]
  · rw [hfe, ← hf, List.take_of_length_le (by simp [sliceCells])])⟩
end
end Go.Sl
