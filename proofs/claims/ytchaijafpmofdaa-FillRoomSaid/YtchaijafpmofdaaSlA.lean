import Derived.WalkKit
import Derived.WalkSpells
import Derived.WalkLawsBesides
/-! Assertions over parts of the heap. -/
namespace Go.Sl
set_option linter.unusedVariables false
set_option linter.unusedSimpArgs false

abbrev Hp := Nat → Option Obj
def Hp.le (h k : Hp) : Prop := ∀ b o, h b = some o → k b = some o
def Hp.dis (h k : Hp) : Prop := ∀ b, h b = none ∨ k b = none
def Hp.un (h k : Hp) : Hp := fun b => match h b with | some o => some o | none => k b
def Hp.one (b : Nat) (o : Obj) : Hp := fun c => if c = b then some o else none
def Hp.nil : Hp := fun _ => none
def As := Hp → Prop

theorem Hp.le_refl (h : Hp) : Hp.le h h := fun _ _ e => e
theorem Hp.le_trans {a b c : Hp} (h : Hp.le a b) (k : Hp.le b c) : Hp.le a c := fun x o e => k x o (h x o e)
theorem Hp.dis_symm {a b : Hp} (h : Hp.dis a b) : Hp.dis b a := fun x => (h x).symm
theorem Hp.dis_le {a b c d : Hp} (h : Hp.dis b d) (k : Hp.le a b) (l : Hp.le c d) : Hp.dis a c := by
  intro x
  rcases h x with h | h
  · left
    cases e : a x with
    | none => rfl
    | some o => rw [k x o e] at h; cases h
  · right
    cases e : c x with
    | none => rfl
    | some o => rw [l x o e] at h; cases h
theorem Hp.le_un_left (a b : Hp) : Hp.le a (Hp.un a b) := by intro x o e; simp [Hp.un, e]
theorem Hp.le_un_right {a b : Hp} (h : Hp.dis a b) : Hp.le b (Hp.un a b) := by
  intro x o e
  rcases h x with h | h
  · simp [Hp.un, h, e]
  · rw [e] at h; cases h
theorem Hp.un_le {a b c : Hp} (h : Hp.le a c) (k : Hp.le b c) : Hp.le (Hp.un a b) c := by
  intro x o e
  unfold Hp.un at e
  split at e
  · rename_i o' h1; cases e; exact h x _ h1
  · exact k x o e
theorem Hp.dis_un {a b c : Hp} (h : Hp.dis a c) (k : Hp.dis b c) : Hp.dis (Hp.un a b) c := by
  intro x
  rcases h x with h | h
  · rcases k x with k | k
    · left; simp [Hp.un, h, k]
    · exact .inr k
  · exact .inr h
theorem Hp.dis_nil (h : Hp) : Hp.dis Hp.nil h := fun _ => .inl rfl
theorem Hp.nil_le (h : Hp) : Hp.le Hp.nil h := fun _ _ e => by cases e

def Stars : List As → Hp → Prop
  | [], _ => True
  | A :: L, h => ∃ h1 h2, Hp.dis h1 h2 ∧ Hp.le h1 h ∧ Hp.le h2 h ∧ A h1 ∧ Stars L h2

theorem Stars.mono : ∀ {L : List As} {h k : Hp}, Stars L h → Hp.le h k → Stars L k
  | [], _, _, _, _ => trivial
  | _ :: _, _, _, ⟨h1, h2, d, l1, l2, a, s⟩, hk => ⟨h1, h2, d, Hp.le_trans l1 hk, Hp.le_trans l2 hk, a, s⟩

theorem Stars.app : ∀ {L M : List As} {h : Hp}, Stars (L ++ M) h ↔ ∃ h1 h2, Hp.dis h1 h2 ∧ Hp.le h1 h ∧ Hp.le h2 h ∧ Stars L h1 ∧ Stars M h2
  | [], M, h => ⟨fun s => ⟨Hp.nil, h, Hp.dis_nil _, Hp.nil_le _, Hp.le_refl _, trivial, s⟩, fun ⟨_, _, _, _, l2, _, s⟩ => s.mono l2⟩
  | A :: L, M, h => by
    constructor
    · rintro ⟨h1, h2, d, l1, l2, a, s⟩
      obtain ⟨k1, k2, dk, m1, m2, s1, s2⟩ := Stars.app.1 s
      have d1 : Hp.dis h1 k1 := Hp.dis_le d (Hp.le_refl _) m1
      have d2 : Hp.dis h1 k2 := Hp.dis_le d (Hp.le_refl _) m2
      exact ⟨Hp.un h1 k1, k2, Hp.dis_un d2 dk, Hp.un_le l1 (Hp.le_trans m1 l2), Hp.le_trans m2 l2,
        ⟨h1, k1, d1, Hp.le_un_left _ _, Hp.le_un_right d1, a, s1⟩, s2⟩
    · rintro ⟨k1, k2, dk, m1, m2, ⟨h1, h2, d, l1, l2, a, s⟩, s2⟩
      have d2 : Hp.dis h2 k2 := Hp.dis_le dk l2 (Hp.le_refl _)
      have d1 : Hp.dis h1 k2 := Hp.dis_le dk l1 (Hp.le_refl _)
      refine ⟨h1, Hp.un h2 k2, ?_, Hp.le_trans l1 m1, Hp.un_le (Hp.le_trans l2 m1) m2, a, Stars.app.2 ⟨h2, k2, d2, Hp.le_un_left _ _, Hp.le_un_right d2, s, s2⟩⟩
      exact Hp.dis_symm (Hp.dis_un (Hp.dis_symm d) (Hp.dis_symm d1))

theorem Stars.swap {A B : As} {L : List As} {h : Hp} (s : Stars (A :: B :: L) h) : Stars (B :: A :: L) h := by
  obtain ⟨h1, h2, d, l1, l2, a, k1, k2, dk, m1, m2, b, s⟩ := s
  have d1 : Hp.dis h1 k1 := Hp.dis_le d (Hp.le_refl _) m1
  have d2 : Hp.dis h1 k2 := Hp.dis_le d (Hp.le_refl _) m2
  refine ⟨k1, Hp.un h1 k2, ?_, Hp.le_trans m1 l2, Hp.un_le l1 (Hp.le_trans m2 l2), b, h1, k2, d2, Hp.le_un_left _ _, Hp.le_un_right d2, a, s⟩
  exact Hp.dis_symm (Hp.dis_un d1 (Hp.dis_symm dk))

theorem Stars.perm {L M : List As} (p : L.Perm M) : ∀ {h : Hp}, Stars L h → Stars M h := by
  induction p with
  | nil => exact fun s => s
  | cons x _ ih => exact fun ⟨h1, h2, d, l1, l2, a, s⟩ => ⟨h1, h2, d, l1, l2, a, ih s⟩
  | swap x y l => exact fun s => s.swap
  | trans _ _ ih1 ih2 => exact fun s => ih2 (ih1 s)

/-- What holds of every part where L holds. -/
def Ent (L M : List As) : Prop := ∀ h, Stars L h → Stars M h
theorem Ent.refl (L : List As) : Ent L L := fun _ s => s
theorem Ent.trans {L M N : List As} (h : Ent L M) (k : Ent M N) : Ent L N := fun x s => k x (h x s)
theorem Ent.perm {L M : List As} (p : L.Perm M) : Ent L M := fun _ s => s.perm p
theorem Ent.app {L L' M M' : List As} (h : Ent L L') (k : Ent M M') : Ent (L ++ M) (L' ++ M') := by
  intro x s
  obtain ⟨h1, h2, d, l1, l2, s1, s2⟩ := Stars.app.1 s
  exact Stars.app.2 ⟨h1, h2, d, l1, l2, h _ s1, k _ s2⟩
theorem Ent.cons {L M : List As} (A : As) (h : Ent L M) : Ent (A :: L) (A :: M) := Ent.app (L := [A]) (L' := [A]) (Ent.refl _) h
theorem Ent.drop {L : List As} (A : As) : Ent (A :: L) L := fun _ ⟨_, _, _, _, l2, _, s⟩ => s.mono l2
theorem Ent.dropr {L M : List As} : Ent (L ++ M) L := fun _ s => by
  obtain ⟨h1, h2, d, l1, l2, s1, s2⟩ := Stars.app.1 s
  exact s1.mono l1
theorem Ent.dropl {L M : List As} : Ent (L ++ M) M := fun _ s => by
  obtain ⟨h1, h2, d, l1, l2, s1, s2⟩ := Stars.app.1 s
  exact s2.mono l2
theorem Ent.comm {L M : List As} : Ent (L ++ M) (M ++ L) := Ent.perm List.perm_append_comm
theorem Ent.nil (L : List As) : Ent L [] := fun _ _ => trivial
theorem Ent.head {A B : As} {L : List As} (h : ∀ k, A k → B k) : Ent (A :: L) (B :: L) := fun _ ⟨h1, h2, d, l1, l2, a, s⟩ => ⟨h1, h2, d, l1, l2, h _ a, s⟩
theorem Ent.assoc {L M N : List As} : Ent (L ++ M ++ N) (L ++ (M ++ N)) := by rw [List.append_assoc]; exact Ent.refl _
theorem Ent.assoc' {L M N : List As} : Ent (L ++ (M ++ N)) (L ++ M ++ N) := by rw [List.append_assoc]; exact Ent.refl _

/-- An assertion that is itself a list of assertions. -/
def all (M : List As) : As := fun h => Stars M h
theorem Ent.open_ {M L : List As} : Ent (all M :: L) (M ++ L) := fun _ s => Stars.app.2 s
theorem Ent.shut {M L : List As} : Ent (M ++ L) (all M :: L) := fun _ s => Stars.app.1 s

def hpOf (w : World) : Hp := fun b => w.heap[b]?
def Sat (w : World) (L : List As) : Prop := Stars L (hpOf w)
theorem Sat.ent {w : World} {L M : List As} (s : Sat w L) (h : Ent L M) : Sat w M := h _ s

/-- One block, whole. -/
def pt (b : Nat) (o : Obj) : As := fun h => h b = some o
theorem Sat.pt {w : World} {b : Nat} {o : Obj} {L : List As} (s : Sat w (pt b o :: L)) : w.heap[b]? = some o := by
  obtain ⟨h1, _, _, l1, _, a, _⟩ := s
  exact l1 b o a

/-- The new world differs at one block at most. -/
theorem Sat.setBlock {w w' : World} {b : Nat} {o o' : Obj} {L : List As} (s : Sat w (Sl.pt b o :: L)) (h : ∀ c, c ≠ b → w'.heap[c]? = w.heap[c]?) (hb : w'.heap[b]? = some o') : Sat w' (Sl.pt b o' :: L) := by
  obtain ⟨h1, h2, d, l1, l2, a, s⟩ := s
  refine ⟨Hp.one b o', h2, ?_, ?_, ?_, by simp [Sl.pt, Hp.one], s⟩
  · intro c
    rcases d c with hc | hc
    · by_cases e : c = b
      · subst e; rw [Sl.pt] at a; rw [a] at hc; cases hc
      · left; simp [Hp.one, e]
    · exact .inr hc
  · intro c x e
    unfold Hp.one at e
    split at e
    · rename_i ec; cases e; subst ec; exact hb
    · cases e
  · intro c x e
    have hne : c ≠ b := by
      rintro rfl
      rcases d c with hc | hc
      · rw [Sl.pt] at a; rw [a] at hc; cases hc
      · rw [hc] at e; cases e
    show w'.heap[c]? = some x
    rw [h c hne]
    exact l2 c x e

theorem Sat.alloc {w : World} {L : List As} (o : Obj) (s : Sat w L) : Sat (w.alloc o) (Sl.pt w.heap.size o :: L) := by
  refine ⟨Hp.one w.heap.size o, hpOf w, ?_, ?_, ?_, by simp [Sl.pt, Hp.one], s⟩
  · intro c
    by_cases e : c = w.heap.size
    · subst e; right; show w.heap[w.heap.size]? = none; simp
    · left; simp [Hp.one, e]
  · intro c x e
    unfold Hp.one at e
    split at e
    · rename_i ec; cases e; subst ec; show (w.heap.push o)[w.heap.size]? = some o; simp
    · cases e
  · intro c x e
    have e' : w.heap[c]? = some x := e
    show (w.heap.push o)[c]? = some x
    have hlt : c < w.heap.size := by
      rcases Nat.lt_or_ge c w.heap.size with h | h
      · exact h
      · rw [Array.getElem?_eq_none h] at e'; cases e'
    rw [Array.getElem?_push, if_neg (by omega)]
    exact e'

theorem Sat.same {w w' : World} {L : List As} (s : Sat w L) (h : w'.heap = w.heap) : Sat w' L := by
  have : hpOf w' = hpOf w := by funext b; simp [hpOf, h]
  unfold Sat; rw [this]; exact s

/-- The streams are as they were, no block has gone. -/
structure Nx (w w' : World) : Prop where
  os : w'.os = w.os
  tape : w'.tape = w.tape
  output : w'.output = w.output
  size : w.heap.size ≤ w'.heap.size
theorem Nx.refl (w : World) : Nx w w := ⟨rfl, rfl, rfl, Nat.le_refl _⟩
theorem Nx.trans {a b c : World} (h : Nx a b) (k : Nx b c) : Nx a c := ⟨k.os.trans h.os, k.tape.trans h.tape, k.output.trans h.output, Nat.le_trans h.size k.size⟩
theorem Nx.alloc (w : World) (o : Obj) : Nx w (w.alloc o) := ⟨rfl, rfl, rfl, by simp⟩

/-! Frames, by what is known of their slots. -/
abbrev Env := Nat → Option Value
structure EnvOk (a : Act) (n : Nat) (e : Env) : Prop where
  defers : a.defers = []
  size : a.tmps.size = n
  get : ∀ t v, e t = some v → a.tmps[t]? = some v

def Env.upd (e : Env) (d : Option Tmp) (v : Value) : Env :=
  match d with
  | none => e
  | some d => fun t => match Nat.beq t d with
    | true => some v
    | false => e t
def ev (e : Env) : Operand → Option Value
  | .tmp t => e t
  | .const v => some v
  | .global g => some (.pointer (some ⟨g, 0, none⟩))
  | .func f => some (.func (.func f) #[] #[])
theorem ev_eval {a : Act} {n : Nat} {e : Env} (h : EnvOk a n e) {x : Operand} {v : Value} (hx : ev e x = some v) : a.eval x = v := by
  cases x with
  | tmp t => have := h.get t v hx; simp [Act.eval, this]
  | const c => simpa [ev, Act.eval] using hx
  | global g => simpa [ev, Act.eval] using hx
  | func f => simpa [ev, Act.eval] using hx

def dstOk (n : Nat) (o : Oper) : Bool := match o.dst with | none => true | some d => Nat.blt d n

theorem EnvOk.put {a : Act} {n : Nat} {e : Env} (h : EnvOk a n e) {o : Oper} (hd : dstOk n o = true) (v : Value) : EnvOk (a.put o.dst v) n (e.upd o.dst v) := by
  cases hd' : o.dst with
  | none => exact h
  | some d =>
    have hlt : d < n := by simpa [dstOk, hd', Nat.blt_eq] using hd
    refine ⟨h.defers, by simp [Act.put, h.size], ?_⟩
    intro t u hu
    simp only [Env.upd] at hu
    simp only [Act.put]
    split at hu
    · rename_i hb
      have : t = d := Nat.eq_of_beq_eq_true hb
      subst this
      cases hu
      rw [Array.getElem?_setIfInBounds_self]
      simp [h.size, hlt]
    · rename_i hb
      have hne : d ≠ t := by rintro rfl; rw [Nat.beq_refl] at hb; cases hb
      rw [Array.getElem?_setIfInBounds_ne hne]
      exact h.get t u hu

theorem Env.upd_comm (e : Env) {x y : Option Tmp} (v u : Value) (h : ∀ d, x = some d → y ≠ some d) : (e.upd x v).upd y u = (e.upd y u).upd x v := by
  cases x with
  | none => rfl
  | some d =>
    cases y with
    | none => rfl
    | some k =>
      have hne : d ≠ k := fun he => h d rfl (he ▸ rfl)
      funext t
      simp only [Env.upd]
      cases h1 : Nat.beq t k <;> cases h2 : Nat.beq t d <;> simp_all

/-- Is an operation of a region carried out? -/
def wants (ops : Array Oper) (e : Env) (o : Oper) : Option Bool :=
  match o.guard with
  | none => some true
  | some (j, want) =>
    match (ops[j]?).bind (·.dst) with
    | none => some false
    | some t => match e t with
      | some (.bool b) => some (b == want)
      | some _ => some false
      | none => none
end Go.Sl
