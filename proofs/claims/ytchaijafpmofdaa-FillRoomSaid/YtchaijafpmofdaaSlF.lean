import Derived.Test.YtchaijafpmofdaaSlE
/-! The laws of single operations. -/
namespace Go.Sl
set_option linter.unusedVariables false
set_option linter.unusedSimpArgs false

/-! Finding an assertion in a list. -/
structure Take (M : List As) (x : As) (N : List As) : Prop where
  h : Ent M (x :: N)
theorem Take.here {x : As} {M : List As} : Take (x :: M) x M := ⟨Ent.refl _⟩
theorem Take.there {x y : As} {M N : List As} (t : Take M x N) : Take (y :: M) x (y :: N) := ⟨Ent.trans (Ent.cons y t.h) (fun _ s => s.swap)⟩
structure Split (M L F : List As) : Prop where
  h : Ent M (L ++ F)
theorem Split.nil {M : List As} : Split M [] M := ⟨Ent.refl _⟩
theorem Split.cons {M N L F : List As} {x : As} (t : Take M x N) (s : Split N L F) : Split M (x :: L) F := ⟨Ent.trans t.h (Ent.cons x s.h)⟩
theorem Split.ent {M L F : List As} (s : Split M L F) : Ent M L := Ent.trans s.h Ent.dropr
structure Has (M : List As) (x : As) : Prop where
  h : ∀ h, Stars M h → ∃ k, Hp.le k h ∧ x k
theorem Has.here {x : As} {M : List As} : Has (x :: M) x := ⟨fun h ⟨h1, _, _, l1, _, a, _⟩ => ⟨h1, l1, a⟩⟩
theorem Has.there {x y : As} {M : List As} (t : Has M x) : Has (y :: M) x := ⟨fun h ⟨_, h2, _, _, l2, _, s⟩ => let ⟨k, hk, hx⟩ := t.h h2 s; ⟨k, Hp.le_trans hk l2, hx⟩⟩

/-! Cells. -/
structure Cell (M : List As) (b o : Nat) (v : Value) : Prop where
  h : ∀ h, Stars M h → ∃ cs T fr, h b = some (.cells cs T fr) ∧ cs[o]? = some v
theorem Cell.pt {M : List As} {b o : Nat} {cs : Array Value} {T : TypeId} {fr : Nat × Nat} {v : Value} (hc : cs[o]? = some v) : Cell (Sl.pt b (.cells cs T fr) :: M) b o v :=
  ⟨fun h ⟨h1, _, _, l1, _, a, _⟩ => ⟨cs, T, fr, l1 _ _ a, hc⟩⟩
theorem Cell.there {M : List As} {b o : Nat} {v : Value} {y : As} (c : Cell M b o v) : Cell (y :: M) b o v :=
  ⟨fun h ⟨_, h2, _, _, l2, _, s⟩ => let ⟨cs, T, fr, h1, h3⟩ := c.h h2 s; ⟨cs, T, fr, l2 _ _ h1, h3⟩⟩
theorem Cell.get {M : List As} {b o : Nat} {v : Value} (c : Cell M b o v) {w : World} (s : Sat w M) : w.cell? ⟨b, o, none⟩ = some v := by
  obtain ⟨cs, T, fr, h1, h2⟩ := c.h _ s
  have : w.heap[b]? = some (.cells cs T fr) := h1
  simp [World.cell?, this, h2]
structure Cells (M : List As) (b o : Nat) (vs : List Value) : Prop where
  h : ∀ j v, vs[j]? = some v → Cell M b (o + j) v
theorem Cells.nil {M : List As} {b o : Nat} : Cells M b o [] := ⟨fun j v h => by simp at h⟩
theorem Cells.cons {M : List As} {b o : Nat} {v : Value} {vs : List Value} (c : Cell M b o v) (r : Cells M b (o + 1) vs) : Cells M b o (v :: vs) := ⟨fun j u hj => by
  cases j with
  | zero => simp at hj; subst hj; exact c
  | succ j => simp at hj; have := r.h j u hj; rwa [Nat.add_assoc, Nat.add_comm 1 j] at this⟩
/-- A block that holds just these. -/
theorem Cells.pt {M : List As} {b : Nat} {vs : List Value} {T : TypeId} {fr : Nat × Nat} : Cells (Sl.pt b (.cells vs.toArray T fr) :: M) b 0 vs :=
  ⟨fun j v hj => .pt (by simpa using hj)⟩
theorem Cells.there {M : List As} {b o : Nat} {vs : List Value} {y : As} (c : Cells M b o vs) : Cells (y :: M) b o vs := ⟨fun j v hj => (c.h j v hj).there⟩

def aggD : Option TypeDesc → Bool
  | some (.struct _) => true
  | some (.array _ _) => true
  | _ => false
def oneD : Option TypeDesc → Bool
  | some (.struct _) => false
  | some (.array _ _) => false
  | some _ => true
  | none => false
section
variable {P : Program}
theorem isAgg_of (Γ : Tab P) {t : TypeId} (h : aggD (Γ.und t) = true) (w : World) : (isAgg t).run P w = .ok true w := by
  cases hu : Γ.und t with
  | none => rw [hu] at h; cases h
  | some d =>
    have hu' := Γ.und_ok _ _ hu
    unfold isAgg
    rw [Sem.run_bind, run_underlying hu']
    rw [hu] at h
    cases d <;> first | rfl | (cases h; done)
theorem isOne_of (Γ : Tab P) {t : TypeId} (h : oneD (Γ.und t) = true) (w : World) : (isAgg t).run P w = .ok false w := by
  cases hu : Γ.und t with
  | none => rw [hu] at h; cases h
  | some d =>
    have hu' := Γ.und_ok _ _ hu
    unfold isAgg
    rw [Sem.run_bind, run_underlying hu']
    rw [hu] at h
    cases d <;> first | rfl | (cases h; done)
theorem load1 (Γ : Tab P) {t : TypeId} {b o : Nat} {v : Value} {M : List As} {k : Value → Prop} (h1 : oneD (Γ.und t) = true) (c : Cell M b o v) (hk : k v) : LGet P (Instr.loadAt t (.pointer (some ⟨b, o, none⟩))) M k :=
  ⟨v, fun w s => by simp [Instr.loadAt, Instr.sureAddr, loadVar, isOne_of Γ h1, c.get s], hk⟩
theorem loadN (Γ : Tab P) {t : TypeId} {b o : Nat} {z : Value} {sz by' : Nat} {vs : List Value} {M : List As} {k : Value → Prop} (h1 : aggD (Γ.und t) = true) (h2 : Γ.inf t = some (z, sz, by')) (c : Cells M b o vs) (h3 : vs.length = sz) (hk : k (.agg vs.toArray)) :
    LGet P (Instr.loadAt t (.pointer (some ⟨b, o, none⟩))) M k :=
  ⟨_, fun w s => by
    obtain ⟨i, hi1, hi2, hi3, hi4⟩ := Γ.inf_ok _ _ _ _ h2
    have hl := run_loadCells_list (P := P) w ⟨b, o, none⟩ vs (fun j v hj => by
      have hadd : (⟨b, o, none⟩ : Addr).add j = ⟨b, o + j, none⟩ := by unfold Addr.add; split <;> simp_all
      rw [hadd]; exact (c.h j v hj).get s)
    rw [h3] at hl
    simp [Instr.loadAt, Instr.sureAddr, loadVar, isAgg_of Γ h1, sizeOf, typeInfo, hi1, hi3, hl], hk⟩

/-! New blocks. -/
theorem zero_of (Γ : Tab P) {t : TypeId} {z : Value} {sz by' : Nat} (h : Γ.inf t = some (z, sz, by')) (w : World) : (zeroValue t).run P w = .ok z w := by
  obtain ⟨i, hi1, hi2, hi3, hi4⟩ := Γ.inf_ok _ _ _ _ h
  simp [zeroValue, typeInfo, hi1, hi2]
theorem size_of (Γ : Tab P) {t : TypeId} {z : Value} {sz by' : Nat} (h : Γ.inf t = some (z, sz, by')) (w : World) : (sizeOf t).run P w = .ok sz w := by
  obtain ⟨i, hi1, hi2, hi3, hi4⟩ := Γ.inf_ok _ _ _ _ h
  simp [sizeOf, typeInfo, hi1, hi3]
theorem newAlloc (Γ : Tab P) {t : TypeId} {z : Value} {sz by' : Nat} {k : Value → As → Prop} (h : Γ.inf t = some (z, sz, by')) (hk : ∀ b, k (.pointer (some ⟨b, 0, none⟩)) (pt b (.cells z.cells t))) : LNew P (Instr.alloc t true (.tuple #[])) k :=
  ⟨fun b => .pointer (some ⟨b, 0, none⟩), .cells z.cells t, fun w => by
    simp [Instr.alloc, zero_of Γ h, newVar, newRow], hk⟩
theorem newBox {t : TypeId} {v : Value} {cs : Array Value} {k : Value → As → Prop} (hv : v.cells = cs) (hk : ∀ b, k (.pointer (some ⟨b, 0, none⟩)) (pt b (.cells cs t))) : LNew P (Instr.box t v) k :=
  ⟨fun b => .pointer (some ⟨b, 0, none⟩), .cells cs t, fun w => by simp [Instr.box, newVar, newRow, hv], hk⟩
theorem newMap {t : TypeId} {k : Value → As → Prop} (hk : ∀ b, k (.map (some b)) (pt b (.map #[] 0))) : LNew P (Instr.makeMap t none) k :=
  ⟨fun b => .map (some b), .map #[] 0, fun w => by simp [Instr.makeMap], hk⟩

/-- What 'build' makes. -/
def buildV (Γ : Tab P) (t : TypeId) (parts : List (Nat × Value)) : Option (Array Value) :=
  match Γ.inf t with
  | some (z, _, _) => match Γ.und t with
    | some (.struct fs) => match fs.toList.mapM (fun f => (Γ.inf f.type).map (fun x => (f.offset, x.2.1))) with
      | some places => Instr.fill (fun i => places[i]?) z.cells parts
      | none => none
    | some (.array _ el) => match Γ.inf el with
      | some (_, sz, _) => Instr.fill (fun i => some (i * sz, sz)) z.cells parts
      | none => none
    | _ => none
  | none => none
def placeOf (f : Field) : Sem (Nat × Nat) := do pure (f.offset, ← sizeOf f.type)
theorem placeOf_run (Γ : Tab P) {f : Field} {z : Value} {sz by' : Nat} (h : Γ.inf f.type = some (z, sz, by')) (w : World) : (placeOf f).run P w = .ok (f.offset, sz) w := by simp [placeOf, size_of Γ h]
theorem places_ok (Γ : Tab P) (w : World) : ∀ {fs : List Field} {places : List (Nat × Nat)}, fs.mapM (fun f => (Γ.inf f.type).map (fun x => (f.offset, x.2.1))) = some places →
    (fs.mapM placeOf).run P w = .ok places w := by
  intro fs
  induction fs with
  | nil => intro places h; simp at h; subst h; simp
  | cons f fs ih =>
    intro places h
    rw [List.mapM_cons] at h
    cases hx : Γ.inf f.type with
    | none => simp [hx] at h
    | some x =>
      obtain ⟨z, sz, by'⟩ := x
      cases hl : fs.mapM (fun f => (Γ.inf f.type).map (fun x => (f.offset, x.2.1))) with
      | none => simp [hx, hl] at h
      | some us =>
        simp [hx, hl] at h
        subst h
        have := ih hl
        simp [List.mapM_cons, placeOf_run Γ hx, this]
theorem build_run (Γ : Tab P) {t : TypeId} {parts : Array (Nat × Value)} {cs : Array Value} (h : buildV Γ t parts.toList = some cs) (w : World) : (Instr.build t parts).run P w = .ok (.agg cs) w := by
  unfold Instr.build
  unfold buildV at h
  split at h
  · rename_i z sz by' hi
    split at h
    · rename_i fs hu
      split at h
      · rename_i places hp
        have h1 := Γ.und_ok _ _ hu
        have h3 : (fs.mapM placeOf).run P w = .ok places.toArray w := by
          rw [Array.mapM_eq_mapM_toList]; simp [places_ok Γ w hp]
        unfold placeOf at h3
        have h4 : (fun x : Nat => places.toArray[x]?) = fun i : Nat => places[i]? := by funext i; simp
        simp only [Sem.run_bind, zero_of Γ hi, Result.andThen_ok, run_underlying h1, h3, h4, h]
        rfl
      · cases h
    · rename_i len el hu
      split at h
      · rename_i z' sz' by'' hi'
        have h1 := Γ.und_ok _ _ hu
        simp only [Sem.run_bind, zero_of Γ hi, Result.andThen_ok, run_underlying h1, size_of Γ hi', h]
        rfl
      · cases h
    · cases h
  · cases h
theorem build1 (Γ : Tab P) {t : TypeId} {parts : Array (Nat × Value)} {cs : Array Value} {M : List As} {k : Value → Prop} (h : buildV Γ t parts.toList = some cs) (hk : k (.agg cs)) : LGet P (Instr.build t parts) M k :=
  ⟨_, fun w s => build_run Γ h w, hk⟩
def sliceCells (z : Array Value) (n : Nat) : Array Value := ((List.range n).map (fun i => z.getD (i % z.size) default)).toArray
theorem sliceCells_eq (z : Array Value) (n : Nat) : (Array.range n).map (z[· % z.size]!) = sliceCells z n := by
  apply Array.ext'
  simp [sliceCells, Array.toList_range, getElem!_def, Array.getD_eq_getD_getElem?]
  intro a ha
  cases z[a % z.size]? <;> rfl
theorem newSlice (Γ : Tab P) {t el : TypeId} {len : Nat} {parts : Array (Nat × Value)} {z : Value} {sz by' : Nat} {cs : Array Value} {k : Value → As → Prop} (hu : Γ.und t = some (.slice el)) (hi : Γ.inf el = some (z, sz, by')) (hle : Nat.ble (len * sz) 16777216 = true) (h0 : Nat.beq (len * sz) 0 = false)
    (h : Instr.fill (fun i => some (i * sz, sz)) (sliceCells z.cells (len * sz)) parts.toList = some cs) (hk : ∀ b, k (.slice (some ⟨b, 0, none⟩) len len) (pt b (.cells cs el))) : LNew P (Instr.buildSlice t len parts) k :=
  ⟨fun b => .slice (some ⟨b, 0, none⟩) len len, .cells cs el, fun w => by
    have h1 := Γ.und_ok _ _ hu
    have h2 : ¬ (len * sz > 2 ^ 24) := by have := Nat.le_of_ble_eq_true hle; omega
    have h3 : ¬ (len * sz = 0) := fun e => by rw [e] at h0; cases h0
    rw [← sliceCells_eq] at h
    simp only [Instr.buildSlice, Sem.run_bind, run_underlying h1, Result.andThen_ok, size_of Γ hi]
    rw [if_neg h2, if_neg h3]
    simp [zero_of Γ hi, h, newRow], hk⟩

/-! Stores. -/
def wr (cs : Array Value) (o : Nat) (vs : List Value) : Array Value := (cs.toList.take o ++ vs ++ cs.toList.drop (o + vs.length)).toArray
theorem storeCells_sat {w : World} {b : Nat} (o : Nat) {cs : Array Value} {T : TypeId} {vs : List Value} {L F : List As} (h1 : ∀ v ∈ vs, v.oneCell' = true) (hlen : o + vs.length ≤ cs.size) (s : Sat w ((Sl.pt b (.cells cs T (0, 0)) :: L) ++ F)) :
    ∃ w', (storeCells ⟨b, o, none⟩ vs 0).run P w = .ok () w' ∧ Sat w' ((Sl.pt b (.cells (wr cs o vs) T (0, 0)) :: L) ++ F) ∧ Nx w w' := by
  have hb := Sat.pt s
  refine ⟨_, run_storeCells_at P b o T vs 0 cs w hb (by simpa using hlen) h1, ?_, ?_⟩
  · refine Sat.setBlock (o := .cells cs T (0, 0)) (L := L ++ F) s ?_ ?_
    · intro c hc; exact setRow_other w b c _ hc
    · simpa [wr] using setRow_heap w b cs _ T (0, 0) hb
  · exact ⟨rfl, rfl, rfl, by simp [World.setRow]⟩
def Value.oneC : Value → Bool
  | .agg _ => false
  | .tuple _ => false
  | _ => true
theorem oneC_ok {v : Value} (h : Value.oneC v = true) : v.oneCell' = true := by cases v <;> first | rfl | (cases h; done)
/-- A store into a block that is known. -/
theorem store1 (Γ : Tab P) {t : TypeId} {b o : Nat} {v : Value} {z : Value} {by' sz : Nat} {cs : Array Value} {T : TypeId} {M N : List As} {k : List As → Prop} (h2 : Γ.inf t = some (z, sz, by')) (tk : Take M (Sl.pt b (.cells cs T (0, 0))) N)
    (h1 : v.cells.toList.all Value.oneC = true) (h3 : Nat.beq v.cells.size sz = true) (hlen : Nat.ble (o + sz) cs.size = true) (hk : k (Sl.pt b (.cells (wr cs o v.cells.toList) T (0, 0)) :: N)) : LRunU P (Instr.storeAt t (.pointer (some ⟨b, o, none⟩)) v) M k :=
  ⟨fun M' => M' = Sl.pt b (.cells (wr cs o v.cells.toList) T (0, 0)) :: N, fun F w s => by
    have hs := s.ent (Ent.app tk.h (Ent.refl F))
    have h3' := Nat.eq_of_beq_eq_true h3
    obtain ⟨w', hr, hs', hn⟩ := storeCells_sat (P := P) o (vs := v.cells.toList) (fun v hv => oneC_ok (List.all_eq_true.1 h1 v hv)) (by have := Nat.le_of_ble_eq_true hlen; simp; omega) hs
    refine ⟨w', _, ?_, rfl, hs', hn⟩
    simp [Instr.storeAt, Instr.sureAddr, storeVar, size_of Γ h2, h3', hr], fun M' e => e ▸ hk⟩

/-! Calls. -/
theorem call1 {f : FuncId} {args : Array Value} {M L F : List As} {R : Value → List As → Prop} {k : Value → List As → Prop} (hs : Ctr P f args L R) (hM : Split M L F) (hk : ∀ v M', R v M' → k v (M' ++ F)) : LCall P f args M k :=
  ⟨fun v N => ∃ M', R v M' ∧ N = M' ++ F, Ctr.to ⟨hs.1, fun G w s => by
    refine (hs.2 (F ++ G) w (s.ent (Ent.trans (Ent.app hM.h (Ent.refl G)) Ent.assoc))).mono ?_
    rintro e w' ⟨v, M', he, hr, hs', hn⟩
    exact ⟨v, M' ++ F, he, ⟨M', hr, rfl⟩, hs'.ent Ent.assoc', hn⟩⟩, fun v N ⟨M', hr, e⟩ => e ▸ hk v M' hr⟩
theorem ext1 {f : FuncId} {args : Array Value} {M L F : List As} {R : Value → List As → Prop} {k : Value → List As → Prop} (hs : Ctr P f args L (fun v M' => ∃ X, R v X ∧ M' = X ++ L)) (hM : Split M L F) (hM' : Ent (L ++ F) M) (hk : ∀ v X, R v X → k v X) : LExt P f args M k :=
  ⟨R, Ctr.to ⟨hs.1, fun G w s => by
    refine (hs.2 (F ++ G) w (s.ent (Ent.trans (Ent.app hM.h (Ent.refl G)) Ent.assoc))).mono ?_
    rintro e w' ⟨v, M', he, ⟨X, hr, rfl⟩, hs', hn⟩
    refine ⟨v, X ++ M, he, ⟨X, hr, rfl⟩, hs'.ent ?_, hn⟩
    refine Ent.trans Ent.assoc' (Ent.app ?_ (Ent.refl G))
    rw [List.append_assoc]
    exact Ent.app (Ent.refl X) hM'⟩, hk⟩
/-- A call that turns nothing. -/
theorem ext0 {f : FuncId} {args : Array Value} {M : List As} {p : Value → Prop} {k : Value → List As → Prop} (hs : Ctr P f args M (fun v M' => p v ∧ M' = M)) (hk : ∀ v, p v → k v []) : LExt P f args M k :=
  ⟨fun v X => p v ∧ X = [], Ctr.to ⟨hs.1, fun G w s => (hs.2 G w s).mono fun e w' ⟨v, M', he, ⟨hp, hm⟩, hs', hn⟩ => ⟨v, M', he, ⟨[], ⟨hp, rfl⟩, by simpa using hm⟩, hs', hn⟩⟩, fun v X ⟨hp, hx⟩ => hx ▸ hk v hp⟩
/-- A call that turns nothing, where the order is the text's. -/
theorem call0 {f : FuncId} {args : Array Value} {M : List As} {p : Value → Prop} {k : Value → List As → Prop} (hs : Ctr P f args M (fun v M' => p v ∧ M' = M)) (hk : ∀ v, p v → k v M) : LCall P f args M k :=
  ⟨_, hs.to, fun v M' ⟨hp, hm⟩ => hm ▸ hk v hp⟩
theorem Ctr.weaken {f : FuncId} {args : Array Value} {M N : List As} {R R' : Value → List As → Prop} (h : Ctr P f args N R) (hM : Ent M N) (hr : ∀ v M', R v M' → R' v M') : Ctr P f args M R' :=
  ⟨h.1, fun F w s => (h.2 F w (s.ent (Ent.app hM (Ent.refl F)))).mono fun e w' ⟨v, M', he, hx, hs', hn⟩ => ⟨v, M', he, hr _ _ hx, hs', hn⟩⟩
/-- What M says beyond its parts. -/
theorem Ctr.ex {α : Type} {f : FuncId} {args : Array Value} {M : List As} {N : α → List As} {p : α → Prop} {R : Value → List As → Prop} (hc : CallOk P f) (h : ∀ h, Stars M h → ∃ x, p x ∧ Stars (N x) h) (hs : ∀ x, p x → Ctr P f args (N x) R) : Ctr P f args M R :=
  ⟨hc, fun F w s => by
    obtain ⟨h1, h2, d, l1, l2, s1, s2⟩ := Stars.app.1 s
    obtain ⟨x, hp, sx⟩ := h h1 s1
    exact (hs x hp).2 F w (Stars.app.2 ⟨h1, h2, d, l1, l2, sx, s2⟩)⟩

/-! Numbers. -/
theorem lint_i64 {n m : Int} {k : Int → Prop} (h : -9223372036854775808 ≤ n ∧ n ≤ 9223372036854775807) (hm : n = m) (hk : k m) : LInt .i64 n k := ⟨m, by rw [IntWalk.i64_in n h, hm], hk⟩
theorem lint_u8 {n m : Int} {k : Int → Prop} (h : 0 ≤ n ∧ n ≤ 255) (hm : n = m) (hk : k m) : LInt .u8 n k := ⟨m, by rw [IntWalk.u8_in n h, hm], hk⟩
theorem lint_u32 {n m : Int} {k : Int → Prop} (h : 0 ≤ n ∧ n ≤ 4294967295) (hm : n = m) (hk : k m) : LInt .u32 n k := ⟨m, by rw [IntWalk.u32_in n h, hm], hk⟩
theorem lint_u64 {n m : Int} {k : Int → Prop} (h : 0 ≤ n ∧ n ≤ 18446744073709551615) (hm : n = m) (hk : k m) : LInt .u64 n k := ⟨m, by rw [IntWalk.u64_in n h, hm], hk⟩
theorem lint_i32 {n m : Int} {k : Int → Prop} (h : -2147483648 ≤ n ∧ n ≤ 2147483647) (hm : n = m) (hk : k m) : LInt .i32 n k := ⟨m, by rw [IntWalk.i32_in n h, hm], hk⟩
theorem lint_any {kd : IntKind} {n : Int} {k : Int → Prop} (hk : k (kd.wrap n)) : LInt kd n k := ⟨_, rfl, hk⟩
theorem leq_ {n m : Int} {k : Int → Prop} (hm : n = m) (hk : k m) : LEq n k := ⟨m, hm, hk⟩
theorem lidx {b o n : Nat} {i : Int} {k : Nat → Nat → Nat → Prop} (m : Nat) (hi : i = (m : Int)) (hm : m < n) (hk : k b o m) : LIdx (some ⟨b, o, none⟩) n i k := ⟨b, o, m, rfl, hi, hm, hk⟩
theorem lbool {b c : Bool} {k : Bool → Prop} (h : b = c) (hk : k c) : LBool b k := ⟨h ▸ hk⟩
theorem lbool_split {b : Bool} {k : Bool → Prop} (ht : b = true → k true) (hf : b = false → k false) : LBool b k := ⟨by cases b; exact hf rfl; exact ht rfl⟩
theorem lcond_t {b : Bool} {p q : Prop} (h : b = true) (hp : p) : LCond b p q := ⟨fun _ => hp, fun h' => (by rw [h] at h'; cases h')⟩
theorem lcond_f {b : Bool} {p q : Prop} (h : b = false) (hq : q) : LCond b p q := ⟨fun h' => (by rw [h] at h'; cases h'), fun _ => hq⟩

/-! Small operations. -/
theorem lenSlice (Γ : Tab P) {t el ty : TypeId} {a : Option Addr} {n c : Nat} {M : List As} {k : Value → Prop} (hu : Γ.und t = some (.slice el)) (hk : k (.int .i64 n)) : LGet P (Builtin.len_ #[t] ty #[.slice a n c]) M k :=
  ⟨_, fun w s => by simp [Builtin.len_, run_underlying (Γ.und_ok _ _ hu), goInt], hk⟩
theorem lenString (Γ : Tab P) {t ty : TypeId} {b : ByteArray} {M : List As} {k : Value → Prop} (hu : Γ.und t = some .string) (hk : k (.int .i64 b.size)) : LGet P (Builtin.len_ #[t] ty #[.string b]) M k :=
  ⟨_, fun w s => by simp [Builtin.len_, run_underlying (Γ.und_ok _ _ hu), goInt], hk⟩
theorem max2i {ats : Array TypeId} {ty : TypeId} {kd : IntKind} {a b : Int} {M : List As} {k : Value → Prop} (hk : k (.int kd (if b > a then b else a))) : LGet P (Builtin.max_ ats ty #[.int kd a, .int kd b]) M k :=
  ⟨_, fun w s => by simp [Builtin.max_, Builtin.max2], hk⟩
theorem min2i {ats : Array TypeId} {ty : TypeId} {kd : IntKind} {a b : Int} {M : List As} {k : Value → Prop} (hk : k (.int kd (if b < a then b else a))) : LGet P (Builtin.min_ ats ty #[.int kd a, .int kd b]) M k :=
  ⟨_, fun w s => by simp [Builtin.min_, Builtin.min2], hk⟩
theorem equalIn_ptr_nil (Γ : Tab P) {t el : TypeId} {p : Option Addr} (hu : Γ.und t = some (.pointer el)) (d : Nat) (w : World) : (Op.equalIn (d + 1) t (.pointer p) (.pointer none)).run P w = .ok p.isNone w := by
  cases p <;> simp [Op.equalIn, run_underlying (Γ.und_ok _ _ hu)]
theorem equal_ptr_nil (Γ : Tab P) {t el : TypeId} {p : Option Addr} (hu : Γ.und t = some (.pointer el)) (w : World) : (Op.equal t (.pointer p) (.pointer none)).run P w = .ok p.isNone w := equalIn_ptr_nil Γ hu 9999 w
theorem guard_ptr {op : BinOp} {t : TypeId} {x y : Operand} {p : Option Addr} {b : Value} (w : World) : (eqGuard op t x y (.pointer p) b).run P w = .ok () w := by cases op <;> rfl
theorem eq_of_equal {t : TypeId} {x y : Operand} {a b : Value} {r : Bool} {w : World} (hg : (eqGuard .eql t x y a b).run P w = .ok () w) (hb : binOp .eql t a b = (do pure (.bool (← Op.equal t a b)))) (he : (Op.equal t a b).run P w = .ok r w) : (do eqGuard .eql t x y a b; binOp .eql t a b : Sem Value).run P w = .ok (.bool r) w := by
  rw [Sem.run_bind, hg, hb]
  simp [he]
theorem neq_of_equal {t : TypeId} {x y : Operand} {a b : Value} {r : Bool} {w : World} (hg : (eqGuard .neq t x y a b).run P w = .ok () w) (hb : binOp .neq t a b = (do pure (.bool (!(← Op.equal t a b))))) (he : (Op.equal t a b).run P w = .ok r w) : (do eqGuard .neq t x y a b; binOp .neq t a b : Sem Value).run P w = .ok (.bool (!r)) w := by
  rw [Sem.run_bind, hg, hb]
  simp [he]
theorem eqPtrNil (Γ : Tab P) {t el : TypeId} {x y : Operand} {p : Option Addr} {M : List As} {k : Value → Prop} (hu : Γ.und t = some (.pointer el)) (hk : k (.bool p.isNone)) : LGet P (do eqGuard .eql t x y (.pointer p) (.pointer none); binOp .eql t (.pointer p) (.pointer none)) M k :=
  ⟨_, fun w s => eq_of_equal (guard_ptr w) (by cases p <;> rfl) (equal_ptr_nil Γ hu w), hk⟩
theorem neqPtrNil (Γ : Tab P) {t el : TypeId} {x y : Operand} {p : Option Addr} {M : List As} {k : Value → Prop} (hu : Γ.und t = some (.pointer el)) (hk : k (.bool (!p.isNone))) : LGet P (do eqGuard .neq t x y (.pointer p) (.pointer none); binOp .neq t (.pointer p) (.pointer none)) M k :=
  ⟨_, fun w s => neq_of_equal (guard_ptr w) (by cases p <;> rfl) (equal_ptr_nil Γ hu w), hk⟩
/-- 'a[:]' of an array behind a pointer. -/
theorem sliceArr (Γ : Tab P) {t el : TypeId} {len : Nat} {z : Value} {sz by' : Nat} {b o : Nat} {M : List As} {k : Value → Prop} (hu : Γ.und t = some (.array len el)) (hi : Γ.inf el = some (z, sz, by')) (hk : k (.slice (some ⟨b, o, none⟩) len len)) : LGet P (Instr.sliceAt t (.pointer (some ⟨b, o, none⟩)) none none none) M k :=
  ⟨_, fun w s => by simp [Instr.sliceAt, run_underlying (Γ.und_ok _ _ hu), Instr.sureAddr, Instr.sliceBounds, size_of Γ hi, Addr.add], hk⟩
end
end Go.Sl
