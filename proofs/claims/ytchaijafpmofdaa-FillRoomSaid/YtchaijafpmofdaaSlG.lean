import Derived.Test.YtchaijafpmofdaaSlF
/-! A slice that owns its row. -/
namespace Go.Sl
set_option linter.unusedVariables false
set_option linter.unusedSimpArgs false

/-- The slice (a, n, cap) of elements of type E (sz cells each) owns a row, whose first cells are xs. -/
def Row (E : TypeId) (sz : Nat) (a : Option Addr) (n cap : Nat) (xs : List Value) : As := fun h =>
  xs.length = n * sz ∧ ((a = none ∧ n = 0 ∧ cap = 0) ∨ ∃ g cur, a = some ⟨g, 0, none⟩ ∧ h g = some (.cells cur E (0, 0)) ∧ n ≤ cap ∧ cap ≤ maxLen ∧ cur.size = cap * sz ∧ cur.toList.take (n * sz) = xs)

theorem Row.nil {E : TypeId} {sz : Nat} (h : Hp) : Row E sz none 0 0 [] h := ⟨by simp, .inl ⟨rfl, rfl, rfl⟩⟩
/-- Nothing is owned by nil. -/
theorem ent_nil {E : TypeId} {sz : Nat} {M : List As} : Ent M (Row E sz none 0 0 [] :: M) := fun h s => ⟨Hp.nil, h, Hp.dis_nil _, Hp.nil_le _, Hp.le_refl _, Row.nil _, s⟩
theorem Row.len {E : TypeId} {sz : Nat} {a : Option Addr} {n cap : Nat} {xs : List Value} {h : Hp} (r : Row E sz a n cap xs h) : xs.length = n * sz := r.1
theorem Row.addr {E : TypeId} {sz : Nat} {a : Option Addr} {n cap : Nat} {xs : List Value} {h : Hp} (r : Row E sz a n cap xs h) (hn : 0 < n) : ∃ g, a = some ⟨g, 0, none⟩ := by
  rcases r.2 with ⟨_, h0, _⟩ | ⟨g, cur, ha, _⟩
  · omega
  · exact ⟨g, ha⟩
theorem Row.cap_le {E : TypeId} {sz : Nat} {a : Option Addr} {n cap : Nat} {xs : List Value} {h : Hp} (r : Row E sz a n cap xs h) : n ≤ cap ∧ cap ≤ maxLen := by
  rcases r.2 with ⟨_, h0, h1⟩ | ⟨g, cur, ha, _, h2, h3, _⟩
  · subst h0; subst h1; exact ⟨Nat.le_refl _, Nat.zero_le _⟩
  · exact ⟨h2, h3⟩
theorem Cell.row {E : TypeId} {sz g n cap : Nat} {xs : List Value} {M : List As} {o : Nat} {v : Value} (hx : xs[o]? = some v) : Cell (Row E sz (some ⟨g, 0, none⟩) n cap xs :: M) g o v := ⟨fun h ⟨h1, _, _, l1, _, r, _⟩ => by
  rcases r.2 with ⟨h0, _⟩ | ⟨g', cur, ha, hg, h2, h3, h4, h5⟩
  · cases h0
  · cases ha
    refine ⟨cur, E, (0, 0), l1 _ _ hg, ?_⟩
    rw [← h5, List.getElem?_take] at hx
    split at hx
    · simpa using hx
    · cases hx⟩
theorem Cells.row {E : TypeId} {sz g n cap : Nat} {xs : List Value} {M : List As} {o : Nat} {vs : List Value} (hx : ∀ j v, vs[j]? = some v → xs[o + j]? = some v) : Cells (Row E sz (some ⟨g, 0, none⟩) n cap xs :: M) g o vs := ⟨fun j v hj => Cell.row (hx j v hj)⟩

theorem Row.owns {E : TypeId} {sz : Nat} {a : Option Addr} {n cap : Nat} {xs : List Value} {M : List As} {w : World} (s : Sat w (Row E sz a n cap xs :: M)) : w.ownsRow 0 E sz (.slice a n cap) n xs := by
  obtain ⟨h1, h2, d, l1, l2, r, s⟩ := s
  refine ⟨r.1, ?_⟩
  rcases r.2 with ⟨rfl, rfl, rfl⟩ | ⟨g, cur, rfl, hg, h2, h3, h4, h5⟩
  · exact .inl ⟨rfl, rfl⟩
  · exact .inr ⟨g, cap, cur, rfl, Nat.zero_le _, l1 _ _ hg, h2, h3, h4, h5⟩

def splice (xs : List Value) (o : Nat) (vs : List Value) : List Value := xs.take o ++ vs ++ xs.drop (o + vs.length)
theorem splice_length {xs vs : List Value} {o : Nat} (h : o + vs.length ≤ xs.length) : (splice xs o vs).length = xs.length := by simp [splice]; omega
theorem splice_one {xs : List Value} {o : Nat} {v : Value} (h : o < xs.length) : splice xs o [v] = xs.set o v := by
  rw [List.set_eq_take_append_cons_drop]; simp [splice, h]

theorem take_wr {l vs : List Value} {o m : Nat} (h1 : o + vs.length ≤ m) (h2 : m ≤ l.length) : (l.take o ++ vs ++ l.drop (o + vs.length)).take m = splice (l.take m) o vs := by
  have hA : (l.take o ++ vs).length = o + vs.length := by simp; omega
  rw [List.take_append, List.take_of_length_le (by omega), hA]
  unfold splice
  rw [List.take_take, Nat.min_eq_left (by omega), List.drop_take]
section
variable {P : Program}
/-- A store into such a row. -/
theorem storeRow (Γ : Tab P) {t E : TypeId} {sz g o n cap : Nat} {v z : Value} {by' tz : Nat} {xs : List Value} {M N : List As} {k : List As → Prop} (h2 : Γ.inf t = some (z, tz, by')) (tk : Take M (Row E sz (some ⟨g, 0, none⟩) n cap xs) N)
    (h1 : v.cells.toList.all Value.oneC = true) (h3 : Nat.beq v.cells.size tz = true) (hlen : o + tz ≤ xs.length) (hk : k (Row E sz (some ⟨g, 0, none⟩) n cap (splice xs o v.cells.toList) :: N)) :
    LRunU P (Instr.storeAt t (.pointer (some ⟨g, o, none⟩)) v) M k :=
  ⟨fun M' => M' = Row E sz (some ⟨g, 0, none⟩) n cap (splice xs o v.cells.toList) :: N, fun F w s => by
    have hs := s.ent (Ent.app tk.h (Ent.refl F))
    have h3' := Nat.eq_of_beq_eq_true h3
    have hone : ∀ u ∈ v.cells.toList, u.oneCell' = true := fun u hu => oneC_ok (List.all_eq_true.1 h1 u hu)
    have hvl : v.cells.toList.length = tz := by simpa using h3'
    obtain ⟨h1', h2', d, l1, l2, r, sN⟩ := hs
    have hlx := r.1
    rcases r.2 with ⟨h0, _⟩ | ⟨g', cur, ha, hg, hnc, hcm, hcs, htake⟩
    · cases h0
    · cases ha
      have hwg : w.heap[g]? = some (.cells cur E (0, 0)) := l1 _ _ hg
      have hle : n * sz ≤ cur.toList.length := by simp [hcs]; exact Nat.mul_le_mul_right _ hnc
      have hlxs : xs.length = n * sz := hlx
      have hs2 : Sat w ((Sl.pt g (.cells cur E (0, 0)) :: N) ++ F) := ⟨h1', h2', d, l1, l2, hg, sN⟩
      obtain ⟨w', hr, hs', hn⟩ := storeCells_sat (P := P) o hone (by simp [hcs] at hle ⊢; omega) hs2
      refine ⟨w', _, ?_, rfl, ?_, hn⟩
      · simp [Instr.storeAt, Instr.sureAddr, storeVar, size_of Γ h2, h3', hr]
      · obtain ⟨k1, k2, dk, m1, m2, rk, sk⟩ := hs'
        refine ⟨k1, k2, dk, m1, m2, ⟨?_, .inr ⟨g, _, rfl, rk, hnc, hcm, ?_, ?_⟩⟩, sk⟩
        · rw [splice_length (by rw [hvl]; exact hlen)]; exact hlxs
        · have : o + v.cells.toList.length ≤ cur.toList.length := by rw [hvl]; omega
          have h5 : (wr cur o v.cells.toList).size = cur.toList.length := by
            simp only [wr, List.size_toArray, List.length_append, List.length_take, List.length_drop]; omega
          rw [h5]; simpa using hcs
        · rw [← htake]
          exact take_wr (by rw [hvl]; omega) hle, fun M' e => e ▸ hk⟩

/-! Append. -/
theorem append_sat (Γ : Tab P) {T E ty : TypeId} {z : Value} {sz bytes : Nat} (hu : Γ.und T = some (.slice E)) (hi : Γ.inf E = some (z, sz, bytes)) (hzs : z.cells.size = sz) (hsz : 0 < sz)
    {w : World} {a : Option Addr} {n cap m c : Nat} {src : Addr} {xs news : List Value} {L : List As} (s : Sat w (Row E sz a n cap xs :: L)) (hl : news.length = m * sz) (hsrc : ∀ j u, news[j]? = some u → w.cell? (src.add j) = some u)
    (h1 : ∀ u ∈ news, u.oneCell' = true) (h63 : n + m ≤ maxLen) (hb : (n + m) * bytes ≤ 140737488355328) :
    ∃ a' cap' w', (Builtin.append_ #[T, T] ty #[.slice a n cap, .slice (some src) m c]).run P w = .ok (.slice a' (n + m) cap') w' ∧ Sat w' (Row E sz a' (n + m) cap' (xs ++ news) :: L) ∧ Nx w w' ∧ (0 < n + m → ∃ g, a' = some ⟨g, 0, none⟩) := by
  obtain ⟨i, hi1, hi2, hi3, hi4⟩ := Γ.inf_ok _ _ _ _ hi
  have hu' := Γ.und_ok _ _ hu
  subst hi3
  subst hi4
  have hmax : n + m ≤ 9223372036854775807 := by simp only [maxLen] at h63; omega
  have hown := Row.owns s
  have hL : Sat w L := s.ent (Ent.drop _)
  have hlen : (xs ++ news).length = (n + m) * i.size := by rw [List.length_append, hown.1, hl, Nat.add_mul]
  have grown : ∀ old, Sat (w.drew.alloc (.cells (xs.toArray ++ news.toArray ++ Builtin.zeroCells z.cells (grownCap w (n + m) old E - (n + m))) E)) (Row E i.size (some ⟨w.heap.size, 0, none⟩) (n + m) (grownCap w (n + m) old E) (xs ++ news) :: L) := by
    intro old
    have hge := grownCap_ge w (n + m) old E
    have hcm := grownCap_le_maxLen w (n + m) old E h63
    refine ((hL.same (w' := w.drew) rfl).alloc _).ent (Ent.head ?_)
    intro h hp
    refine ⟨hlen, .inr ⟨w.heap.size, _, rfl, hp, hge, hcm, ?_, ?_⟩⟩
    · simp only [Array.size_append, List.size_toArray, size_zeroCells, hzs, hown.1, hl, ← Nat.add_mul]
      congr 1
      omega
    · simp only [Array.toList_append, List.append_assoc]
      rw [← List.append_assoc, ← hlen]
      exact List.take_left
  have nx : ∀ o, Nx w (w.drew.alloc o) := fun o => ⟨rfl, rfl, rfl, by simp⟩
  obtain ⟨k1, k2, d, l1, l2, r, sL⟩ := s
  rcases r.2 with ⟨rfl, rfl, rfl⟩ | ⟨g, cur, rfl, hg, hnc, hcm, hcs, htake⟩
  · have hx : xs = [] := List.eq_nil_of_length_eq_zero (by simpa using r.1)
    subst hx
    by_cases hm : m = 0
    · subst hm
      have hn : news = [] := List.eq_nil_of_length_eq_zero (by simpa using hl)
      subst hn
      refine ⟨none, 0, w, ?_, ⟨k1, k2, d, l1, l2, Row.nil _, sL⟩, Nx.refl _, by omega⟩
      simp [Builtin.append_, run_underlying hu', sizeOf, typeInfo, hi1, Builtin.lenOf, Builtin.firstCells, loadCells, loadCellsFrom]
    · have hr := run_append_nil (P := P) w T ty E i z hu' hi1 hi2 src m c news hl hsrc (by omega) (by omega) (by have hb := hb; simp only [Nat.zero_add] at hb; omega)
      have hgr := grown 0
      simp only [Nat.zero_add, List.nil_append, Array.empty_append] at hgr ⊢
      exact ⟨_, _, _, hr, hgr, nx _, fun _ => ⟨_, rfl⟩⟩
  · have hwg : w.heap[g]? = some (.cells cur E (0, 0)) := l1 _ _ hg
    by_cases hroom : n + m ≤ cap
    · have hfit : n * i.size + news.length ≤ cur.size := by rw [hl, hcs, ← Nat.add_mul]; exact Nat.mul_le_mul_right _ hroom
      have hr := run_append_room (P := P) w T ty E i hu' hi1 g n cap cur hwg src m c news hl hsrc h1 hroom hfit
      refine ⟨_, _, _, hr, ?_, ⟨rfl, rfl, rfl, by simp [World.setRow]⟩, fun _ => ⟨_, rfl⟩⟩
      have s2 : Sat w (Sl.pt g (.cells cur E (0, 0)) :: L) := ⟨k1, k2, d, l1, l2, hg, sL⟩
      refine (Sat.setBlock s2 (fun c hc => setRow_other w g c _ hc) (setRow_heap w g cur _ E _ hwg)).ent (Ent.head ?_)
      intro h hp
      refine ⟨hlen, .inr ⟨g, _, rfl, hp, hroom, hcm, ?_, ?_⟩⟩
      · simp only [List.size_toArray, List.length_append, List.length_take, List.length_drop, Array.length_toList]
        omega
      · rw [htake, ← hlen]
        exact List.take_left
    · have holds : ∀ j u, xs[j]? = some u → w.cell? ((⟨g, 0, none⟩ : Addr).add j) = some u := hown.cells (g := g) rfl
      have hr := run_append_grow (P := P) w T ty E i z hu' hi1 hi2 ⟨g, 0, none⟩ n cap xs r.1 holds src m c news hl hsrc (by omega) (by omega) (growslice_fits (by omega) hb)
      exact ⟨_, _, _, hr, grown cap, nx _, fun _ => ⟨_, rfl⟩⟩

/-! Rows of elements. -/
/-- The slice owns a row that holds the elements xs, each laid by enc into sz cells. -/
def ERow {α : Type} (E : TypeId) (sz : Nat) (enc : α → List Value) (a : Option Addr) (n cap : Nat) (xs : List α) : As := fun h => xs.length = n ∧ Row E sz a n cap (xs.flatMap enc) h
theorem flat_len {α : Type} {enc : α → List Value} {sz : Nat} (he : ∀ x, (enc x).length = sz) (xs : List α) : (xs.flatMap enc).length = xs.length * sz := by
  induction xs with
  | nil => simp
  | cons x xs ih => simp [List.flatMap_cons, he, ih, Nat.add_mul]; omega
theorem flat_get {α : Type} {enc : α → List Value} {sz : Nat} (he : ∀ x, (enc x).length = sz) : ∀ {xs : List α} {i : Nat} {x : α} {j : Nat}, xs[i]? = some x → j < sz → (xs.flatMap enc)[i * sz + j]? = (enc x)[j]? := by
  intro xs
  induction xs with
  | nil => intro i x j h; simp at h
  | cons y ys ih =>
    intro i x j h hj
    rw [List.flatMap_cons]
    cases i with
    | zero =>
      simp at h; subst h
      rw [Nat.zero_mul, Nat.zero_add, List.getElem?_append_left (by rw [he]; exact hj)]
    | succ i =>
      simp at h
      rw [List.getElem?_append_right (by rw [he, Nat.add_mul]; omega), he]
      have : (i + 1) * sz + j - sz = i * sz + j := by rw [Nat.add_mul]; omega
      rw [this]
      exact ih h hj
theorem flat_set {α : Type} {enc : α → List Value} {sz : Nat} (he : ∀ x, (enc x).length = sz) : ∀ {xs : List α} {i : Nat} (x : α), i < xs.length → splice (xs.flatMap enc) (i * sz) (enc x) = (xs.set i x).flatMap enc := by
  intro xs
  induction xs with
  | nil => intro i x h; simp at h
  | cons y ys ih =>
    intro i x h
    cases i with
    | zero =>
      simp only [splice, Nat.zero_mul, List.take_zero, List.nil_append, Nat.zero_add, List.set_cons_zero, List.flatMap_cons]
      rw [he, List.drop_append, List.drop_of_length_le (by rw [he]; omega), he, Nat.sub_self]
      simp
    | succ i =>
      simp at h
      have h1 : (i + 1) * sz = sz + i * sz := by rw [Nat.add_mul]; omega
      rw [List.set_cons_succ, List.flatMap_cons, List.flatMap_cons, ← ih x h]
      unfold splice
      rw [h1, List.take_append, List.drop_append, he, List.take_of_length_le (by rw [he]; omega), List.drop_of_length_le (by rw [he]; omega)]
      have e1 : sz + i * sz - sz = i * sz := by omega
      have e2 : sz + i * sz + (enc x).length - sz = i * sz + (enc x).length := by omega
      rw [he] at e2
      simp [e1, e2, he]
section
variable {α : Type} {enc : α → List Value} {E : TypeId} {sz : Nat}
theorem Cells.erow (he : ∀ x, (enc x).length = sz) {g n cap : Nat} {xs : List α} {M : List As} {o i : Nat} {x : α} (ho : o = i * sz) (hx : xs[i]? = some x) : Cells (ERow E sz enc (some ⟨g, 0, none⟩) n cap xs :: M) g o (enc x) := ⟨fun j v hj => ⟨fun h ⟨h1, h2, d, l1, l2, r, s⟩ => by
  refine (Cell.row (M := M) (E := E) (sz := sz) (g := g) (n := n) (cap := cap) (xs := xs.flatMap enc) ?_).h h ⟨h1, h2, d, l1, l2, r.2, s⟩
  have : j < sz := by rw [← he x]; exact (List.getElem?_eq_some_iff.1 hj).1
  rw [ho, flat_get he hx this]
  exact hj⟩⟩
theorem Cell.erow (he : ∀ x, (enc x).length = sz) {g n cap : Nat} {xs : List α} {M : List As} {o i : Nat} (j : Nat) {x : α} {v : Value} (ho : o = i * sz + j) (hx : xs[i]? = some x) (hv : (enc x)[j]? = some v) : Cell (ERow E sz enc (some ⟨g, 0, none⟩) n cap xs :: M) g o v := by
  rw [ho]; exact (Cells.erow he rfl hx).h j v hv
theorem storeERow (Γ : Tab P) (he : ∀ x, (enc x).length = sz) {t : TypeId} {g o i n cap : Nat} {v z : Value} {by' : Nat} {xs : List α} {M N : List As} {k : List As → Prop} (x : α) (h2 : Γ.inf t = some (z, sz, by')) (tk : Take M (ERow E sz enc (some ⟨g, 0, none⟩) n cap xs) N)
    (ho : o = i * sz) (hi : i < xs.length) (hv : v.cells.toList = enc x) (h1 : (enc x).all Value.oneC = true) (hk : k (ERow E sz enc (some ⟨g, 0, none⟩) n cap (xs.set i x) :: N)) :
    LRunU P (Instr.storeAt t (.pointer (some ⟨g, o, none⟩)) v) M k := by
  subst ho
  have hsz : v.cells.size = sz := by rw [← Array.length_toList, hv, he]
  have hle : i * sz + sz ≤ (xs.flatMap enc).length := by
    rw [flat_len he, ← Nat.succ_mul]; exact Nat.mul_le_mul_right _ hi
  obtain ⟨R, hR, hk2⟩ := (storeRow (P := P) Γ (k := fun M' => M' = Row E sz (some ⟨g, 0, none⟩) n cap (splice (xs.flatMap enc) (i * sz) v.cells.toList) :: N) (E := E) (n := n) (cap := cap) h2 (Take.here (x := Row E sz (some ⟨g, 0, none⟩) n cap (xs.flatMap enc)) (M := N)) (by rw [hv]; exact h1) (by rw [hsz]; exact Nat.beq_refl _) hle rfl).ex
  refine ⟨fun M' => M' = ERow E sz enc (some ⟨g, 0, none⟩) n cap (xs.set i x) :: N, fun F w s => ?_, fun M' e => e ▸ hk⟩
  have s1 := s.ent (Ent.app tk.h (Ent.refl F))
  have hxs : xs.length = n := by obtain ⟨_, _, _, _, _, r, _⟩ := s1; exact r.1
  have s2 : Sat w ((Row E sz (some ⟨g, 0, none⟩) n cap (xs.flatMap enc) :: N) ++ F) := s1.ent (Ent.app (Ent.head (fun k hk => hk.2)) (Ent.refl F))
  obtain ⟨w', M', h3, h4, h5, h6⟩ := hR F w s2
  rw [hk2 _ h4, hv, flat_set he x hi] at h5
  refine ⟨w', _, h3, rfl, h5.ent (Ent.app (Ent.head (fun k hk => ⟨?_, hk⟩)) (Ent.refl F)), h6⟩
  rw [List.length_set]; exact hxs
/-- append(xs, ys...): at least one. -/
theorem appendERow (Γ : Tab P) (he : ∀ x, (enc x).length = sz) {T ty : TypeId} {z : Value} {bytes : Nat} {a : Option Addr} {n cap m c sb so : Nat} {xs ys : List α} {M N : List As} {k : Value → List As → Prop} (hu : Γ.und T = some (.slice E)) (hi : Γ.inf E = some (z, sz, bytes)) (hzs : Nat.beq z.cells.size sz = true) (hsz : Nat.blt 0 sz = true)
    (tk : Take M (ERow E sz enc a n cap xs) N) (hm : ys.length = m) (hsrc : Cells N sb so (ys.flatMap enc)) (h1 : ∀ x ∈ ys, (enc x).all Value.oneC = true) (h63 : n + m ≤ maxLen) (hb : (n + m) * bytes ≤ 140737488355328) (hpos : 0 < n + m)
    (hk : ∀ g cap', k (.slice (some ⟨g, 0, none⟩) (n + m) cap') (ERow E sz enc (some ⟨g, 0, none⟩) (n + m) cap' (xs ++ ys) :: N)) :
    LRun P (Builtin.append_ #[T, T] ty #[.slice a n cap, .slice (some ⟨sb, so, none⟩) m c]) M k :=
  ⟨fun v M' => ∃ g cap', v = .slice (some ⟨g, 0, none⟩) (n + m) cap' ∧ M' = ERow E sz enc (some ⟨g, 0, none⟩) (n + m) cap' (xs ++ ys) :: N, fun F w s => by
    have s1 := s.ent (Ent.app tk.h (Ent.refl F))
    have hxs : xs.length = n := by obtain ⟨_, _, _, _, _, r, _⟩ := s1; exact r.1
    have s2 : Sat w (Row E sz a n cap (xs.flatMap enc) :: (N ++ F)) := s1.ent (Ent.head (fun k hk => hk.2))
    have sN : Sat w N := (s2.ent (Ent.drop _)).ent Ent.dropr
    obtain ⟨a', cap', w', h3, h4, h5, h6⟩ := append_sat (P := P) Γ (ty := ty) (c := c) (src := ⟨sb, so, none⟩) (news := ys.flatMap enc) (m := m) hu hi (Nat.eq_of_beq_eq_true hzs) (by simpa [Nat.blt_eq] using hsz) s2 (by rw [flat_len he, hm])
      (fun j u hj => by
        have hadd : (⟨sb, so, none⟩ : Addr).add j = ⟨sb, so + j, none⟩ := by unfold Addr.add; split <;> simp_all
        rw [hadd]; exact (hsrc.h j u hj).get sN)
      (fun u hu => by
        obtain ⟨x, hx, hux⟩ := List.mem_flatMap.1 hu
        exact oneC_ok (List.all_eq_true.1 (h1 x hx) u hux)) h63 hb
    obtain ⟨g, rfl⟩ := h6 hpos
    refine ⟨_, w', _, h3, ⟨g, cap', rfl, rfl⟩, h4.ent (Ent.head (fun k hk => ⟨by simp [hxs, hm], ?_⟩)), h5⟩
    rw [List.flatMap_append]; exact hk, fun v M' ⟨g, cap', e1, e2⟩ => by subst e1; subst e2; exact hk g cap'⟩
end
end
end Go.Sl
