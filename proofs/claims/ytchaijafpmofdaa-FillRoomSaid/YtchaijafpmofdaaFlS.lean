import Derived.Test.YtchaijafpmofdaaMov16
import Derived.Test.YtchaijafpmofdaaSlR
import Derived.Test.YtchaijafpmofdaaLay
/-! slices.Sort of numbers, by the kit's contract. -/
namespace Go.Proofs.Ytchaijafpmofdaa
open Go.Sl
open Go.RowKit Go.Maps Go.Sort Go.Shelf
set_option linter.unusedVariables false
set_option linter.unusedSimpArgs false
set_option maxRecDepth 100000
set_option maxHeartbeats 4000000

theorem flatZ (xs : List Int) : xs.flatMap encZ = xs.map (Value.int .i64) := by
  induction xs with
  | nil => rfl
  | cons a l ih => rw [List.map_cons, List.flatMap_cons, ih]; rfl
/-- A row of numbers that others have been put into, and a world that grew. -/
theorem Sat.sorted {w : World} {E : TypeId} {g cap k : Nat} {xs ys : List Int} {L : List As} (os : Array Obj) (hl : ys.length = xs.length) (hs : Sat w (ERow E 1 encZ (some ⟨g, 0, none⟩) xs.length cap xs :: L)) :
    Sat (grow (putRow (Value.int .i64) (Go.Sort.ahead w k) g 0 ys.toArray) os) (ERow E 1 encZ (some ⟨g, 0, none⟩) xs.length cap ys :: L) ∧ Holds (Value.int .i64) w g 0 xs.toArray ∧ g < w.heap.size := by
  obtain ⟨h1, h2, d, l1, l2, ⟨e1, e2, e3⟩, s⟩ := hs
  rcases e3 with ⟨h, _⟩ | ⟨g', cur, eg, hg, q1, q2, q3, q4⟩
  · cases h
  cases eg
  rw [flatZ] at q4
  have hsz : xs.length ≤ cur.size := by omega
  have s0 : Sat w (Sl.pt g (.cells cur E (0, 0)) :: L) := ⟨h1, h2, d, l1, l2, hg, s⟩
  have hw : w.heap[g]? = some (.cells cur E (0, 0)) := Sat.pt s0
  have s1 : Sat (putRow (Value.int .i64) (Go.Sort.ahead w k) g 0 ys.toArray) (Sl.pt g (.cells (putCells (Value.int .i64) 0 ys.toArray cur) E (0, 0)) :: L) := by
    refine Sat.setBlock s0 (fun c hc => ?_) ?_
    · show (w.heap.modify g _)[c]? = _
      rw [Array.getElem?_modify, if_neg (fun e => hc e.symm)]
    · show (w.heap.modify g _)[g]? = _
      rw [Array.getElem?_modify, if_pos rfl, hw]; rfl
  have s2 : Sat (grow (putRow (Value.int .i64) (Go.Sort.ahead w k) g 0 ys.toArray) os) (Sl.pt g (.cells (putCells (Value.int .i64) 0 ys.toArray cur) E (0, 0)) :: L) := by
    refine Stars.mono s1 (fun b o e => ?_)
    have e' : (putRow (Value.int .i64) (Go.Sort.ahead w k) g 0 ys.toArray).heap[b]? = some o := e
    show ((putRow (Value.int .i64) (Go.Sort.ahead w k) g 0 ys.toArray).heap ++ os)[b]? = some o
    have hb := (Array.getElem?_eq_some_iff.1 e').1
    rw [Array.getElem?_append_left hb]; exact e'
  refine ⟨s2.ent (Ent.head (fun h r => ⟨hl, by rw [flatZ, List.length_map, hl]; omega, .inr ⟨g, putCells (Value.int .i64) 0 ys.toArray cur, rfl, r, q1, q2, ?_, ?_⟩⟩)), ?_, ?_⟩
  · simp only [putCells, Array.size_mapIdx]; exact q3
  · rw [flatZ]
    refine List.ext_getElem? (fun j => ?_)
    rw [Nat.mul_one, List.getElem?_take, List.getElem?_map]
    split
    · rename_i hj
      have hj2 : j < cur.size := by omega
      simp only [putCells, Array.getElem?_toList, Array.getElem?_mapIdx, Array.getElem?_eq_getElem hj2, Option.map_some, List.size_toArray]
      rw [if_pos ⟨Nat.zero_le _, by omega⟩]
      have hj3 : j < ys.length := by omega
      simp [hj3]
    · rename_i hj
      rw [List.getElem?_eq_none (by omega)]; rfl
  · intro j hj
    simp only [List.size_toArray] at hj
    have hc : cur[j]? = some (Value.int .i64 xs[j]) := by
      have := congrArg (·[j]?) q4
      simp only [List.getElem?_map] at this
      rw [Nat.mul_one, List.getElem?_take, if_pos hj, List.getElem?_eq_getElem hj] at this
      simpa using this
    refine ⟨?_, ?_⟩
    · simp only [World.cell?, hw, Nat.zero_add]
      rw [hc]
      simp [hj]
    · simp [World.frozen?, hw]
  · exact (Array.getElem?_eq_some_iff.1 hw).1
theorem Nx.sorted {w : World} {g k : Nat} {ys : Array Int} {os : Array Obj} : Nx w (grow (putRow (Value.int .i64) (Go.Sort.ahead w k) g 0 ys) os) := ⟨rfl, rfl, rfl, by
  show w.heap.size ≤ ((w.heap.modify g _) ++ os).size
  rw [Array.size_append, Array.size_modify]; omega⟩
theorem sort_ct (g cap : Nat) (xs : List Int) (hn : xs.length ≤ 1000000) :
    Ctr Try.prog 36 #[.slice (some ⟨g, 0, none⟩) xs.length cap] [ERow 2 1 encZ (some ⟨g, 0, none⟩) xs.length cap xs] (fun v M' => v = .tuple #[] ∧ M' = [ERow 2 1 encZ (some ⟨g, 0, none⟩) xs.length cap (xs.mergeSort (fun x y => decide (x ≤ y)))]) :=
  ⟨okf fn36, fun F w s => by
    have hh := (Sat.sorted (k := 0) (ys := xs) #[] rfl s).2
    refine Calls.mono (AnyM.slices_Sort_int Try.sort36 g 0 cap xs w hh.1 hh.2 (by omega)) ?_
    rintro e w' ⟨rfl, n, os, rfl⟩
    exact ⟨_, _, rfl, ⟨rfl, rfl⟩, (Sat.sorted os (List.length_mergeSort xs) s).1, Nx.sorted⟩⟩
end Go.Proofs.Ytchaijafpmofdaa
