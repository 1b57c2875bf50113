import Derived.Test.YtlhcdfennipikaaDk5
import Derived.Test.YtlhcdfennipikaaSlR
import Derived.Test.YtlhcdfennipikaaLay
/-! List of a disk, walked: by the kit's contracts of maps.Keys and slices.Sorted. -/
namespace Go.Proofs.Ytlhcdfennipikaa
open Go.Sl
open Go.RowKit Go.Maps Go.Sort Go.Shelf
set_option linter.unusedVariables false
set_option linter.unusedSimpArgs false
set_option maxRecDepth 100000
set_option maxHeartbeats 4000000

theorem Keys_ct (mo : Option Nat) (M : List As) : Ctr Try.prog 55 #[.map mo] M (fun v M' => ∃ g, v = .func (.func 61) #[] #[.pointer (some ⟨g, 0, none⟩)] ∧ M' = Sl.pt g (.cells #[.map mo] 61) :: M) :=
  ⟨okg fn55, fun F w s => Calls.mono (callsIn_wide.1 (AnyZ.keys_in Try.keys55 Fence.wide 5 trivial rfl mo w)) (by
    rintro e w' ⟨rfl, rfl⟩
    exact ⟨_, _, rfl, ⟨_, rfl, rfl⟩, s.alloc _, Nx.alloc _ _⟩)⟩
theorem sortsIn (m : Nat) : AnyZ.SortsIn Try.prog Try.sorted54_ren Fence.wide m :=
  ⟨fun blk off cap ss W hH hblk hsz => callsIn_wide.2 (AnyM.slices_Sort_string Try.sort60 blk off cap ss W hH hblk hsz),
   fun p cap W => callsIn_wide.2 (AnyM.slices_Sort_string_none Try.sort60 p cap W)⟩
theorem Nx.below {B : Nat} {w w' : World} (h : Go.RowKit.Below B w w') : Nx w w' := ⟨h.os, h.tape, h.output, h.size⟩
theorem map_flatS (ns : List ByteArray) : ns.map Value.string = ns.flatMap Sl.encS := by
  induction ns with
  | nil => rfl
  | cons a l ih => rw [List.map_cons, List.flatMap_cons, ih]; rfl
theorem sorted1_ct {mb g : Nat} {L : List (ByteArray × Nat)} {ns : List ByteArray} (M : List As) (hs : ns.Pairwise (fun a b => ltS a b = true)) (hp : (L.map (·.1)).Perm ns) (hz : ∀ p ∈ L, p.1.size ≤ 32) (hl : L.length ≤ 64) :
    Ctr Try.prog 54 #[.func (.func 61) #[] #[.pointer (some ⟨g, 0, none⟩)]] (Sl.pt g (.cells #[.map (some mb)] 61) :: MP mb L :: M) (fun v M' => ∃ a cap, v = .slice a ns.length cap ∧ M' = ERow 9 1 Sl.encS a ns.length cap ns :: MP mb L :: M) :=
  ⟨okg fn54, fun F w s => by
    have hg := Sat.pt s
    have s2 : Sat w (MP mb L :: (M ++ F)) := s.ent (Ent.drop _)
    obtain ⟨D, hown, hD, hk⟩ := owns_of tab (kt := 9) rfl s2 (fun p hp => Nat.le_trans (hz p hp) (by decide)) (Nat.le_trans hl (by decide))
    have hgl : g < w.heap.size := (Array.getElem?_eq_some_iff.1 hg).1
    have hseq : SeqGives Fence.wide 2 Try.prog 61 #[.pointer (some ⟨g, 0, none⟩)] encStr (fun ss => ss.Perm (strKeys D)) (Maps.size D) w :=
      AnyZ.keys_gives (ρ := Try.keys55_ren) { Try.keys55 with } Fence.wide _ trivial rfl (by omega) g mb L.length D _ hgl (by simp [World.cell?, hg]) hown
    have hc := AnyZ.sorted_in Try.sorted54 Fence.wide 5 trivial trivial trivial trivial rfl (by omega) (sortsIn _) (enters_of Try.func60 (by kernel_rfl) rfl) 61 #[.pointer (some ⟨g, 0, none⟩)] trivial (enters_of Try.func61 (by kernel_rfl) rfl) _ _ (by rw [hD]; exact Nat.le_trans hl (by decide)) (by rw [hD]; omega) w hseq
    refine Calls.mono (callsIn_wide.1 hc) ?_
    rintro e w' ⟨v, ss, rfl, hS, hrow, hnil, hb⟩
    have hpn : ss.Perm (ns.map (fun s => s.data.toList)) := by
      refine (hS.trans hk).trans ?_
      have := hp.map (fun s : ByteArray => s.data.toList)
      rw [List.map_map] at this
      exact this
    have hlen : ss.length = ns.length := by simpa using hpn.length_eq
    have hrow' : w'.ownsRow w.heap.size 9 1 v ns.length (ns.map Value.string) := by
      have := sort_names hs hpn
      have e2 : (ss.mergeSort (fun x y => decide (x ≤ y))).map encStr = ns.map Value.string := this
      have h3 : w'.ownsRow w.heap.size 9 1 v ss.length ((ss.mergeSort (fun x y => decide (x ≤ y))).map encStr) := hrow
      rw [e2, hlen] at h3
      exact h3
    obtain ⟨a, cap, rfl, s3⟩ := Sat.newRow s2 hb hrow'
    refine ⟨_, _, rfl, ⟨a, cap, rfl, rfl⟩, ?_, Nx.below hb⟩
    refine s3.ent (Ent.head fun h r => ⟨rfl, ?_⟩)
    rw [← map_flatS]
    exact r⟩
theorem sorted0_ct {g : Nat} (M : List As) :
    Ctr Try.prog 54 #[.func (.func 61) #[] #[.pointer (some ⟨g, 0, none⟩)]] (Sl.pt g (.cells #[.map none] 61) :: M) (fun v M' => v = .slice none 0 0 ∧ M' = M) :=
  ⟨okg fn54, fun F w s => by
    have hg := Sat.pt s
    have s2 : Sat w (M ++ F) := s.ent (Ent.drop _)
    have hgl : g < w.heap.size := (Array.getElem?_eq_some_iff.1 hg).1
    have hseq : SeqGives Fence.wide 2 Try.prog 61 #[.pointer (some ⟨g, 0, none⟩)] encStr (fun ss : List (List UInt8) => ss = []) 0 w :=
      AnyZ.keys_gives_nil (ρ := Try.keys55_ren) { Try.keys55 with } Fence.wide _ trivial rfl g _ hgl (by simp [World.cell?, hg])
    have hc := AnyZ.sorted_in Try.sorted54 Fence.wide 5 trivial trivial trivial trivial rfl (by omega) (sortsIn _) (enters_of Try.func60 (by kernel_rfl) rfl) 61 #[.pointer (some ⟨g, 0, none⟩)] trivial (enters_of Try.func61 (by kernel_rfl) rfl) _ 0 (Nat.zero_le _) (by omega) w hseq
    refine Calls.mono (callsIn_wide.1 hc) ?_
    rintro e w' ⟨v, ss, rfl, hS, hrow, hnil, hb⟩
    subst hS
    have hv := hnil.2 rfl
    subst hv
    obtain ⟨a, cap, _, s3⟩ := Sat.newRow s2 hb hrow
    exact ⟨_, _, rfl, ⟨rfl, rfl⟩, s3.ent (Ent.drop _), Nx.below hb⟩⟩
/-- The names that a disk lists. -/
def lsA (S : DS) : List ByteArray := if S.down = true then [] else S.F.map (·.1)
theorem ListNo_ct (M : List As) : Ctr Try.prog 36 #[.pointer none] M (fun v M' => v = .slice none 0 0 ∧ M' = M) := by
  refine ctr_of (Γ := tab) (vs := [_]) fn36 rfl ?_
  repeat ((conv => whnf); (first | refine ztx ?_ | refine LNext.nilr ?_ | refine zne ?_ | refine zga ?_ | refine zxa ?_ | refine zca ?_ | refine zcb ?_ | refine zgb ?_ | refine zgc ?_ | refine zgd1 ?_ | refine zge ?_ | refine zgf ?_ | refine zgg ?_ | refine zgh ?_ | refine zgi ?_ | refine zgj ?_ | refine zgk ?_ | refine max2m ?_ | refine min2m ?_ | refine eqStr ?_ | refine neqStr ?_ | refine eqSlNil ?_ | refine neqSlNil ?_ | refine eqBool ?_ | refine neqBool ?_ | refine capSlice ?_ | refine zgl ?_ | refine zgm ?_ | refine zgn ?_ | refine zgo ?_ | refine zba ?_ | refine zbb ?_ | refine zbc ?_ | refine zbd ?_ | refine zbe ?_ | refine zbf ?_ | refine zia ?_ | refine zib ?_ | refine zic ?_ | refine zid1 ?_ | refine zie ?_ | refine zif1 ?_ | refine zig ?_ | refine zih ?_ | refine lint_u8_mod ?_ | refine lint_u32_mod ?_ | refine zii ?_ | refine zij ?_ | refine zua ?_ | refine zgs ?_ | refine zgu ?_ | refine eqMapNil ?_ | refine neqMapNil ?_ | refine LRes.mk ?_ | refine LIn.step ?_ | refine zdr ?_ | refine zna (fun _ => ?_) | refine znb (fun _ => ?_) | refine znc (fun _ => ?_) | refine newSlice0 (fun _ => ?_) | refine newMap (fun _ => ?_)))
  (first | refine call2 (DownNo_ct []) zSq ?_ | refine ext2 (DownNo_ct []) zSq ?_)
  rintro v rfl
  repeat ((conv => whnf); (first | refine ztx ?_ | refine LNext.nilr ?_ | refine zne ?_ | refine zga ?_ | refine zxa ?_ | refine zca ?_ | refine zcb ?_ | refine zgb ?_ | refine zgc ?_ | refine zgd1 ?_ | refine zge ?_ | refine zgf ?_ | refine zgg ?_ | refine zgh ?_ | refine zgi ?_ | refine zgj ?_ | refine zgk ?_ | refine max2m ?_ | refine min2m ?_ | refine eqStr ?_ | refine neqStr ?_ | refine eqSlNil ?_ | refine neqSlNil ?_ | refine eqBool ?_ | refine neqBool ?_ | refine capSlice ?_ | refine zgl ?_ | refine zgm ?_ | refine zgn ?_ | refine zgo ?_ | refine zba ?_ | refine zbb ?_ | refine zbc ?_ | refine zbd ?_ | refine zbe ?_ | refine zbf ?_ | refine zia ?_ | refine zib ?_ | refine zic ?_ | refine zid1 ?_ | refine zie ?_ | refine zif1 ?_ | refine zig ?_ | refine zih ?_ | refine lint_u8_mod ?_ | refine lint_u32_mod ?_ | refine zii ?_ | refine zij ?_ | refine zua ?_ | refine zgs ?_ | refine zgu ?_ | refine eqMapNil ?_ | refine neqMapNil ?_ | refine LRes.mk ?_ | refine LIn.step ?_ | refine zdr ?_ | refine zna (fun _ => ?_) | refine znb (fun _ => ?_) | refine znc (fun _ => ?_) | refine newSlice0 (fun _ => ?_) | refine newMap (fun _ => ?_)))
  show Fin _ _ _; exact Fin.of M zEn ⟨rfl, rfl⟩
theorem List_ct (db : Nat) (S : DS) (M : List As) : Ctr Try.prog 36 #[.pointer (some ⟨db, 0, none⟩)] (Dsk db S :: M) (fun v M' => ∃ a cap, v = .slice a (lsA S).length cap ∧ M' = ERow 9 1 Sl.encS a (lsA S).length cap (lsA S) :: Dsk db S :: M) := by
  refine Ctr.ex (okg fn36) (Dsk.open' (db := db) (S := S) (M := M)) ?_
  rintro ⟨mo, F⟩ hx
  dsimp only at hx ⊢
  obtain ⟨SF, left, down⟩ := S
  refine ctr_of (Γ := tab) (vs := [_]) fn36 rfl ?_
  cases down with
  | true =>
    repeat ((conv => whnf); (first | refine ztx ?_ | refine LNext.nilr ?_ | refine zne ?_ | refine zga ?_ | refine zxa ?_ | refine zca ?_ | refine zcb ?_ | refine zgb ?_ | refine zgc ?_ | refine zgd1 ?_ | refine zge ?_ | refine zgf ?_ | refine zgg ?_ | refine zgh ?_ | refine zgi ?_ | refine zgj ?_ | refine zgk ?_ | refine max2m ?_ | refine min2m ?_ | refine eqStr ?_ | refine neqStr ?_ | refine eqSlNil ?_ | refine neqSlNil ?_ | refine eqBool ?_ | refine neqBool ?_ | refine capSlice ?_ | refine zgl ?_ | refine zgm ?_ | refine zgn ?_ | refine zgo ?_ | refine zba ?_ | refine zbb ?_ | refine zbc ?_ | refine zbd ?_ | refine zbe ?_ | refine zbf ?_ | refine zia ?_ | refine zib ?_ | refine zic ?_ | refine zid1 ?_ | refine zie ?_ | refine zif1 ?_ | refine zig ?_ | refine zih ?_ | refine lint_u8_mod ?_ | refine lint_u32_mod ?_ | refine zii ?_ | refine zij ?_ | refine zua ?_ | refine zgs ?_ | refine zgu ?_ | refine eqMapNil ?_ | refine neqMapNil ?_ | refine LRes.mk ?_ | refine LIn.step ?_ | refine zdr ?_ | refine zna (fun _ => ?_) | refine znb (fun _ => ?_) | refine znc (fun _ => ?_) | refine newSlice0 (fun _ => ?_) | refine newMap (fun _ => ?_)))
    (first | refine call2 (DownC_ct db mo left true) zSq ?_ | refine ext2 (DownC_ct db mo left true) zSq ?_)
    rintro v rfl
    repeat ((conv => whnf); (first | refine ztx ?_ | refine LNext.nilr ?_ | refine zne ?_ | refine zga ?_ | refine zxa ?_ | refine zca ?_ | refine zcb ?_ | refine zgb ?_ | refine zgc ?_ | refine zgd1 ?_ | refine zge ?_ | refine zgf ?_ | refine zgg ?_ | refine zgh ?_ | refine zgi ?_ | refine zgj ?_ | refine zgk ?_ | refine max2m ?_ | refine min2m ?_ | refine eqStr ?_ | refine neqStr ?_ | refine eqSlNil ?_ | refine neqSlNil ?_ | refine eqBool ?_ | refine neqBool ?_ | refine capSlice ?_ | refine zgl ?_ | refine zgm ?_ | refine zgn ?_ | refine zgo ?_ | refine zba ?_ | refine zbb ?_ | refine zbc ?_ | refine zbd ?_ | refine zbe ?_ | refine zbf ?_ | refine zia ?_ | refine zib ?_ | refine zic ?_ | refine zid1 ?_ | refine zie ?_ | refine zif1 ?_ | refine zig ?_ | refine zih ?_ | refine lint_u8_mod ?_ | refine lint_u32_mod ?_ | refine zii ?_ | refine zij ?_ | refine zua ?_ | refine zgs ?_ | refine zgu ?_ | refine eqMapNil ?_ | refine neqMapNil ?_ | refine LRes.mk ?_ | refine LIn.step ?_ | refine zdr ?_ | refine zna (fun _ => ?_) | refine znb (fun _ => ?_) | refine znc (fun _ => ?_) | refine newSlice0 (fun _ => ?_) | refine newMap (fun _ => ?_)))
    show Fin _ _ _; exact Fin.of (ERow 9 1 Sl.encS none 0 0 [] :: Dsk db ⟨SF, left, true⟩ :: M) (Ent.trans (Dsk.shut hx) ent_e0) ⟨none, 0, rfl, rfl⟩
  | false =>
    repeat ((conv => whnf); (first | refine ztx ?_ | refine LNext.nilr ?_ | refine zne ?_ | refine zga ?_ | refine zxa ?_ | refine zca ?_ | refine zcb ?_ | refine zgb ?_ | refine zgc ?_ | refine zgd1 ?_ | refine zge ?_ | refine zgf ?_ | refine zgg ?_ | refine zgh ?_ | refine zgi ?_ | refine zgj ?_ | refine zgk ?_ | refine max2m ?_ | refine min2m ?_ | refine eqStr ?_ | refine neqStr ?_ | refine eqSlNil ?_ | refine neqSlNil ?_ | refine eqBool ?_ | refine neqBool ?_ | refine capSlice ?_ | refine zgl ?_ | refine zgm ?_ | refine zgn ?_ | refine zgo ?_ | refine zba ?_ | refine zbb ?_ | refine zbc ?_ | refine zbd ?_ | refine zbe ?_ | refine zbf ?_ | refine zia ?_ | refine zib ?_ | refine zic ?_ | refine zid1 ?_ | refine zie ?_ | refine zif1 ?_ | refine zig ?_ | refine zih ?_ | refine lint_u8_mod ?_ | refine lint_u32_mod ?_ | refine zii ?_ | refine zij ?_ | refine zua ?_ | refine zgs ?_ | refine zgu ?_ | refine eqMapNil ?_ | refine neqMapNil ?_ | refine LRes.mk ?_ | refine LIn.step ?_ | refine zdr ?_ | refine zna (fun _ => ?_) | refine znb (fun _ => ?_) | refine znc (fun _ => ?_) | refine newSlice0 (fun _ => ?_) | refine newMap (fun _ => ?_)))
    (first | refine call2 (DownC_ct db mo left false) zSq ?_ | refine ext2 (DownC_ct db mo left false) zSq ?_)
    rintro v rfl
    repeat ((conv => whnf); (first | refine ztx ?_ | refine LNext.nilr ?_ | refine zne ?_ | refine zga ?_ | refine zxa ?_ | refine zca ?_ | refine zcb ?_ | refine zgb ?_ | refine zgc ?_ | refine zgd1 ?_ | refine zge ?_ | refine zgf ?_ | refine zgg ?_ | refine zgh ?_ | refine zgi ?_ | refine zgj ?_ | refine zgk ?_ | refine max2m ?_ | refine min2m ?_ | refine eqStr ?_ | refine neqStr ?_ | refine eqSlNil ?_ | refine neqSlNil ?_ | refine eqBool ?_ | refine neqBool ?_ | refine capSlice ?_ | refine zgl ?_ | refine zgm ?_ | refine zgn ?_ | refine zgo ?_ | refine zba ?_ | refine zbb ?_ | refine zbc ?_ | refine zbd ?_ | refine zbe ?_ | refine zbf ?_ | refine zia ?_ | refine zib ?_ | refine zic ?_ | refine zid1 ?_ | refine zie ?_ | refine zif1 ?_ | refine zig ?_ | refine zih ?_ | refine lint_u8_mod ?_ | refine lint_u32_mod ?_ | refine zii ?_ | refine zij ?_ | refine zua ?_ | refine zgs ?_ | refine zgu ?_ | refine eqMapNil ?_ | refine neqMapNil ?_ | refine LRes.mk ?_ | refine LIn.step ?_ | refine zdr ?_ | refine zna (fun _ => ?_) | refine znb (fun _ => ?_) | refine znc (fun _ => ?_) | refine newSlice0 (fun _ => ?_) | refine newMap (fun _ => ?_)))
    refine call1 (Keys_ct mo []) zSp ?_
    rintro v M' ⟨g, rfl, rfl⟩
    repeat ((conv => whnf); (first | refine ztx ?_ | refine LNext.nilr ?_ | refine zne ?_ | refine zga ?_ | refine zxa ?_ | refine zca ?_ | refine zcb ?_ | refine zgb ?_ | refine zgc ?_ | refine zgd1 ?_ | refine zge ?_ | refine zgf ?_ | refine zgg ?_ | refine zgh ?_ | refine zgi ?_ | refine zgj ?_ | refine zgk ?_ | refine max2m ?_ | refine min2m ?_ | refine eqStr ?_ | refine neqStr ?_ | refine eqSlNil ?_ | refine neqSlNil ?_ | refine eqBool ?_ | refine neqBool ?_ | refine capSlice ?_ | refine zgl ?_ | refine zgm ?_ | refine zgn ?_ | refine zgo ?_ | refine zba ?_ | refine zbb ?_ | refine zbc ?_ | refine zbd ?_ | refine zbe ?_ | refine zbf ?_ | refine zia ?_ | refine zib ?_ | refine zic ?_ | refine zid1 ?_ | refine zie ?_ | refine zif1 ?_ | refine zig ?_ | refine zih ?_ | refine lint_u8_mod ?_ | refine lint_u32_mod ?_ | refine zii ?_ | refine zij ?_ | refine zua ?_ | refine zgs ?_ | refine zgu ?_ | refine eqMapNil ?_ | refine neqMapNil ?_ | refine LRes.mk ?_ | refine LIn.step ?_ | refine zdr ?_ | refine zna (fun _ => ?_) | refine znb (fun _ => ?_) | refine znc (fun _ => ?_) | refine newSlice0 (fun _ => ?_) | refine newMap (fun _ => ?_)))
    cases mo with
    | none =>
      have hF := hx.nil rfl
      subst hF
      have hS : SF = [] := by have := hx.perm.length_eq; simp at this; exact List.eq_nil_of_length_eq_zero this.symm
      subst hS
      refine call1 (sorted0_ct []) zSp ?_
      rintro v M' ⟨rfl, rfl⟩
      repeat ((conv => whnf); (first | refine ztx ?_ | refine LNext.nilr ?_ | refine zne ?_ | refine zga ?_ | refine zxa ?_ | refine zca ?_ | refine zcb ?_ | refine zgb ?_ | refine zgc ?_ | refine zgd1 ?_ | refine zge ?_ | refine zgf ?_ | refine zgg ?_ | refine zgh ?_ | refine zgi ?_ | refine zgj ?_ | refine zgk ?_ | refine max2m ?_ | refine min2m ?_ | refine eqStr ?_ | refine neqStr ?_ | refine eqSlNil ?_ | refine neqSlNil ?_ | refine eqBool ?_ | refine neqBool ?_ | refine capSlice ?_ | refine zgl ?_ | refine zgm ?_ | refine zgn ?_ | refine zgo ?_ | refine zba ?_ | refine zbb ?_ | refine zbc ?_ | refine zbd ?_ | refine zbe ?_ | refine zbf ?_ | refine zia ?_ | refine zib ?_ | refine zic ?_ | refine zid1 ?_ | refine zie ?_ | refine zif1 ?_ | refine zig ?_ | refine zih ?_ | refine lint_u8_mod ?_ | refine lint_u32_mod ?_ | refine zii ?_ | refine zij ?_ | refine zua ?_ | refine zgs ?_ | refine zgu ?_ | refine eqMapNil ?_ | refine neqMapNil ?_ | refine LRes.mk ?_ | refine LIn.step ?_ | refine zdr ?_ | refine zna (fun _ => ?_) | refine znb (fun _ => ?_) | refine znc (fun _ => ?_) | refine newSlice0 (fun _ => ?_) | refine newMap (fun _ => ?_)))
      show Fin _ _ _; exact Fin.of (ERow 9 1 Sl.encS none 0 0 [] :: Dsk db ⟨[], left, false⟩ :: M) (Ent.trans (Ent.trans zEn (Dsk.shut hx)) ent_e0) ⟨none, 0, rfl, rfl⟩
    | some mb =>
      have hlen := hx.len
      have hfew := hx.ok.few
      have hp : ((F.map FC.ky).map (·.1)).Perm (SF.map (·.1)) := by
        have := hx.perm.map (·.1)
        rw [List.map_map] at this ⊢
        exact this
      refine call1 (sorted1_ct (ns := SF.map (·.1)) [] (by rw [List.pairwise_map]; exact hx.ok.srt) hp (fun p hp => by
        obtain ⟨f, hf, rfl⟩ := List.mem_map.1 hp
        have : f.ab ∈ SF := hx.perm.mem_iff.1 (List.mem_map.2 ⟨f, hf, rfl⟩)
        exact hx.ok.nm _ this) (by simp; dsimp only at hlen hfew; omega)) zSp ?_
      rintro v M' ⟨a, cap, rfl, rfl⟩
      repeat ((conv => whnf); (first | refine ztx ?_ | refine LNext.nilr ?_ | refine zne ?_ | refine zga ?_ | refine zxa ?_ | refine zca ?_ | refine zcb ?_ | refine zgb ?_ | refine zgc ?_ | refine zgd1 ?_ | refine zge ?_ | refine zgf ?_ | refine zgg ?_ | refine zgh ?_ | refine zgi ?_ | refine zgj ?_ | refine zgk ?_ | refine max2m ?_ | refine min2m ?_ | refine eqStr ?_ | refine neqStr ?_ | refine eqSlNil ?_ | refine neqSlNil ?_ | refine eqBool ?_ | refine neqBool ?_ | refine capSlice ?_ | refine zgl ?_ | refine zgm ?_ | refine zgn ?_ | refine zgo ?_ | refine zba ?_ | refine zbb ?_ | refine zbc ?_ | refine zbd ?_ | refine zbe ?_ | refine zbf ?_ | refine zia ?_ | refine zib ?_ | refine zic ?_ | refine zid1 ?_ | refine zie ?_ | refine zif1 ?_ | refine zig ?_ | refine zih ?_ | refine lint_u8_mod ?_ | refine lint_u32_mod ?_ | refine zii ?_ | refine zij ?_ | refine zua ?_ | refine zgs ?_ | refine zgu ?_ | refine eqMapNil ?_ | refine neqMapNil ?_ | refine LRes.mk ?_ | refine LIn.step ?_ | refine zdr ?_ | refine zna (fun _ => ?_) | refine znb (fun _ => ?_) | refine znc (fun _ => ?_) | refine newSlice0 (fun _ => ?_) | refine newMap (fun _ => ?_)))
      show Fin _ _ _; exact Fin.of (ERow 9 1 Sl.encS a (SF.map (·.1)).length cap (SF.map (·.1)) :: Dsk db ⟨SF, left, false⟩ :: M) (Ent.trans zEn (Ent.cons _ (Dsk.shut hx))) ⟨a, cap, rfl, rfl⟩
end Go.Proofs.Ytlhcdfennipikaa
