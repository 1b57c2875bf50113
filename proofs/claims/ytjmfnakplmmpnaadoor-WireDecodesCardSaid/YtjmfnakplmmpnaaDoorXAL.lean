import Derived.Test.YtjmfnakplmmpnaaDoorXAK
namespace Go.Sl
set_option linter.unusedVariables false
set_option linter.unusedSimpArgs false
section
variable {P : Program} {M N : List As} {k : Value → Prop}
theorem zga [Γ : Tab P] {t : TypeId} {b o : Nat} {v : Value} (hk : k v) (h1 : oneD (Γ.und t) = true := by rfl) (c : Cell M b o v := by first | assumption | (repeat (first | assumption | exact Cell.pt rfl | exact Cell.left (by assumption) | apply Cell.there | apply Cell.nilr | apply Cell.right))) : LGet P (Instr.loadAt t (.pointer (some ⟨b, o, none⟩))) M k := load1 Γ h1 c hk
theorem zgb [Γ : Tab P] {t : TypeId} {b o sz i : Nat} {α : Type} [Inhabited α] {enc : α → List Value} {xs : List α} {v : Value} (hk : k v) (h1 : oneD (Γ.und t) = true := by rfl) (l : Lies M b o sz enc xs := by first | assumption | (repeat (first | assumption | exact Lies.erow (by intro _; rfl) | exact Lies.app (by assumption) | apply Lies.there | apply Lies.nilr | apply Lies.right))) (hi : i < xs.length := by first | assumption | omega | (simp only [List.length_set, List.length_append, List.length_take, List.length_drop, List.length_replicate, List.length_map, List.length_cons, List.length_nil] at *; omega)) (hv : (enc (gd xs i))[0]? = some v := by exact rfl) : LGet P (Instr.loadAt t (.pointer (some ⟨b, o + i * sz, none⟩))) M k := load1 Γ h1 (l.cell0 hi hv) hk
theorem zgd1 [Γ : Tab P] {t el ty : TypeId} {a : Option Addr} {n c : Nat} (hk : k (.int .i64 n)) (hu : Γ.und t = some (.slice el) := by rfl) : LGet P (Builtin.len_ #[t] ty #[.slice a n c]) M k := lenSlice Γ hu hk
theorem zge [Γ : Tab P] {t : TypeId} {b o : Nat} {z : Value} {n by' : Nat} {cs : Array Value} {T : TypeId} {fr : Nat × Nat} {vs : List Value} (hk : k (.agg vs.toArray)) (h1 : aggD (Γ.und t) = true := by rfl) (h2 : Γ.inf t = some (z, n, by') := by rfl) (hb : Has M (Sl.pt b (.cells cs T fr)) := by repeat (first | exact Has.here | apply Has.there | apply Has.nilr | apply Has.right))
    (hv : forceK ((cs.toList.drop o).take n) some = some vs := by exact rfl) (h3 : Nat.beq vs.length n = true := by exact rfl) : LGet P (Instr.loadAt t (.pointer (some ⟨b, o, none⟩))) M k := loadBlk Γ h1 h2 hb hv h3 hk
theorem zgf [Γ : Tab P] {t : TypeId} {z : Value} {b o sz n by' i : Nat} {α : Type} [Inhabited α] {enc : α → List Value} {xs : List α} {vs : List Value} (hk : k (.agg vs.toArray)) (h1 : aggD (Γ.und t) = true := by rfl) (h2 : Γ.inf t = some (z, n, by') := by rfl) (l : Lies M b o sz enc xs := by first | assumption | (repeat (first | assumption | exact Lies.erow (by intro _; rfl) | exact Lies.app (by assumption) | apply Lies.there | apply Lies.nilr | apply Lies.right))) (hi : i < xs.length := by first | assumption | omega | (simp only [List.length_set, List.length_append, List.length_take, List.length_drop, List.length_replicate, List.length_map, List.length_cons, List.length_nil] at *; omega))
    (hv : forceK (enc (gd xs i)) some = some vs := by exact rfl) (hn : Nat.beq vs.length n = true := by exact rfl) : LGet P (Instr.loadAt t (.pointer (some ⟨b, o + i * sz, none⟩))) M k := loadElem Γ h1 h2 l hi hv hn hk
theorem zgj [Γ : Tab P] {t ty : TypeId} {b : ByteArray} (hk : k (.int .i64 b.size)) (hu : Γ.und t = some .string := by rfl) : LGet P (Builtin.len_ #[t] ty #[.string b]) M k := lenString Γ hu hk
theorem zgk [Γ : Tab P] {t : TypeId} {parts : Array (Nat × Value)} {cs : List Value} (hk : k (.agg cs.toArray)) (h : buildF Γ t parts.toList = some cs := by rfl) : LGet P (Instr.build t parts) M k := build2 Γ h hk
theorem zgn [Γ : Tab P] {t el : TypeId} {len : Nat} {kd : IntKind} {z v : Value} {by' : Nat} {cs : Array Value} {i : Int} (hk : k v) (hu : Γ.und t = some (.array len el) := by rfl) (ho : oneD (Γ.und el) = true := by rfl) (hi : Γ.inf el = some (z, 1, by') := by rfl) (h0 : 0 ≤ i := by omega) (hlt : i.toNat < len := by omega) (hv : cs[i.toNat]? = some v := by exact rfl) : LGet P (Instr.index t (.agg cs) (.int kd i)) M k := by
  have e : i = (i.toNat : Int) := (Int.toNat_of_nonneg h0).symm
  rw [e]
  exact index1 Γ hu ho hi hlt hv hk
theorem zgo [Γ : Tab P] {t el : TypeId} {len : Nat} {z : Value} {sz by' : Nat} {b o : Nat} (hk : k (.slice (some ⟨b, o, none⟩) len len)) (hu : Γ.und t = some (.array len el) := by rfl) (hi : Γ.inf el = some (z, sz, by') := by rfl) : LGet P (Instr.sliceAt t (.pointer (some ⟨b, o, none⟩)) none none none) M k := sliceArr Γ hu hi hk
theorem zgm [Γ : Tab P] {t el : TypeId} {n by' : Nat} {z : Value} {cs ds : Array Value} {xs ys : List Int} {x y : Operand} (hk : k (.bool (!decide (xs = ys)))) (hu : Γ.und t = some (.array n el) := by rfl) (he : Γ.und el = some (.int .i64) := by rfl) (hi : Γ.inf el = some (z, 1, by') := by rfl)
    (hg : P.eqGuardType P.depth t = false := by decide +kernel) (hc : intsC cs.toList some = some xs := by exact rfl) (hd : intsC ds.toList some = some ys := by exact rfl) (hx : Nat.beq xs.length n = true := by exact rfl) (hy : Nat.beq ys.length n = true := by exact rfl) :
    LGet P (do eqGuard .neq t x y (.agg cs) (.agg ds); binOp .neq t (.agg cs) (.agg ds)) M k := neqArr2 Γ hu he hi hg hc hd hx hy hk
end
section
variable {P : Program} {k : Value → As → Prop}
theorem zna [Γ : Tab P] {t : TypeId} {z : Value} {sz by' : Nat} {cs : List Value} (hk : ∀ b, k (.pointer (some ⟨b, 0, none⟩)) (pt b (.cells cs.toArray t))) (h : Γ.inf t = some (z, sz, by') := by rfl) (hc : forceK z.cells.toList some = some cs := by exact rfl) : LNew P (Instr.alloc t true (.tuple #[])) k := newAlloc2 Γ h hc hk
theorem znb {t : TypeId} {v : Value} {cs : List Value} (hk : ∀ b, k (.pointer (some ⟨b, 0, none⟩)) (pt b (.cells cs.toArray t))) (hc : forceK v.cells.toList some = some cs := by exact rfl) : LNew P (Instr.box t v) k := newBox2 hc hk
theorem znc [Γ : Tab P] {t el : TypeId} {len : Nat} {parts : Array (Nat × Value)} {z : Value} {sz by' : Nat} {cs : List Value} (hk : ∀ b, k (.slice (some ⟨b, 0, none⟩) len len) (pt b (.cells cs.toArray el))) (hu : Γ.und t = some (.slice el) := by rfl) (hi : Γ.inf el = some (z, sz, by') := by rfl) (hle : Nat.ble (len * sz) 16777216 = true := by rfl) (h0 : Nat.beq (len * sz) 0 = false := by rfl)
    (h : forceK (sliceCells z.cells (len * sz)).toList (fun l => fillL (fun i => some (i * sz, sz)) l parts.toList) = some cs := by exact rfl) : LNew P (Instr.buildSlice t len parts) k := newSlice2 Γ hu hi hle h0 h hk
end
theorem zua {P : Program} {M N : List As} {k : List As → Prop} [Γ : Tab P] {t : TypeId} {b o : Nat} {v : Value} {z : Value} {by' sz : Nat} {cs : Array Value} {r : List Value} {T : TypeId} (hk : k (Sl.pt b (.cells r.toArray T (0, 0)) :: N)) (h2 : Γ.inf t = some (z, sz, by') := by rfl) (tk : Take M (Sl.pt b (.cells cs T (0, 0))) N := by repeat (first | exact Take.here | apply Take.there | apply Take.nilr | apply Take.right))
    (h1 : v.cells.toList.all Value.oneC = true := by exact rfl) (h3 : Nat.beq v.cells.toList.length sz = true := by exact rfl) (hlen : Nat.ble (o + sz) cs.toList.length = true := by exact rfl) (hr : forceK (setL cs.toList o v.cells.toList) some = some r := by exact rfl) : LRunU P (Instr.storeAt t (.pointer (some ⟨b, o, none⟩)) v) M k := store2 Γ h2 tk h1 h3 hlen hr hk
section
variable {k : Int → Prop}
theorem zia {a : Nat} (hk : k ((a + 1 : Nat) : Int)) (h : a + 1 ≤ 9223372036854775807 := by omega) : LInt .i64 ((a : Int) + 1) k := lint_n1 h hk
theorem zib {a : Nat} (hk : k ((a - 1 : Nat) : Int)) (h : 1 ≤ a := by omega) (h2 : a ≤ 9223372036854775807 := by omega) : LInt .i64 ((a : Int) - 1) k := lint_n1s h h2 hk
theorem zic {a b : Nat} (hk : k ((a + b : Nat) : Int)) (h : a + b ≤ 9223372036854775807 := by omega) : LInt .i64 ((a : Int) + (b : Int)) k := lint_nn h hk
theorem zid1 {a b : Nat} (hk : k ((a - b : Nat) : Int)) (h : b ≤ a := by omega) (h2 : a ≤ 9223372036854775807 := by omega) : LInt .i64 ((a : Int) - (b : Int)) k := lint_ns h h2 hk
theorem zif1 {n : Int} (hk : k n) (h : -9223372036854775808 ≤ n ∧ n ≤ 9223372036854775807 := by omega) : LInt .i64 n k := lint_id h hk
theorem zig {n : Int} (hk : k n) (h : 0 ≤ n ∧ n ≤ 255 := by omega) : LInt .u8 n k := lint_u8_id h hk
theorem zih {n : Int} (hk : k n) (h : 0 ≤ n ∧ n ≤ 4294967295 := by omega) : LInt .u32 n k := lint_u32_id h hk
end
theorem zxa {b o n m : Nat} {k : Nat → Nat → Nat → Prop} (hk : k b o m) (hm : m < n := by first | assumption | omega | (simp only [List.length_set, List.length_append, List.length_take, List.length_drop, List.length_replicate, List.length_map, List.length_cons, List.length_nil] at *; omega)) : LIdx (some ⟨b, o, none⟩) n (m : Int) k := lidx_n hm hk
theorem zca {b : Bool} {p q : Prop} (hp : p) (h : b = true := by first | rfl | assumption | exact is_t (by omega) | exact is_t rfl | exact is_bt (by omega) | exact is_nt (by omega) | exact is_not_t (by assumption) | exact is_not_t (is_f (by omega))) : LCond b p q := lcond_t h hp
theorem zcb {b : Bool} {p q : Prop} (hq : q) (h : b = false := by first | rfl | assumption | exact is_f (by omega) | exact is_bf (by omega) | exact is_nf (by omega) | exact is_not_f (by assumption) | exact is_not_f (is_t (by omega)) | exact is_not_f (is_t rfl)) : LCond b p q := lcond_f h hq
section
variable {b : Bool} {k : Bool → Prop}
theorem zba (hk : k true) (h : b = true := by first | rfl | assumption | exact is_t (by omega) | exact is_t rfl | exact is_bt (by omega) | exact is_nt (by omega) | exact is_not_t (by assumption) | exact is_not_t (is_f (by omega))) : LBool (b == true) k := LBool.ett h hk
theorem zbb (hk : k false) (h : b = false := by first | rfl | assumption | exact is_f (by omega) | exact is_bf (by omega) | exact is_nf (by omega) | exact is_not_f (by assumption) | exact is_not_f (is_t (by omega)) | exact is_not_f (is_t rfl)) : LBool (b == true) k := LBool.etf h hk
theorem zbc (hk : k false) (h : b = true := by first | rfl | assumption | exact is_t (by omega) | exact is_t rfl | exact is_bt (by omega) | exact is_nt (by omega) | exact is_not_t (by assumption) | exact is_not_t (is_f (by omega))) : LBool (b == false) k := LBool.eft h hk
theorem zbd (hk : k true) (h : b = false := by first | rfl | assumption | exact is_f (by omega) | exact is_bf (by omega) | exact is_nf (by omega) | exact is_not_f (by assumption) | exact is_not_f (is_t (by omega)) | exact is_not_f (is_t rfl)) : LBool (b == false) k := LBool.eff h hk
theorem zbe (hk : k true) (h : b = true := by first | rfl | assumption | exact is_t (by omega) | exact is_t rfl | exact is_bt (by omega) | exact is_nt (by omega) | exact is_not_t (by assumption) | exact is_not_t (is_f (by omega))) : LBool b k := lbool h hk
theorem zbf (hk : k false) (h : b = false := by first | rfl | assumption | exact is_f (by omega) | exact is_bf (by omega) | exact is_nf (by omega) | exact is_not_f (by assumption) | exact is_not_f (is_t (by omega)) | exact is_not_f (is_t rfl)) : LBool b k := lbool h hk
end
end Go.Sl
