import Derived.Test.YtchaijafpmofdaaSlC
/-! What an operation asks, reckoned. -/
namespace Go.Sl
set_option linter.unusedVariables false
set_option linter.unusedSimpArgs false

/-- The types of a program, as a table that can be looked up. -/
class Tab (P : Program) where
  und : TypeId → Option TypeDesc
  und_ok : ∀ t d, und t = some d → P.underlying t = some d
  mixed : P.follows .mixedOrders = true
  inf : TypeId → Option (Value × Nat × Nat)
  inf_ok : ∀ t z s b, inf t = some (z, s, b) → ∃ i, P.info? t = some i ∧ i.zero = some z ∧ i.size = s ∧ i.bytes = b

structure LGet (P : Program) (s : Sem Value) (M : List As) (k : Value → Prop) : Prop where
  ex : ∃ v, (∀ w, Sat w M → s.run P w = .ok v w) ∧ k v
structure LNew (P : Program) (s : Sem Value) (k : Value → As → Prop) : Prop where
  ex : ∃ (mk : Nat → Value) (obj : Obj), (∀ w, s.run P w = .ok (mk w.heap.size) (w.alloc obj)) ∧ ∀ b, k (mk b) (pt b obj)
structure LRun (P : Program) (s : Sem Value) (M : List As) (k : Value → List As → Prop) : Prop where
  ex : ∃ R : Value → List As → Prop, (∀ F w, Sat w (M ++ F) → ∃ v w' M', s.run P w = .ok v w' ∧ R v M' ∧ Sat w' (M' ++ F) ∧ Nx w w') ∧ ∀ v M', R v M' → k v M'
structure LRunU (P : Program) (s : Sem Unit) (M : List As) (k : List As → Prop) : Prop where
  ex : ∃ R : List As → Prop, (∀ F w, Sat w (M ++ F) → ∃ w' M', s.run P w = .ok () w' ∧ R M' ∧ Sat w' (M' ++ F) ∧ Nx w w') ∧ ∀ M', R M' → k M'
/-- The function has a body of Go. -/
def CallOk (P : Program) (f : FuncId) : Prop := ∀ args w, (callFunc f args).run P w = .ok (.enter f args) w
/-- THE CONTRACT OF A FUNCTION. -/
def Trip (P : Program) (f : FuncId) (args : Array Value) (M : List As) (R : Value → List As → Prop) : Prop :=
  ∀ F w, Sat w (M ++ F) → Calls P f args w (fun e w' => ∃ v M', e = .returned v ∧ R v M' ∧ Sat w' (M' ++ F) ∧ Nx w w')
def Ctr (P : Program) (f : FuncId) (args : Array Value) (M : List As) (R : Value → List As → Prop) : Prop := CallOk P f ∧ Trip P f args M R
/-- What a call does, of Go or of none. -/
def To (P : Program) (f : FuncId) (args : Array Value) (M : List As) (R : Value → List As → Prop) : Prop :=
  ∀ F w, Sat w (M ++ F) → UponOk P ((callFunc f args).run P w) (fun v w' => ∃ M', R v M' ∧ Sat w' (M' ++ F) ∧ Nx w w')
theorem Ctr.to {P : Program} {f : FuncId} {args : Array Value} {M : List As} {R : Value → List As → Prop} (h : Ctr P f args M R) : To P f args M R := fun F w hs => by
  rw [h.1 args w]
  exact (h.2 F w hs).mono (fun e' w' ⟨v, M', he, hr, hs', hn⟩ => ⟨v, he, M', hr, hs', hn⟩)
structure LCall (P : Program) (f : FuncId) (args : Array Value) (M : List As) (k : Value → List As → Prop) : Prop where
  ex : ∃ R, To P f args M R ∧ ∀ v M', R v M' → k v M'
structure LExt (P : Program) (f : FuncId) (args : Array Value) (M : List As) (k : Value → List As → Prop) : Prop where
  ex : ∃ R : Value → List As → Prop, To P f args M (fun v M' => ∃ X, R v X ∧ M' = X ++ M) ∧ ∀ v X, R v X → k v X
/-- A method of what an interface holds: the function that is called. -/
structure LInv (P : Program) (r : Value) (m : String) (args : Array Value) (M : List As) (k : Value → List As → Prop) : Prop where
  ex : ∃ f vs, (∀ w, (callMethod r m args).run P w = (callFunc f vs).run P w) ∧ LCall P f vs M k
/-- What is added, and a value. -/
structure LExtS (P : Program) (s : Sem Value) (M : List As) (k : Value → List As → Prop) : Prop where
  ex : ∃ R : Value → List As → Prop, (∀ F w, Sat w (M ++ F) → ∃ v w' X, s.run P w = .ok v w' ∧ R v X ∧ Sat w' ((X ++ M) ++ F) ∧ Nx w w') ∧ ∀ v X, R v X → k v X
structure LInt (kd : IntKind) (n : Int) (k : Int → Prop) : Prop where
  ex : ∃ m, kd.wrap n = m ∧ k m
structure LEq (n : Int) (k : Int → Prop) : Prop where
  ex : ∃ m, n = m ∧ k m
structure LBool (b : Bool) (k : Bool → Prop) : Prop where
  h : k b
structure LAnd (p : Prop) (k : Prop) : Prop where
  a : p
  b : k
structure LIdx (a : Option Addr) (n : Nat) (i : Int) (k : Nat → Nat → Nat → Prop) : Prop where
  ex : ∃ (b o m : Nat), a = some ⟨b, o, none⟩ ∧ i = (m : Int) ∧ m < n ∧ k b o m

/-- A list, reckoned. -/
def forceK {β : Sort _} : List Value → (List Value → β) → β
  | [], k => k []
  | x :: xs, k => forceK xs (fun ys => k (x :: ys))
theorem forceK_eq {β : Sort _} : ∀ (l : List Value) (k : List Value → β), forceK l k = k l
  | [], _ => rfl
  | _ :: xs, _ => forceK_eq xs _
theorem ext_eq (cs : Array Value) (o n : Nat) : ((cs.toList.drop o).take n).toArray = cs.extract o (o + n) := by
  apply Array.ext'
  rw [Array.toList_extract, List.extract_eq_take_drop]
  simp
def onSome (x : Option Value) (k : Value → Prop) : Prop := match x with | some v => k v | none => False

def intv (op : BinOp) (kd : IntKind) (a b : Int) (k : Value → Prop) : Prop :=
  match op with
  | .add => LInt kd (a + b) (fun m => k (.int kd m))
  | .sub => LInt kd (a - b) (fun m => k (.int kd m))
  | .mul => LInt kd (a * b) (fun m => k (.int kd m))
  | .quo => LAnd (b ≠ 0) (LInt kd (a.tdiv b) (fun m => k (.int kd m)))
  | .rem => LAnd (b ≠ 0) (LEq (a.tmod b) (fun m => k (.int kd m)))
  | .and => LEq (kd.wrap ((BitVec.ofInt kd.bits a &&& BitVec.ofInt kd.bits b).toNat)) (fun m => k (.int kd m))
  | .or => LEq (kd.wrap ((BitVec.ofInt kd.bits a ||| BitVec.ofInt kd.bits b).toNat)) (fun m => k (.int kd m))
  | .xor => LEq (kd.wrap ((BitVec.ofInt kd.bits a ^^^ BitVec.ofInt kd.bits b).toNat)) (fun m => k (.int kd m))
  | .andNot => LEq (kd.wrap ((BitVec.ofInt kd.bits a &&& ~~~BitVec.ofInt kd.bits b).toNat)) (fun m => k (.int kd m))
  | .shl => LAnd (0 ≤ b) (LInt kd (a * 2 ^ (min b.toNat kd.bits)) (fun m => k (.int kd m)))
  | .shr => LAnd (0 ≤ b) (LEq (a.fdiv (2 ^ (min b.toNat kd.bits))) (fun m => k (.int kd m)))
  | .eql => k (.bool (a == b))
  | .neq => k (.bool (a != b))
  | .lss => k (.bool (decide (a < b)))
  | .leq => k (.bool (decide (a ≤ b)))
  | .gtr => k (.bool (decide (a > b)))
  | .geq => k (.bool (decide (a ≥ b)))
def isShift : BinOp → Bool
  | .shl => true
  | .shr => true
  | _ => false
def binStep (P : Program) (op : BinOp) (t : TypeId) (x y : Operand) (a b : Value) (M : List As) (k : Value → Prop) : Prop :=
  match a, b with
  | .int ka m, .int kb n => match isShift op with
    | true => intv op ka m n k
    | false => match decide (ka = kb) with
      | true => intv op ka m n k
      | false => False
  | a, b => LGet P (do eqGuard op t x y a b; binOp op t a b) M k

section
variable {P : Program} (Γ : Tab P)
def fieldAddrStep (s : TypeId) (v : Value) (f : Nat) (k : Value → Prop) : Prop :=
  match Γ.und s with
  | some (.struct fs) => match fs[f]? with
    | some fd => match Γ.inf fd.type with
      | some (_, 0, _) => False
      | some (_, _ + 1, _) => match v with
        | .pointer (some ⟨b, o, none⟩) => k (.pointer (some ⟨b, o + fd.offset, none⟩))
        | _ => False
      | none => False
    | none => False
  | _ => False
def fieldStep (t : TypeId) (v : Value) (f : Nat) (k : Value → Prop) : Prop :=
  match Γ.und t with
  | some (.struct fs) => match fs[f]? with
    | some fd => match v with
      | .agg cs => match Γ.und fd.type with
        | some (.struct _) | some (.array _ _) => match Γ.inf fd.type with
          | some (_, sz, _) => forceK ((cs.toList.drop fd.offset).take sz) (fun l => k (.agg l.toArray))
          | none => False
        | some _ => onSome cs[fd.offset]? k
        | none => False
      | _ => False
    | none => False
  | _ => False
def indexAddrStep (t : TypeId) (v i : Value) (k : Value → Prop) : Prop :=
  match i with
  | .int _ j => match Γ.und t with
    | some (.slice el) => match v with
      | .slice a n _ => match Γ.inf el with
        | some (_, sz, _) => LIdx a n j (fun b o m => k (.pointer (some ⟨b, o + m * sz, none⟩)))
        | none => False
      | _ => False
    | some (.array len el) => match v with
      | .pointer a => match Γ.inf el with
        | some (_, sz, _) => LIdx a len j (fun b o m => k (.pointer (some ⟨b, o + m * sz, none⟩)))
        | none => False
      | _ => False
    | _ => False
  | _ => False

def convStep (s d : TypeId) (v : Value) (M : List As) (k : Value → Prop) : Prop :=
  match v with
  | .int _ m => match Γ.und d with
    | some (.int kd) => match Γ.und s with
      | some _ => LInt kd m (fun m => k (.int kd m))
      | none => False
    | _ => LGet P (convert s d v) M k
  | v => LGet P (convert s d v) M k
/-- Operations that make a value. -/
def getStep (o : Oper) (e : Env) (M : List As) (k : Value → Prop) : Prop :=
  match o.op with
  | .move x => onSome (ev e x) k
  | .assign x => onSome (ev e x) k
  | .pick c a b => match ev e c with
    | some (.bool t) => LBool t (fun t => match t with | true => onSome (ev e a) k | false => onSome (ev e b) k)
    | _ => False
  | .nilCheck x => match ev e x with
    | some (.pointer (some a)) => k (.pointer (some a))
    | some (.func (.func f) u v) => k (.func (.func f) u v)
    | some (.iface t v) => k (.iface t v)
    | _ => False
  | .extract x i => match ev e x with
    | some (.tuple vs) => onSome vs[i]? k
    | _ => False
  | .binOp op t x y _ => match ev e x with
    | some a => match ev e y with
      | some b => binStep P op t x y a b M k
      | none => False
    | none => False
  | .unOp op _ x => match op, ev e x with
    | .not, some (.bool b) => k (.bool !b)
    | op, some v => LGet P (Op.unary op v) M k
    | _, none => False
  | .fieldAddr s x f => onSome (ev e x) (fun v => fieldAddrStep Γ s v f k)
  | .field t x f => onSome (ev e x) (fun v => fieldStep Γ t v f k)
  | .indexAddr t x i => onSome (ev e x) (fun v => onSome (ev e i) (fun j => indexAddrStep Γ t v j k))
  | .load t x => onSome (ev e x) (fun v => LGet P (Instr.loadAt t v) M k)
  | .convert s d x => onSome (ev e x) (fun v => convStep Γ s d v M k)
  | .index t x i => onSome (ev e x) (fun v => onSome (ev e i) (fun j => LGet P (Instr.index t v j) M k))
  | .makeInterface t x => onSome (ev e x) (fun v => LGet P (Instr.makeInterface t v) M k)
  | .typeAssert x t a ok => onSome (ev e x) (fun v => LGet P (Instr.typeAssert v t a ok) M k)
  | .lookup t x i ok => onSome (ev e x) (fun v => onSome (ev e i) (fun j => LGet P (Instr.lookup t v j ok) M k))
  | .slice t x lo hi mx => onSome (ev e x) (fun v => match lo.mapM (ev e) with
    | some lo => match hi.mapM (ev e) with
      | some hi => match mx.mapM (ev e) with
        | some mx => LGet P (Instr.sliceAt t v lo hi mx) M k
        | none => False
      | none => False
    | none => False)
  | .build t ps => match ps.toList.mapM (fun x => (ev e x.2).map (fun v => (x.1, v))) with
    | some vs => LGet P (Instr.build t vs.toArray) M k
    | none => False
  | .makeFunc fn first captured => match first.toList.mapM (ev e) with
    | some a => match captured.toList.mapM (ev e) with
      | some b => k (.func fn a.toArray b.toArray)
      | none => False
    | none => False
  | .call { callee := .builtin b, args, argTypes } => match args.toList.mapM (ev e) with
    | some vs => match b with
      | .len => LGet P (Builtin.len_ argTypes o.type vs.toArray) M k
      | .cap => LGet P (Builtin.cap_ argTypes o.type vs.toArray) M k
      | .min => LGet P (Builtin.min_ argTypes o.type vs.toArray) M k
      | .max => LGet P (Builtin.max_ argTypes o.type vs.toArray) M k
      | _ => False
    | none => False
  | _ => False

/-- Operations that make one block. -/
def newStep (o : Oper) (e : Env) (k : Value → As → Prop) : Prop :=
  match o.op with
  | .alloc t => LNew P (Instr.alloc t true (.tuple #[])) k
  | .box t x => match ev e x with
    | some v => LNew P (Instr.box t v) k
    | none => False
  | .buildSlice t len ps => match ps.toList.mapM (fun x => (ev e x.2).map (fun v => (x.1, v))) with
    | some vs => LNew P (Instr.buildSlice t len vs.toArray) k
    | none => False
  | .makeSlice t l c => match ev e l, ev e c with
    | some l, some c => LNew P (Instr.makeSlice t l c) k
    | _, _ => False
  | .makeMap t none => LNew P (Instr.makeMap t none) k
  | .convert s d x => match ev e x with
    | some v => LNew P (convert s d v) k
    | none => False
  | _ => False

/-- Operations that may turn whatever there is. -/
def runStep (o : Oper) (e : Env) (M : List As) (k : Value → List As → Prop) : Prop :=
  match o.op with
  | .store t a x => match ev e a, ev e x with
    | some a, some v => LRunU P (Instr.storeAt t a v) M (fun M' => k undef M')
    | _, _ => False
  | .mapUpdate t m i x => match ev e m, ev e i, ev e x with
    | some m, some i, some v => LRunU P (Instr.mapUpdate t m i v) M (fun M' => k undef M')
    | _, _, _ => False
  | .call { callee := .value (.func f), args, argTypes } => match args.toList.mapM (ev e) with
    | some vs => LCall P f vs.toArray M k
    | none => False
  | .call { callee := .value (.tmp t), args, argTypes } => match args.toList.mapM (ev e) with
    | some vs => match e t with
      | some (.func (.func f) first captured) => LCall P f (first ++ vs.toArray ++ captured) M k
      | _ => False
    | none => False
  | .call { callee := .invoke x m, args, argTypes } => match args.toList.mapM (ev e) with
    | some vs => match ev e x with
      | some r => LInv P r m vs.toArray M k
      | none => False
    | none => False
  | .call { callee := .builtin b, args, argTypes } => match args.toList.mapM (ev e) with
    | some vs => match b with
      | .append => LRun P (Builtin.append_ argTypes o.type vs.toArray) M k
      | .copy => LRun P (Builtin.copy_ argTypes o.type vs.toArray) M k
      | .delete => LRun P (Builtin.delete_ argTypes o.type vs.toArray) M k
      | .clear => LRun P (Builtin.clear_ argTypes o.type vs.toArray) M k
      | _ => False
    | none => False
  | .range t x => match ev e x with
    | some v => LRun P (Instr.range t v) M k
    | none => False
  | .next it s => match ev e it with
    | some v => LRun P (Instr.next v s o.type) M k
    | none => False
  | .entry it => match ev e it with
    | some v => LRun P (Instr.entry v) M k
    | none => False
  | .makeMap t (some r) => match ev e r with
    | some v => LRun P (Instr.makeMap t (some v)) M k
    | none => False
  | .convert s d x => match ev e x with
    | some v => LRun P (convert s d v) M k
    | none => False
  | _ => False
def extStep (o : Oper) (e : Env) (M : List As) (k : Value → List As → Prop) : Prop :=
  match o.op with
  | .call { callee := .value (.func f), args, argTypes } => match args.toList.mapM (ev e) with
    | some vs => LExt P f vs.toArray M k
    | none => False
  | .convert s d x => match ev e x with
    | some v => LExtS P (convert s d v) M k
    | none => False
  | _ => False
end

theorem onSome_ok {x : Option Value} {k : Value → Prop} (h : onSome x k) : ∃ v, x = some v ∧ k v := by
  cases x with
  | none => exact h.elim
  | some v => exact ⟨v, rfl, h⟩

theorem mapM_ev {n : Nat} {e : Env} {a : Act} (ha : EnvOk a n e) : ∀ {l : List Operand} {vs : List Value}, l.mapM (ev e) = some vs → l.map a.eval = vs := by
  intro l
  induction l with
  | nil => intro vs h; simpa using h
  | cons x l ih =>
    intro vs h
    rw [List.mapM_cons] at h
    cases hx : ev e x with
    | none => simp [hx] at h
    | some v =>
      cases hl : l.mapM (ev e) with
      | none => simp [hx, hl] at h
      | some us =>
        simp [hx, hl] at h
        subst h
        simp [ev_eval ha hx, ih hl]
theorem mapM_ev2 {n : Nat} {e : Env} {a : Act} (ha : EnvOk a n e) : ∀ {l : List (Nat × Operand)} {vs : List (Nat × Value)}, l.mapM (fun x => (ev e x.2).map (fun v => (x.1, v))) = some vs → l.map (fun x => (x.1, a.eval x.2)) = vs := by
  intro l
  induction l with
  | nil => intro vs h; simpa using h
  | cons x l ih =>
    intro vs h
    rw [List.mapM_cons] at h
    cases hx : ev e x.2 with
    | none => simp [hx] at h
    | some v =>
      cases hl : l.mapM (fun x => (ev e x.2).map (fun v => (x.1, v))) with
      | none => simp [hx, hl] at h
      | some us =>
        simp [hx, hl] at h
        subst h
        simp [ev_eval ha hx, ih hl]
theorem optM_ev {n : Nat} {e : Env} {a : Act} (ha : EnvOk a n e) {l : Option Operand} {vs : Option Value} (h : l.mapM (ev e) = some vs) : l.map a.eval = vs := by
  cases l with
  | none => simpa using h
  | some x =>
    cases hx : ev e x with
    | none => simp [Option.mapM, hx] at h
    | some v => simp [Option.mapM, hx] at h; subst h; simp [ev_eval ha hx]

section
variable {P : Program} {Γ : Tab P} {n : Nat}

theorem intv_ok {op : BinOp} {kd kb : IntKind} {m q : Int} {k : Value → Prop} (hk : isShift op = true ∨ kd = kb) (h : intv op kd m q k) : ∃ v, k v ∧ ∀ t w, (binOp op t (.int kd m) (.int kb q)).run P w = .ok v w := by
  cases op <;> simp only [intv] at h <;> try exact h.elim
  case add => obtain ⟨⟨_, rfl, hk'⟩⟩ := h; exact ⟨_, hk', fun t w => by rcases hk with hk | rfl; cases hk; simp [binOp, Op.intArith]⟩
  case sub => obtain ⟨⟨_, rfl, hk'⟩⟩ := h; exact ⟨_, hk', fun t w => by rcases hk with hk | rfl; cases hk; simp [binOp, Op.intArith]⟩
  case mul => obtain ⟨⟨_, rfl, hk'⟩⟩ := h; exact ⟨_, hk', fun t w => by rcases hk with hk | rfl; cases hk; simp [binOp, Op.intArith]⟩
  case quo => obtain ⟨h0, ⟨_, rfl, hk'⟩⟩ := h; exact ⟨_, hk', fun t w => by rcases hk with hk | rfl; cases hk; simp [binOp, Op.intDiv, h0]⟩
  case rem => obtain ⟨h0, ⟨_, rfl, hk'⟩⟩ := h; exact ⟨_, hk', fun t w => by rcases hk with hk | rfl; cases hk; simp [binOp, Op.intDiv, h0]⟩
  case and => obtain ⟨⟨_, rfl, hk'⟩⟩ := h; exact ⟨_, hk', fun t w => by rcases hk with hk | rfl; cases hk; simp [binOp, Op.intBits]⟩
  case or => obtain ⟨⟨_, rfl, hk'⟩⟩ := h; exact ⟨_, hk', fun t w => by rcases hk with hk | rfl; cases hk; simp [binOp, Op.intBits]⟩
  case xor => obtain ⟨⟨_, rfl, hk'⟩⟩ := h; exact ⟨_, hk', fun t w => by rcases hk with hk | rfl; cases hk; simp [binOp, Op.intBits]⟩
  case andNot => obtain ⟨⟨_, rfl, hk'⟩⟩ := h; exact ⟨_, hk', fun t w => by rcases hk with hk | rfl; cases hk; simp [binOp, Op.intBits]⟩
  case shl => obtain ⟨h0, ⟨_, rfl, hk'⟩⟩ := h; exact ⟨_, hk', fun t w => by simp [binOp, Op.shift, Int.not_lt.2 h0]⟩
  case shr => obtain ⟨h0, ⟨_, rfl, hk'⟩⟩ := h; exact ⟨_, hk', fun t w => by simp [binOp, Op.shift, Int.not_lt.2 h0]⟩
  case eql => exact ⟨_, h, fun t w => by rcases hk with hk | rfl; cases hk; simp [binOp, Op.intCmp]⟩
  case neq => exact ⟨_, h, fun t w => by rcases hk with hk | rfl; cases hk; simp [binOp, Op.intCmp]⟩
  case lss => exact ⟨_, h, fun t w => by rcases hk with hk | rfl; cases hk; simp [binOp, Op.intCmp]⟩
  case leq => exact ⟨_, h, fun t w => by rcases hk with hk | rfl; cases hk; simp [binOp, Op.intCmp]⟩
  case gtr => exact ⟨_, h, fun t w => by rcases hk with hk | rfl; cases hk; simp [binOp, Op.intCmp]⟩
  case geq => exact ⟨_, h, fun t w => by rcases hk with hk | rfl; cases hk; simp [binOp, Op.intCmp]⟩

theorem eqGuard_int (op : BinOp) (t : TypeId) (x y : Operand) (ka kb : IntKind) (m q : Int) (w : World) : (eqGuard op t x y (.int ka m) (.int kb q)).run P w = .ok () w := by
  unfold eqGuard; split <;> simp

theorem binStep_ok {op : BinOp} {t : TypeId} {x y : Operand} {a b : Value} {M : List As} {k : Value → Prop} (h : binStep P op t x y a b M k) :
    ∃ v, k v ∧ ∀ w, Sat w M → (do eqGuard op t x y a b; binOp op t a b : Sem Value).run P w = .ok v w := by
  unfold binStep at h
  split at h
  · rename_i ka m kb q
    have fin : ∀ {v}, (∀ t w, (binOp op t (.int ka m) (.int kb q)).run P w = .ok v w) → ∀ w, (do eqGuard op t x y (.int ka m) (.int kb q); binOp op t (.int ka m) (.int kb q) : Sem Value).run P w = .ok v w := by
      intro v hv w
      rw [Sem.run_bind, eqGuard_int]
      simpa using hv t w
    split at h
    · rename_i hs
      obtain ⟨v, hk, hv⟩ := intv_ok (P := P) (kb := kb) (.inl hs) h
      exact ⟨v, hk, fun w _ => fin hv w⟩
    · split at h
      · rename_i hd
        obtain ⟨v, hk, hv⟩ := intv_ok (P := P) (kb := kb) (.inr (by simpa using hd)) h
        exact ⟨v, hk, fun w _ => fin hv w⟩
      · exact h.elim
  · obtain ⟨v, h1, h2⟩ := h.ex
    exact ⟨v, h2, h1⟩

theorem getStep_ok {o : Oper} {e : Env} {M : List As} {k : Value → Prop} (h : getStep Γ o e M k) : ∃ v, k v ∧ GetAt P n o e M v := by
  obtain ⟨dst, op, type, pos, after, guard⟩ := o
  unfold getStep at h
  cases op <;> simp only at h
  case move x => obtain ⟨v, hx, hk⟩ := onSome_ok h; exact ⟨v, hk, fun a w ha hs => by simp [execOp, ev_eval ha hx]⟩
  case assign x => obtain ⟨v, hx, hk⟩ := onSome_ok h; exact ⟨v, hk, fun a w ha hs => by simp [execOp, ev_eval ha hx]⟩
  case pick c x y =>
    split at h
    · rename_i t hc
      obtain ⟨h⟩ := h
      cases t <;> simp only at h <;> obtain ⟨v, hx, hk⟩ := onSome_ok h <;> exact ⟨v, hk, fun a w ha hs => by simp [execOp, ev_eval ha hx, ev_eval ha hc, asBool]⟩
    · exact h.elim
  case nilCheck x =>
    split at h
    · rename_i t hc; exact ⟨_, h, fun a w ha hs => by simp [execOp, ev_eval ha hc]⟩
    · rename_i t hc; exact ⟨_, h, fun a w ha hs => by simp [execOp, ev_eval ha hc]⟩
    · rename_i t hc; exact ⟨_, h, fun a w ha hs => by simp [execOp, ev_eval ha hc]⟩
    · exact h.elim
  case extract x i =>
    split at h
    · rename_i vs hc
      obtain ⟨v, hx, hk⟩ := onSome_ok h
      exact ⟨v, hk, fun a w ha hs => by simp [execOp, ev_eval ha hc, Instr.extract, hx]⟩
    · exact h.elim
  case binOp op t x y yt =>
    split at h
    · rename_i va hx
      split at h
      · rename_i vb hy
        obtain ⟨v, hk, hv⟩ := binStep_ok h
        exact ⟨v, hk, fun a w ha hs => by
          have := hv w hs
          simp only [execOp, ev_eval ha hx, ev_eval ha hy]
          rw [Sem.run_bind, this]; rfl⟩
      · exact h.elim
    · exact h.elim
  case unOp op t x =>
    split at h
    · rename_i b hx; exact ⟨_, h, fun a w ha hs => by simp [execOp, ev_eval ha hx, Op.unary]⟩
    · rename_i v _ hx
      obtain ⟨u, h1, h2⟩ := h.ex
      exact ⟨u, h2, fun a w ha hs => by simp [execOp, ev_eval ha hx, h1 w hs]⟩
    · exact h.elim
  case fieldAddr s x f =>
    obtain ⟨v, hx, h⟩ := onSome_ok h
    unfold fieldAddrStep at h
    split at h
    · rename_i fs hu
      split at h
      · rename_i fd hf
        split at h
        · exact h.elim
        · rename_i z sz by' hi
          split at h
          · rename_i b o
            obtain ⟨i, hi1, hi2, hi3, hi4⟩ := Γ.inf_ok _ _ _ _ hi
            refine ⟨_, h, fun a w ha hs => ?_⟩
            have := Γ.und_ok _ _ hu
            have hz : ¬ i.size = 0 := by omega
            have hadd : (⟨b, o, none⟩ : Addr).add fd.offset = ⟨b, o + fd.offset, none⟩ := by unfold Addr.add; split <;> simp_all
            simp [execOp, ev_eval ha hx, Instr.fieldAt, run_underlying this, hf, Instr.sureAddr, fieldPlace, sizeOf, typeInfo, hi1, hz, hadd]
          · exact h.elim
        · exact h.elim
      · exact h.elim
    · exact h.elim
  case field t x f =>
    obtain ⟨v, hx, h⟩ := onSome_ok h
    unfold fieldStep at h
    split at h
    · rename_i fs hu
      split at h
      · rename_i fd hf
        split at h
        · rename_i cs
          have hu' := Γ.und_ok _ _ hu
          split at h
          · rename_i hu2
            have hu2' := Γ.und_ok _ _ hu2
            split at h
            · rename_i z sz by' hi
              obtain ⟨i, hi1, hi2, hi3, hi4⟩ := Γ.inf_ok _ _ _ _ hi
              rw [forceK_eq, ext_eq] at h
              exact ⟨_, h, fun a w ha hs => by simp [execOp, ev_eval ha hx, Instr.field, run_underlying hu', hf, asAgg, part, isAgg, run_underlying hu2', sizeOf, typeInfo, hi1, hi3]⟩
            · exact h.elim
          · rename_i hu2
            have hu2' := Γ.und_ok _ _ hu2
            split at h
            · rename_i z sz by' hi
              obtain ⟨i, hi1, hi2, hi3, hi4⟩ := Γ.inf_ok _ _ _ _ hi
              rw [forceK_eq, ext_eq] at h
              exact ⟨_, h, fun a w ha hs => by simp [execOp, ev_eval ha hx, Instr.field, run_underlying hu', hf, asAgg, part, isAgg, run_underlying hu2', sizeOf, typeInfo, hi1, hi3]⟩
            · exact h.elim
          · rename_i d hd1 hd2 hu2
            have hu2' := Γ.und_ok _ _ hu2
            obtain ⟨v, hc, hk⟩ := onSome_ok h
            refine ⟨v, hk, fun a w ha hs => ?_⟩
            have hagg : (isAgg fd.type).run P w = .ok false w := by
              unfold isAgg
              rw [Sem.run_bind, run_underlying hu2']
              cases d <;> first | rfl | (exact absurd rfl (hd1 _)) | (exact absurd rfl (hd2 _ _))
            simp [execOp, ev_eval ha hx, Instr.field, run_underlying hu', hf, asAgg, part, hagg, hc]
          · exact h.elim
        · exact h.elim
      · exact h.elim
    · exact h.elim
  case indexAddr t x i =>
    obtain ⟨v, hx, h⟩ := onSome_ok h
    obtain ⟨j, hj, h⟩ := onSome_ok h
    unfold indexAddrStep at h
    split at h
    · rename_i kk jj
      split at h
      · rename_i el hu
        split at h
        · rename_i ad len cap h0
          split at h
          · rename_i z sz by' hi
            obtain ⟨b, o, m, rfl, rfl, hm, hk⟩ := h.ex
            obtain ⟨i, hi1, hi2, hi3, hi4⟩ := Γ.inf_ok _ _ _ _ hi
            refine ⟨_, hk, fun a w ha hs => ?_⟩
            have hu' := Γ.und_ok _ _ hu
            have hb : (0 : Int) ≤ (m : Int) ∧ (m : Int) < (len : Int) := by omega
            have hadd : (⟨b, o, none⟩ : Addr).add (m * sz) = ⟨b, o + m * sz, none⟩ := by unfold Addr.add; split <;> simp_all
            simp [execOp, ev_eval ha hx, ev_eval ha hj, Instr.indexAt, asIntOf, run_underlying hu', hb, sizeOf, typeInfo, hi1, hi3, hadd, hm]
          · exact h.elim
        · exact h.elim
      · rename_i len el hu
        split at h
        · rename_i ad h0
          split at h
          · rename_i z sz by' hi
            obtain ⟨b, o, m, rfl, rfl, hm, hk⟩ := h.ex
            obtain ⟨i, hi1, hi2, hi3, hi4⟩ := Γ.inf_ok _ _ _ _ hi
            refine ⟨_, hk, fun a w ha hs => ?_⟩
            have hu' := Γ.und_ok _ _ hu
            have hb : (0 : Int) ≤ (m : Int) ∧ (m : Int) < (len : Int) := by omega
            have hadd : (⟨b, o, none⟩ : Addr).add (m * sz) = ⟨b, o + m * sz, none⟩ := by unfold Addr.add; split <;> simp_all
            simp [execOp, ev_eval ha hx, ev_eval ha hj, Instr.indexAt, Instr.sureAddr, asIntOf, run_underlying hu', hb, sizeOf, typeInfo, hi1, hi3, hadd, hm]
          · exact h.elim
        · exact h.elim
      · exact h.elim
    · exact h.elim
  case load t x =>
    obtain ⟨v, hx, h⟩ := onSome_ok h
    obtain ⟨u, h1, h2⟩ := h.ex
    exact ⟨u, h2, fun a w ha hs => by simp [execOp, ev_eval ha hx, h1 w hs]⟩
  case convert s d x =>
    obtain ⟨v, hx, h⟩ := onSome_ok h
    unfold convStep at h
    split at h
    · rename_i ki m h0
      split at h
      · rename_i kd hu
        split at h
        · rename_i d' hu2
          obtain ⟨_, rfl, hk⟩ := h.ex
          refine ⟨_, hk, fun a w ha hs => ?_⟩
          have h1 := Γ.und_ok _ _ hu
          have h2 := Γ.und_ok _ _ hu2
          simp [execOp, ev_eval ha hx, convert, run_underlying h1, run_underlying h2, Conv.intToInt]
        · exact h.elim
      · obtain ⟨u, h1, h2⟩ := h.ex
        exact ⟨u, h2, fun a w ha hs => by simp [execOp, ev_eval ha hx, h1 w hs]⟩
    · obtain ⟨u, h1, h2⟩ := h.ex
      exact ⟨u, h2, fun a w ha hs => by simp [execOp, ev_eval ha hx, h1 w hs]⟩
  case index t x i =>
    obtain ⟨v, hx, h⟩ := onSome_ok h
    obtain ⟨j, hj, h⟩ := onSome_ok h
    obtain ⟨u, h1, h2⟩ := h.ex
    exact ⟨u, h2, fun a w ha hs => by simp [execOp, ev_eval ha hx, ev_eval ha hj, h1 w hs]⟩
  case makeInterface t x =>
    obtain ⟨v, hx, h⟩ := onSome_ok h
    obtain ⟨u, h1, h2⟩ := h.ex
    exact ⟨u, h2, fun a w ha hs => by simp [execOp, ev_eval ha hx, h1 w hs]⟩
  case typeAssert x t as ok =>
    obtain ⟨v, hx, h⟩ := onSome_ok h
    obtain ⟨u, h1, h2⟩ := h.ex
    exact ⟨u, h2, fun a w ha hs => by simp [execOp, ev_eval ha hx, h1 w hs]⟩
  case lookup t x i ok =>
    obtain ⟨v, hx, h⟩ := onSome_ok h
    obtain ⟨j, hj, h⟩ := onSome_ok h
    obtain ⟨u, h1, h2⟩ := h.ex
    exact ⟨u, h2, fun a w ha hs => by simp [execOp, ev_eval ha hx, ev_eval ha hj, h1 w hs]⟩
  case slice t x lo hi mx =>
    obtain ⟨v, hx, h⟩ := onSome_ok h
    split at h
    · rename_i lo' hlo
      split at h
      · rename_i hi' hhi
        split at h
        · rename_i mx' hmx
          obtain ⟨u, h1, h2⟩ := h.ex
          exact ⟨u, h2, fun a w ha hs => by simp only [execOp, ev_eval ha hx, optM_ev ha hlo, optM_ev ha hhi, optM_ev ha hmx]; simp [h1 w hs]⟩
        · exact h.elim
      · exact h.elim
    · exact h.elim
  case build t ps =>
    split at h
    · rename_i vs hvs
      obtain ⟨u, h1, h2⟩ := h.ex
      refine ⟨u, h2, fun a w ha hs => ?_⟩
      have he : (ps.map fun x => (x.1, a.eval x.2)) = vs.toArray := by
        exact Array.toList_inj.1 (by rw [Array.toList_map]; exact mapM_ev2 ha hvs)
      simp only [execOp, he]
      simp [h1 w hs]
    · exact h.elim
  case makeFunc fn first captured =>
    split at h
    · rename_i va hva
      split at h
      · rename_i vb hvb
        refine ⟨_, h, fun a w ha hs => ?_⟩
        have e1 : first.map a.eval = va.toArray := Array.toList_inj.1 (by rw [Array.toList_map]; exact mapM_ev ha hva)
        have e2 : captured.map a.eval = vb.toArray := Array.toList_inj.1 (by rw [Array.toList_map]; exact mapM_ev ha hvb)
        simp [execOp, Instr.makeFunc, e1, e2]
      · exact h.elim
    · exact h.elim
  case call c =>
    obtain ⟨callee, args, argTypes⟩ := c
    cases callee <;> simp only at h <;> try exact h.elim
    rename_i b
    split at h
    · rename_i vs hvs
      have he : ∀ {a : Act}, EnvOk a n e → args.map a.eval = vs.toArray := fun ha => Array.toList_inj.1 (by rw [Array.toList_map]; exact mapM_ev ha hvs)
      cases b <;> simp only at h <;> try exact h.elim
      all_goals
        obtain ⟨u, h1, h2⟩ := h.ex
        refine ⟨u, h2, fun a w ha hs => ?_⟩
        simp only [BigFrame.execOp_builtin, he ha, BigFrame.builtin_len, BigFrame.builtin_cap, BigFrame.builtin_min, BigFrame.builtin_max]
        simp [h1 w hs]
    · exact h.elim
  all_goals exact h.elim

theorem newStep_ok {o : Oper} {e : Env} {k : Value → As → Prop} (h : newStep (P := P) o e k) : ∃ mk obj, NewAt P n o e mk obj ∧ ∀ b, k (mk b) (pt b obj) := by
  obtain ⟨dst, op, type, pos, after, guard⟩ := o
  unfold newStep at h
  cases op <;> simp only at h
  case alloc t =>
    obtain ⟨mk, obj, h1, h2⟩ := h.ex
    exact ⟨mk, obj, fun a w ha => by simp [execOp, h1 w], h2⟩
  case box t x =>
    split at h
    · rename_i v hx
      obtain ⟨mk, obj, h1, h2⟩ := h.ex
      exact ⟨mk, obj, fun a w ha => by simp [execOp, ev_eval ha hx, h1 w], h2⟩
    · exact h.elim
  case buildSlice t len ps =>
    split at h
    · rename_i vs hvs
      obtain ⟨mk, obj, h1, h2⟩ := h.ex
      refine ⟨mk, obj, fun a w ha => ?_, h2⟩
      have he : (ps.map fun x => (x.1, a.eval x.2)) = vs.toArray := Array.toList_inj.1 (by rw [Array.toList_map]; exact mapM_ev2 ha hvs)
      simp only [execOp, he]
      simp [h1 w]
    · exact h.elim
  case makeSlice t l c =>
    split at h
    · rename_i vl vc hl hc
      obtain ⟨mk, obj, h1, h2⟩ := h.ex
      exact ⟨mk, obj, fun a w ha => by simp [execOp, ev_eval ha hl, ev_eval ha hc, h1 w], h2⟩
    · exact h.elim
  case makeMap t r =>
    cases r with
    | none =>
      obtain ⟨mk, obj, h1, h2⟩ := h.ex
      exact ⟨mk, obj, fun a w ha => by simp [execOp, h1 w], h2⟩
    | some r => exact h.elim
  case convert s d x =>
    split at h
    · rename_i v hx
      obtain ⟨mk, obj, h1, h2⟩ := h.ex
      exact ⟨mk, obj, fun a w ha => by simp [execOp, ev_eval ha hx, h1 w], h2⟩
    · exact h.elim
  all_goals exact h.elim

theorem execOp_call_value (a : Act) (dst : Option Tmp) (x : Operand) (xs : Array Operand) (ats : Array TypeId) (ty : TypeId) (pos : String) (after : Array Edge) (guard : Option (Nat × Bool)) (f : FuncId) (u v : Array Value) (hx : a.eval x = .func (.func f) u v) :
    execOp a.eval { dst, op := .call { callee := .value x, args := xs, argTypes := ats }, type := ty, pos, after, guard } = callFunc f (u ++ xs.map a.eval ++ v) := by
  simp only [execOp, resolve, hx, Deferred.ofValue]
  rfl

theorem execOp_call_inv (a : Act) (dst : Option Tmp) (x : Operand) (m : String) (xs : Array Operand) (ats : Array TypeId) (ty : TypeId) (pos : String) (after : Array Edge) (guard : Option (Nat × Bool)) (P : Program) (w : World) :
    (execOp a.eval { dst, op := .call { callee := .invoke x m, args := xs, argTypes := ats }, type := ty, pos, after, guard }).run P w = (callMethod (a.eval x) m (xs.map a.eval)).run P w := by
  have e2 : (#[a.eval x] ++ xs.map a.eval).extract 1 (#[a.eval x] ++ xs.map a.eval).size = xs.map a.eval := by
    apply Array.ext'
    simp
    rw [List.take_of_length_le (by simp)]
  have e3 : invoke (.fn (.method m) #[]) (#[a.eval x] ++ xs.map a.eval) = callMethod (a.eval x) m (xs.map a.eval) := by
    unfold invoke
    have e1 : (#[a.eval x] ++ xs.map a.eval)[0]? = some (a.eval x) := by
      rw [Array.getElem?_append_left (by simp)]; rfl
    rw [e1, e2]
  simp only [execOp, resolve]
  rw [← e3]
  rfl
theorem runStep_ok {o : Oper} {e : Env} {M : List As} {k : Value → List As → Prop} (h : runStep (P := P) o e M k) : ∃ R, RunAt P n o e M R ∧ ∀ v M', R v M' → k v M' := by
  obtain ⟨dst, op, type, pos, after, guard⟩ := o
  unfold runStep at h
  have fromU : ∀ {s : Sem Unit} {R : List As → Prop}, (∀ F w, Sat w (M ++ F) → ∃ w' M', s.run P w = .ok () w' ∧ R M' ∧ Sat w' (M' ++ F) ∧ Nx w w') →
      ∀ F w, Sat w (M ++ F) → UponOk P ((do s; pure Next.skip : Sem Next).run P w) (fun v w' => ∃ M', (v = undef ∧ R M') ∧ Sat w' (M' ++ F) ∧ Nx w w') := by
    intro s R h F w hs
    obtain ⟨w', M', h1, h2, h3, h4⟩ := h F w hs
    simp only [Sem.run_bind, h1]
    exact ⟨M', ⟨rfl, h2⟩, h3, h4⟩
  have fromV : ∀ {s : Sem Value} {R : Value → List As → Prop}, (∀ F w, Sat w (M ++ F) → ∃ v w' M', s.run P w = .ok v w' ∧ R v M' ∧ Sat w' (M' ++ F) ∧ Nx w w') →
      ∀ F w, Sat w (M ++ F) → UponOk P ((do pure (Next.value (← s)) : Sem Next).run P w) (fun v w' => ∃ M', R v M' ∧ Sat w' (M' ++ F) ∧ Nx w w') := by
    intro s R h F w hs
    obtain ⟨v, w', M', h1, h2, h3, h4⟩ := h F w hs
    simp only [Sem.run_bind, h1]
    exact ⟨M', h2, h3, h4⟩
  cases op <;> simp only at h
  case store t x y =>
    split at h
    · rename_i va vb hx hy
      obtain ⟨R, h1, h2⟩ := h.ex
      refine ⟨fun v M' => v = undef ∧ R M', fun F a w ha hs => ?_, fun v M' ⟨hv, hr⟩ => by subst hv; exact h2 M' hr⟩
      simp only [execOp, ev_eval ha hx, ev_eval ha hy]
      exact fromU h1 F w hs
    · exact h.elim
  case mapUpdate t m i x =>
    split at h
    · rename_i vm vi vx hm hi hx
      obtain ⟨R, h1, h2⟩ := h.ex
      refine ⟨fun v M' => v = undef ∧ R M', fun F a w ha hs => ?_, fun v M' ⟨hv, hr⟩ => by subst hv; exact h2 M' hr⟩
      simp only [execOp, ev_eval ha hm, ev_eval ha hi, ev_eval ha hx]
      exact fromU h1 F w hs
    · exact h.elim
  case range t x =>
    split at h
    · rename_i v hx
      obtain ⟨R, h1, h2⟩ := h.ex
      refine ⟨R, fun F a w ha hs => ?_, h2⟩
      simp only [execOp, ev_eval ha hx]
      exact fromV h1 F w hs
    · exact h.elim
  case next it s =>
    split at h
    · rename_i v hx
      obtain ⟨R, h1, h2⟩ := h.ex
      refine ⟨R, fun F a w ha hs => ?_, h2⟩
      simp only [execOp, ev_eval ha hx]
      exact fromV h1 F w hs
    · exact h.elim
  case convert s d x =>
    split at h
    · rename_i v hx
      obtain ⟨R, h1, h2⟩ := h.ex
      refine ⟨R, fun F a w ha hs => ?_, h2⟩
      simp only [execOp, ev_eval ha hx]
      exact fromV h1 F w hs
    · exact h.elim
  case entry it =>
    split at h
    · rename_i v hx
      obtain ⟨R, h1, h2⟩ := h.ex
      refine ⟨R, fun F a w ha hs => ?_, h2⟩
      simp only [execOp, ev_eval ha hx]
      exact fromV h1 F w hs
    · exact h.elim
  case makeMap t r =>
    cases r with
    | none => exact h.elim
    | some r =>
      simp only at h
      split at h
      · rename_i v hx
        obtain ⟨R, h1, h2⟩ := h.ex
        refine ⟨R, fun F a w ha hs => ?_, h2⟩
        simp only [execOp, Option.map_some, ev_eval ha hx]
        exact fromV h1 F w hs
      · exact h.elim
  case call c =>
    obtain ⟨callee, args, argTypes⟩ := c
    have fromC : ∀ {f : FuncId} {vs : Array Value} {R : Value → List As → Prop}, To P f vs M R → ∀ F w, Sat w (M ++ F) →
        UponOk P ((callFunc f vs).run P w) (fun v w' => ∃ M', R v M' ∧ Sat w' (M' ++ F) ∧ Nx w w') := by
      intro f vs R hsp F w hs
      exact hsp F w hs
    cases callee with
    | value x =>
      cases x <;> simp only at h <;> try exact h.elim
      case tmp t =>
        split at h
        · rename_i vs hvs
          split at h
          · rename_i f u v hf
            obtain ⟨R, h1, h2⟩ := h.ex
            refine ⟨R, fun F a w ha hs => ?_, h2⟩
            have he : args.map a.eval = vs.toArray := Array.toList_inj.1 (by rw [Array.toList_map]; exact mapM_ev ha hvs)
            rw [execOp_call_value (hx := ev_eval (x := .tmp t) ha hf), he]
            exact fromC h1 F w hs
          · exact h.elim
        · exact h.elim
      case func f =>
        split at h
        · rename_i vs hvs
          obtain ⟨R, h1, h2⟩ := h.ex
          refine ⟨R, fun F a w ha hs => ?_, h2⟩
          have he : args.map a.eval = vs.toArray := Array.toList_inj.1 (by rw [Array.toList_map]; exact mapM_ev ha hvs)
          rw [execOp_call_go, he]
          simp only [Array.empty_append, Array.append_empty]
          exact fromC h1 F w hs
        · exact h.elim
    | invoke x m =>
      simp only at h
      split at h
      · rename_i vs hvs
        split at h
        · rename_i r hr
          obtain ⟨f, us, hm, hc⟩ := h.ex
          obtain ⟨R, h1, h2⟩ := hc.ex
          refine ⟨R, fun F a w ha hs => ?_, h2⟩
          have he : args.map a.eval = vs.toArray := Array.toList_inj.1 (by rw [Array.toList_map]; exact mapM_ev ha hvs)
          rw [execOp_call_inv, he, ev_eval ha hr, hm]
          exact fromC h1 F w hs
        · exact h.elim
      · exact h.elim
    | builtin b =>
      simp only at h
      split at h
      · rename_i vs hvs
        have he : ∀ {a : Act}, EnvOk a n e → args.map a.eval = vs.toArray := fun ha => Array.toList_inj.1 (by rw [Array.toList_map]; exact mapM_ev ha hvs)
        cases b <;> simp only at h <;> try exact h.elim
        all_goals
          obtain ⟨R, h1, h2⟩ := h.ex
          refine ⟨R, fun F a w ha hs => ?_, h2⟩
          rw [BigFrame.execOp_builtin, he ha]
          simp only [BigFrame.builtin_append, BigFrame.builtin_copy, BigFrame.builtin_delete, BigFrame.builtin_clear]
          exact fromV h1 F w hs
      · exact h.elim
  all_goals exact h.elim

theorem extStep_ok {o : Oper} {e : Env} {M : List As} {k : Value → List As → Prop} (h : extStep (P := P) o e M k) : ∃ R : Value → List As → Prop, RunAt P n o e M (fun v M' => ∃ X, R v X ∧ M' = X ++ M) ∧ ∀ v X, R v X → k v X := by
  obtain ⟨dst, op, type, pos, after, guard⟩ := o
  unfold extStep at h
  cases op <;> simp only at h <;> try exact h.elim
  case convert s d x =>
    split at h
    · rename_i v hx
      obtain ⟨R, h1, h2⟩ := h.ex
      refine ⟨R, fun F a w ha hs => ?_, h2⟩
      simp only [execOp, ev_eval ha hx]
      obtain ⟨v, w', X, q1, q2, q3, q4⟩ := h1 F w hs
      simp only [Sem.run_bind, q1]
      exact ⟨X ++ M, ⟨X, q2, rfl⟩, q3, q4⟩
    · exact h.elim
  rename_i c
  obtain ⟨callee, args, argTypes⟩ := c
  cases callee with
  | invoke x m => exact h.elim
  | builtin b => exact h.elim
  | value x =>
    cases x <;> simp only at h <;> try exact h.elim
    rename_i f
    split at h
    · rename_i vs hvs
      obtain ⟨R, hsp, h2⟩ := h.ex
      refine ⟨R, fun F a w ha hs => ?_, h2⟩
      have he : args.map a.eval = vs.toArray := Array.toList_inj.1 (by rw [Array.toList_map]; exact mapM_ev ha hvs)
      rw [execOp_call_go, he]
      simp only [Array.empty_append, Array.append_empty]
      exact hsp F w hs
    · exact h.elim
end
end Go.Sl
