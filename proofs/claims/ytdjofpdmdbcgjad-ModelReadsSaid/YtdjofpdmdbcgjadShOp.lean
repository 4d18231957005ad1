/- Sh, part 3: the operations one by one. General: for every program. -/
import Derived.Test.YtdjofpdmdbcgjadShStep
namespace Go.Sh

/-- A call, on a heap: what it tells, and the heap behind it. -/
def callP (P : Program) (f : FuncId) (args : Array Value) (h : Heap) (K : Value → Heap → Prop) : Prop :=
  (∀ w, (callFunc f args).run P w = .ok (.enter f args) w) ∧
  ∀ w : World, w.heap = h → Calls P f args w fun e w' => ∃ v, e = .returned v ∧ Fr w w' ∧ K v w'.heap

theorem callP.mono {P : Program} {f : FuncId} {args : Array Value} {h : Heap} {K K' : Value → Heap → Prop} (H : callP P f args h K) (hk : ∀ v h', K v h' → K' v h') : callP P f args h K' :=
  ⟨H.1, fun w hw => (H.2 w hw).mono fun _ _ ⟨v, e, f, k⟩ => ⟨v, e, f, hk _ _ k⟩⟩

inductive Cls where
  | pure | load | alloc | loud

def isInt (P : Program) (t : TypeId) : Bool :=
  match P.underlying t with
  | some (.int _) => true
  | _ => false

def isSl (P : Program) (t : TypeId) : Bool :=
  match P.underlying t with
  | some (.slice _) => true
  | _ => false

def clsOf (P : Program) : Op → Cls
  | .move _ | .assign _ | .pick .. | .nilCheck _ | .unOp .. | .fieldAddr .. | .field .. | .indexAddr .. | .index .. | .slice .. | .extract .. | .makeFunc .. | .build .. | .binOp .. => .pure
  | .convert s d _ => match isInt P s, isInt P d with | true, true => .pure | _, _ => .loud
  | .call c => match c.callee with
    | .builtin .len | .builtin .cap | .builtin .min | .builtin .max => .pure
    | _ => .loud
  | .load .. => .load
  | .alloc .. | .box .. | .buildSlice .. => .alloc
  | _ => .loud

/-! ### what only computes -/

def bnd (x : Option Value) (y d : Nat) (K : Nat → Prop) : Prop :=
  match x with
  | none => K d
  | some (.int _ n) => 0 ≤ n ∧ n ≤ (y : Int) ∧ K n.toNat
  | _ => False

def isSome' {α : Type} : Option α → Bool
  | some _ => true
  | none => false

def sliceS (P : Program) (t : TypeId) (x : Value) (lo hi mx : Option Value) (K : Value → Prop) : Prop :=
  match P.underlying t, x with
  | some .string, .string s =>
    match mx with
    | none => bnd hi s.size s.size fun h => bnd lo h 0 fun l => K (.string (s.extract l h))
    | _ => False
  | some (.slice e), .slice a len cap =>
    match P.info? e, hi, mx with
    | some i, none, none => bnd lo len 0 fun l => K (.slice (if cap = l then a else a.map (·.add (l * i.size))) (len - l) (cap - l))
    | some i, some hi, mx => bnd mx cap cap fun m => bnd (some hi) m len fun h => bnd lo h 0 fun l => K (.slice (if m = l then a else a.map (·.add (l * i.size))) (h - l) (m - l))
    | _, _, _ => False
  | some (.array n e), .pointer (some a) =>
    match P.info? e, mx with
    | some i, none => bnd hi n n fun h => bnd lo h 0 fun l => K (.slice (some (if n = l then a else a.add (l * i.size))) (h - l) (n - l))
    | _, _ => False
  | _, _ => False

def idxAddrS (P : Program) (t : TypeId) (x ix : Value) (K : Value → Prop) : Prop :=
  match ix with
  | .int _ i =>
    match P.underlying t, x with
    | some (.slice e), .slice b len _ =>
      match P.info? e with
      | some ti => ∃ a, b = some a ∧ 0 ≤ i ∧ i < (len : Int) ∧ K (.pointer (some (a.add (i.toNat * ti.size))))
      | none => False
    | some (.array len e), .pointer (some a) =>
      match P.info? e with
      | some ti => 0 ≤ i ∧ i < (len : Int) ∧ K (.pointer (some (a.add (i.toNat * ti.size))))
      | none => False
    | _, _ => False
  | _ => False

def idxS (P : Program) (t : TypeId) (x ix : Value) (K : Value → Prop) : Prop :=
  match ix with
  | .int _ i =>
    match P.underlying t, x with
    | some .string, .string s => 0 ≤ i ∧ ∃ b : UInt8, s[i.toNat]? = some b ∧ K (.int .u8 b.toNat)
    | some (.array len e), .agg cs =>
      match tyOf P e, P.info? e with
      | some (.one z), some ti => 0 ≤ i ∧ i < (len : Int) ∧ gen1 z fun v => cs[i.toNat * ti.size]? = some v ∧ K v
      | _, _ => False
    | _, _ => False
  | _ => False

def eqN {α : Type} (p q : Option α) (K : Bool → Prop) : Prop :=
  match q with
  | none => K p.isNone
  | some _ => match p with | none => K false | some _ => False

def fallS (P : Program) (s : Sem Next) (K : Value → Prop) : Prop :=
  match runP P s with
  | some (.value v) => K v
  | _ => False

def neqB (op : BinOp) (b : Bool) : Bool := match op with | .neq => !b | _ => b

def eq1 (d : Option TypeDesc) (x y : Value) : Option Bool :=
  match d, x, y with
  | some (.int _), .int k a, .int k' b => if k = k' then some (a == b) else none
  | some .bool, .bool a, .bool b => some (a == b)
  | some .string, .string a, .string b => some (a == b)
  | _, _, _ => none

def eqL (P : Program) : List Field → List Value → List Value → Option Bool
  | [], [], [] => some true
  | f :: fs, x :: xs, y :: ys => match eq1 (P.underlying f.type) x y, eqL P fs xs ys with
    | some b, some c => some (b && c)
    | _, _ => none
  | _, _, _ => none

def scalarT (P : Program) (t : TypeId) : Bool :=
  match P.underlying t with
  | some (.int _) => true
  | some .bool => true
  | some .string => true
  | _ => false

/-- The fields from offset k on, one cell each, none of them blank. -/
def flatF (P : Program) : List Field → Nat → Bool
  | [], _ => true
  | f :: r, k => f.name != "_" && Nat.beq f.offset k && scalarT P f.type && flatF P r (k + 1)

def flatT (P : Program) (t : TypeId) (fs : List Field) : Bool := flatF P fs 0 && !P.stoodInHeld t && !P.eqGuardType P.depth t

def eqS (P : Program) (op : BinOp) (t : TypeId) (x y : Value) (fall : Prop) (K : Value → Prop) : Prop :=
  match P.underlying t, x, y with
  | some (.pointer _), .pointer p, .pointer q => eqN p q fun b => K (.bool (neqB op b))
  | some (.slice _), .slice p _ _, .slice q _ _ => eqN p q fun b => K (.bool (neqB op b))
  | some (.map _ _), .map p, .map q => eqN p q fun b => K (.bool (neqB op b))
  | some (.struct fs), .agg xs, .agg ys => match flatT P t fs.toList, eqL P fs.toList xs.toList ys.toList with
    | true, some b => K (.bool (neqB op b))
    | _, _ => False
  | _, _, _ => fall

def binS (P : Program) (op : BinOp) (t : TypeId) (yo : Operand) (x y : Value) (fall : Prop) (K : Value → Prop) : Prop :=
  match op with
  | .add =>
    match x, y with
    | .string a, .string b => ((a.size + b.size : Nat) : Int) ≤ IntKind.i64.max ∧ K (.string (a ++ b))
    | _, _ => fall
  | .eql => eqS P .eql t x y fall K
  | .neq => eqS P .neq t x y fall K
  | .quo =>
    match yo with
    | .const _ => fall
    | _ => match x, y with
      | .int k a, .int k' b => if k = k' then b ≠ 0 ∧ K (.int k (k.wrap (a.tdiv b))) else False
      | _, _ => False
  | .rem =>
    match yo with
    | .const _ => fall
    | _ => match x, y with
      | .int k a, .int k' b => if k = k' then b ≠ 0 ∧ K (.int k (a.tmod b)) else False
      | _, _ => False
  | .shl =>
    match yo with
    | .const _ => fall
    | _ => match x, y with
      | .int k a, .int _ n => 0 ≤ n ∧ K (.int k (k.wrap (a * 2 ^ (min n.toNat k.bits))))
      | _, _ => False
  | .shr =>
    match yo with
    | .const _ => fall
    | _ => match x, y with
      | .int k a, .int _ n => 0 ≤ n ∧ K (.int k (a.fdiv (2 ^ (min n.toNat k.bits))))
      | _, _ => False
  | _ => fall

def pureS (P : Program) (o : Oper) (tv : Operand → Tv) (K : Tv → Prop) : Prop :=
  let ρ : Operand → Value := fun x => (tv x).v
  match o.op with
  | .move x | .assign x => K (tv x)
  | .pick c a b => match tv c with
    | .known true => K (tv a)
    | .known false => K (tv b)
    | .val (.bool x) => (x = true → K (tv a)) ∧ (x = false → K (tv b))
    | _ => False
  | .nilCheck x => match ρ x with
    | .pointer p => ∃ a, p = some a ∧ K (.val (.pointer (some a)))
    | .func (.func f) a b => K (.val (.func (.func f) a b))
    | _ => False
  | .indexAddr t x i => idxAddrS P t (ρ x) (ρ i) fun v => K (.val v)
  | .index t x i => idxS P t (ρ x) (ρ i) fun v => K (.val v)
  | .slice t x lo hi mx => sliceS P t (ρ x) (lo.map ρ) (hi.map ρ) (mx.map ρ) fun v => K (.val v)
  | .binOp op t _ y _ => binS P op t y (match o.op with | .binOp _ _ x _ _ => ρ x | _ => undef) (ρ y) (fallS P (execOp ρ o) fun v => K (.val v)) fun v => K (.val v)
  | _ => fallS P (execOp ρ o) fun v => K (.val v)

/-! ### append, make -/

def zeroL (z : List Value) : Nat → List Value
  | 0 => []
  | n + 1 => z ++ zeroL z n

def readL (h : Heap) (a : Addr) : Nat → Nat → List Value → Prop
  | _, 0, vs => vs = []
  | i, n + 1, vs => ∃ v r, cellH h (a.add i) = some v ∧ readL h a (i + 1) n r ∧ vs = v :: r

def readO (h : Heap) (a : Option Addr) (n : Nat) (vs : List Value) : Prop :=
  match a with
  | some a => readL h a 0 n vs
  | none => vs = []

/-- append(s, x...) of slices of elements of type e ('sz' cells, 'by_' bytes, zero 'z'). -/
def appB (e sz by_ : Nat) (z : Value) (base : Option Addr) (len cap : Nat) (b : Option Addr) (n : Nat) (h : Heap) (K : Value → Heap → Prop) : Prop :=
  ∃ ys, readO h b (n * sz) ys ∧
    (len + n ≤ cap → match base with
      | some a => storeL ys h (a.add (len * sz)) 0 fun h' => K (.slice base (len + n) cap) h'
      | none => K (.slice base (len + n) cap) h) ∧
    (cap < len + n → by_ ≠ 0 ∧ Builtin.nextslicecap (len + n) cap * by_ ≤ 2 ^ 48 ∧ ∃ xs, readO h base (len * sz) xs ∧
      ∀ c, len + n ≤ c → K (.slice (some ⟨h.size, 0, none⟩) (len + n) c) (h.push (.cells (xs ++ ys ++ (Builtin.zeroCells z.cells (c - (len + n))).toList).toArray e (0, 0))))

def appS (P : Program) (t : TypeId) (s x : Value) (h : Heap) (K : Value → Heap → Prop) : Prop :=
  match P.underlying t, s, x with
  | some (.slice e), .slice base len cap, .slice b n _ =>
    match P.info? e with
    | some ti =>
      match ti.zero with
      | some z => appB e ti.size ti.bytes z base len cap b n h K
      | none => False
    | none => False
  | _, _, _ => False

def mkB (e sz by_ : Nat) (z : Value) (l c : Int) (h : Heap) (K : Value → Heap → Prop) : Prop :=
  sz ≠ 0 ∧ 0 ≤ l ∧ l ≤ c ∧ c < 2 ^ 63 ∧ (by_ : Int) * c ≤ 2 ^ 48 ∧
    K (.slice (some ⟨h.size, 0, none⟩) l.toNat c.toNat) (h.push (.cells ((Array.range (c.toNat * sz)).map (z.cells[· % z.cells.size]!)) e (0, 0)))

def mkS (P : Program) (t : TypeId) (l c : Value) (h : Heap) (K : Value → Heap → Prop) : Prop :=
  match P.underlying t, l, c with
  | some (.slice e), .int _ l, .int _ c =>
    match P.info? e with
    | some ti =>
      match ti.zero with
      | some z => mkB e ti.size ti.bytes z l c h K
      | none => False
    | none => False
  | _, _, _ => False

/-- copy(dst, src) of slices. -/
def cpB (sz : Nat) (base : Option Addr) (len : Nat) (b : Option Addr) (n : Nat) (h : Heap) (K : Value → Heap → Prop) : Prop :=
  ∃ ys, readO h b (Nat.min n len * sz) ys ∧ match base with
    | some a => storeL ys h a 0 fun h' => K (.int .i64 ((Nat.min n len : Nat) : Int)) h'
    | none => K (.int .i64 ((Nat.min n len : Nat) : Int)) h

def cpS (P : Program) (t : TypeId) (s x : Value) (h : Heap) (K : Value → Heap → Prop) : Prop :=
  match P.underlying t, s, x with
  | some (.slice e), .slice base len _, .slice b n _ =>
    match P.info? e with
    | some ti => cpB ti.size base len b n h K
    | none => False
  | _, _, _ => False

/-- clear(s) of a slice. -/
def clB (z : Value) (base : Option Addr) (len : Nat) (h : Heap) (K : Heap → Prop) : Prop :=
  match base with
  | some a => (len = 0 → K h) ∧ (len ≠ 0 → storeL (Builtin.zeroCells z.cells len).toList h a 0 K)
  | none => K h

def clS (P : Program) (t : TypeId) (s : Value) (h : Heap) (K : Value → Heap → Prop) : Prop :=
  match P.underlying t, s with
  | some (.slice e), .slice base len _ =>
    match P.info? e with
    | some ti =>
      match ti.zero with
      | some z => clB z base len h fun h' => K (.tuple #[]) h'
      | none => False
    | none => False
  | _, _ => False

/-- string(bytes). -/
def b2sB (a : Option Addr) (n : Nat) (h : Heap) (K : ByteArray → Prop) : Prop :=
  ∃ ys : List UInt8, readO h a n (ys.map fun b => Value.int .u8 b.toNat) ∧ K ⟨ys.toArray⟩

/-- []byte(string). -/
def s2bB (e : TypeId) (s : ByteArray) (h : Heap) (K : Value → Heap → Prop) : Prop :=
  ∀ c, s.size ≤ c → K (.slice (some ⟨h.size, 0, none⟩) s.size c) (h.push (.cells (s.data.map (fun b => Value.int .u8 b.toNat) ++ Array.replicate (c - s.size) (.int .u8 0)) e (c, c + 1)))

def convS (P : Program) (src dst : TypeId) (x : Value) (h : Heap) (fall : Prop) (K : Value → Heap → Prop) : Prop :=
  match P.underlying src, P.underlying dst, x with
  | some (.slice e), some .string, .slice a n _ => match P.underlying e with
    | some (.int .u8) => b2sB a n h fun s => K (.string s) h
    | _ => False
  | some .string, some (.slice e), .string s => match P.underlying e with
    | some (.int .u8) => s2bB e s h K
    | _ => False
  | _, _, _ => fall

def allocS (P : Program) (s : Sem Next) (h : Heap) (K : Tv → Heap → Prop) : Prop :=
  match runA P s h with
  | some (.value v, h') => K (.val v) h'
  | _ => False

def semS (P : Program) (s : Sem Next) (h : Heap) (K : Tv → Heap → Prop) : Prop :=
  semI P s h fun nx h' => match nx with
    | .value v => K (.val v) h'
    | .skip => K (.val undef) h'
    | _ => False

def loudS (P : Program) (o : Oper) (tv : Operand → Tv) (h : Heap) (K : Tv → Heap → Prop) : Prop :=
  let ρ : Operand → Value := fun x => (tv x).v
  match o.op with
  | .store t a x => match ρ a with
    | .pointer (some ad) => storeI P t h ad (ρ x) fun h' => K (.val undef) h'
    | _ => False
  | .makeSlice t l c => mkS P t (ρ l) (ρ c) h fun v h' => K (.val v) h'
  | .call c => match c.callee with
    | .value f => match ρ f with
      | .func (.func g) first captured => callP P g (first.toList ++ c.args.toList.map ρ ++ captured.toList).toArray h fun v h' => typeI P o.type v fun x => K (.val x) h'
      | _ => False
    | .builtin .append => match c.args.toList, c.argTypes.toList with
      | [s, x], [t, u] => match isSl P u with
        | true => appS P t (ρ s) (ρ x) h fun v h' => typeI P o.type v fun x => K (.val x) h'
        | false => False
      | _, _ => False
    | .builtin .copy => match c.args.toList, c.argTypes.toList with
      | [s, x], [t, _] => cpS P t (ρ s) (ρ x) h fun v h' => K (.val v) h'
      | _, _ => False
    | .builtin .clear => match c.args.toList, c.argTypes.toList with
      | [s], [t] => clS P t (ρ s) h fun v h' => K (.val v) h'
      | _, _ => False
    | _ => semS P (execOp ρ o) h K
  | .convert src dst x => convS P src dst (ρ x) h (semS P (execOp ρ o) h K) fun v h' => typeI P o.type v fun x => K (.val x) h'
  | _ => semS P (execOp ρ o) h K

def loadS (P : Program) (o : Oper) (tv : Operand → Tv) (h : Heap) (K : Tv → Prop) : Prop :=
  match o.op with
  | .load t a => match (tv a).v with
    | .pointer (some ad) => loadI P t h ad fun v => K (.val v)
    | _ => False
  | _ => False

def step1 (P : Program) (o : Oper) (tv : Operand → Tv) (h : Heap) (K : Tv → Heap → Prop) : Prop :=
  match clsOf P o.op with
  | .pure => pureS P o tv fun x => K x h
  | .load => loadS P o tv h fun x => K x h
  | .alloc => allocS P (execOp (fun x => (tv x).v) o) h K
  | .loud => loudS P o tv h K

end Go.Sh
