import Derived.Test.YthldclmeojkboaaGreatDoorHlBase
namespace Go.HL
structure Sl where
  p : Option Addr
  n : Nat
  c : Nat
abbrev Sl.val (s : Sl) : Value := .slice s.p s.n s.c
structure Fv where
  k : FuncId
  first : Array Value
  cap : Array Value
inductive Kind where
  | int (k : IntKind) | bool | str | slice | ptr | map | any | fn | box
abbrev Kind.T : Kind → Type
  | .int _ => Int
  | .bool => Bool
  | .str => ByteArray
  | .slice => Sl
  | .ptr => Option Addr
  | .map => Option Nat
  | .any => Value
  | .fn => Fv
  | .box => Nat
def Kind.enc : (k : Kind) → k.T → Value
  | .int k, n => .int k n
  | .bool, b => .bool b
  | .str, s => .string s
  | .slice, s => .slice s.p s.n s.c
  | .ptr, p => .pointer p
  | .map, r => .map r
  | .any, v => v
  | .fn, f => .func (.func f.k) f.first f.cap
  | .box, b => .pointer (some ⟨b, 0, none⟩)
def intKindEq : IntKind → IntKind → Bool
  | .i8, .i8 => true | .i16, .i16 => true | .i32, .i32 => true | .i64, .i64 => true
  | .u8, .u8 => true | .u16, .u16 => true | .u32, .u32 => true | .u64, .u64 => true
  | _, _ => false
def Kind.app : (k : Kind) → Value → (k.T → Prop) → Prop
  | .int k, .int k' n, f => match intKindEq k k' with | true => f n | false => False
  | .bool, .bool b, f => f b
  | .str, .string s, f => f s
  | .slice, .slice p n c, f => f ⟨p, n, c⟩
  | .ptr, .pointer p, f => f p
  | .map, .map r, f => f r
  | .any, v, f => f v
  | .fn, .func (.func k) x y, f => f ⟨k, x, y⟩
  | .box, .pointer (some ⟨b, o, none⟩), f => match o with | 0 => f b | _ => False
  | _, _, _ => False
def FunK : List Kind → Type → Type
  | [], α => α
  | k :: ks, α => k.T → FunK ks α
def appI : (ks : List Kind) → FunK ks (Heap → Prop) → List Value → Heap → Prop
  | [], I, [], H => I H
  | k :: ks, I, v :: vs, H => k.app v fun x => appI ks (I x) vs H
  | _, _, _, _ => False
def appIM : (ks : List Kind) → FunK ks (Heap → Prop) → FunK ks (Heap → Nat) → List Value → Heap → Nat → Prop
  | [], I, μ, [], H, n => I H ∧ μ H < n
  | k :: ks, I, μ, v :: vs, H, n => k.app v fun x => appIM ks (I x) (μ x) vs H n
  | _, _, _, _, _, _ => False
def allIM : (ks : List Kind) → FunK ks (Heap → Prop) → FunK ks (Heap → Nat) → ((Heap → Prop) → (Heap → Nat) → List Value → Prop) → Prop
  | [], I, μ, g => g I μ []
  | k :: ks, I, μ, g => ∀ x : k.T, allIM ks (I x) (μ x) fun i m vs => g i m (k.enc x :: vs)
def allI : (ks : List Kind) → FunK ks (Heap → Prop) → ((Heap → Prop) → List Value → Prop) → Prop
  | [], I, g => g I []
  | k :: ks, I, g => ∀ x : k.T, allI ks (I x) fun i vs => g i (k.enc x :: vs)
inductive SVal where
  | v (x : Value)
  | loc (i off : Nat)
  | dead
structure St where
  env : List SVal
  loc : List (Option (Nat × List Value))
def St.put (st : St) : Option Tmp → SVal → St
  | none, _ => st
  | some d, x => { st with env := st.env.set d x }
def getL : List SVal → Nat → SVal
  | [], _ => .dead
  | x :: _, 0 => x
  | _ :: l, n + 1 => getL l n
def St.get (st : St) : Operand → SVal
  | .tmp t => getL st.env t
  | .const v => .v v
  | .global g => .v (.pointer (some ⟨g, 0, none⟩))
  | .func f => .v (.func (.func f) #[] #[])
def SVal.val : SVal → Value
  | .v x => x
  | _ => undef
def SVal.isV : SVal → Bool
  | .v _ => true
  | _ => false
def St.rho (st : St) (x : Operand) : Value := (st.get x).val
def locL : List (Option (Nat × List Value)) → Nat → Option (Nat × List Value)
  | [], _ => none
  | x :: _, 0 => x
  | _ :: l, n + 1 => locL l n
def br (c : Bool) (A B : Prop) : Prop := match c with | true => A | false => B
def isAggT (P : Program) (t : TypeId) : Bool :=
  match P.underlying t with
  | some (.struct _) => true
  | some (.array _ _) => true
  | _ => false
def sizeT (P : Program) (t : TypeId) : Nat := match P.info? t with | some i => i.size | none => 0
def hasT (P : Program) (t : TypeId) : Bool := match P.underlying t with | some _ => true | none => false
def kindT (P : Program) (t : TypeId) : Kind :=
  match P.underlying t with
  | some (.int k) => .int k
  | some .bool => .bool
  | some .string => .str
  | some (.slice _) => .slice
  | some (.pointer _) => .ptr
  | some (.map _ _) => .map
  | some (.func ..) => .fn
  | _ => .any
def kindsT (P : Program) : Nat → TypeId → List Kind
  | 0, _ => []
  | d + 1, t =>
    match P.underlying t with
    | some (.struct fs) => fs.toList.flatMap fun f => kindsT P d f.type
    | some (.array n e) => (List.replicate n (kindsT P d e)).flatten
    | _ => [kindT P t]
def exs (H : Heap) (b o : Nat) : (ks : List Kind) → Nat → List Value → (List Value → Prop) → Prop
  | [], _, acc, f => f acc.reverse
  | k :: ks, i, acc, f => ∃ x : k.T, cellH H ⟨b, o + i, none⟩ = some (k.enc x) ∧ exs H b o ks (i + 1) (k.enc x :: acc) f
def exvs : (ks : List Kind) → List Value → (List Value → Prop) → Prop
  | [], acc, f => f acc.reverse
  | k :: ks, acc, f => ∃ x : k.T, exvs ks (k.enc x :: acc) f
def exT (P : Program) (t : TypeId) (f : Value → Prop) : Prop :=
  match isAggT P t with
  | true => exvs (kindsT P 9 t) [] fun l => f (.agg l.toArray)
  | false => ∃ x : (kindT P t).T, f ((kindT P t).enc x)
def exTs (P : Program) : List TypeId → List Value → (List Value → Prop) → Prop
  | [], acc, f => f acc.reverse
  | t :: ts, acc, f => exT P t fun v => exTs P ts (v :: acc) f
def exR (P : Program) (t : TypeId) (f : Value → Prop) : Prop :=
  match P.underlying t with
  | some (.tuple ts) => exTs P ts.toList [] fun l => f (.tuple l.toArray)
  | _ => exT P t f
def takeL {α : Type} : List α → Nat → List α
  | _, 0 => []
  | [], _ => []
  | x :: l, n + 1 => x :: takeL l n
def dropL {α : Type} : List α → Nat → List α
  | l, 0 => l
  | [], _ => []
  | _ :: l, n + 1 => dropL l n
def overL : List Value → Nat → List Value → List Value
  | cs, _, [] => cs
  | [], _, _ => []
  | _ :: cs, 0, v :: vs => v :: overL cs 0 vs
  | c :: cs, n + 1, vs => c :: overL cs n vs
def noTups : List Value → Bool
  | [] => true
  | v :: vs => match isTup v with | true => false | false => noTups vs
def stores (b : Nat) : (o : Nat) → List Value → Heap → (Heap → Prop) → Prop
  | _, [], H, K => K H
  | o, v :: vs, H, K => (∃ u, cellH H ⟨b, o, none⟩ = some u) ∧ frozenH H ⟨b, o, none⟩ = false ∧ stores b (o + 1) vs (H.set ⟨b, o, none⟩ v) K
def fieldOff (P : Program) (s : TypeId) (f : Nat) : Option Nat :=
  match P.underlying s with
  | some (.struct fs) =>
    match fs.toList[f]? with
    | some x => match sizeT P x.type with | 0 => none | _ + 1 => match hasT P x.type with | true => some x.offset | false => none
    | none => none
  | _ => none
def zeroT (P : Program) (t : TypeId) : Option Value := match P.info? t with | some i => i.zero | none => none
def sliceElem (P : Program) (t : TypeId) : Option TypeId := match P.underlying t with | some (.slice e) => some e | _ => none
def goFn (P : Program) (f : FuncId) : Bool :=
  match P.funcs[f]? with
  | some fn => match fn.name == "runtime.NumGoroutine" with | true => false | false => match fn.body with | some _ => true | none => false
  | none => false
def argsV : St → List Operand → Option (List Value)
  | _, [] => some []
  | st, x :: xs => match st.get x with
    | .v v => match argsV st xs with | some l => some (v :: l) | none => none
    | _ => none
def argsLoc : St → List Operand → Option (Nat × (Nat → List Value))
  | _, [] => none
  | st, x :: xs => match st.get x with
    | .v v => match argsLoc st xs with | some (i, g) => some (i, fun b => v :: g b) | none => none
    | .loc i off => match argsV st xs with | some l => some (i, fun b => .pointer (some ⟨b, off, none⟩) :: l) | none => none
    | .dead => none
def andI (k : IntKind) (x y : Int) : Int := k.wrap ((BitVec.ofInt k.bits x &&& BitVec.ofInt k.bits y).toNat)
def orI (k : IntKind) (x y : Int) : Int := k.wrap ((BitVec.ofInt k.bits x ||| BitVec.ofInt k.bits y).toNat)
def xorI (k : IntKind) (x y : Int) : Int := k.wrap ((BitVec.ofInt k.bits x ^^^ BitVec.ofInt k.bits y).toNat)
def shlI (k : IntKind) (x y : Int) : Int := k.wrap (x * 2 ^ (min y.toNat k.bits))
def shrI (k : IntKind) (x y : Int) : Int := x.fdiv (2 ^ (min y.toNat k.bits))
def binI (op : BinOp) (k : IntKind) (x y : Int) (K : Value → Prop) : Prop :=
  match op with
  | .add => K (.int k (k.wrap (x + y)))
  | .sub => K (.int k (k.wrap (x - y)))
  | .mul => K (.int k (k.wrap (x * y)))
  | .quo => y ≠ 0 ∧ K (.int k (k.wrap (x.tdiv y)))
  | .rem => y ≠ 0 ∧ K (.int k (x.tmod y))
  | .eql => K (.bool (x == y))
  | .neq => K (.bool (x != y))
  | .lss => K (.bool (x < y))
  | .leq => K (.bool (x ≤ y))
  | .gtr => K (.bool (x > y))
  | .geq => K (.bool (x ≥ y))
  | _ => False
def binS (op : BinOp) (x y : ByteArray) (K : Value → Prop) : Prop :=
  match op with
  | .add => x.size + y.size < 9223372036854775808 ∧ K (.string (x ++ y))
  | .eql => K (.bool (x.toList == y.toList))
  | .neq => K (.bool !(x.toList == y.toList))
  | .lss => K (.bool (Op.bytesLess x.toList y.toList))
  | .leq => K (.bool (Op.bytesLess x.toList y.toList || x.toList == y.toList))
  | .gtr => K (.bool !(Op.bytesLess x.toList y.toList || x.toList == y.toList))
  | .geq => K (.bool !(Op.bytesLess x.toList y.toList))
  | _ => False
def shG : Bool → Prop → Prop
  | true, _ => False
  | false, p => p
def shK : BinOp → Option (IntKind → Int → Int → Int)
  | .shl => some shlI
  | .shr => some shrI
  | _ => none
def goBin : BinOp → Bool
  | .add | .sub | .mul | .quo | .rem | .eql | .neq | .lss | .leq | .gtr | .geq => true
  | _ => false
def allV : St → List Operand → Bool
  | _, [] => true
  | st, x :: xs => match (st.get x).isV with | true => allV st xs | false => false
def noSelect : Op → Bool
  | .select .. => false
  | _ => true
def runR (P : Program) {α : Type} : Sem α → Heap → (α → Prop) → Prop
  | .pure a, _, K => K a
  | .load _ a k, H, K => ∃ v, cellH H a = some v ∧ runR P (k v) H K
  | .getObj r k, H, K => ∃ o, H r = some o ∧ isCells o = false ∧ runR P (k o) H K
  | .program k, H, K => runR P (k P) H K
  | .mark _ k, H, K => runR P k H K
  | .frozen a k, H, K => ∃ c e fz, H a.block = some (.cells c e fz) ∧ runR P (k (frozenH H a)) H K
  | .shape r k, H, K => ∃ c e fz, H r = some (.cells c e fz) ∧ runR P (k (some (e, c.size))) H K
  | _, _, _ => False
def valOf : Next → (Value → Prop) → Prop
  | .value v, K => K v
  | _, _ => False
def plainR (P : Program) (o : Oper) (st : St) (H : Heap) (K : SVal → Prop) : Prop :=
  match noSelect o.op with
  | true => match allV st o.op.operands.toList with
    | true => runR P (execOp st.rho o) H fun nx => valOf nx fun v => K (.v v)
    | false => False
  | false => False
def lenM (H : Heap) (m : Option Nat) (K : Nat → Prop) : Prop :=
  match m with
  | none => K 0
  | some b => ∃ es clock, H b = some (.map es clock) ∧ K es.size
def loadO (P : Program) (T : TypeId) (x : SVal) (loc : List (Option (Nat × List Value))) (H : Heap) (K : Value → Prop) : Prop :=
  match hasT P T with
  | false => False
  | true =>
    match x with
    | .loc i off => match locL loc i with
      | some (_, cs) => match isAggT P T with
        | true => match (takeL (dropL cs off) (sizeT P T)).length == sizeT P T with
          | true => K (.agg (takeL (dropL cs off) (sizeT P T)).toArray)
          | false => False
        | false => match dropL cs off with
          | c :: _ => K c
          | [] => False
      | none => False
    | .v (.pointer (some ⟨b, off, none⟩)) => match isAggT P T with
      | true => match (kindsT P 9 T).length == sizeT P T with
        | true => exs H b off (kindsT P 9 T) 0 [] fun l => K (.agg l.toArray)
        | false => False
      | false => ∃ x : (kindT P T).T, cellH H ⟨b, off, none⟩ = some ((kindT P T).enc x) ∧ K ((kindT P T).enc x)
    | _ => False
def isPure : Op → Bool
  | .move _ | .assign _ | .pick .. | .load .. | .fieldAddr .. | .nilCheck _ | .extract .. | .indexAddr .. | .index .. | .unOp .. | .binOp .. | .makeInterface .. | .makeFunc .. | .typeAssert .. | .field .. | .build .. => true
  | .convert .. => true
  | .slice .. => true
  | .call { callee := .builtin b, .. } => match b with | .len | .max | .min | .cap => true | _ => false
  | _ => false
def bounds (n c : Int) (lo hi : Option Value) (K : Int → Int → Prop) : Prop :=
  match lo, hi with
  | none, none => K 0 n
  | some (.int _ l), none => 0 ≤ l ∧ l ≤ n ∧ K l n
  | none, some (.int _ h) => 0 ≤ h ∧ h ≤ c ∧ K 0 h
  | some (.int _ l), some (.int _ h) => 0 ≤ h ∧ h ≤ c ∧ 0 ≤ l ∧ l ≤ h ∧ K l h
  | _, _ => False
def optV (st : St) : Option Operand → Option (Option Value)
  | none => some none
  | some x => match st.get x with | .v v => some (some v) | _ => none
def ptrm (p : Option Addr) (f : Nat → Nat → Prop) : Prop := match p with | some ⟨b, o, none⟩ => f b o | _ => False
def slP (p : Option Addr) (c : Nat) (l : Int) (sz : Nat) : Option Addr := if (c : Int) = l then p else p.map fun a => a.add (l.toNat * sz)
def idxO (off : Nat) (j : Int) (sz : Nat) : Nat := match sz with | 1 => off + j.toNat | sz => off + j.toNat * sz
def eqNil (op : BinOp) (n : Bool) (K : SVal → Prop) (other : Prop) : Prop :=
  match op with
  | .eql => K (.v (.bool n))
  | .neq => K (.v (.bool !n))
  | _ => other
def pureO (P : Program) (o : Oper) (st : St) (H : Heap) (K : SVal → Prop) : Prop :=
  match o.op with
  | .move x | .assign x => K (st.get x)
  | .pick c a b =>
    match st.get c with
    | .v (.bool t) => match t with | true => K (st.get a) | false => K (st.get b)
    | _ => False
  | .load T x => loadO P T (st.get x) st.loc H fun v => K (.v v)
  | .fieldAddr s x f =>
    match fieldOff P s f with
    | some k => match st.get x with
      | .loc i off => K (.loc i (off + k))
      | .v (.pointer (some ⟨b, off, none⟩)) => K (.v (.pointer (some ⟨b, off + k, none⟩)))
      | _ => False
    | none => False
  | .nilCheck x =>
    match st.get x with
    | .loc i off => K (.loc i off)
    | .v (.pointer p) => ptrm p fun b off => K (.v (.pointer (some ⟨b, off, none⟩)))
    | _ => plainR P o st H K
  | .binOp op t x y _ =>
    match goBin op with
    | true => match st.get x with
      | .v (.int k a) => match st.get y with
        | .v (.int k' b) => match intKindEq k k' with
          | true => binI op k a b fun v => K (.v v)
          | false => False
        | _ => plainR P o st H K
      | .v (.string a) => match st.get y with
        | .v (.string b) => binS op a b fun v => K (.v v)
        | _ => plainR P o st H K
      | .v (.slice p _ _) => match st.get y with
        | .v (.slice none _ _) => match P.underlying t with
          | some (.slice _) => eqNil op p.isNone K False
          | _ => False
        | _ => plainR P o st H K
      | .v (.pointer p) => match st.get y with
        | .v (.pointer none) => match P.underlying t with
          | some (.pointer _) => eqNil op p.isNone K False
          | _ => False
        | _ => plainR P o st H K
      | .v (.map p) => match st.get y with
        | .v (.map none) => match P.underlying t with
          | some (.map _ _) => eqNil op p.isNone K False
          | _ => False
        | _ => plainR P o st H K
      | .v (.bool a) => match st.get y with
        | .v (.bool b) => match P.underlying t with
          | some .bool => eqNil op (a == b) K False
          | _ => False
        | _ => plainR P o st H K
      | .v (.agg a) => match st.get y with
        | .v (.agg b) => match P.eqGuardType P.depth t with
          | true => False
          | false => runR P (binOp op t (.agg a) (.agg b)) H fun v => ∃ q : Bool, v = .bool q ∧ K (.v (.bool q))
        | _ => plainR P o st H K
      | _ => plainR P o st H K
    | false => match shK op with
      | none => plainR P o st H K
      | some sh => match st.get x with
        | .v (.int k a) => match st.get y with
          | .v (.int _ b) => shG (decide (b < 0)) (K (.v (.int k (sh k a b))))
          | _ => plainR P o st H K
        | _ => plainR P o st H K
  | .unOp .not _ x =>
    match st.get x with
    | .v (.bool b) => K (.v (.bool !b))
    | _ => False
  | .extract t i =>
    match st.get t with
    | .v (.tuple vs) => match dropL vs.toList i with
      | v :: _ => K (.v v)
      | [] => False
    | _ => False
  | .indexAddr t x i =>
    match sliceElem P t with
    | some e => match hasT P e with
      | true => match st.get x with
        | .v (.slice p n _) => match st.get i with
          | .v (.int _ j) => ∃ b off, p = some ⟨b, off, none⟩ ∧ 0 ≤ j ∧ j < n ∧ K (.v (.pointer (some ⟨b, idxO off j (sizeT P e), none⟩)))
          | _ => False
        | _ => False
      | false => False
    | none => plainR P o st H K
  | .index t x i =>
    match st.get x with
    | .v (.string s) => match P.underlying t with
      | some .string => match st.get i with
        | .v (.int _ j) => 0 ≤ j ∧ ∃ c : UInt8, s[j.toNat]? = some c ∧ K (.v (.int .u8 c.toNat))
        | _ => False
      | _ => plainR P o st H K
    | .v (.agg cs) => match P.underlying t with
      | some (.array n e) => match hasT P e with
        | false => False
        | true => match isAggT P e with
          | true => False
          | false => match sizeT P e with
            | 1 => match st.get i with
              | .v (.int _ j) => 0 ≤ j ∧ j < n ∧ ∃ x : (kindT P e).T, cs[j.toNat]? = some ((kindT P e).enc x) ∧ K (.v ((kindT P e).enc x))
              | _ => False
            | _ => False
      | _ => False
    | _ => plainR P o st H K
  | .slice t x lo hi none =>
    match optV st lo, optV st hi with
    | some l, some h => match st.get x with
      | .v (.slice p n c) => match sliceElem P t with
        | some e => match hasT P e with
          | true => bounds n c l h fun l h => K (.v (.slice (slP p c l (sizeT P e)) (h - l).toNat (c - l).toNat))
          | false => False
        | none => False
      | .v (.string s) => match P.underlying t with
        | some .string => bounds s.size s.size l h fun l h => K (.v (.string (s.extract l.toNat h.toNat)))
        | _ => False
      | _ => plainR P o st H K
    | _, _ => plainR P o st H K
  | .slice t x none (some hi) (some mx) =>
    match st.get hi, st.get mx, st.get x with
    | .v (.int _ h), .v (.int _ m), .v (.slice p _ c) => match sliceElem P t with
      | some e => match hasT P e with
        | true => 0 ≤ m ∧ m ≤ (c : Int) ∧ 0 ≤ h ∧ h ≤ m ∧ K (.v (.slice (slP p m.toNat 0 (sizeT P e)) h.toNat m.toNat))
        | false => False
      | none => False
    | _, _, _ => plainR P o st H K
  | .call { callee := .builtin .len, args, argTypes } =>
    match args.toList with
    | [x] => match st.get x with
      | .v (.slice _ n _) => match argTypes.toList with
        | [t] => match sliceElem P t with
          | some _ => K (.v (.int .i64 n))
          | none => False
        | _ => False
      | .v (.string s) => match argTypes.toList with
        | [t] => match P.underlying t with
          | some .string => K (.v (.int .i64 s.size))
          | _ => False
        | _ => False
      | .v (.map m) => match argTypes.toList with
        | [t] => match P.underlying t with
          | some (.map _ _) => lenM H m fun n => K (.v (.int .i64 n))
          | _ => False
        | _ => False
      | _ => plainR P o st H K
    | _ => plainR P o st H K
  | .typeAssert x _ t false =>
    match st.get x with
    | .v v => match P.underlying t with
      | some (.interface _) => plainR P o st H K
      | some _ => exT P t fun y => v = .iface t y ∧ K (.v y)
      | none => False
    | _ => plainR P o st H K
  | _ => plainR P o st H K
def onNext (P : Program) (o : Oper) (st : St) (K : St → Heap → Prop) : Next → Heap → Prop
  | .value v, H => exR P o.type fun x => v = x ∧ K (st.put o.dst (.v x)) H
  | .skip, H => K (st.put o.dst (.v undef)) H
  | .enter f args, H => FnH P f args H fun r H' => exR P o.type fun v => r = v ∧ K (st.put o.dst (.v v)) H'
  | _, _ => False
def plainO (P : Program) (o : Oper) (st : St) (H : Heap) (K : St → Heap → Prop) : Prop :=
  match noSelect o.op with
  | true => match allV st o.op.operands.toList with
    | true => runH P (execOp st.rho o) H (onNext P o st K)
    | false => False
  | false => False
def semT (P : Program) (s : Sem Value) (o : Oper) (st : St) (H : Heap) (K : St → Heap → Prop) : Prop :=
  runH P s H fun v H' => exR P o.type fun x => v = x ∧ K (st.put o.dst (.v x)) H'
def semN (P : Program) (s : Sem Value) (isString : Bool) (o : Oper) (st : St) (H : Heap) (K : St → Heap → Prop) : Prop :=
  match isString with
  | false => runH P s H fun v H' => (v = .tuple #[.bool false] ∧ K (st.put o.dst (.v (.tuple #[.bool false]))) H') ∨ ∃ k x : Value, v = .tuple #[.bool true, k, x] ∧ K (st.put o.dst (.v (.tuple #[.bool true, k, x]))) H'
  | true => runH P s H fun v H' => (v = .tuple #[.bool false] ∧ K (st.put o.dst (.v (.tuple #[.bool false]))) H') ∨ ∃ k x : Int, v = .tuple #[.bool true, .int .i64 k, .int .i32 x] ∧ K (st.put o.dst (.v (.tuple #[.bool true, .int .i64 k, .int .i32 x]))) H'
def semU (P : Program) (s : Sem Unit) (o : Oper) (st : St) (H : Heap) (K : St → Heap → Prop) : Prop :=
  runH P s H fun _ H' => K (st.put o.dst (.v undef)) H'
def callO (P : Program) (o : Oper) (f : FuncId) (pre extra : List Value) (args : List Operand) (st : St) (H : Heap) (K : St → Heap → Prop) : Prop :=
  match goFn P f with
  | false => False
  | true =>
    match argsV st args with
    | some l => FnH P f (pre ++ (l ++ extra)).toArray H fun r H' => exR P o.type fun v => r = v ∧ K (st.put o.dst (.v v)) H'
    | none =>
      match argsLoc st args with
      | some (i, g) =>
        match locL st.loc i with
        | some (T, cs) => ∀ b, H b = none → FnH P f (pre ++ (g b ++ extra)).toArray (H.upd b (.cells cs.toArray T (0, 0))) fun r H' =>
            exR P o.type fun v => r = v ∧ exvs (kindsT P 9 T) [] fun cs' => H' b = some (.cells cs'.toArray T (0, 0)) ∧
              K ({ st with loc := st.loc.set i (some (T, cs')) }.put o.dst (.v v)) (H'.del b)
        | none => False
      | none => False
def calleeX (s : SVal) : Option (FuncId × List Value × List Value) :=
  match s with
  | .v (.func (.func k) first captured) => some (k, first.toList, captured.toList)
  | _ => none
def calleeOf (st : St) (f : Operand) : Option (FuncId × List Value × List Value) := calleeX (st.get f)
def findMl : List Method → String → Option (FuncId × Bool)
  | [], _ => none
  | m :: l, name => match m.name == name with
    | true => match m.path.toList with
      | [] => m.func
      | _ => none
    | false => findMl l name
def findMeth (P : Program) (T : TypeId) (name : String) : Option (FuncId × Bool) :=
  match P.info? T with
  | some i => findMl i.methods.toList name
  | none => none
def recvO (P : Program) (T : TypeId) (v : Value) (pr : Bool) (H : Heap) (K : Value → Prop) : Prop :=
  match P.underlying T with
  | some (.pointer E) => match pr with
    | true => K v
    | false => match v with
      | .pointer (some ⟨b, off, none⟩) => loadO P E (.v (.pointer (some ⟨b, off, none⟩))) [] H K
      | _ => False
  | _ => False
def invokeO (P : Program) (o : Oper) (recv : Operand) (name : String) (args : List Operand) (st : St) (H : Heap) (K : St → Heap → Prop) : Prop :=
  match st.get recv with
  | .v (.iface T v) => match findMeth P T name with
    | none => False
    | some (f, pr) => match goFn P f with
      | false => False
      | true => match argsV st args with
        | none => False
        | some l => recvO P T v pr H fun x => FnH P f (x :: l).toArray H fun r H' => exR P o.type fun y => r = y ∧ K (st.put o.dst (.v y)) H'
  | _ => False
def fillL (place : Nat → Option (Nat × Nat)) (cells : List Value) : List (Nat × Value) → Option (List Value)
  | [] => some cells
  | (i, v) :: rest =>
    match place i with
    | none => none
    | some (off, size) =>
      match v.cells.toList.length == size with
      | true => match Nat.ble (off + v.cells.toList.length) cells.length with
        | true => fillL place (overL cells off v.cells.toList) rest
        | false => none
      | false => none
def partsV (st : St) : List (Nat × Operand) → Option (List (Nat × Value))
  | [] => some []
  | (i, x) :: l => match st.get x with
    | .v v => match partsV st l with | some r => some ((i, v) :: r) | none => none
    | _ => none
def zerosL (zero : List Value) : Nat → List Value
  | 0 => []
  | n + 1 => zero ++ zerosL zero n
def stepO0 (P : Program) (hid : List Nat) (o : Oper) (st : St) (H : Heap) (K : St → Heap → Prop) : Prop :=
  match isPure o.op with
  | true => pureO P o st H fun x => K (st.put o.dst x) H
  | false =>
  match o.op with
  | .box T x =>
    match st.get x with
    | .v v => match o.dst with
      | some d => match hid.contains d with
        | true => K { env := st.env.set d (.loc st.loc.length 0), loc := st.loc ++ [some (T, v.cells.toList)] } H
        | false => ∀ b, H b = none → K { st with env := st.env.set d (.v (.pointer (some ⟨b, 0, none⟩))) } (H.upd b (.cells v.cells T (0, 0)))
      | none => False
    | _ => False
  | .alloc T =>
    match zeroT P T with
    | some v => match o.dst with
      | some d => match hid.contains d with
        | true => K { env := st.env.set d (.loc st.loc.length 0), loc := st.loc ++ [some (T, v.cells.toList)] } H
        | false => ∀ b, H b = none → K { st with env := st.env.set d (.v (.pointer (some ⟨b, 0, none⟩))) } (H.upd b (.cells v.cells T (0, 0)))
      | none => False
    | none => False
  | .store T x y =>
    match st.get y with
    | .v v => match v.cells.toList.length == sizeT P T with
      | false => False
      | true => match hasT P T with
        | false => False
        | true => match noTups v.cells.toList with
          | false => False
          | true => match st.get x with
            | .loc i off => match locL st.loc i with
              | some (U, cs) => match Nat.ble (off + v.cells.toList.length) cs.length with
                | true => K ({ st with loc := st.loc.set i (some (U, overL cs off v.cells.toList)) }.put o.dst (.v undef)) H
                | false => False
              | none => False
            | .v (.pointer (some ⟨b, off, none⟩)) => stores b off v.cells.toList H fun H' => K (st.put o.dst (.v undef)) H'
            | _ => False
    | _ => False
  | .buildSlice t n parts =>
    match sliceElem P t with
    | none => False
    | some e => match zeroT P e with
      | none => False
      | some z => match partsV st parts.toList with
        | none => False
        | some ps => match z.cells.toList.length == sizeT P e with
          | false => False
          | true => match Nat.ble (n * sizeT P e) 16777216 with
            | false => False
            | true => match Nat.beq (sizeT P e) 0 with
              | true => False
              | false => match fillL (fun i => some (i * sizeT P e, sizeT P e)) (zerosL z.cells.toList n) ps with
                | none => False
                | some cs => ∀ b, H b = none → K (st.put o.dst (.v (.slice (some ⟨b, 0, none⟩) n n))) (H.upd b (.cells cs.toArray e (0, 0)))
  | .makeMap _ none => ∀ b, H b = none → K (st.put o.dst (.v (.map (some b)))) (H.upd b (.map #[] 0))
  | .mapUpdate t m k x | .insert t m k x =>
    match allV st [m, k, x] with
    | true => semU P (Instr.mapUpdate t (st.rho m) (st.rho k) (st.rho x)) o st H K
    | false => False
  | .lookup t x i ok =>
    match allV st [x, i] with
    | true => semT P (Instr.lookup t (st.rho x) (st.rho i) ok) o st H K
    | false => False
  | .mapEntry t m k =>
    match allV st [m, k] with
    | true => match P.underlying t with
      | some (.map _ e) => runH P (Instr.mapEntry t (st.rho m) (st.rho k)) H fun v H' => exT P e fun x => ∃ n : Int, v = .tuple #[x, .int .i64 n] ∧ K (st.put o.dst (.v (.tuple #[x, .int .i64 n]))) H'
      | _ => False
    | false => False
  | .entryStore t m s x =>
    match allV st [m, s, x] with
    | true => semU P (Instr.entryStore t (st.rho m) (st.rho s) (st.rho x)) o st H K
    | false => False
  | .makeSlice t l c =>
    match allV st [l, c] with
    | true => semT P (Instr.makeSlice t (st.rho l) (st.rho c)) o st H K
    | false => False
  | .range t x =>
    match allV st [x] with
    | true => runH P (Instr.range t (st.rho x)) H fun v H' => ∃ p : Option Addr, v = .pointer p ∧ K (st.put o.dst (.v (.pointer p))) H'
    | false => False
  | .next it isString =>
    match allV st [it] with
    | true => semN P (Instr.next (st.rho it) isString o.type) isString o st H K
    | false => False
  | .entry it =>
    match allV st [it] with
    | true => runH P (Instr.entry (st.rho it)) H fun v H' => ∃ k x : Value, v = .tuple #[k, x] ∧ K (st.put o.dst (.v (.tuple #[k, x]))) H'
    | false => False
  | .panic _ => False
  | .call { callee := .value f, args, .. } =>
    match calleeOf st f with
    | some (k, pre, captured) => callO P o k pre captured args.toList st H K
    | none => False
  | .call { callee := .invoke recv name, args, .. } => invokeO P o recv name args.toList st H K
  | .call { callee := .builtin .append, args, argTypes } =>
    match argsV st args.toList with
    | some l => semT P (Builtin.append_ argTypes o.type l.toArray) o st H K
    | none => False
  | .call { callee := .builtin .delete, args, argTypes } =>
    match argsV st args.toList with
    | some l => semT P (Builtin.delete_ argTypes o.type l.toArray) o st H K
    | none => False
  | .call { callee := .builtin .copy, args, argTypes } =>
    match argsV st args.toList with
    | some l => semT P (Builtin.copy_ argTypes o.type l.toArray) o st H K
    | none => False
  | .call { callee := .builtin .clear, args, argTypes } =>
    match argsV st args.toList with
    | some l => semT P (Builtin.clear_ argTypes o.type l.toArray) o st H K
    | none => False
  | .call { callee := .builtin .unsafeSliceData, args, argTypes } =>
    match argsV st args.toList with
    | some l => semT P (Builtin.unsafeSliceData_ argTypes o.type l.toArray) o st H K
    | none => False
  | .call { callee := .builtin .unsafeString, args, argTypes } =>
    match argsV st args.toList with
    | some l => semT P (Builtin.unsafeString_ argTypes o.type l.toArray) o st H K
    | none => False
  | _ => plainO P o st H K
def isOpq (hid : List Nat) : Op → Bool
  | .extract (.tmp t) _ => hid.contains (t + 1000000)
  | _ => false
def opqO (P : Program) (o : Oper) (st : St) (H : Heap) (K : St → Heap → Prop) : Prop :=
  match o.op with
  | .extract t i => match st.get t with
    | .v (.tuple vs) => match dropL vs.toList i with
      | v :: _ => exT P o.type fun y => v = y ∧ K (st.put o.dst (.v y)) H
      | [] => False
    | _ => False
  | _ => False
def convX (P : Program) (st : St) : Op → Option (Sem Value)
  | .convert src dst x => match st.get x with
    | .v (.slice p n c) => match P.underlying dst with
      | some .string => some (convert src dst (.slice p n c))
      | _ => none
    | .v (.string s) => match P.underlying dst with
      | some (.slice _) => some (convert src dst (.string s))
      | _ => none
    | _ => none
  | _ => none
def stepO (P : Program) (hid : List Nat) (o : Oper) (st : St) (H : Heap) (K : St → Heap → Prop) : Prop :=
  match isOpq hid o.op with
  | true => opqO P o st H K
  | false => match convX P st o.op with
    | some s => semT P s o st H K
    | none => stepO0 P hid o st H K
def quietO (P : Program) (o : Oper) (st : St) (H : Heap) (K : St → Prop) : Prop :=
  match isPure o.op with
  | true => pureO P o st H fun x => K (st.put o.dst x)
  | false =>
  match o.op with
  | .call { callee := .value f, args, .. } =>
    match calleeOf st f with
    | some (k, [], captured) => match goFn P k with
      | true => match argsV st args.toList with
        | some l => exR P o.type fun v => FnH P k (l ++ captured).toArray H (fun r H' => r = v ∧ ∀ b x, H b = some x → H' b = some x) ∧ K (st.put o.dst (.v v))
        | none => False
      | false => False
    | _ => False
  | .lookup t x i ok =>
    match allV st [x, i] with
    | true => runR P (Instr.lookup t (st.rho x) (st.rho i) ok) H fun v => exR P o.type fun y => v = y ∧ K (st.put o.dst (.v y))
    | false => False
  | _ => False
def guardSlot (ops : List Oper) (j : Nat) : Option Tmp := match dropL ops j with | o :: _ => o.dst | [] => none
def denOps (P : Program) (hid : List Nat) (ops : List Oper) : List Oper → St → Heap → (St → Heap → Prop) → Prop
  | [], st, H, K => K st H
  | o :: rest, st, H, K =>
    match o.guard with
    | none => stepO P hid o st H fun st' H' => denOps P hid ops rest st' H' K
    | some (j, want) =>
      match guardSlot ops j with
      | none => False
      | some d =>
        match getL st.env d with
        | .v (.bool c) =>
          br c
            (match want with
             | true => stepO P hid o { st with env := st.env.set d (.v (.bool true)) } H fun st' H' => denOps P hid ops rest st' H' K
             | false => denOps P hid ops rest ({ st with env := st.env.set d (.v (.bool true)) }.put o.dst (.v undef)) H K)
            (match want with
             | false => stepO P hid o { st with env := st.env.set d (.v (.bool false)) } H fun st' H' => denOps P hid ops rest st' H' K
             | true => denOps P hid ops rest ({ st with env := st.env.set d (.v (.bool false)) }.put o.dst (.v undef)) H K)
        | .v (.tuple _) => denOps P hid ops rest (st.put o.dst (.v undef)) H K
        | _ => False
def Sub (H H' : Heap) : Prop := ∀ b o, H b = some o → H' b = some o
def envOnly : Op → Bool
  | .move _ | .assign _ | .fieldAddr .. | .nilCheck _ | .extract .. | .pick .. | .binOp .. | .unOp .. | .indexAddr .. | .slice .. | .makeInterface .. | .makeFunc .. | .build .. => true
  | .call { callee := .builtin .len, .. } => true
  | _ => false
def lenMapT (P : Program) : Op → Bool
  | .call { callee := .builtin .len, argTypes, .. } => argTypes.toList.any fun t => match P.underlying t with
    | some (.map _ _) => true
    | _ => false
  | _ => false
def keepOK (o : Oper) (st : St) : Bool :=
  match o.op with
  | .store .. => false
  | .call { callee := .value _, args, .. } => match argsV st args.toList with | some _ => true | none => false
  | _ => true
def waitsT (ops : Array Oper) : Nat → Nat → Nat → Bool
  | 0, _, _ => false
  | n + 1, b, i =>
    match ops[b]? with
    | some o => o.after.toList.any fun e => match Region.binds .any e with | true => (match Nat.beq e.on i with | true => true | false => waitsT ops n e.on i) | false => false
    | none => false
def waitsFor (ops : Array Oper) (b i : Nat) : Bool := waitsT ops 12 b i
def noneListed (B : List Nat) (listed : Array Bool) : Bool := B.all fun b => !(listed.getD b true)
def pickE (P : Program) (ops : Array Oper) (B : List Nat) (listed : Array Bool) : List Nat → Option (Nat × Oper × Bool)
  | [] => none
  | i :: rs =>
    match ops[i]? with
    | none => pickE P ops B listed rs
    | some o =>
      match isPure o.op && Region.free .any ops listed i && !(B.contains i) with
      | false => pickE P ops B listed rs
      | true => match envOnly o.op && !lenMapT P o.op with
        | true => some (i, o, true)
        | false => match noneListed B listed && B.all fun b => waitsFor ops b i with
          | true => some (i, o, false)
          | false => pickE P ops B listed rs
def allIdx : List Nat → (Nat → Prop) → Prop
  | [], _ => True
  | [i], f => f i
  | i :: rs, f => f i ∧ allIdx rs f
def guardM (ops : List Oper) (o : Oper) (st : St) (run skip : St → Prop) : Prop :=
  match o.guard with
  | none => run st
  | some (j, want) =>
    match guardSlot ops j with
    | none => False
    | some d =>
      match getL st.env d with
      | .v (.bool c) =>
        br c
          (match want with
           | true => run { st with env := st.env.set d (.v (.bool true)) }
           | false => skip { st with env := st.env.set d (.v (.bool true)) })
          (match want with
           | false => run { st with env := st.env.set d (.v (.bool false)) }
           | true => skip { st with env := st.env.set d (.v (.bool false)) })
      | .v (.tuple _) => skip st
      | _ => False
def allNone : List (Option (Nat × List Value)) → Bool
  | [] => true
  | none :: l => allNone l
  | some _ :: _ => false
def mixOps (P : Program) (hid : List Nat) (ops : Array Oper) (B : List Nat) (H0 : Heap) (loc0 : List (Option (Nat × List Value))) : Nat → Array Bool → St → Heap → (St → Heap → Prop) → Prop
  | 0, listed, st, H, K => match Region.ready .any ops listed with | [] => K st H | _ => False
  | n + 1, listed, st, H, K =>
    match Region.ready .any ops listed with
    | [] => K st H
    | r :: rs =>
      match pickE P ops B listed (r :: rs) with
      | some (i, o, true) => guardM ops.toList o st (fun st => pureO P o { st with loc := [] } Heap.emp fun x => mixOps P hid ops B H0 loc0 n (listed.setIfInBounds i true) (st.put o.dst x) H K)
          fun st => mixOps P hid ops B H0 loc0 n (listed.setIfInBounds i true) (st.put o.dst (.v undef)) H K
      | some (i, o, false) => guardM ops.toList o st (fun st => pureO P o { st with loc := loc0 } H0 fun x => mixOps P hid ops B H0 loc0 n (listed.setIfInBounds i true) (st.put o.dst x) H K)
          fun st => mixOps P hid ops B H0 loc0 n (listed.setIfInBounds i true) (st.put o.dst (.v undef)) H K
      | none => allIdx (r :: rs) fun i =>
        match ops[i]? with
        | none => False
        | some o => guardM ops.toList o st (fun st => match B.contains i with
            | true => stepO P hid o st H fun st' H' => mixOps P hid ops B H0 loc0 n (listed.setIfInBounds i true) st' H' K
            | false => match noneListed B listed with
              | true => match keepOK o st || allNone loc0 with
                | true => stepO P hid o st H fun st' H' => Sub H0 H' ∧ mixOps P hid ops B H0 loc0 n (listed.setIfInBounds i true) st' H' K
                | false => False
              | false => stepO P hid o st H fun st' H' => mixOps P hid ops B H0 loc0 n (listed.setIfInBounds i true) st' H' K)
            fun st => mixOps P hid ops B H0 loc0 n (listed.setIfInBounds i true) (st.put o.dst (.v undef)) H K
def findB : List (Nat × List Nat) → Nat → Option (List Nat)
  | [], _ => none
  | (i, B) :: l, j => match Nat.beq i j with | true => some B | false => findB l j
structure Ann where
  slots : List (Nat × Kind)
  kept : List Nat
  locs : List (Nat × List Kind)
  keptL : List Nat
def Ann.kinds (a : Ann) : List Kind := a.slots.map (·.2) ++ (a.locs.map (·.2)).flatten
def svals : List SVal → Option (List Value)
  | [] => some []
  | .v x :: l => match svals l with | some r => some (x :: r) | none => none
  | _ :: _ => none
def locVals (loc : List (Option (Nat × List Value))) : List (Nat × List Kind) → Option (List Value)
  | [] => some []
  | (i, ks) :: l => match locL loc i with
    | some (_, cs) => match cs.length == ks.length with
      | true => match locVals loc l with | some r => some (cs ++ r) | none => none
      | false => none
    | none => none
def Ann.vals (a : Ann) (st : St) : Option (List Value) :=
  match svals (a.slots.map fun s => getL st.env s.1) with
  | some l => match locVals st.loc a.locs with | some r => some (l ++ r) | none => none
  | none => none
def setAll : List SVal → List (Nat × Kind) → List Value → List SVal
  | env, (d, _) :: l, v :: vs => setAll (env.set d (.v v)) l vs
  | env, _, _ => env
def keepV (n : Nat) : SVal → SVal
  | .loc i off => match Nat.blt i n with | true => .loc i off | false => .dead
  | x => x
def keepOnly (kept : List Nat) (n : Nat) : List SVal → Nat → List SVal
  | [], _ => []
  | x :: l, i => (match kept.contains i with | true => keepV n x | false => .dead) :: keepOnly kept n l (i + 1)
def keepLocs (kept : List Nat) : List (Option (Nat × List Value)) → Nat → List (Option (Nat × List Value))
  | [], _ => []
  | x :: l, i => (match kept.contains i with | true => x | false => none) :: keepLocs kept l (i + 1)
def typeL (loc : List (Option (Nat × List Value))) (i : Nat) : Nat := match locL loc i with | some (T, _) => T | none => 0
def setLocs (old : List (Option (Nat × List Value))) : List (Option (Nat × List Value)) → List (Nat × List Kind) → List Value → List (Option (Nat × List Value))
  | loc, (i, ks) :: l, vs => setLocs old (loc.set i (some (typeL old i, takeL vs ks.length))) l (dropL vs ks.length)
  | loc, [], _ => loc
def Ann.put (a : Ann) (st : St) (vs : List Value) : St :=
  { env := setAll (keepOnly a.kept st.loc.length st.env 0) a.slots vs,
    loc := setLocs st.loc (keepLocs a.keptL st.loc 0) a.locs (dropL vs a.slots.length) }
def Ann.kept? (a : Ann) (st : St) : List SVal × List (Option (Nat × List Value)) × List Nat :=
  (a.kept.map (getL st.env), a.keptL.map (locL st.loc), a.locs.map fun x => typeL st.loc x.1)
def Ann.same (a : Ann) (st st' : St) : Prop := a.kept? st' = a.kept? st
def sizesOK (st st' : St) : Bool := match Nat.ble st.loc.length st'.loc.length with | true => Nat.beq st'.env.length st.env.length | false => false
structure Anns where
  hid : List Nat
  loops : List (Nat × Ann)
  joins : List ((Nat × Nat) × Ann)
  mix : List (Nat × List Nat) := []
  loose : List Nat := []
  free : List Nat := []
def heapAt (l : List Nat) (id : Nat) (H : Heap) : Heap := match l.contains id with | true => Heap.emp | false => H
def noLocs : List (Option (Nat × List Value)) → List (Option (Nat × List Value))
  | [] => []
  | _ :: l => none :: noLocs l
def locAt (l : List Nat) (id : Nat) (loc : List (Option (Nat × List Value))) : List (Option (Nat × List Value)) := match l.contains id with | true => noLocs loc | false => loc
def findA : List (Nat × Ann) → Nat → Option Ann
  | [], _ => none
  | (i, a) :: l, j => match Nat.beq i j with | true => some a | false => findA l j
def findJ : List ((Nat × Nat) × Ann) → Nat × Nat → Option Ann
  | [], _ => none
  | ((i, k), a) :: l, (j, m) => match Nat.beq i j with | true => (match Nat.beq k m with | true => some a | false => findJ l (j, m)) | false => findJ l (j, m)
def firstR : Code → Option Nat
  | .region id _ _ => some id
  | .seq a b => match firstR a with | some i => some i | none => firstR b
  | .cond _ a b => match firstR a with | some i => some i | none => firstR b
  | .block _ c => firstR c
  | .loop c => firstR c
  | .scope c => firstR c
  | _ => none
def key : Code → Nat × Nat
  | .region id _ _ => (0, id)
  | .cond _ a b => match firstR (.seq a b) with | some i => (1, i) | none => (9, 0)
  | .block id _ => (2, id)
  | .seq _ b => match key b with | (x, y) => (x + 10, y)
  | _ => (9, 0)
def quietOps (P : Program) (ops : List Oper) (H : Heap) : List Oper → St → (St → Prop) → Prop
  | [], st, K => K st
  | o :: rest, st, K =>
    match o.guard with
    | none => quietO P o st H fun st' => quietOps P ops H rest st' K
    | some (j, want) =>
      match guardSlot ops j with
      | none => False
      | some d =>
        match getL st.env d with
        | .v (.bool c) =>
          br c
            (match want with
             | true => quietO P o { st with env := st.env.set d (.v (.bool true)) } H fun st' => quietOps P ops H rest st' K
             | false => quietOps P ops H rest ({ st with env := st.env.set d (.v (.bool true)) }.put o.dst (.v undef)) K)
            (match want with
             | false => quietO P o { st with env := st.env.set d (.v (.bool false)) } H fun st' => quietOps P ops H rest st' K
             | true => quietOps P ops H rest ({ st with env := st.env.set d (.v (.bool false)) }.put o.dst (.v undef)) K)
        | .v (.tuple _) => quietOps P ops H rest (st.put o.dst (.v undef)) K
        | _ => False
def den (P : Program) (A : Anns) : Code → Nat → St → Heap → (Exit → St → Heap → Prop) → Prop
  | .skip, _, st, H, K => K .normal st H
  | .ret, _, st, H, K => K .ret st H
  | .exit id, _, st, H, K => K (.exit id) st H
  | .region id ops d, _, st, H, K =>
    match d with
    | false => denOps P A.hid ops.toList ops.toList st H fun st' H' => K .normal st' H'
    | true => match findB A.mix id with
     | some B => match Region.noSelect ops with
       | true => mixOps P A.hid ops B (heapAt A.loose id H) (locAt A.free id st.loc) ops.size (Array.replicate ops.size false) st H fun st' H' => K .normal st' H'
       | false => False
     | none => match Region.lexB .any ops with
      | true => quietOps P ops.toList H ops.toList st fun st' => K .normal st' H
      | false => False
  | .cond c a b, n, st, H, K =>
    match st.get c with
    | .v (.bool t) => br t (den P A a n st H K) (den P A b n st H K)
    | _ => False
  | .block id c, _, st, H, K => den P A c id st H fun e st' H' =>
    match e with
    | .exit j => match Nat.beq j id with | true => K .normal st' H' | false => K (.exit j) st' H'
    | e => K e st' H'
  | .seq a b, n, st, H, K =>
    match findJ A.joins (key a) with
    | none => den P A a n st H fun e st' H' => match e with | .normal => den P A b n st' H' K | e => K e st' H'
    | some an =>
      ∃ J : FunK an.kinds (Heap → Prop),
        den P A a n st H (fun e st' H' => match e with
          | .normal => match sizesOK st st' with
            | true => an.same st st' ∧ (match an.vals st' with | some vs => appI an.kinds J vs H' | none => False)
            | false => False
          | e => K e st' H') ∧
        allI an.kinds J fun j vs => ∀ H', j H' → den P A b n (an.put st vs) H' K
  | .loop c, n, st, H, K =>
    match findA A.loops n with
    | none => False
    | some an =>
      match an.vals st with
      | none => False
      | some vs0 =>
        ∃ (I : FunK an.kinds (Heap → Prop)) (μ : FunK an.kinds (Heap → Nat)),
          appI an.kinds I vs0 H ∧
          allIM an.kinds I μ fun i m vs => ∀ H', i H' → den P A c n (an.put st vs) H' fun e st' H'' =>
            match e with
            | .normal => match sizesOK st st' with
              | true => an.same st st' ∧ (match an.vals st' with | some vs' => appIM an.kinds I μ vs' H'' (m H') | none => False)
              | false => False
            | e => K e st' H''
  | _, _, _, _, _ => False
def resK (P : Program) (st : St) (H : Heap) : List ResultVar → List Value → (List Value → Prop) → Prop
  | [], acc, f => f acc.reverse
  | .tmp t :: l, acc, f =>
    match getL st.env t with
    | .v x => resK P st H l (x :: acc) f
    | _ => False
  | .cell a T :: l, acc, f => loadO P T (getL st.env a) st.loc H fun v => resK P st H l (v :: acc) f
def resOne : List Value → Value
  | [v] => v
  | l => .tuple l.toArray
def initEnv : List Value → Nat → List SVal
  | v :: l, n => .v v :: initEnv l (n - 1)
  | [], n => List.replicate n (.v undef)
def bodyOf (fn : Func) : Code := match fn.body with | some c => c | none => .skip
def letH (x : Heap) (f : Heap → Prop) : Prop := f x
def SelfEq (x : List SVal × List (Option (Nat × List Value)) × List Nat) : Prop := x = x
def denFn (P : Program) (A : Anns) (fn : Func) (c : Code) (args : List Value) (H : Heap) (K : Value → Heap → Prop) : Prop :=
  den P A c 0 { env := initEnv args fn.ntmps, loc := [] } H fun e st H' =>
    match e with
    | .ret => resK P st H' fn.results.toList [] fun l => K (resOne l) H'
    | .normal => resK P st H' fn.results.toList [] fun l => K (resOne l) H'
    | _ => False
end Go.HL
