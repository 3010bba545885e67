/-
  Pure values and the evaluator of the model's code on abstract states.
-/
import GoSem.Step
set_option linter.unusedSectionVars false
set_option linter.unusedVariables false
set_option linter.unusedSimpArgs false
namespace Go.Lift
open Go
inductive Ty where
  | int (k : IntKind) | bool | str | unit | err
  | one (t : Ty)
  | pair (a b : Ty)
  | arr (n : Nat) (e : Ty)
  | slice (e : Ty)
  | ptr (t : Ty)
  | fn (a r : Ty)
  | seq (e : Ty)
  | mapT (k v : Ty)
  deriving DecidableEq
@[reducible] def Ty.den : Ty → Type
  | .int _ => Int
  | .bool => Bool
  | .str => ByteArray
  | .unit => Unit
  | .err => Bool
  | .one t => t.den
  | .pair a b => a.den × b.den
  | .arr _ e => Nat → e.den
  | .slice e => List e.den
  | .ptr t => t.den
  | .fn a r => a.den → Option r.den
  | .seq e => List e.den
  | .mapT k v => List (k.den × v.den)
def Ty.dflt : (t : Ty) → t.den
  | .int _ => (0 : Int)
  | .bool => false
  | .str => ByteArray.empty
  | .unit => ()
  | .err => true
  | .one t => t.dflt
  | .pair a b => (a.dflt, b.dflt)
  | .arr _ e => fun _ => e.dflt
  | .slice _ => []
  | .ptr t => t.dflt
  | .fn _ _ => fun _ => none
  | .seq _ => []
  | .mapT _ _ => []
def Ty.scal : Ty → Bool
  | .int _ | .bool | .str => true
  | _ => false
def encS : (e : Ty) → e.den → Value
  | .int k, x => .int k x
  | .bool, x => .bool x
  | .str, x => .string x
  | _, _ => undef
def Ty.plain : Ty → Bool
  | .ptr _ | .fn _ _ | .seq _ | .mapT _ _ => false
  | .one t => t.plain
  | .pair a b => a.plain && b.plain
  | .arr _ e => e.plain
  | _ => true
def Ty.agg : Ty → Bool
  | .unit | .one _ | .pair _ _ | .arr _ _ => true
  | _ => false
def Ty.size : Ty → Nat
  | .unit => 0
  | .one t => t.size
  | .pair a b => a.size + b.size
  | .arr n e => n * e.size
  | _ => 1
inductive Step where
  | one | fst | snd | idx (i : Int) | el (i : Int)
abbrev Path := List Step
abbrev Own := List (Path × Option Nat)
@[reducible] def Args : List Ty → Type
  | [] => Unit
  | [t] => t.den
  | t :: u :: r => t.den × Args (u :: r)
structure Sig where
  f : FuncId
  ats : List Ty
  rts : List Ty
  run : Args ats → Option (Args rts)
abbrev Cap := Sum Nat (Sigma Ty.den)
structure ItSig where
  e : Ty
  F : ByteArray → ByteArray → Option (List e.den)
inductive AVal where
  | data (t : Ty) (x : t.den) (own : Own)
  | bptr (b : Nat) (p : Path)
  | rowp (b : Nat)
  | mapp (b : Nat)
  | tup (ts : List Ty) (x : Args ts)
  | clo (g : FuncId) (caps : List Cap)
  | undef
  | raw (v : Value)
  | iter (b : Nat) (e : Ty) (F : ByteArray → Option (List e.den))
structure Box where
  tid : TypeId
  t : Ty
  x : t.den
  own : Own
  rows : Bool
def upd {α : Type} (f : Nat → α) (k : Nat) (v : α) : Nat → α := fun s => bif Nat.beq s k then v else f s
structure St where
  env : Nat → Option AVal
  box : Nat → Option Box
  tok : Nat → Bool
  dirty : Nat → Bool
def castTy (t u : Ty) (x : t.den) : Option u.den := if h : t = u then some (h ▸ x) else none
def AVal.get (v : Option AVal) (u : Ty) : Option u.den :=
  match v with
  | some (.data t x _) => castTy t u x
  | _ => none
def AVal.int (v : Option AVal) : Option Int :=
  match v with
  | some (.data (.int _) x _) => some x
  | _ => none
def aset {α : Type} (x : Nat → α) (i : Int) (v : α) : Nat → α := fun j => bif Nat.beq j i.toNat then v else x j
def aget {α : Type} (x : Nat → α) (i : Int) : α := x i.toNat
def lget {α : Type} (d : α) (l : List α) (i : Int) : α := l.getD i.toNat d
def lset {α : Type} (l : List α) (i : Int) (v : α) : List α := l.set i.toNat v
def sget (s : ByteArray) (i : Int) : Int := ((s.data.getD i.toNat 0).toNat : Int)
def sbytes (s : ByteArray) : List Int := s.data.toList.map fun b => ((b.toNat : Nat) : Int)
def sofb (l : List Int) : ByteArray := ⟨(l.map fun n => UInt8.ofNat n.toNat).toArray⟩
def seqb (a b : ByteArray) : Bool := a.toList == b.toList
def imax (x y : Int) : Int := if y > x then y else x
def imin (x y : Int) : Int := if y < x then y else x
def chk {A : Type} (c : Bool) (k : Option A) : Option A := bif c then k else none
def app {α : Type} (l m : List α) : Option (List α) := if l.length + m.length ≤ 4294967296 then some (l ++ m) else none
def cat (a b : ByteArray) : Option ByteArray := if a.size + b.size ≤ 4294967296 then some (a ++ b) else none
def getP : (t : Ty) → t.den → Path → (u : Ty) → Option u.den
  | t, x, [], u => castTy t u x
  | .one t, x, .one :: p, u => getP t x p u
  | .pair a _, x, .fst :: p, u => getP a x.1 p u
  | .pair _ b, x, .snd :: p, u => getP b x.2 p u
  | .arr _ e, x, .idx i :: p, u => getP e (aget x i) p u
  | .slice e, x, .el i :: p, u => getP e (lget e.dflt x i) p u
  | _, _, _, _ => none
def setP : (t : Ty) → t.den → Path → (u : Ty) → u.den → Option t.den
  | t, _, [], u, y => castTy u t y
  | .one t, x, .one :: p, u, y => setP t x p u y
  | .pair a _, x, .fst :: p, u, y => match setP a x.1 p u y with
    | some v => some (v, x.2)
    | none => none
  | .pair _ b, x, .snd :: p, u, y => match setP b x.2 p u y with
    | some v => some (x.1, v)
    | none => none
  | .arr _ e, x, .idx i :: p, u, y => match setP e (aget x i) p u y with
    | some v => some (aset x i v)
    | none => none
  | .slice e, x, .el i :: p, u, y => match setP e (lget e.dflt x i) p u y with
    | some v => some (lset x i v)
    | none => none
  | _, _, _, _, _ => none
def Ty.atP : Ty → Path → Option Ty
  | t, [] => some t
  | .one t, .one :: p => t.atP p
  | .pair a _, .fst :: p => a.atP p
  | .pair _ b, .snd :: p => b.atP p
  | .arr _ e, .idx _ :: p => e.atP p
  | .slice e, .el _ :: p => e.atP p
  | _, _ => none
def fieldPath : (n i : Nat) → Path
  | 0, _ => []
  | 1, _ => [.one]
  | _ + 2, 0 => [.fst]
  | 2, _ + 1 => [.snd]
  | n + 3, i + 1 => .snd :: fieldPath (n + 2) i
def stripP : (p q : Path) → Option Path
  | [], q => some q
  | .one :: p, .one :: q | .fst :: p, .fst :: q | .snd :: p, .snd :: q => stripP p q
  | _, _ => none
def isStatic : Path → Bool
  | [] => true
  | .one :: p | .fst :: p | .snd :: p => isStatic p
  | _ => false
def ownUnder (o : Own) (p : Path) : Own := o.filterMap fun (q, s) => (stripP p q).map fun r => (r, s)
def ownOver (o : Own) (p : Path) : Own := o.map fun (q, s) => (p ++ q, s)
def ownPut (o : Own) (p : Path) (n : Own) : Own :=
  if isStatic p then (o.filter fun (q, _) => (stripP p q).isNone && (stripP q p).isNone) ++ ownOver n p else []
def nilPaths : Ty → Own
  | .slice _ => [([], none)]
  | .one t => ownOver (nilPaths t) [.one]
  | .pair a b => ownOver (nilPaths a) [.fst] ++ ownOver (nilPaths b) [.snd]
  | _ => []
def ownTop : Own → Option (Option Nat)
  | [] => none
  | ([], s) :: _ => some s
  | _ :: r => ownTop r
def Own.lose (k : Nat) (o : Own) : Own := o.filter fun (_, s) => s != some k
def AVal.lose (k : Nat) : AVal → AVal
  | .data t x o => .data t x (Own.lose k o)
  | v => v
def Box.lose (k : Nat) (B : Box) : Box := { B with own := Own.lose k B.own }
def St.lose (σ : St) (k : Option Nat) : St :=
  match k with
  | none => σ
  | some k => { σ with env := fun s => (σ.env s).map (AVal.lose k), box := fun b => (σ.box b).map (Box.lose k), tok := fun j => bif Nat.beq j k then false else σ.tok j, dirty := upd σ.dirty k true }
class Mf where
  on : Bool
structure Ctx where
  ty : TypeId → Option Ty
  nf : TypeId → Nat
  sig : FuncId → Option Sig
  own : Nat → Bool
  eqs : TypeId → Bool
  maps : Bool
  news : FuncId → Bool := fun _ => false
  owns : FuncId → Bool := fun _ => false
  iters : FuncId → Option ItSig := fun _ => none
  gown : Bool := false
def gvar : Nat → Option (Int × Int)
  | 0 => some (0, 20000)
  | 1 => some (1, 100)
  | 2 => some (0, 100)
  | 3 => some (0, 1000)
  | 5 => some (1, 1000)
  | _ => none
def St.opd (σ : St) : Operand → Option AVal
  | .tmp t => σ.env t
  | .const (.int k n) => some (.data (.int k) n [])
  | .const (.bool b) => some (.data .bool b [])
  | .const (.string s) => some (.data .str s [])
  | .func g => some (.clo g [])
  | .const .nilFunc => some (.raw .nilFunc)
  | .const (.pointer none) => some (.raw (.pointer none))
  | .global g => match gvar g with
    | some x => some (.data (.ptr (.pair (.int .i64) (.int .i64))) x [])
    | none => none
  | _ => none
def St.opdN (σ : St) (T : Option Ty) (y : Operand) : Option AVal :=
  match y, T with
  | .const (.slice none 0 0), some (.slice e) => some (.data (.slice e) [] [([], none)])
  | y, _ => σ.opd y
def St.set (σ : St) (d : Option Nat) (v : AVal) : St :=
  match d with
  | some d => { σ with env := upd σ.env d (some v) }
  | none => σ
def St.unset (σ : St) (d : Option Nat) : St :=
  match d with
  | some d => { σ with env := upd σ.env d none }
  | none => σ
def St.bool (σ : St) (x : Operand) : Option Bool := AVal.get (σ.opd x) .bool
inductive Eff where
  | fail
  | val (v : AVal)
  | chk (c : Bool) (v : AVal)
  | cat (a b : ByteArray)
  | bytes (a : ByteArray)
  | call (s : Sig) (x : Args s.ats)
  | newRow (tid : TypeId) (e : Ty) (y : Option (List e.den))
  | newOwn (e : Ty) (y : Option (List e.den))
  | newIter (e : Ty) (F : ByteArray → Option (List e.den)) (x : ByteArray)
  | dyn (a r : Ty) (φ : a.den → Option r.den) (x : a.den)
  | alloc (B : Box)
  | store (b : Nat) (B : Box)
  | fresh (c : Bool) (e : Ty) (l : List e.den)
  | row (c : Bool) (tid : TypeId) (e : Ty) (l : List e.den)
  | app (e : Ty) (l m : List e.den) (src : Option Nat)
def intBin (op : BinOp) (k : IntKind) (x y : Int) : Eff :=
  match op with
  | .add => .val (.data (.int k) (k.wrap (x + y)) [])
  | .sub => .val (.data (.int k) (k.wrap (x - y)) [])
  | .mul => .val (.data (.int k) (k.wrap (x * y)) [])
  | .quo => .chk (y != 0) (.data (.int k) (k.wrap (x.tdiv y)) [])
  | .rem => .chk (y != 0) (.data (.int k) (x.tmod y) [])
  | .eql => .val (.data .bool (x == y) [])
  | .neq => .val (.data .bool (x != y) [])
  | .lss => .val (.data .bool (decide (x < y)) [])
  | .leq => .val (.data .bool (decide (x ≤ y)) [])
  | .gtr => .val (.data .bool (decide (x > y)) [])
  | .geq => .val (.data .bool (decide (x ≥ y)) [])
  | .and => .val (.data (.int k) (k.wrap (BitVec.ofInt k.bits x &&& BitVec.ofInt k.bits y).toNat) [])
  | .or => .val (.data (.int k) (k.wrap (BitVec.ofInt k.bits x ||| BitVec.ofInt k.bits y).toNat) [])
  | .xor => .val (.data (.int k) (k.wrap (BitVec.ofInt k.bits x ^^^ BitVec.ofInt k.bits y).toNat) [])
  | .andNot => .val (.data (.int k) (k.wrap (BitVec.ofInt k.bits x &&& ~~~BitVec.ofInt k.bits y).toNat) [])
  | _ => .fail
def intShift (op : BinOp) (k : IntKind) (x y : Int) : Eff :=
  match op with
  | .shl => .chk (decide (0 ≤ y)) (.data (.int k) (k.wrap (x * 2 ^ (min y.toNat k.bits))) [])
  | .shr => .chk (decide (0 ≤ y)) (.data (.int k) (x.fdiv (2 ^ (min y.toNat k.bits))) [])
  | _ => .fail
def Ty.eqb : (t : Ty) → t.den → t.den → Bool
  | .int _, x, y => x == y
  | .bool, x, y => x == y
  | .str, x, y => seqb x y
  | .one t, x, y => t.eqb x y
  | .pair a b, x, y => a.eqb x.1 y.1 && b.eqb x.2 y.2
  | .arr n e, x, y => (List.range n).all fun i => e.eqb (x i) (y i)
  | _, _, _ => false
def mget (k v : Ty) (l : List (k.den × v.den)) (x : k.den) : v.den := match l.find? fun p => k.eqb x p.1 with
  | some p => p.2
  | none => v.dflt
def mput (k v : Ty) : List (k.den × v.den) → k.den → v.den → List (k.den × v.den)
  | [], x, y => [(x, y)]
  | p :: l, x, y => bif k.eqb x p.1 then (p.1, y) :: l else p :: mput k v l x y
def collect (σ : St) (arg : Operand → (t : Ty) → Option t.den) : (ts : List Ty) → List Operand → Option (Args ts)
  | [], [] => some ()
  | [t], [x] => arg x t
  | t :: u :: r, x :: xs => match arg x t with
    | some v => match collect σ arg (u :: r) xs with
      | some w => some (v, w)
      | none => none
    | none => none
  | _, _ => none
def collectC (σ : St) (arg : Operand → (t : Ty) → Option t.den) : (ts : List Ty) → List Operand → List (Sigma Ty.den) → Option (Args ts)
  | [], [], [] => some ()
  | [t], [x], [] => arg x t
  | [t], [], [c] => castTy (.ptr c.1) t c.2
  | t :: u :: r, x :: xs, cs => match arg x t, collectC σ arg (u :: r) xs cs with
    | some v, some w => some (v, w)
    | _, _ => none
  | t :: u :: r, [], c :: cs => match castTy (.ptr c.1) t c.2, collectC σ arg (u :: r) [] cs with
    | some v, some w => some (v, w)
    | _, _ => none
  | _, _, _ => none
def AVal.res : (ts : List Ty) → Args ts → AVal
  | [], _ => .tup [] ()
  | [t], x => .data t x []
  | t :: u :: r, x => .tup (t :: u :: r) x
def tupGet : (ts : List Ty) → Args ts → Nat → Option AVal
  | [t], x, 0 => some (.data t x [])
  | t :: _ :: _, x, 0 => some (.data t x.1 [])
  | _ :: u :: r, x, i + 1 => tupGet (u :: r) x.2 i
  | _, _, _ => none
def consArgs (a : Ty) (x : a.den) : (cs : List (Sigma Ty.den)) → Args (a :: cs.map fun c => .ptr c.1)
  | [] => x
  | c :: r => (x, consArgs (.ptr c.1) c.2 r)
def capsData : List Cap → Option (List (Sigma Ty.den))
  | [] => some []
  | .inr c :: r => match capsData r with
    | some l => some (c :: l)
    | none => none
  | .inl _ :: _ => none
def castRes {l m : List Ty} (h : l = m) (y : Option (Args l)) : Option (Args m) := h ▸ y
def castArgs {l m : List Ty} (h : l = m) (y : Args m) : Args l := h ▸ y
def Sig.listRun (s : Sig) (e : Ty) (x : Args s.ats) : Option (List e.den) := if h : s.rts = [.slice e] then castRes h (s.run x) else none
def closeFn (s : Sig) (cs : List (Sigma Ty.den)) (a r : Ty) : Option (a.den → Option r.den) :=
  if h : s.ats = a :: cs.map (fun c => .ptr c.1) then
    if h' : s.rts = [r] then some fun x => castRes h' (s.run (castArgs h (consArgs a x cs))) else none
  else none
section
variable (Γ : Ctx)
def St.arg (σ : St) (x : Operand) (t : Ty) : Option t.den :=
  match t with
  | .fn a r => match x with
    | .func g => match Γ.sig g with
      | some s => closeFn s [] a r
      | none => none
    | x => match σ.opd x with
      | some (.clo g caps) => match Γ.sig g, capsData caps with
        | some s, some cs => closeFn s cs a r
        | _, _ => none
      | v => AVal.get v (.fn a r)
  | .slice e => match x with
    | .const (.slice none 0 0) => some []
    | x => AVal.get (σ.opd x) (.slice e)
  | t => AVal.get (σ.opd x) t
def evBuild (n : Nat) (σ : St) : List (Nat × Operand) → (t : Ty) → t.den → Own → Option (t.den × Own)
  | [], _, x, o => some (x, o)
  | (i, y) :: rest, t, x, o => match t.atP (fieldPath n i), σ.opd y with
    | some u, some (.data u' v ow) => match castTy u' u v with
      | some v => match setP t x (fieldPath n i) u v with
        | some x' => evBuild n σ rest t x' (ownPut o (fieldPath n i) ow)
        | none => none
      | none => none
    | _, _ => none
def evBuildArr (e : Ty) (σ : St) : List (Nat × Operand) → (Nat → e.den) → Option (Nat → e.den)
  | [], x => some x
  | (i, y) :: rest, x => match AVal.get (σ.opd y) e with
    | some v => evBuildArr e σ rest (aset x (i : Int) v)
    | none => none
def evBuildSlice (e : Ty) (σ : St) : Nat → List (Nat × Operand) → Option (List e.den)
  | _, [] => some []
  | i, (j, o) :: rest => if i = j then match AVal.get (σ.opdN (some e) o) e, evBuildSlice e σ (i + 1) rest with
      | some v, some l => some (v :: l)
      | _, _ => none
    else none
def ofOpt (v : Option AVal) : Eff := match v with
  | some v => .val v
  | none => .fail
def boxOf : Operand → Option Nat
  | .tmp s => some s
  | _ => none
def evCaps (σ : St) : List Operand → Option (List Cap)
  | [] => some []
  | x :: r => match σ.opd x, evCaps σ r with
    | some (.bptr b []), some l => some (.inl b :: l)
    | some (.data (.ptr t) y _), some l => some (.inr ⟨t, y⟩ :: l)
    | _, _ => none
def eff (o : Oper) (σ : St) : Eff :=
  match o.op with
  | .move x | .assign x => match x with
    | .const (.slice none 0 0) => match Γ.ty o.type with
      | some (.slice e) => .val (.data (.slice e) [] [([], none)])
      | _ => .fail
    | x => ofOpt (σ.opd x)
  | .pick c a b => match σ.bool c with
    | some g => match (if g then σ.bool a else σ.bool b) with
      | some v => .val (.data .bool v [])
      | none => .fail
    | none => .fail
  | .binOp op T x y _ =>
    match σ.opd x, σ.opd y with
    | some (.data (.int k) a _), some (.data (.int j) b _) => match op with
      | .shl | .shr => intShift op k a b
      | op => if k = j then intBin op k a b else .fail
    | some (.data .str a _), some (.data .str b _) => match op with
      | .add => .cat a b
      | .eql => .val (.data .bool (seqb a b) [])
      | .neq => .val (.data .bool (!seqb a b) [])
      | _ => .fail
    | some (.data t a _), some (.data u b _) => match Γ.ty T with
      | some t' => if t = t' ∧ (t = .bool ∨ Γ.eqs T = true) then match castTy u t b with
          | some b => match op with
            | .eql => .val (.data .bool (t.eqb a b) [])
            | .neq => .val (.data .bool (!t.eqb a b) [])
            | _ => .fail
          | none => .fail
        else .fail
      | none => .fail
    | some (.data .err a _), none => if Γ.ty T = some .err then match y, op with
        | .const .nilIface, .eql => .val (.data .bool a [])
        | .const .nilIface, .neq => .val (.data .bool (!a) [])
        | _, _ => .fail
      else .fail
    | some (.data (.slice e) l own), none => if Γ.ty T = some (.slice e) then match y, op with
        | .const (.slice none 0 0), .eql => match ownTop own with
          | some none => .val (.data .bool true [])
          | _ => .chk (!l.isEmpty) (.data .bool false [])
        | _, _ => .fail
      else .fail
    | _, _ => .fail
  | .unOp .neg _ x => match σ.opd x with
    | some (.data (.int k) a _) => .val (.data (.int k) (k.wrap (0 - a)) [])
    | _ => .fail
  | .unOp .not _ x => match σ.bool x with
    | some b => .val (.data .bool (!b) [])
    | none => .fail
  | .convert st dt x => match (if (Γ.ty st).isSome then Γ.ty dt else none), σ.opd x with
    | some (.int k), some (.data (.int _) a _) => .val (.data (.int k) (k.wrap a) [])
    | some (.slice (.int .u8)), some (.data .str a _) => .bytes a
    | some .str, some (.data (.slice (.int .u8)) l _) => if Γ.ty st = some (.slice (.int .u8)) then .val (.data .str (sofb l) []) else .fail
    | some .str, some (.data .str a _) => .val (.data .str a [])
    | _, _ => .fail
  | .box e x => match Γ.ty e, σ.opd x with
    | some t, some (.data u v ow) => match castTy u t v with
      | some v => .alloc ⟨e, t, v, ow, false⟩
      | none => .fail
    | _, _ => .fail
  | .alloc e => match Γ.ty e with
    | some t => if t.plain then .alloc ⟨e, t, t.dflt, nilPaths t, false⟩ else .fail
    | none => .fail
  | .fieldAddr s x f => if f < Γ.nf s then match Γ.ty s, σ.opd x with
      | some t, some (.bptr b p) => match σ.box b, t.atP (fieldPath (Γ.nf s) f) with
        | some B, some u => if B.t.atP p = some t ∧ 0 < u.size then .val (.bptr b (p ++ fieldPath (Γ.nf s) f)) else .fail
        | _, _ => .fail
      | some t, some (.data (.ptr t') v _) => match castTy t' t v, t.atP (fieldPath (Γ.nf s) f) with
        | some v, some u => if 0 < u.size then match getP t v (fieldPath (Γ.nf s) f) u with
            | some y => .val (.data (.ptr u) y [])
            | none => .fail
          else .fail
        | _, _ => .fail
      | _, _ => .fail
    else .fail
  | .indexAddr T x i => match AVal.get (σ.opd i) (.int .i64) with
    | none => .fail
    | some j => match Γ.ty T, σ.opd x with
      | some (.slice e'), some (.data (.slice e) l _) => if e' = e then .chk (decide (0 ≤ j) && decide (j < (l.length : Int))) (.data (.ptr e) (lget e.dflt l j) []) else .fail
      | some (.arr n e), some (.bptr b p) => match σ.box b with
        | some B => if B.t.atP p = some (.arr n e) then .chk (decide (0 ≤ j) && decide (j < (n : Int))) (.bptr b (p ++ [.idx j])) else .fail
        | none => .fail
      | some (.arr n' e'), some (.data (.ptr (.arr n e)) v _) => if n' = n ∧ e' = e then .chk (decide (0 ≤ j) && decide (j < (n : Int))) (.data (.ptr e) (aget v j) []) else .fail
      | some (.slice e'), some (.rowp b) => match σ.box b with
        | some ⟨_, .slice e, l, _, true⟩ => if e' = e then .chk (decide (0 ≤ j) && decide (j < (l.length : Int))) (.bptr b [.el j]) else .fail
        | _ => .fail
      | _, _ => .fail
  | .load t x => match Γ.ty t, σ.opd x with
    | some u, some (.bptr b p) => match σ.box b with
      | some B => match getP B.t B.x p u with
        | some v => .val (.data u v (ownUnder B.own p))
        | none => .fail
      | none => .fail
    | some u, some (.data (.ptr t) v _) => match castTy t u v with
      | some v => .val (.data u v [])
      | none => .fail
    | _, _ => .fail
  | .store t x y => match Γ.ty t, σ.opd x, σ.opdN (Γ.ty t) y with
    | some u, some (.bptr b p), some (.data u' v ow) => match σ.box b, castTy u' u v with
      | some B, some v => match setP B.t B.x p u v with
        | some x' => .store b ⟨B.tid, B.t, x', ownPut B.own p ow, B.rows⟩
        | none => .fail
      | _, _ => .fail
    | _, _, _ => .fail
  | .build t ps => match Γ.ty t with
    | some (.arr n e) => if e.plain && ps.toList.all fun p => decide (p.1 < n) then match evBuildArr e σ ps.toList (fun _ => e.dflt) with
        | some x => .val (.data (.arr n e) x [])
        | none => .fail
      else .fail
    | some u => if u.plain && u.agg && ps.toList.all fun p => decide (p.1 < Γ.nf t) then match evBuild (Γ.nf t) σ ps.toList u u.dflt (nilPaths u) with
        | some (x, o) => .val (.data u x o)
        | none => .fail
      else .fail
    | none => .fail
  | .buildSlice t n ps => match Γ.ty t with
    | some (.slice e) => if e.plain && decide (n * e.size ≤ 16777216) && decide (n ≤ 16777216) then match evBuildSlice e σ 0 ps.toList with
        | some l => if l.length = n then (bif o.guard.isNone && o.dst.any Γ.own then .row true t e l else .fresh true e l) else .fail
        | none => .fail
      else .fail
    | _ => .fail
  | .index T x i => match Γ.ty T, σ.opd x, AVal.int (σ.opd i) with
    | some (.arr n' e'), some (.data (.arr n e) v _), some j => if n' = n ∧ e' = e then .chk (decide (0 ≤ j) && decide (j < (n : Int))) (.data e (aget v j) []) else .fail
    | some .str, some (.data .str s _), some j => .chk (decide (0 ≤ j) && decide (j < (s.size : Int))) (.data (.int .u8) (sget s j) [])
    | _, _, _ => .fail
  | .field s x f => if f < Γ.nf s then match Γ.ty s, σ.opd x with
      | some t, some (.data t' v ow) => match castTy t' t v, t.atP (fieldPath (Γ.nf s) f) with
        | some v, some u => match getP t v (fieldPath (Γ.nf s) f) u with
          | some y => .val (.data u y (ownUnder ow (fieldPath (Γ.nf s) f)))
          | none => .fail
        | _, _ => .fail
      | _, _ => .fail
    else .fail
  | .nilCheck x => match σ.opd x with
    | some (.bptr b p) => .val (.bptr b p)
    | some (.data (.ptr t) v _) => .val (.data (.ptr t) v [])
    | _ => .fail
  | .extract x i => match σ.opd x with
    | some (.tup ts v) => ofOpt (tupGet ts v i)
    | _ => .fail
  | .slice T x lo hi none =>
    match (match lo with | none => some 0 | some a => AVal.get (σ.opd a) (.int .i64)) with
    | none => .fail
    | some a => match Γ.ty T, σ.opd x with
      | some (.slice e'), some (.data (.slice e) l _) => match (match hi with | none => some (l.length : Int) | some b => AVal.get (σ.opd b) (.int .i64)) with
        | none => .fail
        | some b => if e' = e then .chk (decide (0 ≤ a) && decide (a ≤ b) && decide (b ≤ (l.length : Int))) (.data (.slice e) ((l.take b.toNat).drop a.toNat) []) else .fail
      | some .str, some (.data .str s _) => match (match hi with | none => some (s.size : Int) | some b => AVal.get (σ.opd b) (.int .i64)) with
        | none => .fail
        | some b => .chk (decide (0 ≤ a) && decide (a ≤ b) && decide (b ≤ (s.size : Int))) (.data .str (s.extract a.toNat b.toNat) [])
      | some (.arr n' e'), some (.data (.ptr (.arr n e)) v _) => match lo, hi with
        | none, none => if n' = n ∧ e' = e then .val (.data (.slice e) ((List.range n).map v) []) else .fail
        | _, _ => .fail
      | _, _ => .fail
  | .makeSlice t n c => match Γ.ty t, AVal.get (σ.opd n) (.int .i64), AVal.get (σ.opd c) (.int .i64), o.dst with
    | some (.slice e), some j, some j', some d => if !e.plain then .fail else if Γ.own d then .fresh (decide (0 ≤ j) && decide (j ≤ 4294967296) && (j == j')) e (List.replicate j.toNat e.dflt)
      else .row (decide (0 ≤ j) && decide (j ≤ 4294967296) && (j == j')) t e (List.replicate j.toNat e.dflt)
    | _, _, _, _ => .fail
  | .makeMap t none => match Γ.ty t with
    | some (.mapT k v) => if k.scal && v.scal && Γ.maps then .alloc ⟨t, .mapT k v, [], [], true⟩ else .fail
    | _ => .fail
  | .lookup t x i false => match σ.opd x with
    | some (.mapp b) => match σ.box b with
      | some ⟨t', .mapT k v, l, _, true⟩ => if t = t' ∧ Γ.ty t = some (.mapT k v) ∧ k.scal = true ∧ v.scal = true then match AVal.get (σ.opd i) k with
          | some j => .val (.data v (mget k v l j) [])
          | none => .fail
        else .fail
      | _ => .fail
    | _ => .fail
  | .mapUpdate t x i y => match σ.opd x with
    | some (.mapp b) => match σ.box b with
      | some ⟨t', .mapT k v, l, _, true⟩ => if t = t' ∧ Γ.ty t = some (.mapT k v) ∧ k.scal = true ∧ v.scal = true ∧ Γ.maps = true then match AVal.get (σ.opd i) k, AVal.get (σ.opd y) v with
          | some j, some z => .store b ⟨t', .mapT k v, mput k v l j z, [], true⟩
          | _, _ => .fail
        else .fail
      | _ => .fail
    | _ => .fail
  | .makeFunc (.func g) fs caps => if fs.size = 0 then match evCaps σ caps.toList with
      | some l => .val (.clo g l)
      | none => .fail
    else .fail
  | .call c => match c.callee with
    | .value (.func f) => match Γ.iters f with
      | some I => match o.guard, c.args.toList with
        | none, [x, y] => match AVal.get (σ.opd x) .str, AVal.get (σ.opd y) .str with
          | some s, some sep => .newIter I.e (I.F sep) s
          | _, _ => .fail
        | _, _ => .fail
      | none => match Γ.sig f with
        | some s => match collect σ (St.arg Γ σ) s.ats c.args.toList with
          | some xs => if (o.guard.isNone || Γ.gown) && Γ.owns f then match Γ.ty o.type with
              | some (.slice e) => .newOwn e (s.listRun e xs)
              | _ => .fail
            else if o.guard.isNone && Γ.news f && !(o.dst.any Γ.own) then match Γ.ty o.type with
              | some (.slice e) => .newRow o.type e (s.listRun e xs)
              | _ => .fail
            else .call s xs
          | none => .fail
        | none => .fail
    | .value x => match σ.opd x, c.args.toList with
      | some (.data (.fn a r) φ _), [y] => match AVal.get (σ.opd y) a with
        | some v => .dyn a r φ v
        | none => .fail
      | some (.clo g caps), ys => match Γ.sig g, capsData caps with
        | some s, some cs => match collectC σ (St.arg Γ σ) s.ats ys cs with
          | some xs => .call s xs
          | none => .fail
        | _, _ => .fail
      | _, _ => .fail
    | .builtin .len => match c.args.toList, c.argTypes.toList with
      | [x], [T] => match σ.opd x, Γ.ty T with
        | some (.data (.slice _) l _), some (.slice _) => .val (.data (.int .i64) (l.length : Int) [])
        | some (.data .str s _), some .str => .val (.data (.int .i64) (s.size : Int) [])
        | some (.rowp b), some (.slice _) => match σ.box b with
          | some ⟨_, .slice _, l, _, true⟩ => .val (.data (.int .i64) (l.length : Int) [])
          | _ => .fail
        | some (.mapp b), some (.mapT _ _) => match σ.box b with
          | some ⟨_, .mapT _ _, l, _, true⟩ => .val (.data (.int .i64) (l.length : Int) [])
          | _ => .fail
        | _, _ => .fail
      | _, _ => .fail
    | .builtin .max => match c.args.toList with
      | [x, y] => match σ.opd x, σ.opd y with
        | some (.data (.int k) a _), some (.data (.int j) b _) => if k = j then .val (.data (.int k) (imax a b) []) else .fail
        | _, _ => .fail
      | _ => .fail
    | .builtin .min => match c.args.toList with
      | [x, y] => match σ.opd x, σ.opd y with
        | some (.data (.int k) a _), some (.data (.int j) b _) => if k = j then .val (.data (.int k) (imin a b) []) else .fail
        | _, _ => .fail
      | _ => .fail
    | .builtin .append => match c.args.toList, c.argTypes.toList with
      | [x, y], [T, U] => match σ.opd x, σ.opd y with
        | some (.data (.slice e) l ow), some (.data (.slice e') m _) => if Γ.ty T = some (.slice e) ∧ T = U ∧ e.plain = true ∧ 0 < e.size then match castTy (.slice e') (.slice e) m, ownTop ow with
            | some m, some src => .app e l m src
            | _, _ => .fail
          else .fail
        | _, _ => .fail
      | _, _ => .fail
    | _ => .fail
  | _ => .fail
def Box.ptr (B : Box) (d : Nat) : AVal := match B.rows with
  | true => .mapp d
  | false => .bptr d []
def Eff.runK (d : Option Nat) (σ : St) {A : Type} (k : St → Option A) : Eff → Option A
  | .fail => none
  | .val v => k (σ.set d v)
  | .chk c v => Lift.chk c (k (σ.set d v))
  | .cat a b => (Lift.cat a b).bind fun r => k (σ.set d (.data .str r []))
  | .bytes a => k (σ.set d (.data (.slice (.int .u8)) (sbytes a) []))
  | .call s x => (s.run x).bind fun r => k (σ.set d (AVal.res s.rts r))
  | .newRow tid e y => match d with
    | some d => match σ.box d, σ.tok d with
      | none, false => y.bind fun l => k { σ with env := upd σ.env d (some (.rowp d)), box := upd σ.box d (some ⟨tid, .slice e, l, [], true⟩) }
      | _, _ => none
    | none => none
  | .newOwn e y => match d with
    | some d => match σ.box d, σ.tok d with
      | none, false => y.bind fun l => k { σ with env := upd σ.env d (some (.data (.slice e) l [([], some d)])), tok := upd σ.tok d true }
      | _, _ => none
    | none => none
  | .newIter e F x => match d with
    | some d => match σ.box d, σ.tok d with
      | none, false => k { σ with env := upd σ.env d (some (.iter d e F)), box := upd σ.box d (some ⟨0, .str, x, [], false⟩) }
      | _, _ => none
    | none => none
  | .dyn _ r φ x => (φ x).bind fun v => k (σ.set d (.data r v []))
  | .alloc B => match d with
    | some d => match σ.box d, σ.tok d with
      | none, false => k { σ with env := upd σ.env d (some (B.ptr d)), box := upd σ.box d (some B) }
      | _, _ => none
    | none => none
  | .store b B => k { (σ.unset d) with box := upd σ.box b (some B), dirty := upd σ.dirty b true }
  | .fresh c e l => match d with
    | some d => match σ.box d, σ.tok d with
      | none, false => Lift.chk c (k { σ with env := upd σ.env d (some (.data (.slice e) l [([], some d)])), tok := upd σ.tok d true })
      | _, _ => none
    | none => none
  | .row c tid e l => match d with
    | some d => match σ.box d, σ.tok d with
      | none, false => Lift.chk c (k { σ with env := upd σ.env d (some (.rowp d)), box := upd σ.box d (some ⟨tid, .slice e, l, [], true⟩) })
      | _, _ => none
    | none => none
  | .app e l m src => match d with
    | some d => let τ := σ.lose src
      match τ.box d, τ.tok d with
      | none, false => (Lift.app l m).bind fun r => k { τ with env := upd τ.env d (some (.data (.slice e) r [([], some d)])), tok := upd τ.tok d true }
      | _, _ => none
    | none => none
def opK (o : Oper) (σ : St) {A : Type} (k : St → Option A) : Option A := (eff Γ o σ).runK o.dst σ k
def pureOp (o : Oper) : Bool :=
  match o.op with
  | .move _ | .assign _ | .unOp .. | .fieldAddr .. | .load .. | .field .. | .extract .. | .convert .. | .pick .. => true
  | .binOp op .. => match op with | .quo | .rem | .shl | .shr | .add => false | _ => true
  | .call { callee := .builtin .len, .. } | .call { callee := .builtin .max, .. } | .call { callee := .builtin .min, .. } => true
  | _ => false
def guardOp (o : Oper) : Bool :=
  match o.op with
  | .move _ | .assign _ | .unOp .. | .fieldAddr .. | .load .. | .field .. | .extract .. | .convert .. | .pick .. | .binOp .. | .indexAddr .. | .index .. | .build .. | .slice .. => true
  | .buildSlice .. => o.guard.isSome
  | .call c => match c.callee with
    | .builtin .len | .builtin .max | .builtin .min => true
    | .value _ => o.guard.isSome
    | _ => false
  | _ => false
def St.forget1 (σ : St) (o : Oper) : St :=
  match o.op, o.dst with
  | .buildSlice .., some d => { (σ.unset (some d)) with tok := upd σ.tok d true }
  | _, d => σ.unset d
def St.forget (σ : St) (l : List Oper) : St := l.foldl St.forget1 σ
def St.forgetOk (σ : St) (l : List Oper) : Bool := l.all fun o => match o.op, o.dst with
  | .buildSlice .., some d => (σ.box d).isNone
  | _, _ => true
def isConstB : Operand → Bool → Bool
  | .const (.bool b), c => b == c
  | _, _ => false
inductive Foot where
  | quiet | rd (b : Nat) | wr (b : Nat) | mono | app (k : Option Nat) | idle | other
def foot (o : Oper) (σ : St) : Foot :=
  match o.op with
  | .move _ | .assign _ | .pick .. | .binOp .. | .unOp .. | .convert .. | .fieldAddr .. | .build .. | .index .. | .field .. | .extract .. | .slice .. | .makeFunc .. | .nilCheck _ => .quiet
  | .load _ x => match σ.opd x with
    | some (.bptr b _) => .rd b
    | some (.data ..) => .quiet
    | _ => .other
  | .indexAddr _ x _ => match σ.opd x with
    | some (.bptr b _) => .rd b
    | some (.rowp b) => .rd b
    | some (.data ..) => .quiet
    | _ => .other
  | .store _ x _ => match σ.opd x with
    | some (.bptr b _) => .wr b
    | _ => .other
  | .lookup _ x _ _ => match σ.opd x with
    | some (.mapp b) => .rd b
    | _ => .other
  | .mapUpdate _ x _ _ => match σ.opd x with
    | some (.mapp b) => .wr b
    | _ => .other
  | .alloc _ | .box .. | .buildSlice .. | .makeMap .. => .mono
  | .call c => match c.callee with
    | .value _ => .mono
    | .builtin .len => match c.args.toList with
      | [x] => match σ.opd x with
        | some (.rowp b) => .rd b
        | some (.mapp b) => .rd b
        | _ => .quiet
      | _ => .other
    | .builtin .max | .builtin .min => .quiet
    | .builtin .append => match c.args.toList with
      | [x, _] => match σ.opd x with
        | some (.data _ _ ow) => match ownTop ow with
          | some s => .app s
          | none => .other
        | some .undef => .idle
        | _ => .other
      | _ => .other
    | _ => .other
  | _ => .other
abbrev Log := List (Nat × Foot)
def slotAt (all : List Oper) (j : Nat) : Option Nat := (all[j]?).bind (·.dst)
def innerOk (g0 : Option (Nat × Bool)) (i : Nat) : Nat → List Oper → Bool
  | _, [] => true
  | p, o :: r => (decide (o.guard = g0) || (match o.guard with
      | some (j, _) => Nat.ble i j && Nat.blt j p
      | none => false)) && o.dst.isSome && innerOk g0 i (p + 1) r
def grpOf (g : Option (Nat × Bool)) (l : List Oper) : List Oper := l.takeWhile fun o => decide (o.guard ≠ g)
def aftOf (g : Option (Nat × Bool)) (l : List Oper) : List Oper := l.dropWhile fun o => decide (o.guard ≠ g)
def grpOk (all : List Oper) (g : Option (Nat × Bool)) (i : Nat) (o pk : Oper) (grp : List Oper) (w : Bool) : Option (Operand × Operand) :=
  match pk.op, o.guard with
  | .pick c a b, some (j, _) => if Nat.blt j i && grp.all guardOp && isConstB (if w then b else a) (!w) && decide (pk.guard = g) && (match c with | .tmp s => decide (slotAt all j = some s) | _ => false) && innerOk o.guard i i grp then some (c, if w then a else b) else none
  | _, _ => none
def opsK (all : List Oper) : Nat → Option (Nat × Bool) → Nat → List Oper → St → Log → {A : Type} → (St → Log → Option A) → Option A
  | 0, _, _, _, _, _, _, _ => none
  | _ + 1, _, _, [], σ, lg, _, k => k σ lg
  | n + 1, g, i, o :: rest, σ, lg, _, k =>
    if o.guard = g then opK Γ o σ (fun σ' => opsK all n g (i + 1) rest σ' ((i, foot o σ) :: lg) k)
    else match aftOf g (o :: rest), o.guard with
      | pk :: rest', some (_, w) =>
        match grpOk all g i o pk (grpOf g (o :: rest)) w with
        | some (c, x) =>
          match σ.bool c with
          | some gv =>
            if !σ.forgetOk (grpOf g (o :: rest)) then none
            else if (grpOf g (o :: rest)).all pureOp then
              match opsK all n o.guard i (grpOf g (o :: rest)) σ [] (fun σ' _ => σ'.bool x) with
              | some e => opsK all n g (i + (grpOf g (o :: rest)).length + 1) rest' ((σ.forget (grpOf g (o :: rest))).set pk.dst (.data .bool (if w then gv && e else gv || e) [])) lg k
              | none => none
            else
              (bif gv then (if w then opsK all n o.guard i (grpOf g (o :: rest)) σ [] (fun σ' _ => σ'.bool x) else some true)
                else (if w then some false else opsK all n o.guard i (grpOf g (o :: rest)) σ [] (fun σ' _ => σ'.bool x))).bind fun v =>
                  opsK all n g (i + (grpOf g (o :: rest)).length + 1) rest' ((σ.forget (grpOf g (o :: rest))).set pk.dst (.data .bool v [])) lg k
          | none => none
        | none => none
      | _, _ => none
end
structure It where
  isBox : Bool
  id : Nat
  tid : TypeId
  t : Ty
  own : Own
  rows : Bool
structure Desc where
  its : List It
  kb : List Nat
@[reducible] def Desc.den (L : Desc) : Type := Args (L.its.map (·.t))
def ownGot (h : Own) : Own → Option (List Nat)
  | [] => some []
  | (p, s) :: r => match h.find? (fun (q, _) => match stripP p q with | some [] => true | _ => false), ownGot h r with
    | some (_, none), some l => some l
    | some (_, some j), some l => if s.isSome then some (j :: l) else none
    | _, _ => none
def grab1 (σ : St) (i : It) : Option i.t.den :=
  match i.isBox with
  | false => match σ.env i.id with
    | some (.data u x _) => castTy u i.t x
    | _ => none
  | true => match σ.box i.id with
    | some B => if B.rows = i.rows ∧ B.tid = i.tid then castTy B.t i.t B.x else none
    | none => none
def ownOf (σ : St) (i : It) : Own :=
  match i.isBox with
  | false => match σ.env i.id with
    | some (.data _ _ o) => o
    | _ => []
  | true => match σ.box i.id with
    | some B => B.own
    | none => []
def gots (σ : St) : List It → Option (List Nat)
  | [] => some []
  | i :: r => match ownGot (ownOf σ i) i.own, gots σ r with
    | some l, some m => some (l ++ m)
    | _, _ => none
def grab (σ : St) : (l : List It) → Option (Args (l.map (·.t)))
  | [] => some ()
  | [i] => grab1 σ i
  | i :: j :: r => match grab1 σ i, grab σ (j :: r) with
    | some v, some w => some (v, w)
    | _, _ => none
def put1 (σ : St) (i : It) (x : i.t.den) : St :=
  match i.isBox with
  | false => { σ with env := upd σ.env i.id (some (.data i.t x i.own)) }
  | true => { σ with box := upd σ.box i.id (some ⟨i.tid, i.t, x, i.own, i.rows⟩) }
def put (σ : St) : (l : List It) → Args (l.map (·.t)) → St
  | [], _ => σ
  | [i], x => put1 σ i x
  | i :: j :: r, x => put (put1 σ i x.1) (j :: r) x.2
def nodupB : List Nat → Bool
  | [] => true
  | a :: r => !(r.any fun b => Nat.beq b a) && nodupB r
def gotsOk (σ : St) (l : List It) (kb : List Nat) : Bool := match gots σ l with
  | some m => nodupB (m ++ kb)
  | none => false
def Desc.grab0 (L : Desc) (σ : St) : Option L.den := if gotsOk σ L.its L.kb then Lift.grab σ L.its else none
def Desc.grab (L : Desc) (σ : St) : Option L.den := if L.kb.all (fun b => !σ.dirty b) then L.grab0 σ else none
def noSlot : Nat := 1000000000
def writes : Code → List Nat
  | .region _ ops _ => ops.toList.filterMap (·.dst)
  | .seq a b | .cond _ a b => writes a ++ writes b
  | .block _ c | .loop c | .scope c => writes c
  | .rangeFunc _ ps a b => ps.toList ++ writes a ++ writes b ++ [noSlot]
  | _ => []
def Desc.hasBox (L : Desc) (b : Nat) : Bool := L.kb.any (fun i => Nat.beq i b) || L.its.any (fun x => x.isBox && Nat.beq x.id b)
def Desc.keeps (L : Desc) (k : Nat) : Bool := L.kb.any fun i => Nat.beq i k
def Own.keep (L : Desc) (o : Own) : Own := o.filter fun (_, s) => match s with
  | none => true
  | some k => L.keeps k
def keepV (L : Desc) : AVal → Option AVal
  | .data t x o => some (.data t x (Own.keep L o))
  | .bptr b p => if L.hasBox b then some (.bptr b p) else none
  | .rowp b => if L.hasBox b then some (.rowp b) else none
  | .mapp b => if L.hasBox b then some (.mapp b) else none
  | .tup ts x => some (.tup ts x)
  | .clo g [] => some (.clo g [])
  | .clo .. => none
  | .undef => none
  | .raw _ => none
  | .iter b e F => if L.hasBox b then some (.iter b e F) else none
def toks (l : List It) : List Nat := l.flatMap fun x => x.own.filterMap (·.2)
def St.base (σ : St) (L : Desc) (ws : List Nat) : St :=
  { env := fun s => if ws.any (fun i => Nat.beq i s) then none else match σ.env s with | some v => keepV L v | none => none,
    box := fun b => if L.keeps b then (σ.box b).map fun B => { B with own := Own.keep L B.own } else none,
    tok := fun k => (L.keeps k && σ.tok k) || (toks L.its).any (fun i => Nat.beq i k),
    dirty := fun _ => false }
def Desc.ok (L : Desc) (σ : St) (ws : List Nat) : Bool :=
  (L.kb.all fun b => !(ws.any fun i => Nat.beq i b)) &&
  (L.its.all fun x => bif x.isBox then !(ws.any fun i => Nat.beq i x.id) && (match σ.box x.id with | some B => decide (B.t = x.t) && (B.rows == x.rows) | none => false) else true) &&
  nodupB (toks L.its ++ (L.its.filter (·.isBox)).map (·.id) ++ L.kb) && nodupB ((L.its.filter (!·.isBox)).map (·.id))
def Desc.put (L : Desc) (σ : St) (ws : List Nat) (x : L.den) : St := Lift.put (σ.base L ws) L.its x
def St.back (τ σ : St) (L : Desc) : St := { τ with dirty := fun b => σ.dirty b || !L.keeps b }
def St.soil (τ : St) (d : Nat → Bool) : St := { τ with dirty := fun b => d b || τ.dirty b }
def Desc.gone (L : Desc) (b : Nat) : Bool := !L.keeps b
inductive Ann where
  | nil
  | seq (a b : Ann)
  | cond (a b : Ann)
  | join (L : Desc) (a b : Ann)
  | joinD (L : Desc) (a b : Ann)
  | blk (a : Ann)
  | loopB (L B : Desc) (id : Nat) (a : Ann)
  | loopBD (L B : Desc) (id : Nat) (a : Ann)
  | loopD (L : Desc) (a : Ann)
  | frz (b : Nat) (n : Ann)
def Ann.l : Ann → Ann
  | .seq a _ | .cond a _ | .join _ a _ | .joinD _ a _ | .blk a => a
  | _ => .nil
def Ann.r : Ann → Ann
  | .seq _ b | .cond _ b | .join _ _ b | .joinD _ _ b => b
  | _ => .nil
inductive Ex where
  | normal | exit (id : Nat) | ret
def frzV (b : Nat) (B : Box) : AVal → Option AVal
  | .bptr c p => if c = b then match B.t.atP p with
      | some u => match getP B.t B.x p u with
        | some y => some (.data (.ptr u) y [])
        | none => none
      | none => none
    else some (.bptr c p)
  | .rowp c => if c = b then (match B with
      | ⟨_, .slice e, l, _, true⟩ => some (.data (.slice e) l [])
      | _ => none)
    else some (.rowp c)
  | .clo g caps => some (.clo g (caps.map fun c => match c with
      | .inl i => if i = b then .inr ⟨B.t, B.x⟩ else .inl i
      | .inr d => .inr d))
  | .iter c e F => if c = b then none else some (.iter c e F)
  | v => some v
def Box.isMap (B : Box) : Bool := match B.rows, B.t with
  | true, .mapT .. => true
  | _, _ => false
def St.freeze (σ : St) (b : Nat) : Option St :=
  match σ.box b with
  | some B => bif B.isMap then none else some { σ with env := fun s => match σ.env s with | some v => frzV b B v | none => none, box := upd σ.box b none, dirty := upd σ.dirty b true }
  | none => none
def Ann.thaw : Ann → St → Option St
  | .frz b n, σ => match σ.freeze b with
    | some σ => n.thaw σ
    | none => none
  | _, σ => some σ
def loopN {S R : Type} (f : S → Option (S ⊕ R)) : Nat → S → Option R
  | 0, _ => none
  | n + 1, s => match f s with
    | some (.inl s') => loopN f n s'
    | some (.inr r) => some r
    | none => none
open Classical in
noncomputable def loopM {S R : Type} (f : S → Option (S ⊕ R)) (s : S) : Option R :=
  if h : ∃ n r, loopN f n s = some r then some (Classical.choose (Classical.choose_spec h)) else none
section
variable (Γ : Ctx)
def slotOf : Operand → Option Nat
  | .tmp t => some t
  | _ => none
def reads (ops : List Oper) (o : Oper) : List Nat :=
  o.op.operands.toList.filterMap slotOf ++ (match o.guard with
    | some (j, _) => ((ops[j]?).bind (·.dst)).toList
    | none => [])
def disjointB (a b : List Nat) : Bool := !(a.any fun i => b.any fun j => Nat.beq i j)
def logAt : Log → Nat → Foot
  | [], _ => .other
  | (j, f) :: r, i => bif Nat.beq j i then f else logAt r i
def compat : Foot → Foot → Bool
  | .other, _ | _, .other | .app _, _ | _, .app _ | .idle, _ | _, .idle => false
  | .wr b, .rd c | .rd b, .wr c | .wr b, .wr c => !Nat.beq b c
  | _, _ => true
def calm (o : Oper) : Bool :=
  match o.op with
  | .store .. | .mapUpdate .. => false
  | .call c => match c.callee with
    | .builtin .append => false
    | _ => true
  | .makeSlice .. => false
  | _ => true
def apart0 (ops : List Oper) (lg : Log) (i j : Nat) (a b : Oper) : Bool :=
  disjointB (a.dst.toList) (reads ops b ++ b.dst.toList) && disjointB (b.dst.toList) (reads ops a) && ((calm a && calm b) || compat (logAt lg i) (logAt lg j))
def appOp (o : Oper) : Bool :=
  match o.op with
  | .call c => match c.callee with
    | .builtin .append => true
    | _ => false
  | _ => false
def Foot.readsB : Foot → Bool
  | .quiet => true
  | .rd _ => true
  | _ => false
def Foot.quietB : Foot → Bool
  | .quiet => true
  | _ => false
def softOp (o : Oper) (f : Foot) : Bool :=
  match o.op with
  | .move (.tmp _) | .buildSlice .. | .fieldAddr .. | .slice .. => true
  | .load .. => f.readsB
  | .indexAddr .. => f.quietB
  | .binOp .add _ _ _ _ => true
  | _ => false
def gEq (a b : Oper) : Bool := match a.guard, b.guard with
  | none, none => true
  | some (i, x), some (j, y) => Nat.beq i j && (x == y)
  | _, _ => false
def softB (o : Oper) (f : Foot) : Bool :=
  match o.op with
  | .move (.tmp _) => true
  | .load .. => f.quietB
  | _ => false
def apartA (ops : List Oper) (lg : Log) (i j : Nat) (a b : Oper) : Bool :=
  appOp a && gEq a b && softOp b (logAt lg j) && disjointB (a.dst.toList) (reads ops b ++ b.dst.toList) && disjointB (b.dst.toList) (reads ops a) &&
    (match logAt lg i with
    | .app s => !((b.dst.toList).any fun d => s == some d)
    | .idle => true
    | _ => false)
def apartB (ops : List Oper) (lg : Log) (i : Nat) (a b : Oper) : Bool :=
  appOp b && gEq a b && softB a (logAt lg i) && disjointB (a.dst.toList) (reads ops b ++ b.dst.toList) && disjointB (b.dst.toList) (reads ops a)
def apart (ops : List Oper) (lg : Log) (i j : Nat) (a b : Oper) : Bool := apart0 ops lg i j a b || apartA ops lg i j a b || apartB ops lg i a b
def bindsAll (e : Edge) : Bool := match e.ground with
  | .textOnly _ | .gcOnly _ => false
  | _ => true
def masks : List Oper → List Nat → List Nat
  | [], acc => acc
  | o :: r, acc => masks r (acc ++ [o.after.toList.foldl (fun s e => if bindsAll e then s ||| 2 ^ e.on ||| acc.getD e.on 0 else s) 0])
def orderOkAt (ops : List Oper) (lg : Log) (i : Nat) (a : Oper) : Nat → List Nat → List Oper → Bool
  | j, m :: ms, b :: r => (m.testBit i || apart ops lg i j a b) && orderOkAt ops lg i a (j + 1) ms r
  | _, _, _ => true
def orderOkFrom (ops : List Oper) (lg : Log) : Nat → List Nat → List Oper → Bool
  | i, _ :: ms, a :: r => orderOkAt ops lg i a (i + 1) ms r && orderOkFrom ops lg (i + 1) ms r
  | _, _, _ => true
def dstsOf (ops : List Oper) : List Nat := ops.filterMap (·.dst)
def regionOk (nt : Nat) (ops : List Oper) : Bool := nodupB (dstsOf ops) && (dstsOf ops).all fun d => Nat.blt d nt
def okB (nt : Nat) : Code → Bool
  | .region _ ops _ => regionOk nt ops.toList
  | .seq a b | .cond _ a b => okB nt a && okB nt b
  | .block _ c | .loop c => okB nt c
  | .rangeFunc _ ps as c => okB nt as && okB nt c && ps.toList.all fun d => Nat.blt d nt
  | _ => true
def edgesOk : Nat → List Oper → Bool
  | _, [] => true
  | i, o :: r => (o.after.toList.all fun e => !bindsAll e || Nat.blt e.on i) && edgesOk (i + 1) r
def orderOk (ops : List Oper) (lg : Log) : Bool := edgesOk 0 ops && orderOkFrom ops lg 0 (masks ops []) ops
def loopL {X S R : Type} (f : X → S → Option (S ⊕ R)) : List X → S → Option (S ⊕ R)
  | [], s => some (.inl s)
  | x :: l, s => (f x s).bind fun j => match j with
    | .inl s' => loopL f l s'
    | .inr r => some (.inr r)
def Total {X S R : Type} (f : X → S → Option (S ⊕ R)) (l : List X) (s : S) : Prop :=
  ∀ (pre : List X) (x : X) (s' : S), pre.length < l.length → (∀ y, y ∈ pre → y ∈ l) → x ∈ l → loopL f pre s = some (.inl s') → ∃ j, f x s' = some j
open Classical in
noncomputable def loopT {X S R : Type} (f : X → S → Option (S ⊕ R)) (l : List X) (s : S) : Option (S ⊕ R) := if Total f l s then loopL f l s else none
def rangeAt (σ : St) (g : Operand) (ps : Array Tmp) : Option ((e : Ty) × List e.den × Nat) :=
  match g, ps.toList with
  | .tmp q, [p] => match σ.env q with
    | some (.data (.seq e) xs _) => some ⟨e, xs, p⟩
    | _ => none
  | _, _ => none
def rangeIt (σ : St) (g : Operand) (ps : Array Tmp) (assign : Code) : Option (Nat × ((e : Ty) × Option (List e.den) × Nat × Nat)) :=
  match g, ps.toList, assign with
  | .tmp q, [p], .region _ ops false => match ops.toList with
    | [o] => match o.dst, o.op, o.guard with
      | some t, .assign (.tmp p'), none => if Nat.beq p p' && !Nat.beq t p then match σ.env q with
          | some (.iter b e F) => match σ.box b with
            | some ⟨_, .str, s, _, false⟩ => if e.scal then some (b, ⟨e, F s, p, t⟩) else none
            | _ => none
          | _ => none
        else none
      | _, _, _ => none
    | _ => none
  | _, _, _ => none
def noRange : Code → Bool
  | .seq a b | .cond _ a b => noRange a && noRange b
  | .block _ c | .loop c | .scope c => noRange c
  | .rangeFunc .. => false
  | _ => true
def St.setD (σ : St) (s : Nat) (t : Ty) (x : t.den) : St := { σ with env := upd σ.env s (some (.data t x [])) }
def St.clear (σ : St) (ws : List Nat) : St := { σ with env := fun s => if ws.any (fun i => Nat.beq i s) then none else σ.env s }
def Desc.boxy (L : Desc) : Bool := L.its.all (·.isBox)
def Desc.free (L : Desc) (ws : List Nat) (b : Nat) : Bool := !(ws.any fun i => Nat.beq i b) && !(L.kb.any fun i => Nat.beq i b) && !((toks L.its).any fun i => Nat.beq i b) && !(((L.its.filter (·.isBox)).map (·.id)).any fun i => Nat.beq i b)
noncomputable def codeK : Code → Ann → St → {A : Type} → (Ex → St → Option A) → Option A
  | .skip, _, σ, _, K => K .normal σ
  | .region _ ops d, n, σ, _, K => match n.thaw σ with
    | some σ => bif Γ.gown then none else opsK Γ ops.toList (ops.size + 1) none 0 ops.toList σ [] (fun σ' lg => if d && !orderOk ops.toList lg then none else K .normal σ')
    | none => none
  | .seq a b, n, σ, _, K => codeK a n.l σ (fun e σ' => match e with
    | .normal => codeK b n.r σ' K
    | e => K e σ')
  | .cond c a b, n, σ, A, K => match σ.bool c with
    | none => none
    | some g => match n with
      | .join L m m' => if L.ok σ (writes a ++ writes b) then (bif g then codeK a m { σ with dirty := fun _ => false } (A := L.den) (fun e σ' => match e with | .normal => L.grab σ' | _ => none)
          else codeK b m' { σ with dirty := fun _ => false } (A := L.den) (fun e σ' => match e with | .normal => L.grab σ' | _ => none)).bind fun s => K .normal ((L.put σ (writes a ++ writes b) s).back σ L) else none
      | .joinD L m m' => if L.ok σ (writes a ++ writes b) then (bif g then codeK a m { σ with dirty := fun _ => false } (A := L.den ⊕ A) (fun e σ' => match e with | .normal => (L.grab σ').map .inl | e => (K e (σ'.soil σ.dirty)).map .inr)
          else codeK b m' { σ with dirty := fun _ => false } (A := L.den ⊕ A) (fun e σ' => match e with | .normal => (L.grab σ').map .inl | e => (K e (σ'.soil σ.dirty)).map .inr)).bind fun s => match s with
            | .inl s => K .normal ((L.put σ (writes a ++ writes b) s).back σ L)
            | .inr r => some r
          else none
      | n => bif g then codeK a n.l σ K else codeK b n.r σ K
  | .block id c, n, σ, _, K => codeK c n.l σ (fun e σ' => match e with
    | .exit i => if i = id then K .normal σ' else K (.exit i) σ'
    | e => K e σ')
  | .loop c, n, σ, A, K => match n with
    | .loopB L B id a => if L.ok σ (writes c) && B.ok σ (writes c) then match L.grab0 σ with
      | none => none
      | some s0 => (loopM (fun (s : L.den) => codeK c a (L.put σ (writes c) s) (A := L.den ⊕ B.den) (fun e σ' => match e with
          | .normal => (L.grab σ').map .inl
          | .exit i => if i = id then (B.grab (σ'.soil L.gone)).map .inr else none
          | .ret => none)) s0).bind fun b => K (.exit id) ((B.put σ (writes c) b).back σ B)
      else none
    | .loopBD L B id a => if L.ok σ (writes c) && B.ok σ (writes c) then match L.grab0 σ with
      | none => none
      | some s0 => (loopM (fun (s : L.den) => codeK c a (L.put σ (writes c) s) (A := L.den ⊕ (B.den ⊕ A)) (fun e σ' => match e with
          | .normal => (L.grab σ').map .inl
          | .exit i => if i = id then (B.grab (σ'.soil L.gone)).map fun b => .inr (.inl b) else (K (.exit i) (σ'.soil fun b => σ.dirty b || L.gone b)).map fun a => .inr (.inr a)
          | .ret => (K .ret (σ'.soil fun b => σ.dirty b || L.gone b)).map fun a => .inr (.inr a))) s0).bind fun b => match b with
            | .inl b => K (.exit id) ((B.put σ (writes c) b).back σ B)
            | .inr r => some r
      else none
    | .loopD L a => if L.ok σ (writes c) then match L.grab0 σ with
      | none => none
      | some s0 => loopM (fun (s : L.den) => codeK c a (L.put σ (writes c) s) (A := L.den ⊕ A) (fun e σ' => match e with
          | .normal => (L.grab σ').map .inl
          | e => (K e (σ'.soil fun b => σ.dirty b || L.gone b)).map fun a => .inr a)) s0
      else none
    | _ => none
  | .rangeFunc g ps as c, n, σ, A, K => match n with
    | .loopD L a => match rangeAt σ g ps with
      | none => match rangeIt σ g ps as with
        | none => none
        | some (b, ⟨e, xs, _, t⟩) => if L.ok σ (writes (.rangeFunc g ps as c)) && (L.boxy && (noRange c && !Γ.maps)) && L.free (writes (.rangeFunc g ps as c)) b then match L.grab0 σ with
          | none => none
          | some s0 => xs.bind fun xs => (loopT (fun (x : e.den) (s : L.den) => codeK c a ((L.put σ (writes (.rangeFunc g ps as c)) s).setD t e x) (A := L.den ⊕ A) (fun ex σ' => if σ'.dirty b || σ'.tok b then none else match ex with
              | .normal => (L.grab (σ'.clear (writes (.rangeFunc g ps as c)))).map .inl
              | ex => (K ex ((σ'.clear (writes (.rangeFunc g ps as c))).soil fun b => σ.dirty b || L.gone b)).map .inr)) xs s0).bind fun j => match j with
                | .inl s => K .normal ((L.put σ (writes (.rangeFunc g ps as c)) s).soil fun b => σ.dirty b || L.gone b)
                | .inr r => some r
          else none
      | some ⟨e, xs, p⟩ => if L.ok σ (writes (.rangeFunc g ps as c)) && (L.boxy && (noRange c && noRange as && !Γ.maps)) then match L.grab0 σ with
        | none => none
        | some s0 => (loopT (fun (x : e.den) (s : L.den) => codeK as .nil ((L.put σ (writes (.rangeFunc g ps as c)) s).setD p e x) (A := L.den ⊕ A) (fun ex0 σ1 => match ex0 with
            | .normal => codeK c a σ1 (A := L.den ⊕ A) (fun ex σ' => match ex with
              | .normal => (L.grab (σ'.clear (writes (.rangeFunc g ps as c)))).map .inl
              | ex => (K ex ((σ'.clear (writes (.rangeFunc g ps as c))).soil fun b => σ.dirty b || L.gone b)).map .inr)
            | _ => none)) xs s0).bind fun j => match j with
              | .inl s => K .normal ((L.put σ (writes (.rangeFunc g ps as c)) s).soil fun b => σ.dirty b || L.gone b)
              | .inr r => some r
        else none
    | _ => none
  | .exit id, _, σ, _, K => K (.exit id) σ
  | .ret, _, σ, _, K => K .ret σ
  | _, _, _, _, _ => none
def startEnv : (ts : List Ty) → Nat → Args ts → Nat → Option AVal
  | [], _, _ => fun _ => none
  | [t], i, x => upd (fun _ => none) i (some (.data t x []))
  | t :: u :: r, i, x => upd (startEnv (u :: r) (i + 1) x.2) i (some (.data t x.1 []))
def resultOf (σ : St) (t : Ty) : ResultVar → Option t.den
  | .tmp s => AVal.get (σ.env s) t
  | .cell s T => if Γ.ty T = some t then match σ.env s with
    | some (.bptr b []) => match σ.box b with
      | some B => if B.rows then none else castTy B.t t B.x
      | none => none
    | _ => none
    else none
def results (σ : St) : (ts : List Ty) → List ResultVar → Option (Args ts)
  | [], [] => some ()
  | [t], [r] => resultOf Γ σ t r
  | t :: u :: ts, r :: rs => match resultOf Γ σ t r, results σ (u :: ts) rs with
    | some v, some w => some (v, w)
    | _, _ => none
  | _, _ => none
noncomputable def funK (fn : Func) (n : Ann) (ats rts : List Ty) (x : Args ats) : Option (Args rts) :=
  match fn.body with
  | some c => if okB fn.ntmps c && Nat.ble ats.length fn.ntmps then codeK Γ c n { env := startEnv ats 0 x, box := fun _ => none, tok := fun _ => false, dirty := fun _ => false } (fun e σ => match e with
    | .exit _ => none
    | _ => results Γ σ rts fn.results.toList) else none
  | none => none
end
end Go.Lift
