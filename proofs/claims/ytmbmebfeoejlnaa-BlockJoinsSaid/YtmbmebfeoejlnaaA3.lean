/- The abstract machine: slots, objects (rows that are the call's own), boxes (variables in memory), and what each operation does to them. -/
import Derived.Test.YtmbmebfeoejlnaaA2
namespace Go.Proofs.Ytmbmebfeoejlnaa.Ab
set_option linter.unusedVariables false
set_option linter.unusedSimpArgs false
open Go.RowKit

/-- What one cell holds: plain data (shared), or the row at path p of object i (as it was at version v, s), of which the first m elements. -/
inductive LV where
  | d (x : D)
  | ref (i v : Nat) (p : List Nat) (s : Nat) (m : Option Nat)
  deriving Inhabited
inductive AV where
  | l (x : LV)
  | agg (xs : List LV)
  | tup (xs : List (Bool × List LV))
  | fld (j v off : Nat)
  | el (i v : Nat) (p : List Nat) (s c : Nat)
  | adr (xs : List D)
  | ub
  | und
  | dead
  deriving Inhabited
inductive Ob where
  | dead | own | fz
  deriving DecidableEq, Inhabited
structure Obj where
  v : Nat
  s : Nat
  st : Ob
  e : Nat
  k : Nat
  xs : List D
  deriving Inhabited
structure Box where
  v : Nat
  live : Bool
  t : Nat
  cs : List LV
  deriving Inhabited
def Obj.d (o : Obj) : D := .sl false o.e o.k o.xs
structure St where
  s : Nat → AV
  o : Nat → Obj
  b : Nat → Box
def upd {α : Type} (f : Nat → α) (i : Nat) (x : α) : Nat → α := fun j => if j = i then x else f j
inductive Wr where
  | s (t : Nat) (x : AV)
  | o (i : Nat) (x : Obj)
  | b (j : Nat) (x : Box)
def St.wr (σ : St) : Wr → St
  | .s t x => { σ with s := upd σ.s t x }
  | .o i x => { σ with o := upd σ.o i x }
  | .b j x => { σ with b := upd σ.b j x }
def St.wrs (σ : St) (ws : List Wr) : St := ws.foldl St.wr σ
/-- An operation's effect: it reads places one by one, and writes at its end. -/
inductive E where
  | done (ws : List Wr)
  | rdS (t : Nat) (k : AV → E)
  | rdO (i : Nat) (k : Obj → E)
  | rdB (j : Nat) (k : Box → E)
  | fail
def E.run (σ : St) : E → Option (List Wr)
  | .done ws => some ws
  | .rdS t k => (k (σ.s t)).run σ
  | .rdO i k => (k (σ.o i)).run σ
  | .rdB j k => (k (σ.b j)).run σ
  | .fail => none
inductive Loc where
  | s (t : Nat) | o (i : Nat) | b (j : Nat)
  deriving DecidableEq
def E.reads (σ : St) : E → List Loc
  | .done _ => []
  | .rdS t k => .s t :: (k (σ.s t)).reads σ
  | .rdO i k => .o i :: (k (σ.o i)).reads σ
  | .rdB j k => .b j :: (k (σ.b j)).reads σ
  | .fail => []
def Wr.loc : Wr → Loc
  | .s t _ => .s t
  | .o i _ => .o i
  | .b j _ => .b j

/-! types, off the program -/
def tsz (P : Program) (t : Nat) : Nat := ((P.info? t).map (·.size)).getD 0
def tby (P : Program) (t : Nat) : Nat := ((P.info? t).map (·.bytes)).getD 0
def tagg (P : Program) (t : Nat) : Bool := match P.underlying t with
  | some (.struct _) | some (.array _ _) => true
  | _ => false
def tkn (P : Program) (t : Nat) : Bool := (P.underlying t).isSome
/-- an integer's kind -/
def tint (P : Program) (t : Nat) : Option IntKind := match P.underlying t with
  | some (.int k) => some k
  | _ => none
def tstr (P : Program) (t : Nat) : Bool := match P.underlying t with
  | some .string => true
  | _ => false
def tel (P : Program) (t : Nat) : Option Nat := match P.underlying t with
  | some (.slice e) => some e
  | _ => none
/-- an array's length and element's type -/
def tarr (P : Program) (t : Nat) : Option (Nat × Nat) := match P.underlying t with
  | some (.array n e) => some (n, e)
  | _ => none
def tfld (P : Program) (t f : Nat) : Option (Nat × Nat) := match P.underlying t with
  | some (.struct fs) => (fs[f]?).map fun x => (x.offset, x.type)
  | _ => none
/-- where a struct's or an array's parts lie: offset, size -/
def tpl (P : Program) (t : Nat) : Option (Nat → Option (Nat × Nat)) := match P.underlying t with
  | some (.struct fs) => (fs.toList.mapM fun f => (P.info? f.type).map fun i => (f.offset, i.size)).map fun l i => l[i]?
  | some (.array _ e) => (P.info? e).map fun i j => some (j * i.size, i.size)
  | _ => none
def tplace (P : Program) (t f : Nat) : Option (Nat × Nat) := (tpl P t).bind fun g => g f
def tplOk (P : Program) (t : Nat) : Bool := (tpl P t).isSome
/-- nil is told as an empty slice that isn't shared -/
def constD : Value → D
  | .slice none 0 0 => .sl false 0 0 []
  | v => .lit v
def constT (P : Program) (t : Nat) : Value → D
  | .slice none 0 0 => match tel P t with
    | some e => .sl false e (tsz P e) []
    | none => .sl false 0 0 []
  | v => .lit v
/-- a type's leaves: of each the type -/
def tleafs (P : Program) : Nat → Nat → List Nat
  | 0, t => [t]
  | n + 1, t => match P.underlying t with
    | some (.struct fs) => fs.toList.flatMap fun f => tleafs P n f.type
    | some (.array m e) => (List.replicate m (tleafs P n e)).flatten
    | _ => [t]
def zipT (P : Program) : List Value → List Nat → List D
  | [], _ => []
  | v :: vs, [] => constD v :: zipT P vs []
  | v :: vs, t :: ts => constT P t v :: zipT P vs ts
def tzero (P : Program) (t : Nat) : Option (List D) := match P.info? t with
  | some i => match i.zero with
    | some z => if z.cells.size = i.size ∧ (z.cells.all fun u => u.oneCell') then some (zipT P z.cells.toList (tleafs P 8 t)) else none
    | none => none
  | none => none

/-! data -/
def D.flat : D → Bool
  | .sl false _ _ _ => false
  | .hole => false
  | _ => true
mutual
/-- all of it is shared -/
def shareC : D → D
  | .sl _ e k xs => .sl true e k (shareL xs)
  | x => x
def shareL : List D → List D
  | [] => []
  | x :: xs => shareC x :: shareL xs
end
def D.len : D → Nat
  | .sl _ _ k xs => xs.length / k
  | _ => 0
def cutD : D → Option Nat → D
  | .sl sh e k xs, some m => .sl sh e k (xs.take (m * k))
  | x, _ => x

def opdT (P : Program) (t : Nat) (x : Operand) (k : AV → E) : E := match x with
  | .tmp t => .rdS t k
  | .const v => if v.oneCell' then k (.l (.d (constT P t v))) else .fail
  | _ => .fail
def opd (x : Operand) (k : AV → E) : E := match x with
  | .tmp t => .rdS t k
  | .const v => if v.oneCell' then k (.l (.d (constD v))) else .fail
  | _ => .fail
/-- the data that a leaf holds now -/
def lvD (l : LV) (k : D → E) : E := match l with
  | .d x => k x
  | .ref i v p s m => .rdO i fun o =>
    if o.v = v ∧ o.st ≠ .dead ∧ (p = [] ∨ o.s = s) then match o.d.at p with
      | some (.sl sh e kk xs) => k (cutD (.sl sh e kk xs) m)
      | _ => .fail
    else .fail
def lvsD : List LV → (List D → E) → E
  | [], k => k []
  | l :: ls, k => lvD l fun x => lvsD ls fun xs => k (x :: xs)
def leafs (x : AV) (k : List LV → E) : E := match x with
  | .l l => k [l]
  | .agg ls => k ls
  | _ => .fail
/-- a leaf's data moved into another whole: the data there, what is written, the object that is used up -/
def moveIn (fz : Bool) (l : LV) (used : List Nat) (k : D → List Wr → List Nat → E) : E := match l with
  | .d x => k x [] used
  | .ref i v p s m => .rdO i fun o =>
    if o.v = v ∧ o.st ≠ .dead ∧ (p = [] ∨ o.s = s) ∧ i ∉ used then match o.d.at p with
      | some (.sl sh e kk xs) =>
        if o.st = .fz then k (shareC (cutD (.sl sh e kk xs) m)) [] used
        else if fz then k (shareC (cutD (.sl sh e kk xs) m)) [.o i { o with st := .fz }] used
        else if p = [] then k (cutD (.sl false e kk xs) m) [.o i { o with st := .dead }] (i :: used)
        else .fail
      | _ => .fail
    else .fail
def movesIn (fz : Bool) : List LV → List Nat → (List D → List Wr → List Nat → E) → E
  | [], used, k => k [] [] used
  | l :: ls, used, k => moveIn fz l used fun x ws used1 => movesIn fz ls used1 fun xs ws2 used2 => k (x :: xs) (ws ++ ws2) used2

def binV (op : BinOp) (x y : Value) : Option Value := match op, x, y with
  | .shl, .int k a, .int _ b => if 0 ≤ b then some (.int k (k.wrap (a * 2 ^ min b.toNat k.bits))) else none
  | .shr, .int k a, .int _ b => if 0 ≤ b then some (.int k (a.fdiv (2 ^ min b.toNat k.bits))) else none
  | .add, .int k a, .int k' b => if k = k' then some (.int k (k.wrap (a + b))) else none
  | .sub, .int k a, .int k' b => if k = k' then some (.int k (k.wrap (a - b))) else none
  | .mul, .int k a, .int k' b => if k = k' then some (.int k (k.wrap (a * b))) else none
  | .quo, .int k a, .int k' b => if k = k' ∧ b ≠ 0 then some (.int k (k.wrap (a.tdiv b))) else none
  | .rem, .int k a, .int k' b => if k = k' ∧ b ≠ 0 then some (.int k (a.tmod b)) else none
  | .and, .int k a, .int k' b => if k = k' then some (.int k (k.wrap (BitVec.ofInt k.bits a &&& BitVec.ofInt k.bits b).toNat)) else none
  | .or, .int k a, .int k' b => if k = k' then some (.int k (k.wrap (BitVec.ofInt k.bits a ||| BitVec.ofInt k.bits b).toNat)) else none
  | .xor, .int k a, .int k' b => if k = k' then some (.int k (k.wrap (BitVec.ofInt k.bits a ^^^ BitVec.ofInt k.bits b).toNat)) else none
  | .eql, .int k a, .int k' b => if k = k' then some (.bool (a == b)) else none
  | .neq, .int k a, .int k' b => if k = k' then some (.bool (a != b)) else none
  | .lss, .int k a, .int k' b => if k = k' then some (.bool (decide (a < b))) else none
  | .leq, .int k a, .int k' b => if k = k' then some (.bool (decide (a ≤ b))) else none
  | .gtr, .int k a, .int k' b => if k = k' then some (.bool (decide (a > b))) else none
  | .geq, .int k a, .int k' b => if k = k' then some (.bool (decide (a ≥ b))) else none
  | .eql, .string a, .string b => some (.bool (a.toList == b.toList))
  | .neq, .string a, .string b => some (.bool !(a.toList == b.toList))
  | _, _, _ => none
def unV (op : UnOp) (x : Value) : Option Value := match op, x with
  | .neg, .int k n => some (.int k (k.wrap (0 - n)))
  | .not, .bool b => some (.bool !b)
  | _, _ => none
def litE (x : AV) (k : Value → E) : E := match x with
  | .l (.d (.lit v)) => k v
  | _ => .fail
def setS (d : Option Nat) (x : AV) : List Wr := match d with
  | some t => [.s t x]
  | none => []
def minV : List Value → Option Value
  | [.int k a, .int k' b] => if k = k' then some (.int k (if b < a then b else a)) else none
  | [.int k a, .int k' b, .int k'' c] => if k = k' ∧ k = k'' then some (.int k (if c < (if b < a then b else a) then c else if b < a then b else a)) else none
  | _ => none
def maxV : List Value → Option Value
  | [.int k a, .int k' b] => if k = k' then some (.int k (if a < b then b else a)) else none
  | [.int k a, .int k' b, .int k'' c] => if k = k' ∧ k = k'' then some (.int k (if (if a < b then b else a) < c then c else if a < b then b else a)) else none
  | _ => none

inductive Arg where
  | val (agg : Bool) (xs : List D)
  | ptr (xs : List D)
structure Out where
  res : List (Bool × List D)
  st : List (List D)
abbrev Spec := List Arg → Option Out
end Go.Proofs.Ytmbmebfeoejlnaa.Ab
