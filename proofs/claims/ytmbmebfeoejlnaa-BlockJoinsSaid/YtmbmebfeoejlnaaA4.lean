/- The abstract machine: what each operation does. -/
import Derived.Test.YtmbmebfeoejlnaaA3
namespace Go.Proofs.Ytmbmebfeoejlnaa.Ab
set_option linter.unusedVariables false
set_option linter.unusedSimpArgs false
open Go.RowKit

structure Cx where
  P : Program
  N : Nat
  ct : Nat → Option Spec
  fz : Nat → Bool

def putAt {α : Type} (xs : List α) (a : Nat) (ys : List α) : List α := xs.take a ++ ys ++ xs.drop (a + ys.length)
def site (o : Oper) : Nat := 64 * o.dst.getD 0
def isLit : D → Bool
  | .lit _ => true
  | _ => false
def Obj.xsOf (o : Obj) : D → List D
  | .sl _ _ _ xs => xs
  | _ => o.xs
def Obj.up (o : Obj) (f : D → D) (p : List Nat) : List D := o.xsOf (o.d.upd f p)
/-- the row at path p of an object, if the reference is still good -/
def nodeE (i v : Nat) (p : List Nat) (s : Nat) (k : Obj → D → E) : E := .rdO i fun o =>
  if o.v = v ∧ o.st ≠ .dead ∧ (p = [] ∨ o.s = s) then match o.d.at p with
    | some x => k o x
    | none => .fail
  else .fail
def lvsOf (ls : List LV) (k : List LV) : List LV := ls ++ k

/-- results of a call -/
def leafRes (id : Nat) (x : D) (k : LV → List Wr → E) : E := match x with
  | .sl false e kk xs => .rdO id fun ob => k (.ref id (ob.v + 1) [] 0 none) [.o id ⟨ob.v + 1, 0, .own, e, kk, xs⟩]
  | .hole => .fail
  | x => k (.d x) []
def leafsRes (id : Nat) : List D → (Nat → List LV → List Wr → E) → E
  | [], k => k id [] []
  | x :: xs, k => leafRes id x fun l ws => leafsRes (id + 1) xs fun id2 ls ws2 => k id2 (l :: ls) (ws ++ ws2)
def valsRes (id : Nat) : List (Bool × List D) → (List (Bool × List LV) → List Wr → E) → E
  | [], k => k [] []
  | (b, xs) :: r, k => leafsRes id xs fun id2 ls ws => valsRes id2 r fun vs ws2 => k ((b, ls) :: vs) (ws ++ ws2)
def avOf : List (Bool × List LV) → AV
  | [(false, [l])] => .l l
  | [(true, ls)] => .agg ls
  | vs => .tup vs
def anyShared : List (Bool × List D) → Bool := fun rs => rs.any fun r => r.2.any fun x => match x with
  | .sl true _ _ _ => true
  | _ => false
/-- the objects that leaves lead to are frozen -/
def freezeE : List LV → (List Wr → E) → E
  | [], k => k []
  | .d _ :: ls, k => freezeE ls k
  | .ref i _ _ _ _ :: ls, k => .rdO i fun o => if o.st = .dead then .fail else freezeE ls fun ws => k (.o i { o with st := .fz } :: ws)
def litsOf : List LV → Option (List D)
  | [] => some []
  | .d (.lit v) :: ls => (litsOf ls).map (.lit v :: ·)
  | _ => none
def argE (x : AV) (k : Arg → List LV → List Nat → E) : E := match x with
  | .l (.d x) => k (.val false [x]) [.d x] []
  | .l l => lvD l fun x => k (.val false [shareC x]) [l] []
  | .agg ls => lvsD ls fun xs => k (.val true xs) ls []
  | .fld j v 0 => .rdB j fun b => if b.live ∧ b.v = v then match litsOf b.cs with
      | some xs => k (.ptr xs) [] [j]
      | none => .fail
    else .fail
  | _ => .fail
def argsE (P : Program) : List Operand → List Nat → (List Arg → List LV → List Nat → E) → E
  | [], _, k => k [] [] []
  | x :: xs, ts, k => opdT P (ts.headD 0) x fun a => argE a fun g ls bs => argsE P xs ts.tail fun gs ls2 bs2 => k (g :: gs) (ls ++ ls2) (bs ++ bs2)
/-- the variable that a call was handed to change -/
def boxE : List Nat → List (List D) → (List Wr → E) → E
  | [], [], k => k []
  | [j], [xs], k => .rdB j fun b => if xs.length = b.cs.length ∧ xs.all isLit then k [.b j { b with cs := xs.map .d }] else .fail
  | _, _, _ => .fail
def callE (P : Program) (o : Oper) (sp : Spec) (args : List Operand) (ts : List Nat) : E := argsE P args ts fun gs ls bs =>
  match sp gs with
  | none => .fail
  | some out => (if anyShared out.res then freezeE ls else fun k => k []) fun fw => boxE bs out.st fun bw =>
      valsRes (site o) out.res fun vs ws => .done (fw ++ bw ++ ws ++ setS o.dst (avOf vs))

/-- what is appended: the data, what is written, the object that is used up -/
def newsE (k : Nat) (y : LV) (c : List D → List Wr → List Nat → E) : E := match y with
  | .d (.sl _ _ k' ys) => if k' = k ∨ k' = 0 then c (ys.map shareC) [] [] else .fail
  | .ref i v p s m => nodeE i v p s fun o x => match cutD x m with
    | .sl _ _ k' ys => if k' = k ∨ k' = 0 then
        if o.st = .fz then c (ys.map shareC) [] []
        else if ys.all D.flat then c ys [] []
        else if p = [] ∧ m = none then c ys [.o i { o with st := .dead }] [i] else .fail
      else .fail
    | _ => .fail
  | _ => .fail
def fitsL (P : Program) (e k n : Nat) : Bool := decide (n / k ≤ maxL ∧ n / k * tby P e ≤ maxL)
def appE (C : Cx) (o : Oper) (e : Nat) (x y : LV) : E :=
  let k := tsz C.P e
  if k = 0 ∨ (tzero C.P e).isNone then .fail else newsE k y fun ys yw used => match x with
  | .d (.sl false _ _ _) => if fitsL C.P e k ys.length then .rdO (site o) fun ob =>
      .done (yw ++ [.o (site o) ⟨ob.v + 1, 0, .own, e, k, ys⟩] ++ setS o.dst (.l (.ref (site o) (ob.v + 1) [] 0 none))) else .fail
  | .ref i v p s m => nodeE i v p s fun ob x => match cutD x m with
    | .sl false e' k' xs => if ob.st = .own ∧ i ∉ used ∧ e' = e ∧ k' = k ∧ fitsL C.P e k (xs.length + ys.length) then
        if p = [] then .done (yw ++ [.o i ⟨ob.v + 1, 0, .own, e, k, xs ++ ys⟩] ++ setS o.dst (.l (.ref i (ob.v + 1) [] 0 none)))
        else if site o = i ∨ site o ∈ used then .fail else .rdO (site o) fun nb => .done (yw ++ [.o i { ob with s := ob.s + 1, xs := ob.up (fun _ => .hole) p }, .o (site o) ⟨nb.v + 1, 0, .own, e, k, xs ++ ys⟩] ++ setS o.dst (.l (.ref (site o) (nb.v + 1) [] 0 none)))
      else .fail
    | _ => .fail
  | _ => .fail
def lenE (C : Cx) (t : Nat) (x : AV) (k : Int → E) : E := match x with
  | .l (.d (.lit (.string s))) => if tstr C.P t then k s.size else .fail
  | .l l => if (tel C.P t).isSome then lvD l fun x => match x with
      | .sl _ _ kk xs => k ((xs.length / kk : Nat) : Int)
      | _ => .fail
    else .fail
  | _ => .fail
def litsE : List Operand → (List Value → E) → E
  | [], k => k []
  | x :: xs, k => opd x fun a => litE a fun v => litsE xs fun vs => k (v :: vs)
def zeros (z : List D) : Nat → List D
  | 0 => []
  | n + 1 => z ++ zeros z n
/-- so many noughts behind a nil slice -/
def appMakeE (C : Cx) (o : Oper) (t t' : Nat) (x y : LV) : E := match x, y with
  | .d (.sl false _ _ []), .d (.lit (.int _ n)) => match tel C.P t with
    | some e => match tzero C.P e with
      | some z => if 0 < z.length ∧ (tint C.P t').isSome ∧ 1 ≤ n ∧ n ≤ (maxL : Int) ∧ n * (tby C.P e : Int) ≤ (maxL : Int) then .rdO (site o) fun ob =>
          .done ([.o (site o) ⟨ob.v + 1, 0, .own, e, z.length, zeros z n.toNat⟩] ++ setS o.dst (.l (.ref (site o) (ob.v + 1) [] 0 none))) else .fail
      | none => .fail
    | none => .fail
  | _, _ => .fail
/-- the capacity of nil -/
def capE (C : Cx) (o : Oper) (x : AV) (ts : List Nat) : E := match x, ts with
  | .l (.d (.sl false _ _ [])), [t] => if (tel C.P t).isSome then .done (setS o.dst (.l (.d (.lit (.int .i64 0))))) else .fail
  | _, _ => .fail
def builtinE (C : Cx) (o : Oper) (b : Builtin) (args : List Operand) (ts : List Nat) : E := match b, args with
  | .len, [x] => opd x fun a => match ts with
    | [t] => lenE C t a fun n => .done (setS o.dst (.l (.d (.lit (.int .i64 n)))))
    | _ => .fail
  | .cap, [x] => opd x fun a => capE C o a ts
  | .min, xs => litsE xs fun vs => match minV vs with
    | some v => .done (setS o.dst (.l (.d (.lit v))))
    | none => .fail
  | .max, xs => litsE xs fun vs => match maxV vs with
    | some v => .done (setS o.dst (.l (.d (.lit v))))
    | none => .fail
  | .append, [x, y] => opd x fun a => opd y fun c => match a, c, ts with
    | .l lx, .l ly, [t, t'] => if t' = t then match tel C.P t with
        | some e => appE C o e lx ly
        | none => .fail
      else appMakeE C o t t' lx ly
    | _, _, _ => .fail
  | _, _ => .fail

def intE (x : Option Operand) (dflt : Int) (k : Int → E) : E := match x with
  | none => k dflt
  | some x => opd x fun a => litE a fun v => match v with
    | .int _ n => k n
    | _ => .fail
/-- does a slice type's element type go with a row's -/
def tokE (P : Program) (t e k : Nat) : Bool := match tel P t with
  | some e' => decide (tsz P e' ≠ 0 ∧ (e' = e ∧ tsz P e' = k ∨ k = 0))
  | none => false
def sliceE (C : Cx) (o : Oper) (t : Nat) (x : AV) (lo hi : Option Operand) : E := match x with
  | .l (.d (.lit (.string s))) => if tstr C.P t then intE lo 0 fun l => intE hi s.size fun h =>
      if 0 ≤ l ∧ l ≤ h ∧ h ≤ s.size then .done (setS o.dst (.l (.d (.lit (.string (s.extract l.toNat h.toNat)))))) else .fail
    else .fail
  | .l (.d (.sl false e k [])) => if tokE C.P t e k ∧ lo = none then intE hi 0 fun h => if h = 0 then .done (setS o.dst (.l (.d (.sl false e k [])))) else .fail else .fail
  | .l (.d (.sl _ e k xs)) => if tokE C.P t e k then intE lo 0 fun l => intE hi ((xs.length / k : Nat) : Int) fun h =>
      if 0 ≤ l ∧ l ≤ h ∧ h ≤ ((xs.length / k : Nat) : Int) then .done (setS o.dst (.l (.d (.sl true e k ((xs.take (h.toNat * k)).drop (l.toNat * k)))))) else .fail
    else .fail
  | .l (.ref i v p s m) => nodeE i v p s fun ob x => match cutD x m with
    | .sl _ e k xs => if tokE C.P t e k then intE hi ((xs.length / k : Nat) : Int) fun h =>
        if 0 ≤ h ∧ h ≤ ((xs.length / k : Nat) : Int) then match lo with
          | none => .done (setS o.dst (.l (.ref i v p s (some h.toNat))))
          | some _ => intE lo 0 fun l => if 0 ≤ l ∧ l ≤ h then .done ([.o i { ob with st := .fz }] ++ setS o.dst (.l (.d (shareC (.sl true e k ((xs.take (h.toNat * k)).drop (l.toNat * k))))))) else .fail
        else .fail
      else .fail
    | _ => .fail
  | _ => .fail
def idxAddrE (C : Cx) (o : Oper) (t : Nat) (x : AV) (n : Int) : E := match x with
  | .l (.d (.sl _ e k xs)) => if tel C.P t = some e ∧ tsz C.P e = k ∧ 0 < k ∧ 0 ≤ n ∧ n < ((xs.length / k : Nat) : Int) then .done (setS o.dst (.adr (xs.drop (n.toNat * k)))) else .fail
  | .l (.ref i v p s m) => nodeE i v p s fun ob x => match x with
    | .sl sh e k xs => if tel C.P t = some e ∧ tsz C.P e = k ∧ 0 < k ∧ 0 ≤ n ∧ n < ((cutD x m).len : Int) then
        if ob.st = .own ∧ sh = false then .done (setS o.dst (.el i v p s (n.toNat * k))) else if ob.st = .fz then .done (setS o.dst (.adr (xs.drop (n.toNat * k)))) else .fail
      else .fail
    | _ => .fail
  | .fld j v off => .rdB j fun b => if b.live ∧ b.v = v then match tarr C.P t with
      | some (m, e) => if 0 ≤ n ∧ n < (m : Int) ∧ tsz C.P e ≠ 0 then .done (setS o.dst (.fld j v (off + n.toNat * tsz C.P e))) else .fail
      | none => .fail
    else .fail
  | _ => .fail
def toLV (i v : Nat) (p : List Nat) (s c : Nat) : D → Option LV
  | .lit u => some (.d (.lit u))
  | .sl true e k xs => some (.d (.sl true e k xs))
  | .sl false _ _ _ => some (.ref i v (p ++ [c]) s none)
  | .hole => none
def toLVs (i v : Nat) (p : List Nat) (s : Nat) : Nat → List D → Option (List LV)
  | _, [] => some []
  | c, x :: xs => match toLV i v p s c x, toLVs i v p s (c + 1) xs with
    | some l, some ls => some (l :: ls)
    | _, _ => none
/-- so many leaves as a value of type t -/
def loaded (P : Program) (o : Oper) (t : Nat) (ls : List LV) : E :=
  if tagg P t then (if ls.length = tsz P t then .done (setS o.dst (.agg ls)) else .fail) else match ls with
    | [l] => .done (setS o.dst (.l l))
    | _ => .fail
def loadE (C : Cx) (o : Oper) (t : Nat) (x : AV) : E :=
  let n := if tagg C.P t then tsz C.P t else 1
  if tkn C.P t = false ∨ tsz C.P t = 0 then .fail else match x with
  | .fld j v off => .rdB j fun b => if b.live ∧ b.v = v then loaded C.P o t ((b.cs.drop off).take n) else .fail
  | .adr xs => loaded C.P o t ((xs.take n).map fun x => .d (shareC x))
  | .el i v p s c => nodeE i v p s fun ob x => match x with
    | .sl sh _ _ xs => if ob.st = .fz then loaded C.P o t (((xs.drop c).take n).map fun x => .d (shareC x)) else if sh then .fail else match toLVs i v p ob.s c ((xs.drop c).take n) with
        | some ls => loaded C.P o t ls
        | none => .fail
    | _ => .fail
  | _ => .fail
/-- a row that was cut goes back to its own place -/
def storeSame (o : Oper) (i c : Nat) (p : List Nat) (ob : Obj) (xs : List D) (m : Option Nat) : E := match xs[c]? with
  | some (.sl false e2 k2 zs) => .done ([.o i { ob with s := ob.s + 1, xs := ob.up (D.setC c (cutD (.sl false e2 k2 zs) m)) p }] ++ setS o.dst .dead)
  | _ => .fail
def storeMove (o : Oper) (fz : Bool) (i c : Nat) (p : List Nat) (ob : Obj) (l : LV) : E :=
  moveIn fz l [i] fun y ws _ => .done (ws ++ [.o i { ob with s := ob.s + 1, xs := ob.up (D.setC c y) p }] ++ setS o.dst .dead)
def storeIn (C : Cx) (o : Oper) (i v c : Nat) (p : List Nat) (ob : Obj) (xs : List D) (l : LV) : E := match l with
  | .ref i' v' p' s' m' => if i' = i then (if v' = v ∧ p' = p ++ [c] ∧ ob.s = s' then storeSame o i c p ob xs m' else .fail) else storeMove o (C.fz (site o)) i c p ob l
  | .d _ => storeMove o false i c p ob l
def storeEl (C : Cx) (o : Oper) (i v : Nat) (p : List Nat) (s c : Nat) (l : LV) : E := nodeE i v p s fun ob x => match x with
  | .sl false _ _ xs => if ob.st = .own ∧ c < xs.length then storeIn C o i v c p ob xs l else .fail
  | _ => .fail
def storeE (C : Cx) (o : Oper) (t : Nat) (x : AV) (y : AV) : E := match x with
  | .fld j v off => leafs y fun ls => if ls.length ≠ tsz C.P t ∨ ls.length = 0 then .fail else .rdB j fun b =>
    if b.live ∧ b.v = v ∧ off + ls.length ≤ b.cs.length then .done ([.b j { b with cs := putAt b.cs off ls }] ++ setS o.dst .dead) else .fail
  | .el i v p s c => match y with
    | .l l => if tsz C.P t = 1 then storeEl C o i v p s c l else .fail
    | _ => .fail
  | _ => .fail
def fillL (P : Program) (t : Nat) : List LV → List (Nat × Operand) → (List LV → E) → E
  | cs, [], k => k cs
  | cs, (f, x) :: ps, k => opd x fun a => leafs a fun ls => match tplace P t f with
    | some (off, n) => if ls.length = n ∧ off + n ≤ cs.length then fillL P t (putAt cs off ls) ps k else .fail
    | none => .fail
def fillD (fz : Bool) (k : Nat) : List D → List (Nat × Operand) → List Nat → (List D → List Wr → E) → E
  | cs, [], _, c => c cs []
  | cs, (i, x) :: ps, used, c => opd x fun a => leafs a fun ls => if ls.length = k ∧ i * k + k ≤ cs.length then
      movesIn fz ls used fun ds ws used2 => fillD fz k (putAt cs (i * k) ds) ps used2 fun cs2 ws2 => c cs2 (ws ++ ws2)
    else .fail

def bytesOf : List D → Option (List Int)
  | [] => some []
  | .lit (.int .u8 n) :: xs => (bytesOf xs).map (n :: ·)
  | _ => none
def strOf (ns : List Int) : ByteArray := ns.foldl (fun r n => r.push (UInt8.ofNat n.toNat)) ByteArray.empty
/-- bytes (at least one) as a string -/
def bytesE (C : Cx) (o : Oper) (t : Nat) (x : AV) : E := match tel C.P t, x with
  | some e, .l l => if tint C.P e = some .u8 then lvD l fun x => match x with
      | .sl _ _ k (y :: ys) => if k = 1 then match bytesOf (y :: ys) with
          | some ns => .done (setS o.dst (.l (.d (.lit (.string (strOf ns))))))
          | none => .fail
        else .fail
      | _ => .fail
    else .fail
  | _, _ => .fail
def isNilC : Operand → Bool
  | .const (.slice none 0 0) => true
  | _ => false
/-- is a slice nil: of one that is empty that isn't known -/
def nilE (C : Cx) (o : Oper) (op : BinOp) (t : Nat) (x : AV) : E := if tel C.P t = none then .fail else match op with
  | .eql => nilB x fun b => .done (setS o.dst b)
  | _ => .fail
where nilB (x : AV) (k : AV → E) : E := match x with
  | .l (.d (.sl false _ _ _)) => k (.l (.d (.lit (.bool true))))
  | .l l => lvD l fun x => match x with
    | .sl _ _ _ [] => k .ub
    | .sl _ _ _ (_ :: _) => k (.l (.d (.lit (.bool false))))
    | _ => .fail
  | _ => .fail

def eff (C : Cx) (o : Oper) : E := match o.op with
  | .move x | .assign x => opdT C.P o.type x fun a => .done (setS o.dst a)
  | .pick c a b => opd c fun u => litE u fun v => match v with
    | .bool t => if t then opd a fun x => .done (setS o.dst x) else opd b fun x => .done (setS o.dst x)
    | _ => .fail
  | .alloc t => match tzero C.P t with
    | some z => .rdB (site o) fun b => .done ([.b (site o) ⟨b.v + 1, true, t, z.map .d⟩] ++ setS o.dst (.fld (site o) (b.v + 1) 0))
    | none => .fail
  | .box t x => opd x fun a => leafs a fun ls => if ls.length = tsz C.P t ∧ (tagg C.P t ∨ ls.length = 1) then .rdB (site o) fun b => .done ([.b (site o) ⟨b.v + 1, true, t, ls⟩] ++ setS o.dst (.fld (site o) (b.v + 1) 0)) else .fail
  | .build t parts => if tplOk C.P t then match tzero C.P t with
      | some z => fillL C.P t (z.map .d) parts.toList fun cs => .done (setS o.dst (.agg cs))
      | none => .fail
    else .fail
  | .buildSlice t len parts => match tel C.P t with
    | some e => match tzero C.P e with
      | some z => if 0 < z.length ∧ z.length = tsz C.P e ∧ len * z.length ≤ 16777216 then fillD (C.fz (site o)) z.length (zeros z len) parts.toList [site o] fun cs ws => .rdO (site o) fun ob =>
          .done (ws ++ [.o (site o) ⟨ob.v + 1, 0, .own, e, z.length, cs⟩] ++ setS o.dst (.l (.ref (site o) (ob.v + 1) [] 0 none))) else .fail
      | none => .fail
    | none => .fail
  | .load t x => opd x fun a => loadE C o t a
  | .store t x y => opd x fun a => opdT C.P t y fun b => storeE C o t a b
  | .nilCheck x => opd x fun a => match a with
    | .fld j v off => .rdB j fun b => if b.live ∧ b.v = v then .done (setS o.dst (.fld j v off)) else .fail
    | .adr xs => .done (setS o.dst (.adr xs))
    | _ => .fail
  | .binOp op t x y _ => if isNilC y then opd x fun a => nilE C o op t a else opd x fun a => opd y fun b => litE a fun u => litE b fun v => match binV op u v with
    | some r => .done (setS o.dst (.l (.d (.lit r))))
    | none => .fail
  | .unOp op _ x => opd x fun a => litE a fun u => match unV op u with
    | some r => .done (setS o.dst (.l (.d (.lit r))))
    | none => .fail
  | .convert t0 t x => if tstr C.P t then opd x fun a => bytesE C o t0 a else opd x fun a => litE a fun u => match u, tint C.P t with
    | .int _ n, some k => if tkn C.P t0 then .done (setS o.dst (.l (.d (.lit (.int k (k.wrap n)))))) else .fail
    | _, _ => .fail
  | .makeSlice t l c => match tel C.P t with
    | some e => match tzero C.P e with
      | some z => opd l fun a => opd c fun b => litE a fun u => litE b fun v => match u, v with
        | .int .i64 n, .int .i64 m => if 0 < z.length ∧ z.length = tsz C.P e ∧ 0 ≤ n ∧ n ≤ m ∧ m ≤ maxL ∧ m * tby C.P e ≤ maxL then .rdO (site o) fun ob =>
            .done ([.o (site o) ⟨ob.v + 1, 0, .own, e, z.length, zeros z n.toNat⟩] ++ setS o.dst (.l (.ref (site o) (ob.v + 1) [] 0 none))) else .fail
        | _, _ => .fail
      | none => .fail
    | none => .fail
  | .slice t x lo hi none => opd x fun a => sliceE C o t a lo hi
  | .fieldAddr t x f => opd x fun a => match tfld C.P t f with
    | some (off, ft) => if tsz C.P ft = 0 then .fail else match a with
      | .fld j v p => .rdB j fun b => if b.live ∧ b.v = v then .done (setS o.dst (.fld j v (p + off))) else .fail
      | .adr xs => .done (setS o.dst (.adr (xs.drop off)))
      | .el i v p s c => nodeE i v p s fun _ _ => .done (setS o.dst (.el i v p s (c + off)))
      | _ => .fail
    | none => .fail
  | .field t x f => opd x fun a => match a, tfld C.P t f with
    | .agg ls, some (off, ft) => if tkn C.P ft = false ∨ tsz C.P ft = 0 then .fail else loaded C.P o ft ((ls.drop off).take (if tagg C.P ft then tsz C.P ft else 1))
    | _, _ => .fail
  | .indexAddr t x n => opd x fun a => opd n fun b => litE b fun v => match v with
    | .int _ i => idxAddrE C o t a i
    | _ => .fail
  | .index t x n => opd x fun a => opd n fun b => litE a fun u => litE b fun v => match u, v with
    | .string s, .int _ i => if tstr C.P t then (if 0 ≤ i then match s[i.toNat]? with
        | some c => .done (setS o.dst (.l (.d (.lit (.int .u8 c.toNat)))))
        | none => .fail
      else .fail) else .fail
    | _, _ => .fail
  | .extract x n => opd x fun a => match a with
    | .tup vs => match vs[n]? with
      | some (false, [l]) => .done (setS o.dst (.l l))
      | some (true, ls) => .done (setS o.dst (.agg ls))
      | _ => .fail
    | _ => .fail
  | .call c => match c.callee with
    | .value (.func f) => match C.ct f with
      | some sp => callE C.P o sp c.args.toList c.argTypes.toList
      | none => .fail
    | .builtin b => builtinE C o b c.args.toList c.argTypes.toList
    | _ => .fail
  | _ => .fail

/-- one operation, its guard first -/
def guardE (ops : Array Oper) (o : Oper) (k : Bool → E) : E := match o.guard with
  | none => k true
  | some (j, want) => match (ops[j]?).bind (·.dst) with
    | some d => .rdS d fun a => match a with
      | .l (.d (.lit (.bool b))) => k (b == want)
      | .und => k false
      | _ => .fail
    | none => .fail
def dstOk (N : Nat) : Option Nat → Bool
  | some d => decide (d < N)
  | none => true
def stepE (C : Cx) (ops : Array Oper) (o : Oper) : E := if dstOk C.N o.dst = false then .fail else guardE ops o fun g => if g then eff C o else .done (setS o.dst .und)
def runOps (C : Cx) (ops : Array Oper) : List Oper → St → Option St
  | [], σ => some σ
  | o :: rest, σ => match (stepE C ops o).run σ with
    | some ws => runOps C ops rest (σ.wrs ws)
    | none => none
end Go.Proofs.Ytmbmebfeoejlnaa.Ab
