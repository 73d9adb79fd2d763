/- What the abstract machine does, told as propositions step by step: the rules by which a region is reckoned. Written by wip/gen/mkA31.py. -/
import Derived.Test.YtmbmebfeoejlnaaA30
namespace Go.Proofs.Ytmbmebfeoejlnaa.Ab
set_option linter.unusedVariables false
set_option linter.unusedSimpArgs false
open Go.RowKit
def E.rp (σ : St) (P : List Loc → List Wr → Prop) : E → List Loc → Prop
  | .done ws, rd => P rd ws
  | .rdS t k, rd => E.rp σ P (k (σ.s t)) (rd ++ [.s t])
  | .rdO i k, rd => E.rp σ P (k (σ.o i)) (rd ++ [.o i])
  | .rdB j k, rd => E.rp σ P (k (σ.b j)) (rd ++ [.b j])
  | .fail, _ => False
theorem E.rp_of (σ : St) (P : List Loc → List Wr → Prop) (e : E) : ∀ (rd : List Loc), E.rp σ P e rd → ∃ ws, e.run σ = some ws ∧ P (rd ++ e.reads σ) ws := by
  induction e with
  | done ws => intro rd h; exact ⟨ws, rfl, by rw [E.reads, List.append_nil]; exact h⟩
  | rdS t k ih => intro rd h; obtain ⟨ws, h1, h2⟩ := ih _ _ h; exact ⟨ws, h1, by rw [List.append_assoc] at h2; exact h2⟩
  | rdO t k ih => intro rd h; obtain ⟨ws, h1, h2⟩ := ih _ _ h; exact ⟨ws, h1, by rw [List.append_assoc] at h2; exact h2⟩
  | rdB t k ih => intro rd h; obtain ⟨ws, h1, h2⟩ := ih _ _ h; exact ⟨ws, h1, by rw [List.append_assoc] at h2; exact h2⟩
  | fail => intro rd h; exact h.elim
def runP (C : Cx) (Q : St → Prop) : List SOp → St → Prop
  | [], σ => Q σ
  | x :: r, σ => E.rp σ (fun _ ws => runP C Q r (σ.wrs ws)) (stepS C x) []
/-- what follows an operation -/
def P1 (C : Cx) (Q : St → Prop) (r : List SOp) (σ : St) : List Loc → List Wr → Prop := fun _ ws => runP C Q r (σ.wrs ws)
def traceP (C : Cx) (Q : List (List Loc × List Loc) → St → Prop) : List SOp → St → List (List Loc × List Loc) → Prop
  | [], σ, acc => Q acc σ
  | x :: r, σ, acc => E.rp σ (fun rd ws => traceP C Q r (σ.wrs ws) (acc ++ [(rd, ws.map Wr.loc)])) (stepS C x) []
def P2 (C : Cx) (Q : List (List Loc × List Loc) → St → Prop) (r : List SOp) (σ : St) (acc : List (List Loc × List Loc)) : List Loc → List Wr → Prop := fun rd ws => traceP C Q r (σ.wrs ws) (acc ++ [(rd, ws.map Wr.loc)])
theorem runP_of {C : Cx} {Q : St → Prop} : ∀ {l : List SOp} {σ : St}, runP C Q l σ → someP Q (runS C l σ)
  | [], σ, h => h
  | x :: r, σ, h => by
    obtain ⟨ws, h1, h2⟩ := E.rp_of _ _ _ _ h
    simp only [runS, h1]
    exact runP_of h2
theorem traceP_of {C : Cx} {Q : List (List Loc × List Loc) → St → Prop} : ∀ {l : List SOp} {σ : St} {acc : List (List Loc × List Loc)}, traceP C Q l σ acc → ∃ p, traceS C l σ = some p ∧ Q (acc ++ locsOf p.2) p.1
  | [], σ, acc, h => ⟨(σ, []), rfl, by rw [locsOf, List.map_nil, List.append_nil]; exact h⟩
  | x :: r, σ, acc, h => by
    obtain ⟨ws, h1, h2⟩ := E.rp_of _ _ _ _ h
    obtain ⟨p, h3, h4⟩ := traceP_of h2
    refine ⟨(p.1, ((stepS C x).reads σ, ws) :: p.2), by unfold traceS; rw [h1]; dsimp only; rw [h3]; rfl, ?_⟩
    rw [List.append_assoc] at h4
    exact h4
/-- a drawn region's end: the orders agree, and the rest -/
structure TrOk (an : List Nat) (acc : List (List Loc × List Loc)) (p : Prop) : Prop where
  ok : okTr an acc = true
  h : p
def TrQ (an : List Nat) (Q : St → Prop) (acc : List (List Loc × List Loc)) (s : St) : Prop := TrOk an acc (Q s)
section
variable {C : Cx} {fr : Fr} {σ : St}
theorem Sat.regionP (hk : Knows C) {Q : Exit → St → Prop} {id : Nat} {ops : Array Oper} (l : List SOp) (hg : (ops.toList.all (gOk ops)) = true) (hl : slim ops ops.toList = l) (h : runP C (Q .normal) l σ) : Sat C fr C.N (.region id ops false) σ Q :=
  Sat.regionS hk l hg hl (runP_of h)
theorem Sat.regionDP (hk : Knows C) (hm : C.P.follows .mixedOrders = true) {Q : Exit → St → Prop} {id : Nat} {ops : Array Oper} (l : List SOp) (hg : (ops.toList.all (gOk ops)) = true) (hl : slim ops ops.toList = l) (hac : acyc ops.toList = true)
    (h : ∀ an, ancs ops.toList = an → traceP C (TrQ an (Q .normal)) l σ []) : Sat C fr C.N (.region id ops true) σ Q := by
  refine Sat.regionDS hk hm l _ hg hl hac rfl ?_
  obtain ⟨p, h1, h2⟩ := traceP_of (h _ rfl)
  rw [h1]
  exact ⟨h2.ok, h2.h⟩
end
@[congr] theorem TrOk_congr {an : List Nat} {acc : List (List Loc × List Loc)} {p p' : Prop} (h : p = p') : TrOk an acc p = TrOk an acc p' := by rw [h]
@[simp] theorem P1_app {C : Cx} {Q : St → Prop} {r : List SOp} {σ : St} {rd : List Loc} {ws : List Wr} : P1 C Q r σ rd ws = runP C Q r (σ.wrs ws) := rfl
@[simp] theorem P2_app {C : Cx} {Q : List (List Loc × List Loc) → St → Prop} {r : List SOp} {σ : St} {acc : List (List Loc × List Loc)} {rd : List Loc} {ws : List Wr} : P2 C Q r σ acc rd ws = traceP C Q r (σ.wrs ws) (acc ++ [(rd, ws.map Wr.loc)]) := rfl
@[simp] theorem TrQ_app {an : List Nat} {Q : St → Prop} {acc : List (List Loc × List Loc)} {s : St} : TrQ an Q acc s = TrOk an acc (Q s) := rfl
@[simp] theorem runP_nil {C : Cx} {Q : St → Prop} {σ : St} : runP C Q [] σ = Q σ := rfl
@[simp] theorem runP_cons {C : Cx} {Q : St → Prop} {x : SOp} {r : List SOp} {σ : St} : runP C Q (x :: r) σ = E.rp σ (P1 C Q r σ) (stepS C x) [] := rfl
@[simp] theorem traceP_nil {C : Cx} {Q : List (List Loc × List Loc) → St → Prop} {σ : St} {acc : List (List Loc × List Loc)} : traceP C Q [] σ acc = Q acc σ := rfl
@[simp] theorem traceP_cons {C : Cx} {Q : List (List Loc × List Loc) → St → Prop} {x : SOp} {r : List SOp} {σ : St} {acc : List (List Loc × List Loc)} : traceP C Q (x :: r) σ acc = E.rp σ (P2 C Q r σ acc) (stepS C x) [] := rfl
@[simp] theorem op_dst {d : Option Nat} {o : Op} {t : Nat} {g : Option (Nat × Bool)} : (SOp.op ⟨d, o, t, g⟩).dst = d := rfl
@[simp] theorem op_site {d : Nat} {o : Op} {t : Nat} {g : Option (Nat × Bool)} : site (SOp.op ⟨some d, o, t, g⟩) = 64 * d := rfl
@[simp] theorem cx_P {N : Nat} {l : List (Nat × Spec)} : (cx N l).P = Try.prog := rfl
@[simp] theorem cx_N {N : Nat} {l : List (Nat × Spec)} : (cx N l).N = N := rfl
@[simp] theorem cx_ct {N f : Nat} {l : List (Nat × Spec)} : (cx N l).ct f = ctOf l f := rfl
@[simp] theorem cx_fz {N f : Nat} {l : List (Nat × Spec)} : (cx N l).fz f = false := rfl
theorem knowsX {N : Nat} {l : List (Nat × Spec)} (h : Known Try.prog l) : Knows (cx N l) := knows (N := N) (fz := fun _ => false) h
@[simp] theorem wrs_nil {σ : St} : σ.wrs [] = σ := rfl
@[simp] theorem wrs_s {s : Nat → AV} {o : Nat → Obj} {b : Nat → Box} {t : Nat} {x : AV} {ws : List Wr} : (St.mk s o b).wrs (.s t x :: ws) = (St.mk (upd s t x) o b).wrs ws := rfl
@[simp] theorem wrs_o {s : Nat → AV} {o : Nat → Obj} {b : Nat → Box} {t : Nat} {x : Obj} {ws : List Wr} : (St.mk s o b).wrs (.o t x :: ws) = (St.mk s (upd o t x) b).wrs ws := rfl
@[simp] theorem wrs_b {s : Nat → AV} {o : Nat → Obj} {b : Nat → Box} {t : Nat} {x : Box} {ws : List Wr} : (St.mk s o b).wrs (.b t x :: ws) = (St.mk s o (upd b t x)).wrs ws := rfl
@[simp] theorem upd_same {α : Type} {f : Nat → α} {i : Nat} {x : α} : upd f i x i = x := by simp [upd]
@[simp] theorem upd_ne {α : Type} {f : Nat → α} {i j : Nat} {x : α} (h : ¬ j = i) : upd f i x j = f j := by simp [upd, h]
@[simp] theorem slots_same {n : Nat} {x : AV} {l : List (Nat × AV)} : slots ((n, x) :: l) n = x := by simp [slots]
@[simp] theorem slots_ne {n j : Nat} {x : AV} {l : List (Nat × AV)} (h : ¬ j = n) : slots ((n, x) :: l) j = slots l j := by simp [slots, h]
@[simp] theorem ovr_same {α : Type} {n : Nat} {x : α} {l : List (Nat × α)} {f : Nat → α} : ovr ((n, x) :: l) f n = x := by simp [ovr]
@[simp] theorem ovr_ne {α : Type} {n j : Nat} {x : α} {l : List (Nat × α)} {f : Nat → α} (h : ¬ j = n) : ovr ((n, x) :: l) f j = ovr l f j := by simp [ovr, h]
@[simp] theorem ovr_nil {α : Type} {j : Nat} {f : Nat → α} : ovr [] f j = f j := rfl
@[simp] theorem pair_eta {α β : Type} (p : α × β) : (p.1, p.2) = p := rfl
/-! data -/
@[simp] theorem shareC_lit {v : Value} : shareC (.lit v) = .lit v := rfl
@[simp] theorem shareC_hole : shareC .hole = .hole := rfl
@[simp] theorem shareC_sl {sh : Bool} {e k : Nat} {xs : List D} : shareC (.sl sh e k xs) = .sl true e k (xs.map shareC) := by rw [shareC, shareL_map]
@[simp] theorem cutD_none {x : D} : cutD x none = x := by cases x <;> rfl
@[simp] theorem cutD_some {sh : Bool} {e k m : Nat} {xs : List D} : cutD (.sl sh e k xs) (some m) = .sl sh e k (xs.take (m * k)) := rfl
@[simp] theorem at_nil {x : D} : x.at [] = some x := by cases x <;> rfl
@[simp] theorem at_cons {e k j : Nat} {xs : List D} {p : List Nat} : (D.sl false e k xs).at (j :: p) = match xs[j]? with
    | some y => y.at p
    | none => none := rfl
@[simp] theorem constT_nil {Q : Program} {t e : Nat} (h : tel Q t = some e) : constT Q t (.slice none 0 0) = .sl false e (tsz Q e) [] := by simp [constT, h]
@[simp] theorem flat_lit {v : Value} : D.flat (.lit v) = true := rfl
@[simp] theorem flat_sh {e k : Nat} {xs : List D} : D.flat (.sl true e k xs) = true := rfl
@[simp] theorem flat_sl {e k : Nat} {xs : List D} : D.flat (.sl false e k xs) = false := rfl
@[simp] theorem isLit_lit {v : Value} : isLit (.lit v) = true := rfl
@[simp] theorem len_sl {sh : Bool} {e k : Nat} {xs : List D} : D.len (.sl sh e k xs) = xs.length / k := rfl
@[simp] theorem avOf_l {l : LV} : avOf [(false, [l])] = .l l := rfl
@[simp] theorem avOf_agg {ls : List LV} : avOf [(true, ls)] = .agg ls := rfl
@[simp] theorem avOf_tup {x y : Bool × List LV} {r : List (Bool × List LV)} : avOf (x :: y :: r) = .tup (x :: y :: r) := by
  obtain ⟨b, ls⟩ := x
  cases b <;> (rcases ls with _ | ⟨l, _ | _⟩ <;> rfl)
/-! operations on values -/
@[simp] theorem binV_add {k : IntKind} {a b : Int} : binV .add (.int k a) (.int k b) = some (.int k (k.wrap (a + b))) := by simp [binV]
@[simp] theorem binV_sub {k : IntKind} {a b : Int} : binV .sub (.int k a) (.int k b) = some (.int k (k.wrap (a - b))) := by simp [binV]
@[simp] theorem binV_mul {k : IntKind} {a b : Int} : binV .mul (.int k a) (.int k b) = some (.int k (k.wrap (a * b))) := by simp [binV]
@[simp] theorem binV_quo {k : IntKind} {a b : Int} : binV .quo (.int k a) (.int k b) = if b = 0 then none else some (.int k (k.wrap (a.tdiv b))) := by by_cases h : b = 0 <;> simp [binV, h]
@[simp] theorem binV_rem {k : IntKind} {a b : Int} : binV .rem (.int k a) (.int k b) = if b = 0 then none else some (.int k (a.tmod b)) := by by_cases h : b = 0 <;> simp [binV, h]
@[simp] theorem binV_shl {k k' : IntKind} {a b : Int} : binV .shl (.int k a) (.int k' b) = if 0 ≤ b then some (.int k (k.wrap (a * 2 ^ min b.toNat k.bits))) else none := rfl
@[simp] theorem binV_shr {k k' : IntKind} {a b : Int} : binV .shr (.int k a) (.int k' b) = if 0 ≤ b then some (.int k (a.fdiv (2 ^ min b.toNat k.bits))) else none := rfl
@[simp] theorem binV_and {k : IntKind} {a b : Int} : binV .and (.int k a) (.int k b) = some (.int k (k.wrap (BitVec.ofInt k.bits a &&& BitVec.ofInt k.bits b).toNat)) := by simp [binV]
@[simp] theorem binV_or {k : IntKind} {a b : Int} : binV .or (.int k a) (.int k b) = some (.int k (k.wrap (BitVec.ofInt k.bits a ||| BitVec.ofInt k.bits b).toNat)) := by simp [binV]
@[simp] theorem binV_xor {k : IntKind} {a b : Int} : binV .xor (.int k a) (.int k b) = some (.int k (k.wrap (BitVec.ofInt k.bits a ^^^ BitVec.ofInt k.bits b).toNat)) := by simp [binV]
@[simp] theorem binV_eql {k : IntKind} {a b : Int} : binV .eql (.int k a) (.int k b) = some (.bool (decide (a = b))) := by simp [binV]
@[simp] theorem binV_neq {k : IntKind} {a b : Int} : binV .neq (.int k a) (.int k b) = some (.bool (!decide (a = b))) := by simp [binV]
@[simp] theorem binV_lss {k : IntKind} {a b : Int} : binV .lss (.int k a) (.int k b) = some (.bool (decide (a < b))) := by simp [binV]
@[simp] theorem binV_leq {k : IntKind} {a b : Int} : binV .leq (.int k a) (.int k b) = some (.bool (decide (a ≤ b))) := by simp [binV]
@[simp] theorem binV_gtr {k : IntKind} {a b : Int} : binV .gtr (.int k a) (.int k b) = some (.bool (decide (b < a))) := by simp [binV]
@[simp] theorem binV_geq {k : IntKind} {a b : Int} : binV .geq (.int k a) (.int k b) = some (.bool (decide (b ≤ a))) := by simp [binV]
@[simp] theorem binV_seq {a b : ByteArray} : binV .eql (.string a) (.string b) = some (.bool (a.toList == b.toList)) := rfl
@[simp] theorem binV_sne {a b : ByteArray} : binV .neq (.string a) (.string b) = some (.bool !(a.toList == b.toList)) := rfl
@[simp] theorem unV_neg {k : IntKind} {n : Int} : unV .neg (.int k n) = some (.int k (k.wrap (0 - n))) := rfl
@[simp] theorem unV_not {b : Bool} : unV .not (.bool b) = some (.bool !b) := rfl
@[simp] theorem minV_two {k : IntKind} {a b : Int} : minV [.int k a, .int k b] = some (.int k (if b < a then b else a)) := by simp [minV]
@[simp] theorem maxV_two {k : IntKind} {a b : Int} : maxV [.int k a, .int k b] = some (.int k (if a < b then b else a)) := by simp [maxV]
/-! helpers of the rules -/
def guardV (a : AV) (w : Bool) (e : E) (ws : List Wr) : E := match a with
  | .l (.d (.lit (.bool b))) => if b == w then e else .done ws
  | .und => .done ws
  | _ => .fail
def callRes (o : Oper) (ls : List LV) (bs : List Nat) : Option Out → E
  | none => .fail
  | some out => (if anyShared out.res then freezeE ls else fun k => k []) fun fw => boxE bs out.st fun bw => valsRes (site o) out.res fun vs ws => .done (fw ++ bw ++ ws ++ setS o.dst (avOf vs))
def appX (C : Cx) (o : Oper) (e : Nat) (x : LV) (ys : List D) (yw : List Wr) (used : List Nat) : E := match x with
  | .d (.sl false _ _ _) => if fitsL C.P e (tsz C.P e) ys.length then .rdO (site o) fun ob =>
      .done (yw ++ [.o (site o) ⟨ob.v + 1, 0, .own, e, tsz C.P e, ys⟩] ++ setS o.dst (.l (.ref (site o) (ob.v + 1) [] 0 none))) else .fail
  | .ref i v p s m => nodeE i v p s fun ob x => match cutD x m with
    | .sl false e' k' xs => if ob.st = .own ∧ i ∉ used ∧ e' = e ∧ k' = tsz C.P e ∧ fitsL C.P e (tsz C.P e) (xs.length + ys.length) then
        if p = [] then .done (yw ++ [.o i ⟨ob.v + 1, 0, .own, e, tsz C.P e, xs ++ ys⟩] ++ setS o.dst (.l (.ref i (ob.v + 1) [] 0 none)))
        else if site o = i ∨ site o ∈ used then .fail else .rdO (site o) fun nb => .done (yw ++ [.o i { ob with s := ob.s + 1, xs := ob.up (fun _ => .hole) p }, .o (site o) ⟨nb.v + 1, 0, .own, e, tsz C.P e, xs ++ ys⟩] ++ setS o.dst (.l (.ref (site o) (nb.v + 1) [] 0 none)))
      else .fail
    | _ => .fail
  | _ => .fail
def bApp2 (C : Cx) (o : Oper) (t t' : Nat) (a c : AV) : E := match a, c with
  | .l lx, .l ly => if t' = t then match tel C.P t with
      | some e => appE C o e lx ly
      | none => .fail
    else appMakeE C o t t' lx ly
  | _, _ => .fail
theorem builtin_app (C : Cx) (o : Oper) (x y : Operand) (t t' : Nat) : builtinE C o .append [x, y] [t, t'] = opd x fun a => opd y fun c => bApp2 C o t t' a c := by
  show (opd x fun a => opd y fun c => _) = _
  congr 1; funext a; congr 1; funext c
  cases a <;> cases c <;> rfl
def loaded1 (o : Oper) (ls : List LV) : E := match ls with
  | [l] => .done (setS o.dst (.l l))
  | _ => .fail
def bytesX (o : Oper) (x : D) : E := match x with
  | .sl _ _ k (y :: ys) => if k = 1 then match bytesOf (y :: ys) with
      | some ns => .done (setS o.dst (.l (.d (.lit (.string (strOf ns))))))
      | none => .fail
    else .fail
  | _ => .fail
def convX (C : Cx) (d : Option Nat) (t0 u : Nat) (y : Value) : E := match y, tint C.P u with
  | .int _ n, some k => if tkn C.P t0 then .done (setS d (.l (.d (.lit (.int k (k.wrap n)))))) else .fail
  | _, _ => .fail
def makeX (C : Cx) (d : Option Nat) (e : Nat) (z : List D) (u v : Value) : E := match u, v with
  | .int .i64 n, .int .i64 m => if 0 < z.length ∧ z.length = tsz C.P e ∧ 0 ≤ n ∧ n ≤ m ∧ m ≤ maxL ∧ m * tby C.P e ≤ maxL then .rdO (64 * d.getD 0) fun ob =>
      .done ([.o (64 * d.getD 0) ⟨ob.v + 1, 0, .own, e, z.length, zeros z n.toNat⟩] ++ setS d (.l (.ref (64 * d.getD 0) (ob.v + 1) [] 0 none))) else .fail
  | _, _ => .fail
def fldX (d : Option Nat) (off : Nat) (a : AV) : E := match a with
  | .fld j v p => .rdB j fun b => if b.live ∧ b.v = v then .done (setS d (.fld j v (p + off))) else .fail
  | .adr xs => .done (setS d (.adr (xs.drop off)))
  | .el i v p s c => nodeE i v p s fun _ _ => .done (setS d (.el i v p s (c + off)))
  | _ => .fail
section
variable (σ : St) (P : List Loc → List Wr → Prop) (rd : List Loc)
@[simp] theorem r_done (ws : List Wr) : E.rp σ P (.done ws) rd = P rd ws := rfl
@[simp] theorem r_fail : E.rp σ P .fail rd = False := rfl
@[simp] theorem r_guard (C : Cx) (d : Option Nat) (o : Op) (t s : Nat) (w : Bool) : E.rp σ P (stepS C ⟨d, o, t, some (s, w)⟩) rd = (if dstOk C.N d = false then False else E.rp σ P (guardV (σ.s s) w (eff C (SOp.op ⟨d, o, t, some (s, w)⟩)) (setS d .und)) (rd ++ [.s s])) := by
  unfold stepS
  by_cases h : dstOk C.N d = false
  · rw [if_pos h, if_pos h]; rfl
  · rw [if_neg h, if_neg h]
    rfl
@[simp] theorem r_gv_b (b w : Bool) (e : E) (ws : List Wr) : E.rp σ P (guardV (.l (.d (.lit (.bool b)))) w e ws) rd = (if b = w then E.rp σ P e rd else P rd ws) := by
  by_cases h : b = w
  · subst h; simp [guardV]
  · simp [guardV, h]
@[simp] theorem r_gv_u (w : Bool) (e : E) (ws : List Wr) : E.rp σ P (guardV .und w e ws) rd = P rd ws := rfl
@[simp] theorem r_conv (C : Cx) (d : Option Nat) (t0 u : Nat) (i k : IntKind) (n : Int) (h : tint C.P u = some k) (h0 : tkn C.P t0 = true) : E.rp σ P (convX C d t0 u (.int i n)) rd = P rd (setS d (.l (.d (.lit (.int k (k.wrap n)))))) := by simp [convX, h, h0]
@[simp] theorem r_make (C : Cx) (d : Option Nat) (e : Nat) (z : List D) (n m : Int) : E.rp σ P (makeX C d e z (.int .i64 n) (.int .i64 m)) rd = E.rp σ P (if 0 < z.length ∧ z.length = tsz C.P e ∧ 0 ≤ n ∧ n ≤ m ∧ m ≤ maxL ∧ m * tby C.P e ≤ maxL then .rdO (64 * d.getD 0) fun ob =>
      .done ([.o (64 * d.getD 0) ⟨ob.v + 1, 0, .own, e, z.length, zeros z n.toNat⟩] ++ setS d (.l (.ref (64 * d.getD 0) (ob.v + 1) [] 0 none))) else .fail) rd := rfl
@[simp] theorem r_fldX_f (d : Option Nat) (off j v p : Nat) : E.rp σ P (fldX d off (.fld j v p)) rd = E.rp σ P (if (σ.b j).live ∧ (σ.b j).v = v then .done (setS d (.fld j v (p + off))) else .fail) (rd ++ [.b j]) := rfl
@[simp] theorem r_fldX_a (d : Option Nat) (off : Nat) (xs : List D) : E.rp σ P (fldX d off (.adr xs)) rd = P rd (setS d (.adr (xs.drop off))) := rfl
@[simp] theorem r_fldX_e (d : Option Nat) (off i v : Nat) (p : List Nat) (s c : Nat) : E.rp σ P (fldX d off (.el i v p s c)) rd = E.rp σ P (nodeE i v p s fun _ _ => .done (setS d (.el i v p s (c + off)))) rd := rfl
@[simp] theorem r_bytes (o : Oper) (sh : Bool) (e : Nat) (y : D) (ys : List D) (ns : List Int) (h : bytesOf (y :: ys) = some ns) : E.rp σ P (bytesX o (.sl sh e 1 (y :: ys))) rd = P rd (setS o.dst (.l (.d (.lit (.string (strOf ns)))))) := by simp [bytesX, h]
@[simp] theorem r_rdS (t : Nat) (k : AV → E) : E.rp σ P (.rdS t k) rd = E.rp σ P (k (σ.s t)) (rd ++ [.s t]) := rfl
@[simp] theorem r_rdO (t : Nat) (k : Obj → E) : E.rp σ P (.rdO t k) rd = E.rp σ P (k (σ.o t)) (rd ++ [.o t]) := rfl
@[simp] theorem r_rdB (t : Nat) (k : Box → E) : E.rp σ P (.rdB t k) rd = E.rp σ P (k (σ.b t)) (rd ++ [.b t]) := rfl
@[simp] theorem r_step (C : Cx) (d : Option Nat) (o : Op) (t : Nat) : E.rp σ P (stepS C ⟨d, o, t, none⟩) rd = E.rp σ P (if dstOk C.N d = false then .fail else eff C (SOp.op ⟨d, o, t, none⟩)) (rd) := rfl
@[simp] theorem r_opdT_tmp (Q : Program) (t n : Nat) (k : AV → E) : E.rp σ P (opdT Q t (.tmp n) k) rd = E.rp σ P (k (σ.s n)) (rd ++ [.s n]) := rfl
@[simp] theorem r_opdT_int (Q : Program) (t : Nat) (i : IntKind) (n : Int) (k : AV → E) : E.rp σ P (opdT Q t (.const (.int i n)) k) rd = E.rp σ P (k (.l (.d (.lit (.int i n))))) (rd) := rfl
@[simp] theorem r_opdT_bool (Q : Program) (t : Nat) (n : Bool) (k : AV → E) : E.rp σ P (opdT Q t (.const (.bool n)) k) rd = E.rp σ P (k (.l (.d (.lit (.bool n))))) (rd) := rfl
@[simp] theorem r_opdT_str (Q : Program) (t : Nat) (n : ByteArray) (k : AV → E) : E.rp σ P (opdT Q t (.const (.string n)) k) rd = E.rp σ P (k (.l (.d (.lit (.string n))))) (rd) := rfl
@[simp] theorem r_opdT_nil (Q : Program) (t : Nat) (k : AV → E) : E.rp σ P (opdT Q t (.const (.slice none 0 0)) k) rd = E.rp σ P (k (.l (.d (constT Q t (.slice none 0 0))))) (rd) := rfl
@[simp] theorem r_opd_tmp (n : Nat) (k : AV → E) : E.rp σ P (opd (.tmp n) k) rd = E.rp σ P (k (σ.s n)) (rd ++ [.s n]) := rfl
@[simp] theorem r_opd_int (i : IntKind) (n : Int) (k : AV → E) : E.rp σ P (opd (.const (.int i n)) k) rd = E.rp σ P (k (.l (.d (.lit (.int i n))))) (rd) := rfl
@[simp] theorem r_opd_bool (n : Bool) (k : AV → E) : E.rp σ P (opd (.const (.bool n)) k) rd = E.rp σ P (k (.l (.d (.lit (.bool n))))) (rd) := rfl
@[simp] theorem r_opd_str (n : ByteArray) (k : AV → E) : E.rp σ P (opd (.const (.string n)) k) rd = E.rp σ P (k (.l (.d (.lit (.string n))))) (rd) := rfl
@[simp] theorem r_opd_nil (k : AV → E) : E.rp σ P (opd (.const (.slice none 0 0)) k) rd = E.rp σ P (k (.l (.d (.sl false 0 0 [])))) (rd) := rfl
@[simp] theorem r_lvD_d (x : D) (k : D → E) : E.rp σ P (lvD (.d x) k) rd = E.rp σ P (k x) (rd) := rfl
@[simp] theorem r_lvD_ref (i v : Nat) (p : List Nat) (s : Nat) (m : Option Nat) (k : D → E) : E.rp σ P (lvD (.ref i v p s m) k) rd = E.rp σ P (if (σ.o i).v = v ∧ (σ.o i).st ≠ .dead ∧ (p = [] ∨ (σ.o i).s = s) then match (σ.o i).d.at p with | some (.sl sh e kk xs) => k (cutD (.sl sh e kk xs) m) | _ => .fail else .fail) (rd ++ [.o i]) := rfl
@[simp] theorem r_lvsD_nil (k : List D → E) : E.rp σ P (lvsD [] k) rd = E.rp σ P (k []) (rd) := rfl
@[simp] theorem r_lvsD_cons (l : LV) (ls : List LV) (k : List D → E) : E.rp σ P (lvsD (l :: ls) k) rd = E.rp σ P (lvD l fun x => lvsD ls fun xs => k (x :: xs)) (rd) := rfl
@[simp] theorem r_leafs_l (l : LV) (k : List LV → E) : E.rp σ P (leafs (.l l) k) rd = E.rp σ P (k [l]) (rd) := rfl
@[simp] theorem r_leafs_agg (ls : List LV) (k : List LV → E) : E.rp σ P (leafs (.agg ls) k) rd = E.rp σ P (k ls) (rd) := rfl
@[simp] theorem r_litE (v : Value) (k : Value → E) : E.rp σ P (litE (.l (.d (.lit v))) k) rd = E.rp σ P (k v) (rd) := rfl
@[simp] theorem r_litsE_nil (k : List Value → E) : E.rp σ P (litsE [] k) rd = E.rp σ P (k []) (rd) := rfl
@[simp] theorem r_litsE_cons (x : Operand) (xs : List Operand) (k : List Value → E) : E.rp σ P (litsE (x :: xs) k) rd = E.rp σ P (opd x fun a => litE a fun v => litsE xs fun vs => k (v :: vs)) (rd) := rfl
@[simp] theorem r_moveIn_d (fz : Bool) (x : D) (used : List Nat) (k : D → List Wr → List Nat → E) : E.rp σ P (moveIn fz (.d x) used k) rd = E.rp σ P (k x [] used) (rd) := rfl
@[simp] theorem r_moveIn_ref (fz : Bool) (i v : Nat) (p : List Nat) (s : Nat) (m : Option Nat) (used : List Nat) (k : D → List Wr → List Nat → E) : E.rp σ P (moveIn fz (.ref i v p s m) used k) rd = E.rp σ P (if (σ.o i).v = v ∧ (σ.o i).st ≠ .dead ∧ (p = [] ∨ (σ.o i).s = s) ∧ i ∉ used then match (σ.o i).d.at p with | some (.sl sh e kk xs) => if (σ.o i).st = .fz then k (shareC (cutD (.sl sh e kk xs) m)) [] used else if fz then k (shareC (cutD (.sl sh e kk xs) m)) [.o i { (σ.o i) with st := .fz }] used else if p = [] then k (cutD (.sl false e kk xs) m) [.o i { (σ.o i) with st := .dead }] (i :: used) else .fail | _ => .fail else .fail) (rd ++ [.o i]) := rfl
@[simp] theorem r_movesIn_nil (fz : Bool) (used : List Nat) (k : List D → List Wr → List Nat → E) : E.rp σ P (movesIn fz [] used k) rd = E.rp σ P (k [] [] used) (rd) := rfl
@[simp] theorem r_movesIn_cons (fz : Bool) (l : LV) (ls : List LV) (used : List Nat) (k : List D → List Wr → List Nat → E) : E.rp σ P (movesIn fz (l :: ls) used k) rd = E.rp σ P (moveIn fz l used fun x ws used1 => movesIn fz ls used1 fun xs ws2 used2 => k (x :: xs) (ws ++ ws2) used2) (rd) := rfl
@[simp] theorem r_nodeE (i v : Nat) (p : List Nat) (s : Nat) (k : Obj → D → E) : E.rp σ P (nodeE i v p s k) rd = E.rp σ P (if (σ.o i).v = v ∧ (σ.o i).st ≠ .dead ∧ (p = [] ∨ (σ.o i).s = s) then match (σ.o i).d.at p with | some x => k (σ.o i) x | none => .fail else .fail) (rd ++ [.o i]) := rfl
@[simp] theorem r_leafRes_own (id e kk : Nat) (xs : List D) (k : LV → List Wr → E) : E.rp σ P (leafRes id (.sl false e kk xs) k) rd = E.rp σ P (k (.ref id ((σ.o id).v + 1) [] 0 none) [.o id ⟨(σ.o id).v + 1, 0, .own, e, kk, xs⟩]) (rd ++ [.o id]) := rfl
@[simp] theorem r_leafRes_sh (id e kk : Nat) (xs : List D) (k : LV → List Wr → E) : E.rp σ P (leafRes id (.sl true e kk xs) k) rd = E.rp σ P (k (.d (.sl true e kk xs)) []) (rd) := rfl
@[simp] theorem r_leafRes_lit (id : Nat) (v : Value) (k : LV → List Wr → E) : E.rp σ P (leafRes id (.lit v) k) rd = E.rp σ P (k (.d (.lit v)) []) (rd) := rfl
@[simp] theorem r_leafsRes_nil (id : Nat) (k : Nat → List LV → List Wr → E) : E.rp σ P (leafsRes id [] k) rd = E.rp σ P (k id [] []) (rd) := rfl
@[simp] theorem r_leafsRes_cons (id : Nat) (x : D) (xs : List D) (k : Nat → List LV → List Wr → E) : E.rp σ P (leafsRes id (x :: xs) k) rd = E.rp σ P (leafRes id x fun l ws => leafsRes (id + 1) xs fun id2 ls ws2 => k id2 (l :: ls) (ws ++ ws2)) (rd) := rfl
@[simp] theorem r_valsRes_nil (id : Nat) (k : List (Bool × List LV) → List Wr → E) : E.rp σ P (valsRes id [] k) rd = E.rp σ P (k [] []) (rd) := rfl
@[simp] theorem r_valsRes_cons (id : Nat) (b : Bool) (xs : List D) (r : List (Bool × List D)) (k : List (Bool × List LV) → List Wr → E) : E.rp σ P (valsRes id ((b, xs) :: r) k) rd = E.rp σ P (leafsRes id xs fun id2 ls ws => valsRes id2 r fun vs ws2 => k ((b, ls) :: vs) (ws ++ ws2)) (rd) := rfl
@[simp] theorem r_freezeE_nil (k : List Wr → E) : E.rp σ P (freezeE [] k) rd = E.rp σ P (k []) (rd) := rfl
@[simp] theorem r_freezeE_d (x : D) (ls : List LV) (k : List Wr → E) : E.rp σ P (freezeE (.d x :: ls) k) rd = E.rp σ P (freezeE ls k) (rd) := rfl
@[simp] theorem r_freezeE_ref (i v : Nat) (p : List Nat) (s : Nat) (m : Option Nat) (ls : List LV) (k : List Wr → E) : E.rp σ P (freezeE (.ref i v p s m :: ls) k) rd = E.rp σ P (if (σ.o i).st = .dead then .fail else freezeE ls fun ws => k (.o i { (σ.o i) with st := .fz } :: ws)) (rd ++ [.o i]) := rfl
@[simp] theorem r_argE_d (x : D) (k : Arg → List LV → List Nat → E) : E.rp σ P (argE (.l (.d x)) k) rd = E.rp σ P (k (.val false [x]) [.d x] []) (rd) := rfl
@[simp] theorem r_argE_ref (i v : Nat) (p : List Nat) (s : Nat) (m : Option Nat) (k : Arg → List LV → List Nat → E) : E.rp σ P (argE (.l (.ref i v p s m)) k) rd = E.rp σ P (lvD (.ref i v p s m) fun x => k (.val false [shareC x]) [.ref i v p s m] []) (rd) := rfl
@[simp] theorem r_argE_agg (ls : List LV) (k : Arg → List LV → List Nat → E) : E.rp σ P (argE (.agg ls) k) rd = E.rp σ P (lvsD ls fun xs => k (.val true xs) ls []) (rd) := rfl
@[simp] theorem r_argE_fld (j v : Nat) (k : Arg → List LV → List Nat → E) : E.rp σ P (argE (.fld j v 0) k) rd = E.rp σ P (if (σ.b j).live ∧ (σ.b j).v = v then match litsOf (σ.b j).cs with | some xs => k (.ptr xs) [] [j] | none => .fail else .fail) (rd ++ [.b j]) := rfl
@[simp] theorem r_argsE_nil (Q : Program) (ts : List Nat) (k : List Arg → List LV → List Nat → E) : E.rp σ P (argsE Q [] ts k) rd = E.rp σ P (k [] [] []) (rd) := rfl
@[simp] theorem r_argsE_cons (Q : Program) (x : Operand) (xs : List Operand) (t : Nat) (ts : List Nat) (k : List Arg → List LV → List Nat → E) : E.rp σ P (argsE Q (x :: xs) (t :: ts) k) rd = E.rp σ P (opdT Q t x fun a => argE a fun g ls bs => argsE Q xs ts fun gs ls2 bs2 => k (g :: gs) (ls ++ ls2) (bs ++ bs2)) (rd) := rfl
@[simp] theorem r_boxE_nil (k : List Wr → E) : E.rp σ P (boxE [] [] k) rd = E.rp σ P (k []) (rd) := rfl
@[simp] theorem r_boxE_one (j : Nat) (xs : List D) (k : List Wr → E) : E.rp σ P (boxE [j] [xs] k) rd = E.rp σ P (if xs.length = (σ.b j).cs.length ∧ xs.all isLit then k [.b j { (σ.b j) with cs := xs.map .d }] else .fail) (rd ++ [.b j]) := rfl
@[simp] theorem r_callE (Q : Program) (o : Oper) (sp : Spec) (args : List Operand) (ts : List Nat) : E.rp σ P (callE Q o sp args ts) rd = E.rp σ P (argsE Q args ts fun gs ls bs => callRes o ls bs (sp gs)) (rd) := rfl
@[simp] theorem r_callRes (o : Oper) (ls : List LV) (bs : List Nat) (out : Out) : E.rp σ P (callRes o ls bs (some out)) rd = E.rp σ P ((if anyShared out.res then freezeE ls else fun k => k []) fun fw => boxE bs out.st fun bw => valsRes (site o) out.res fun vs ws => .done (fw ++ bw ++ ws ++ setS o.dst (avOf vs))) (rd) := rfl
@[simp] theorem r_newsE_d (k : Nat) (sh : Bool) (e k' : Nat) (ys : List D) (c : List D → List Wr → List Nat → E) : E.rp σ P (newsE k (.d (.sl sh e k' ys)) c) rd = E.rp σ P (if k' = k ∨ k' = 0 then c (ys.map shareC) [] [] else .fail) (rd) := rfl
@[simp] theorem r_newsE_ref (k i v : Nat) (p : List Nat) (s : Nat) (m : Option Nat) (c : List D → List Wr → List Nat → E) : E.rp σ P (newsE k (.ref i v p s m) c) rd = E.rp σ P (nodeE i v p s fun o x => match cutD x m with | .sl _ _ k' ys => (if k' = k ∨ k' = 0 then (if o.st = .fz then c (ys.map shareC) [] [] else if ys.all D.flat then c ys [] [] else if p = [] ∧ m = none then c ys [.o i { o with st := .dead }] [i] else .fail) else .fail) | _ => .fail) (rd) := rfl
@[simp] theorem r_appE (C : Cx) (o : Oper) (e : Nat) (x y : LV) : E.rp σ P (appE C o e x y) rd = E.rp σ P (if tsz C.P e = 0 ∨ (tzero C.P e).isNone then .fail else newsE (tsz C.P e) y fun ys yw used => appX C o e x ys yw used) (rd) := rfl
@[simp] theorem r_appX_ref (C : Cx) (o : Oper) (e i v : Nat) (p : List Nat) (s : Nat) (m : Option Nat) (ys : List D) (yw : List Wr) (used : List Nat) : E.rp σ P (appX C o e (.ref i v p s m) ys yw used) rd = E.rp σ P (nodeE i v p s fun ob x => match cutD x m with | .sl false e' k' xs => (if ob.st = .own ∧ i ∉ used ∧ e' = e ∧ k' = tsz C.P e ∧ fitsL C.P e (tsz C.P e) (xs.length + ys.length) then (if p = [] then .done (yw ++ [.o i ⟨ob.v + 1, 0, .own, e, tsz C.P e, xs ++ ys⟩] ++ setS o.dst (.l (.ref i (ob.v + 1) [] 0 none))) else if site o = i ∨ site o ∈ used then .fail else .rdO (site o) fun nb => .done (yw ++ [.o i { ob with s := ob.s + 1, xs := ob.up (fun _ => .hole) p }, .o (site o) ⟨nb.v + 1, 0, .own, e, tsz C.P e, xs ++ ys⟩] ++ setS o.dst (.l (.ref (site o) (nb.v + 1) [] 0 none)))) else .fail) | _ => .fail) (rd) := rfl
@[simp] theorem r_lenE_str (C : Cx) (t : Nat) (s : ByteArray) (k : Int → E) : E.rp σ P (lenE C t (.l (.d (.lit (.string s)))) k) rd = E.rp σ P (if tstr C.P t then k s.size else .fail) (rd) := rfl
@[simp] theorem r_lenE_sl (C : Cx) (t : Nat) (sh : Bool) (e kk : Nat) (xs : List D) (k : Int → E) : E.rp σ P (lenE C t (.l (.d (.sl sh e kk xs))) k) rd = E.rp σ P (if (tel C.P t).isSome then k ((xs.length / kk : Nat) : Int) else .fail) (rd) := rfl
@[simp] theorem r_lenE_ref (C : Cx) (t i v : Nat) (p : List Nat) (s : Nat) (m : Option Nat) (k : Int → E) : E.rp σ P (lenE C t (.l (.ref i v p s m)) k) rd = E.rp σ P (if (tel C.P t).isSome then lvD (.ref i v p s m) fun x => match x with | .sl _ _ kk xs => k ((xs.length / kk : Nat) : Int) | _ => .fail else .fail) (rd) := rfl
@[simp] theorem r_appMake (C : Cx) (o : Oper) (t t' : Nat) (e k : Nat) (i : IntKind) (n : Int) : E.rp σ P (appMakeE C o t t' (.d (.sl false e k [])) (.d (.lit (.int i n)))) rd = E.rp σ P (match tel C.P t with | some e => (match tzero C.P e with | some z => (if 0 < z.length ∧ (tint C.P t').isSome ∧ 1 ≤ n ∧ n ≤ (maxL : Int) ∧ n * (tby C.P e : Int) ≤ (maxL : Int) then .rdO (site o) fun ob => .done ([.o (site o) ⟨ob.v + 1, 0, .own, e, z.length, zeros z n.toNat⟩] ++ setS o.dst (.l (.ref (site o) (ob.v + 1) [] 0 none))) else .fail) | none => .fail) | none => .fail) (rd) := rfl
@[simp] theorem r_bLen (C : Cx) (o : Oper) (x : Operand) (t : Nat) : E.rp σ P (builtinE C o .len [x] [t]) rd = E.rp σ P (opd x fun a => lenE C t a fun n => .done (setS o.dst (.l (.d (.lit (.int .i64 n)))))) (rd) := rfl
@[simp] theorem r_bCap (C : Cx) (o : Oper) (x : Operand) (ts : List Nat) : E.rp σ P (builtinE C o .cap [x] ts) rd = E.rp σ P (opd x fun a => capE C o a ts) (rd) := rfl
@[simp] theorem r_bMin (C : Cx) (o : Oper) (xs : List Operand) (ts : List Nat) : E.rp σ P (builtinE C o .min xs ts) rd = E.rp σ P (litsE xs fun vs => match minV vs with | some v => .done (setS o.dst (.l (.d (.lit v)))) | none => .fail) (rd) := rfl
@[simp] theorem r_bMax (C : Cx) (o : Oper) (xs : List Operand) (ts : List Nat) : E.rp σ P (builtinE C o .max xs ts) rd = E.rp σ P (litsE xs fun vs => match maxV vs with | some v => .done (setS o.dst (.l (.d (.lit v)))) | none => .fail) (rd) := rfl
@[simp] theorem r_bApp (C : Cx) (o : Oper) (x y : Operand) (t t' : Nat) : E.rp σ P (builtinE C o .append [x, y] [t, t']) rd = E.rp σ P (opd x fun a => opd y fun c => bApp2 C o t t' a c) (rd) := by rw [builtin_app]
@[simp] theorem r_bApp2 (C : Cx) (o : Oper) (t t' : Nat) (lx ly : LV) : E.rp σ P (bApp2 C o t t' (.l lx) (.l ly)) rd = E.rp σ P (if t' = t then match tel C.P t with | some e => appE C o e lx ly | none => .fail else appMakeE C o t t' lx ly) (rd) := rfl
@[simp] theorem r_intE_none (dflt : Int) (k : Int → E) : E.rp σ P (intE none dflt k) rd = E.rp σ P (k dflt) (rd) := rfl
@[simp] theorem r_intE_some (x : Operand) (dflt : Int) (k : Int → E) : E.rp σ P (intE (some x) dflt k) rd = E.rp σ P (opd x fun a => litE a fun v => match v with | .int _ n => k n | _ => .fail) (rd) := rfl
@[simp] theorem r_slice_str (C : Cx) (o : Oper) (t : Nat) (s : ByteArray) (lo hi : Option Operand) : E.rp σ P (sliceE C o t (.l (.d (.lit (.string s)))) lo hi) rd = E.rp σ P (if tstr C.P t then intE lo 0 fun l => intE hi s.size fun h => (if 0 ≤ l ∧ l ≤ h ∧ h ≤ s.size then .done (setS o.dst (.l (.d (.lit (.string (s.extract l.toNat h.toNat)))))) else .fail) else .fail) (rd) := rfl
@[simp] theorem r_slice_nil (C : Cx) (o : Oper) (t : Nat) (e k : Nat) (lo hi : Option Operand) : E.rp σ P (sliceE C o t (.l (.d (.sl false e k []))) lo hi) rd = E.rp σ P (if tokE C.P t e k ∧ lo = none then intE hi 0 fun h => (if h = 0 then .done (setS o.dst (.l (.d (.sl false e k [])))) else .fail) else .fail) (rd) := rfl
@[simp] theorem r_slice_sh (C : Cx) (o : Oper) (t : Nat) (e k : Nat) (xs : List D) (lo hi : Option Operand) : E.rp σ P (sliceE C o t (.l (.d (.sl true e k xs))) lo hi) rd = E.rp σ P (if tokE C.P t e k then intE lo 0 fun l => intE hi ((xs.length / k : Nat) : Int) fun h => (if 0 ≤ l ∧ l ≤ h ∧ h ≤ ((xs.length / k : Nat) : Int) then .done (setS o.dst (.l (.d (.sl true e k ((xs.take (h.toNat * k)).drop (l.toNat * k)))))) else .fail) else .fail) (rd) := rfl
@[simp] theorem r_slice_ref (C : Cx) (o : Oper) (t i v : Nat) (p : List Nat) (s : Nat) (m : Option Nat) (lo hi : Option Operand) : E.rp σ P (sliceE C o t (.l (.ref i v p s m)) lo hi) rd = E.rp σ P (nodeE i v p s fun ob x => match cutD x m with | .sl _ e k xs => (if tokE C.P t e k then intE hi ((xs.length / k : Nat) : Int) fun h => (if 0 ≤ h ∧ h ≤ ((xs.length / k : Nat) : Int) then (match lo with | none => .done (setS o.dst (.l (.ref i v p s (some h.toNat)))) | some _ => intE lo 0 fun l => if 0 ≤ l ∧ l ≤ h then .done ([.o i { ob with st := .fz }] ++ setS o.dst (.l (.d (shareC (.sl true e k ((xs.take (h.toNat * k)).drop (l.toNat * k))))))) else .fail) else .fail) else .fail) | _ => .fail) (rd) := rfl
@[simp] theorem r_idx_d (C : Cx) (o : Oper) (t : Nat) (sh : Bool) (e k : Nat) (xs : List D) (n : Int) : E.rp σ P (idxAddrE C o t (.l (.d (.sl sh e k xs))) n) rd = E.rp σ P (if tel C.P t = some e ∧ tsz C.P e = k ∧ 0 < k ∧ 0 ≤ n ∧ n < ((xs.length / k : Nat) : Int) then .done (setS o.dst (.adr (xs.drop (n.toNat * k)))) else .fail) (rd) := rfl
@[simp] theorem r_idx_ref (C : Cx) (o : Oper) (t i v : Nat) (p : List Nat) (s : Nat) (m : Option Nat) (n : Int) : E.rp σ P (idxAddrE C o t (.l (.ref i v p s m)) n) rd = E.rp σ P (nodeE i v p s fun ob x => match x with | .sl sh e k xs => (if tel C.P t = some e ∧ tsz C.P e = k ∧ 0 < k ∧ 0 ≤ n ∧ n < ((cutD x m).len : Int) then (if ob.st = .own ∧ sh = false then .done (setS o.dst (.el i v p s (n.toNat * k))) else if ob.st = .fz then .done (setS o.dst (.adr (xs.drop (n.toNat * k)))) else .fail) else .fail) | _ => .fail) (rd) := rfl
@[simp] theorem r_idx_fld (C : Cx) (o : Oper) (t j v off : Nat) (n : Int) : E.rp σ P (idxAddrE C o t (.fld j v off) n) rd = E.rp σ P (if (σ.b j).live ∧ (σ.b j).v = v then match tarr C.P t with | some (m, e) => if 0 ≤ n ∧ n < (m : Int) ∧ tsz C.P e ≠ 0 then .done (setS o.dst (.fld j v (off + n.toNat * tsz C.P e))) else .fail | none => .fail else .fail) (rd ++ [.b j]) := rfl
@[simp] theorem r_loaded (Q : Program) (o : Oper) (t : Nat) (ls : List LV) : E.rp σ P (loaded Q o t ls) rd = E.rp σ P (if tagg Q t then (if ls.length = tsz Q t then .done (setS o.dst (.agg ls)) else .fail) else loaded1 o ls) (rd) := rfl
@[simp] theorem r_loaded1 (o : Oper) (l : LV) : E.rp σ P (loaded1 o [l]) rd = E.rp σ P (.done (setS o.dst (.l l))) (rd) := rfl
@[simp] theorem r_load_fld (C : Cx) (o : Oper) (t j v off : Nat) : E.rp σ P (loadE C o t (.fld j v off)) rd = E.rp σ P (if tkn C.P t = false ∨ tsz C.P t = 0 then .fail else .rdB j fun b => if b.live ∧ b.v = v then loaded C.P o t ((b.cs.drop off).take (if tagg C.P t then tsz C.P t else 1)) else .fail) (rd) := rfl
@[simp] theorem r_load_adr (C : Cx) (o : Oper) (t : Nat) (xs : List D) : E.rp σ P (loadE C o t (.adr xs)) rd = E.rp σ P (if tkn C.P t = false ∨ tsz C.P t = 0 then .fail else loaded C.P o t ((xs.take (if tagg C.P t then tsz C.P t else 1)).map fun x => .d (shareC x))) (rd) := rfl
@[simp] theorem r_load_el (C : Cx) (o : Oper) (t i v : Nat) (p : List Nat) (s c : Nat) : E.rp σ P (loadE C o t (.el i v p s c)) rd = E.rp σ P (if tkn C.P t = false ∨ tsz C.P t = 0 then .fail else nodeE i v p s fun ob x => match x with | .sl sh _ _ xs => (if ob.st = .fz then loaded C.P o t (((xs.drop c).take (if tagg C.P t then tsz C.P t else 1)).map fun x => .d (shareC x)) else if sh then .fail else match toLVs i v p ob.s c ((xs.drop c).take (if tagg C.P t then tsz C.P t else 1)) with | some ls => loaded C.P o t ls | none => .fail) | _ => .fail) (rd) := rfl
@[simp] theorem r_storeSame (o : Oper) (i c : Nat) (p : List Nat) (ob : Obj) (xs : List D) (m : Option Nat) : E.rp σ P (storeSame o i c p ob xs m) rd = E.rp σ P (match xs[c]? with | some (.sl false e2 k2 zs) => .done ([.o i { ob with s := ob.s + 1, xs := ob.up (D.setC c (cutD (.sl false e2 k2 zs) m)) p }] ++ setS o.dst .dead) | _ => .fail) (rd) := rfl
@[simp] theorem r_storeMove (o : Oper) (fz : Bool) (i c : Nat) (p : List Nat) (ob : Obj) (l : LV) : E.rp σ P (storeMove o fz i c p ob l) rd = E.rp σ P (moveIn fz l [i] fun y ws _ => .done (ws ++ [.o i { ob with s := ob.s + 1, xs := ob.up (D.setC c y) p }] ++ setS o.dst .dead)) (rd) := rfl
@[simp] theorem r_storeIn_ref (C : Cx) (o : Oper) (i v c : Nat) (p : List Nat) (ob : Obj) (xs : List D) (i' v' : Nat) (p' : List Nat) (s' : Nat) (m' : Option Nat) : E.rp σ P (storeIn C o i v c p ob xs (.ref i' v' p' s' m')) rd = E.rp σ P (if i' = i then (if v' = v ∧ p' = p ++ [c] ∧ ob.s = s' then storeSame o i c p ob xs m' else .fail) else storeMove o (C.fz (site o)) i c p ob (.ref i' v' p' s' m')) (rd) := rfl
@[simp] theorem r_storeIn_d (C : Cx) (o : Oper) (i v c : Nat) (p : List Nat) (ob : Obj) (xs : List D) (x : D) : E.rp σ P (storeIn C o i v c p ob xs (.d x)) rd = E.rp σ P (storeMove o false i c p ob (.d x)) (rd) := rfl
@[simp] theorem r_storeEl (C : Cx) (o : Oper) (i v : Nat) (p : List Nat) (s c : Nat) (l : LV) : E.rp σ P (storeEl C o i v p s c l) rd = E.rp σ P (nodeE i v p s fun ob x => match x with | .sl false _ _ xs => (if ob.st = .own ∧ c < xs.length then storeIn C o i v c p ob xs l else .fail) | _ => .fail) (rd) := rfl
@[simp] theorem r_store_fld (C : Cx) (o : Oper) (t j v off : Nat) (y : AV) : E.rp σ P (storeE C o t (.fld j v off) y) rd = E.rp σ P (leafs y fun ls => if ls.length ≠ tsz C.P t ∨ ls.length = 0 then .fail else .rdB j fun b => if b.live ∧ b.v = v ∧ off + ls.length ≤ b.cs.length then .done ([.b j { b with cs := putAt b.cs off ls }] ++ setS o.dst .dead) else .fail) (rd) := rfl
@[simp] theorem r_store_el (C : Cx) (o : Oper) (t i v : Nat) (p : List Nat) (s c : Nat) (l : LV) : E.rp σ P (storeE C o t (.el i v p s c) (.l l)) rd = E.rp σ P (if tsz C.P t = 1 then storeEl C o i v p s c l else .fail) (rd) := rfl
@[simp] theorem r_fillL_nil (Q : Program) (t : Nat) (cs : List LV) (k : List LV → E) : E.rp σ P (fillL Q t cs [] k) rd = E.rp σ P (k cs) (rd) := rfl
@[simp] theorem r_fillL_cons (Q : Program) (t : Nat) (cs : List LV) (f : Nat) (x : Operand) (ps : List (Nat × Operand)) (k : List LV → E) : E.rp σ P (fillL Q t cs ((f, x) :: ps) k) rd = E.rp σ P (opd x fun a => leafs a fun ls => match tplace Q t f with | some (off, n) => if ls.length = n ∧ off + n ≤ cs.length then fillL Q t (putAt cs off ls) ps k else .fail | none => .fail) (rd) := rfl
@[simp] theorem r_fillD_nil (fz : Bool) (k : Nat) (cs : List D) (used : List Nat) (c : List D → List Wr → E) : E.rp σ P (fillD fz k cs [] used c) rd = E.rp σ P (c cs []) (rd) := rfl
@[simp] theorem r_fillD_cons (fz : Bool) (k : Nat) (cs : List D) (i : Nat) (x : Operand) (ps : List (Nat × Operand)) (used : List Nat) (c : List D → List Wr → E) : E.rp σ P (fillD fz k cs ((i, x) :: ps) used c) rd = E.rp σ P (opd x fun a => leafs a fun ls => if ls.length = k ∧ i * k + k ≤ cs.length then movesIn fz ls used fun ds ws used2 => fillD fz k (putAt cs (i * k) ds) ps used2 fun cs2 ws2 => c cs2 (ws ++ ws2) else .fail) (rd) := rfl
@[simp] theorem r_bytesE (C : Cx) (o : Oper) (t : Nat) (l : LV) : E.rp σ P (bytesE C o t (.l l)) rd = E.rp σ P (match tel C.P t with | some e => (if tint C.P e = some .u8 then lvD l fun x => bytesX o x else .fail) | none => .fail) (rd) := by unfold bytesE; cases tel C.P t <;> rfl
@[simp] theorem r_nilE (C : Cx) (o : Oper) (t : Nat) (x : AV) : E.rp σ P (nilE C o .eql t x) rd = E.rp σ P (if tel C.P t = none then .fail else nilE.nilB x fun b => .done (setS o.dst b)) (rd) := rfl
@[simp] theorem r_nilB_nil (e kk : Nat) (xs : List D) (k : AV → E) : E.rp σ P (nilE.nilB (.l (.d (.sl false e kk xs))) k) rd = E.rp σ P (k (.l (.d (.lit (.bool true))))) (rd) := rfl
@[simp] theorem r_nilB_sh (e kk : Nat) (k : AV → E) : E.rp σ P (nilE.nilB (.l (.d (.sl true e kk []))) k) rd = E.rp σ P (k .ub) (rd) := rfl
@[simp] theorem r_nilB_cons (e kk : Nat) (x : D) (xs : List D) (k : AV → E) : E.rp σ P (nilE.nilB (.l (.d (.sl true e kk (x :: xs)))) k) rd = E.rp σ P (k (.l (.d (.lit (.bool false))))) (rd) := rfl
@[simp] theorem r_nilB_ref (i v : Nat) (p : List Nat) (s : Nat) (m : Option Nat) (k : AV → E) : E.rp σ P (nilE.nilB (.l (.ref i v p s m)) k) rd = E.rp σ P (lvD (.ref i v p s m) fun x => match x with | .sl _ _ _ [] => k .ub | .sl _ _ _ (_ :: _) => k (.l (.d (.lit (.bool false)))) | _ => .fail) (rd) := rfl
@[simp] theorem r_cap_nil (C : Cx) (o : Oper) (e kk : Nat) (t : Nat) : E.rp σ P (capE C o (.l (.d (.sl false e kk []))) [t]) rd = E.rp σ P (if (tel C.P t).isSome then .done (setS o.dst (.l (.d (.lit (.int .i64 0))))) else .fail) (rd) := rfl
@[simp] theorem r_appX_d (C : Cx) (o : Oper) (e e' k' : Nat) (xs ys : List D) (yw : List Wr) (used : List Nat) : E.rp σ P (appX C o e (.d (.sl false e' k' xs)) ys yw used) rd = E.rp σ P (if fitsL C.P e (tsz C.P e) ys.length then .rdO (site o) fun ob => .done (yw ++ [.o (site o) ⟨ob.v + 1, 0, .own, e, tsz C.P e, ys⟩] ++ setS o.dst (.l (.ref (site o) (ob.v + 1) [] 0 none))) else .fail) rd := rfl
@[simp] theorem r_e_move (C : Cx) (d : Option Nat) (t : Nat) (g : Option (Nat × Bool)) (x : Operand) : E.rp σ P (eff C (SOp.op ⟨d, .move x, t, g⟩)) rd = E.rp σ P (opdT C.P t x fun a => .done (setS d a)) rd := rfl
@[simp] theorem r_e_assign (C : Cx) (d : Option Nat) (t : Nat) (g : Option (Nat × Bool)) (x : Operand) : E.rp σ P (eff C (SOp.op ⟨d, .assign x, t, g⟩)) rd = E.rp σ P (opdT C.P t x fun a => .done (setS d a)) rd := rfl
@[simp] theorem r_e_pick (C : Cx) (d : Option Nat) (t : Nat) (g : Option (Nat × Bool)) (c a b : Operand) : E.rp σ P (eff C (SOp.op ⟨d, .pick c a b, t, g⟩)) rd = E.rp σ P (opd c fun u => litE u fun v => match v with | .bool t => if t then opd a fun x => .done (setS d x) else opd b fun x => .done (setS d x) | _ => .fail) rd := rfl
@[simp] theorem r_e_alloc (C : Cx) (d : Option Nat) (t : Nat) (g : Option (Nat × Bool)) (u : Nat) : E.rp σ P (eff C (SOp.op ⟨d, .alloc u, t, g⟩)) rd = E.rp σ P (match tzero C.P u with | some z => .rdB (64 * d.getD 0) fun b => .done ([.b (64 * d.getD 0) ⟨b.v + 1, true, u, z.map .d⟩] ++ setS d (.fld (64 * d.getD 0) (b.v + 1) 0)) | none => .fail) rd := rfl
@[simp] theorem r_e_box (C : Cx) (d : Option Nat) (t : Nat) (g : Option (Nat × Bool)) (u : Nat) (x : Operand) : E.rp σ P (eff C (SOp.op ⟨d, .box u x, t, g⟩)) rd = E.rp σ P (opd x fun a => leafs a fun ls => if ls.length = tsz C.P u ∧ (tagg C.P u ∨ ls.length = 1) then .rdB (64 * d.getD 0) fun b => .done ([.b (64 * d.getD 0) ⟨b.v + 1, true, u, ls⟩] ++ setS d (.fld (64 * d.getD 0) (b.v + 1) 0)) else .fail) rd := rfl
@[simp] theorem r_e_build (C : Cx) (d : Option Nat) (t : Nat) (g : Option (Nat × Bool)) (u : Nat) (parts : Array (Nat × Operand)) : E.rp σ P (eff C (SOp.op ⟨d, .build u parts, t, g⟩)) rd = E.rp σ P (if tplOk C.P u then match tzero C.P u with | some z => fillL C.P u (z.map .d) parts.toList fun cs => .done (setS d (.agg cs)) | none => .fail else .fail) rd := rfl
@[simp] theorem r_e_buildSlice (C : Cx) (d : Option Nat) (t : Nat) (g : Option (Nat × Bool)) (u len : Nat) (parts : Array (Nat × Operand)) : E.rp σ P (eff C (SOp.op ⟨d, .buildSlice u len parts, t, g⟩)) rd = E.rp σ P (match tel C.P u with | some e => (match tzero C.P e with | some z => (if 0 < z.length ∧ z.length = tsz C.P e ∧ len * z.length ≤ 16777216 then fillD (C.fz (64 * d.getD 0)) z.length (zeros z len) parts.toList [64 * d.getD 0] fun cs ws => .rdO (64 * d.getD 0) fun ob => .done (ws ++ [.o (64 * d.getD 0) ⟨ob.v + 1, 0, .own, e, z.length, cs⟩] ++ setS d (.l (.ref (64 * d.getD 0) (ob.v + 1) [] 0 none))) else .fail) | none => .fail) | none => .fail) rd := rfl
@[simp] theorem r_e_load (C : Cx) (d : Option Nat) (t : Nat) (g : Option (Nat × Bool)) (u : Nat) (x : Operand) : E.rp σ P (eff C (SOp.op ⟨d, .load u x, t, g⟩)) rd = E.rp σ P (opd x fun a => loadE C (SOp.op ⟨d, .load u x, t, g⟩) u a) rd := rfl
@[simp] theorem r_e_store (C : Cx) (d : Option Nat) (t : Nat) (g : Option (Nat × Bool)) (u : Nat) (x y : Operand) : E.rp σ P (eff C (SOp.op ⟨d, .store u x y, t, g⟩)) rd = E.rp σ P (opd x fun a => opdT C.P u y fun b => storeE C (SOp.op ⟨d, .store u x y, t, g⟩) u a b) rd := rfl
@[simp] theorem r_e_nilCheck (C : Cx) (d : Option Nat) (t : Nat) (g : Option (Nat × Bool)) (x : Operand) : E.rp σ P (eff C (SOp.op ⟨d, .nilCheck x, t, g⟩)) rd = E.rp σ P (opd x fun a => match a with | .fld j v off => .rdB j fun b => if b.live ∧ b.v = v then .done (setS d (.fld j v off)) else .fail | .adr xs => .done (setS d (.adr xs)) | _ => .fail) rd := rfl
@[simp] theorem r_e_binOpNil (C : Cx) (d : Option Nat) (t : Nat) (g : Option (Nat × Bool)) (op : BinOp) (u : Nat) (x : Operand) (w : Nat) : E.rp σ P (eff C (SOp.op ⟨d, .binOp op u x (.const (.slice none 0 0)) w, t, g⟩)) rd = E.rp σ P (opd x fun a => nilE C (SOp.op ⟨d, .binOp op u x (.const (.slice none 0 0)) w, t, g⟩) op u a) rd := rfl
@[simp] theorem r_e_binOpT (C : Cx) (d : Option Nat) (t : Nat) (g : Option (Nat × Bool)) (op : BinOp) (u : Nat) (x : Operand) (n : Nat) (w : Nat) : E.rp σ P (eff C (SOp.op ⟨d, .binOp op u x (.tmp n) w, t, g⟩)) rd = E.rp σ P (opd x fun a => opd (.tmp n) fun b => litE a fun u => litE b fun v => match binV op u v with | some r => .done (setS d (.l (.d (.lit r)))) | none => .fail) rd := rfl
@[simp] theorem r_e_binOpI (C : Cx) (d : Option Nat) (t : Nat) (g : Option (Nat × Bool)) (op : BinOp) (u : Nat) (x : Operand) (i : IntKind) (n : Int) (w : Nat) : E.rp σ P (eff C (SOp.op ⟨d, .binOp op u x (.const (.int i n)) w, t, g⟩)) rd = E.rp σ P (opd x fun a => litE a fun u => match binV op u (.int i n) with | some r => .done (setS d (.l (.d (.lit r)))) | none => .fail) rd := rfl
@[simp] theorem r_e_binOpB (C : Cx) (d : Option Nat) (t : Nat) (g : Option (Nat × Bool)) (op : BinOp) (u : Nat) (x : Operand) (n : Bool) (w : Nat) : E.rp σ P (eff C (SOp.op ⟨d, .binOp op u x (.const (.bool n)) w, t, g⟩)) rd = E.rp σ P (opd x fun a => litE a fun u => match binV op u (.bool n) with | some r => .done (setS d (.l (.d (.lit r)))) | none => .fail) rd := rfl
@[simp] theorem r_e_binOpS (C : Cx) (d : Option Nat) (t : Nat) (g : Option (Nat × Bool)) (op : BinOp) (u : Nat) (x : Operand) (n : ByteArray) (w : Nat) : E.rp σ P (eff C (SOp.op ⟨d, .binOp op u x (.const (.string n)) w, t, g⟩)) rd = E.rp σ P (opd x fun a => litE a fun u => match binV op u (.string n) with | some r => .done (setS d (.l (.d (.lit r)))) | none => .fail) rd := rfl
@[simp] theorem r_e_unOp (C : Cx) (d : Option Nat) (t : Nat) (g : Option (Nat × Bool)) (op : UnOp) (u : Nat) (x : Operand) : E.rp σ P (eff C (SOp.op ⟨d, .unOp op u x, t, g⟩)) rd = E.rp σ P (opd x fun a => litE a fun u => match unV op u with | some r => .done (setS d (.l (.d (.lit r)))) | none => .fail) rd := rfl
@[simp] theorem r_e_convert (C : Cx) (d : Option Nat) (t : Nat) (g : Option (Nat × Bool)) (t0 u : Nat) (x : Operand) : E.rp σ P (eff C (SOp.op ⟨d, .convert t0 u x, t, g⟩)) rd = E.rp σ P (if tstr C.P u then opd x fun a => bytesE C (SOp.op ⟨d, .convert t0 u x, t, g⟩) t0 a else opd x fun a => litE a fun y => convX C d t0 u y) rd := rfl
@[simp] theorem r_e_makeSlice (C : Cx) (d : Option Nat) (t : Nat) (g : Option (Nat × Bool)) (u : Nat) (l c : Operand) : E.rp σ P (eff C (SOp.op ⟨d, .makeSlice u l c, t, g⟩)) rd = E.rp σ P (match tel C.P u with | some e => (match tzero C.P e with | some z => (opd l fun a => opd c fun b => litE a fun u => litE b fun v => makeX C d e z u v) | none => .fail) | none => .fail) rd := rfl
@[simp] theorem r_e_slice (C : Cx) (d : Option Nat) (t : Nat) (g : Option (Nat × Bool)) (u : Nat) (x : Operand) (lo hi : Option Operand) : E.rp σ P (eff C (SOp.op ⟨d, .slice u x lo hi none, t, g⟩)) rd = E.rp σ P (opd x fun a => sliceE C (SOp.op ⟨d, .slice u x lo hi none, t, g⟩) u a lo hi) rd := rfl
@[simp] theorem r_e_fieldAddr (C : Cx) (d : Option Nat) (t : Nat) (g : Option (Nat × Bool)) (u : Nat) (x : Operand) (f : Nat) : E.rp σ P (eff C (SOp.op ⟨d, .fieldAddr u x f, t, g⟩)) rd = E.rp σ P (opd x fun a => match tfld C.P u f with | some (off, ft) => (if tsz C.P ft = 0 then .fail else fldX d off a) | none => .fail) rd := rfl
@[simp] theorem r_e_field (C : Cx) (d : Option Nat) (t : Nat) (g : Option (Nat × Bool)) (u : Nat) (x : Operand) (f : Nat) : E.rp σ P (eff C (SOp.op ⟨d, .field u x f, t, g⟩)) rd = E.rp σ P (opd x fun a => match a, tfld C.P u f with | .agg ls, some (off, ft) => if tkn C.P ft = false ∨ tsz C.P ft = 0 then .fail else loaded C.P (SOp.op ⟨d, .field u x f, t, g⟩) ft ((ls.drop off).take (if tagg C.P ft then tsz C.P ft else 1)) | _, _ => .fail) rd := rfl
@[simp] theorem r_e_indexAddr (C : Cx) (d : Option Nat) (t : Nat) (g : Option (Nat × Bool)) (u : Nat) (x n : Operand) : E.rp σ P (eff C (SOp.op ⟨d, .indexAddr u x n, t, g⟩)) rd = E.rp σ P (opd x fun a => opd n fun b => litE b fun v => match v with | .int _ i => idxAddrE C (SOp.op ⟨d, .indexAddr u x n, t, g⟩) u a i | _ => .fail) rd := rfl
@[simp] theorem r_e_index (C : Cx) (d : Option Nat) (t : Nat) (g : Option (Nat × Bool)) (u : Nat) (x n : Operand) : E.rp σ P (eff C (SOp.op ⟨d, .index u x n, t, g⟩)) rd = E.rp σ P (opd x fun a => opd n fun b => litE a fun y => litE b fun v => match y, v with | .string s, .int _ i => if tstr C.P u then (if 0 ≤ i then match s[i.toNat]? with | some c => .done (setS d (.l (.d (.lit (.int .u8 c.toNat))))) | none => .fail else .fail) else .fail | _, _ => .fail) rd := rfl
@[simp] theorem r_e_extract (C : Cx) (d : Option Nat) (t : Nat) (g : Option (Nat × Bool)) (x : Operand) (n : Nat) : E.rp σ P (eff C (SOp.op ⟨d, .extract x n, t, g⟩)) rd = E.rp σ P (opd x fun a => match a with | .tup vs => (match vs[n]? with | some (false, [l]) => .done (setS d (.l l)) | some (true, ls) => .done (setS d (.agg ls)) | _ => .fail) | _ => .fail) rd := rfl
@[simp] theorem r_e_callF (C : Cx) (d : Option Nat) (t : Nat) (g : Option (Nat × Bool)) (f : Nat) (args : Array Operand) (ts : Array Nat) : E.rp σ P (eff C (SOp.op ⟨d, .call { callee := .value (.func f), args := args, argTypes := ts }, t, g⟩)) rd = E.rp σ P (match C.ct f with | some sp => callE C.P (SOp.op ⟨d, .call { callee := .value (.func f), args := args, argTypes := ts }, t, g⟩) sp args.toList ts.toList | none => .fail) rd := rfl
@[simp] theorem r_e_callB (C : Cx) (d : Option Nat) (t : Nat) (g : Option (Nat × Bool)) (b : Builtin) (args : Array Operand) (ts : Array Nat) : E.rp σ P (eff C (SOp.op ⟨d, .call { callee := .builtin b, args := args, argTypes := ts }, t, g⟩)) rd = E.rp σ P (builtinE C (SOp.op ⟨d, .call { callee := .builtin b, args := args, argTypes := ts }, t, g⟩) b args.toList ts.toList) rd := rfl
end
end Go.Proofs.Ytmbmebfeoejlnaa.Ab
