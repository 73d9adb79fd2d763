/- Regions with their operations slimmed. -/
import Derived.Test.YtmbmebfeoejlnaaA29
namespace Go.Proofs.Ytmbmebfeoejlnaa.Ab
set_option linter.unusedVariables false
set_option linter.unusedSimpArgs false
open Go.RowKit
/-- an operation: where to, what, of which type, and its guard's slot -/
structure SOp where
  d : Option Nat
  o : Op
  t : Nat
  g : Option (Nat × Bool)
def SOp.op (x : SOp) : Oper := { dst := x.d, op := x.o, type := x.t, pos := "", after := #[], guard := none }
def sgd (ops : Array Oper) (o : Oper) : Option (Nat × Bool) := match o.guard with
  | none => none
  | some (j, want) => match (ops[j]?).bind (·.dst) with
    | some d => some (d, want)
    | none => none
def gOk (ops : Array Oper) (o : Oper) : Bool := match o.guard with
  | none => true
  | some (j, _) => ((ops[j]?).bind (·.dst)).isSome
def slim (ops : Array Oper) (l : List Oper) : List SOp := l.map fun o => ⟨o.dst, o.op, o.type, sgd ops o⟩
def guardS (g : Option (Nat × Bool)) (k : Bool → E) : E := match g with
  | none => k true
  | some (d, want) => .rdS d fun a => match a with
      | .l (.d (.lit (.bool b))) => k (b == want)
      | .und => k false
      | _ => .fail
def stepS (C : Cx) (x : SOp) : E := if dstOk C.N x.d = false then .fail else guardS x.g fun g => if g then eff C x.op else .done (setS x.d .und)
def runS (C : Cx) : List SOp → St → Option St
  | [], σ => some σ
  | x :: rest, σ => match (stepS C x).run σ with
    | some ws => runS C rest (σ.wrs ws)
    | none => none
def traceS (C : Cx) : List SOp → St → Option (St × List (List Loc × List Wr))
  | [], σ => some (σ, [])
  | x :: rest, σ => match (stepS C x).run σ with
    | some ws => (traceS C rest (σ.wrs ws)).map fun p => (p.1, ((stepS C x).reads σ, ws) :: p.2)
    | none => none
theorem eff_slim (C : Cx) (o : Oper) (g : Option (Nat × Bool)) : eff C (SOp.op ⟨o.dst, o.op, o.type, g⟩) = eff C o := rfl
theorem step_slim (C : Cx) (ops : Array Oper) (o : Oper) (h : gOk ops o = true) : stepE C ops o = stepS C ⟨o.dst, o.op, o.type, sgd ops o⟩ := by
  unfold stepE stepS guardE guardS
  rw [eff_slim]
  cases hg : o.guard with
  | none => simp [sgd, hg]
  | some p =>
    obtain ⟨j, want⟩ := p
    simp only [gOk, hg] at h
    simp only [sgd, hg]
    cases hd : (ops[j]?).bind (·.dst) with
    | none => rw [hd] at h; cases h
    | some d => rfl
theorem run_slim (C : Cx) (ops : Array Oper) : ∀ (l : List Oper) (σ : St), (l.all (gOk ops)) = true → runOps C ops l σ = runS C (slim ops l) σ
  | [], σ, _ => rfl
  | o :: l, σ, h => by
    rw [List.all_cons, Bool.and_eq_true] at h
    show runOps C ops (o :: l) σ = runS C (⟨o.dst, o.op, o.type, sgd ops o⟩ :: slim ops l) σ
    simp only [runOps, runS, step_slim C ops o h.1]
    cases (stepS C ⟨o.dst, o.op, o.type, sgd ops o⟩).run σ with
    | none => rfl
    | some ws => exact run_slim C ops l _ h.2
theorem trace_slim (C : Cx) (ops : Array Oper) : ∀ (l : List Oper) (σ : St), (l.all (gOk ops)) = true → traceOps C ops l σ = traceS C (slim ops l) σ
  | [], σ, _ => rfl
  | o :: l, σ, h => by
    rw [List.all_cons, Bool.and_eq_true] at h
    show traceOps C ops (o :: l) σ = traceS C (⟨o.dst, o.op, o.type, sgd ops o⟩ :: slim ops l) σ
    simp only [traceOps, traceS, step_slim C ops o h.1]
    cases (stepS C ⟨o.dst, o.op, o.type, sgd ops o⟩).run σ with
    | none => rfl
    | some ws => simp only [trace_slim C ops l _ h.2]
section
variable {C : Cx} {fr : Fr} {σ : St}
theorem Sat.regionS (hk : Knows C) {Q : Exit → St → Prop} {id : Nat} {ops : Array Oper} (l : List SOp) (hg : (ops.toList.all (gOk ops)) = true) (hl : slim ops ops.toList = l) (h : someP (Q .normal) (runS C l σ)) : Sat C fr C.N (.region id ops false) σ Q := by
  subst hl
  exact Sat.region hk (by rw [run_slim C ops _ _ hg]; exact h)
theorem Sat.regionDS (hk : Knows C) (hm : C.P.follows .mixedOrders = true) {Q : Exit → St → Prop} {id : Nat} {ops : Array Oper} (l : List SOp) (an : List Nat) (hg : (ops.toList.all (gOk ops)) = true) (hl : slim ops ops.toList = l) (hac : acyc ops.toList = true) (han : ancs ops.toList = an)
    (h : someP (fun p => okTr an (locsOf p.2) = true ∧ Q .normal p.1) (traceS C l σ)) : Sat C fr C.N (.region id ops true) σ Q := by
  subst hl; subst han
  exact Sat.regionD hk hm hac (by rw [trace_slim C ops _ _ hg]; exact h)
end
end Go.Proofs.Ytmbmebfeoejlnaa.Ab
