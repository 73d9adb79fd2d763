/- Specifications over plain Lean values; contracts of functions whose parameters are no pointers. -/
import Derived.Test.YtmbmebfeoejlnaaA24
namespace Go.Proofs.Ytmbmebfeoejlnaa.Ab
set_option linter.unusedVariables false
set_option linter.unusedSimpArgs false
open Go.RowKit

def argD {α : Type} (ag : Bool) (T : Ty α) : Arg → Option α
  | .val b ds => if b = ag ∧ (ag = false → ds.length = 1) then T.dec ds else none
  | _ => none
/-- the same leaf, known less well -/
def wkAV : AV → AV
  | .l (.d x) => .l (.d (shareC x))
  | x => x
theorem wkAV_ok {O : Nat → Obj} {B : Nat → Box} {G : Gh} {w : World} {x : AV} {u : Value} (h : SOK O B G w x u) : SOK O B G w (wkAV x) u := by
  unfold wkAV
  split
  · have h' : LOK O G w (.d _) u := h
    exact ⟨shareC_rep h'.1, shareC_nil⟩
  · exact h
theorem Sat.weak {C : Cx} {fr : Fr} {N : Nat} {σ : St} {Q : Exit → St → Prop} {c : Code} (h : Sat C fr N c ⟨fun t => wkAV (σ.s t), σ.o, σ.b⟩ Q) : Sat C fr N c σ Q := by
  intro G a w hi
  exact h G a w ⟨hi.size, hi.defers, fun t => wkAV_ok (hi.slots t), hi.objs, hi.fzs, hi.boxes, hi.sF, hi.sS, hi.bF, hi.bS, hi.bB, hi.rF, hi.rS, hi.rB, hi.Fw, hi.frame⟩
def argV : Arg → AV
  | .val true xs => .agg (xs.map fun x => .d (shareC x))
  | .val false [x] => .l (.d (shareC x))
  | _ => .dead
/-- the state that a call begins with -/
def st0 (l : List AV) : St := ⟨fun t => l.getD t .und, fun _ => ⟨0, 0, .dead, 0, 0, []⟩, fun _ => ⟨0, false, 0, []⟩⟩
def tyV {α : Type} (ag : Bool) (T : Ty α) (x : α) : AV := if ag then .agg ((T.enc true x).map .d) else .l (.d ((T.enc true x).headD .hole))
theorem argD_inv {α : Type} {ag : Bool} {T : Ty α} {g : Arg} {x : α} (h : argD ag T g = some x) : isPtr g = false ∧ argV g = tyV ag T x := by
  unfold argD at h
  split at h
  · rename_i b ds
    split at h
    · rename_i hc
      obtain ⟨rfl, hl⟩ := hc
      refine ⟨rfl, ?_⟩
      have e := T.ed _ _ h
      cases b with
      | true => simp [argV, tyV, ← e]
      | false =>
        obtain ⟨d, rfl⟩ := List.length_eq_one_iff.1 (hl rfl)
        simp [argV, tyV, ← e]
    · cases h
  · cases h
def sp0 (out : Option Out) : Spec
  | [] => out
  | _ => none
def sp1 {α : Type} (a : Bool) (T : Ty α) (f : α → Option Out) : Spec
  | [x] => (argD a T x).bind f
  | _ => none
def sp2 {α β : Type} (a : Bool) (T : Ty α) (b : Bool) (U : Ty β) (f : α → β → Option Out) : Spec
  | [x, y] => (argD a T x).bind fun x => (argD b U y).bind fun y => f x y
  | _ => none
def sp3 {α β γ : Type} (a : Bool) (T : Ty α) (b : Bool) (U : Ty β) (c : Bool) (V : Ty γ) (f : α → β → γ → Option Out) : Spec
  | [x, y, z] => (argD a T x).bind fun x => (argD b U y).bind fun y => (argD c V z).bind fun z => f x y z
  | _ => none
def sp4 {α β γ δ : Type} (a : Bool) (T : Ty α) (b : Bool) (U : Ty β) (c : Bool) (V : Ty γ) (d : Bool) (W : Ty δ) (f : α → β → γ → δ → Option Out) : Spec
  | [x, y, z, u] => (argD a T x).bind fun x => (argD b U y).bind fun y => (argD c V z).bind fun z => (argD d W u).bind fun u => f x y z u
  | _ => none
def sp5 {α β γ δ ε : Type} (a : Bool) (T : Ty α) (b : Bool) (U : Ty β) (c : Bool) (V : Ty γ) (d : Bool) (W : Ty δ) (e : Bool) (X : Ty ε) (f : α → β → γ → δ → ε → Option Out) : Spec
  | [x, y, z, u, v] => (argD a T x).bind fun x => (argD b U y).bind fun y => (argD c V z).bind fun z => (argD d W u).bind fun u => (argD e X v).bind fun v => f x y z u v
  | _ => none

theorem enter_vals {gs : List Arg} {tt : Nat} (h : ∀ g ∈ gs, isPtr g = false) : (⟨fun t => wkAV ((enter gs tt).s t), (enter gs tt).o, (enter gs tt).b⟩ : St) = st0 (gs.map argV) := by
  unfold enter st0
  congr 1
  · funext t
    rw [List.getD_eq_getElem?_getD, List.getElem?_map]
    dsimp only
    cases hg : gs[t]? with
    | none => simp [wkAV]
    | some g =>
      have := h g (List.mem_of_getElem? hg)
      cases g with
      | ptr => cases this
      | val b ds =>
        cases b with
        | true => simp [wkAV, argAV, argV]
        | false => cases ds with
          | nil => simp [wkAV, argAV, argV]
          | cons d ds => cases ds <;> simp [wkAV, argAV, argV]
  · funext j
    dsimp only
    split
    · cases hg : gs[j / 64]? with
      | none => rfl
      | some g =>
        have := h g (List.mem_of_getElem? hg)
        cases g with
        | ptr => cases this
        | val b ds => rfl
    · rfl
theorem ptrOK_vals {out : Out} {σ : St} : ∀ {gs : List Arg} {n : Nat}, (∀ g ∈ gs, isPtr g = false) → ptrOK out σ n gs
  | [], _, _ => trivial
  | .val _ _ :: gs, n, h => ptrOK_vals (gs := gs) (fun g hg => h g (by simp [hg]))
  | .ptr _ :: gs, n, h => by have := h _ List.mem_cons_self; cases this
theorem RetQ.vals {P : Program} {rs : List ResultVar} {gs : List Arg} {out : Out} {e : Exit} {σ : St} (hg : ∀ g ∈ gs, isPtr g = false) (h : RetQ P rs [] out e σ) : RetQ P rs gs out e σ := by
  cases e with
  | normal => exact ⟨h.1, ptrOK_vals hg⟩
  | ret => exact ⟨h.1, ptrOK_vals hg⟩
  | exit => exact h
  | goto => exact h
  | panic => exact h
  | outgrown => exact h
theorem Contract.introV {C : Cx} {f : Nat} {sp : Spec} {fn : Func} {c : Code} (hf : C.P.funcs[f]? = some fn) (hn : (fn.name == "runtime.NumGoroutine") = false) (hb : fn.body = some c) (hN : fn.ntmps = C.N)
    (h : ∀ gs out, sp gs = some out → ∃ avs, (∀ g ∈ gs, isPtr g = false) ∧ gs.length ≤ C.N ∧ gs.map argV = avs ∧ ∀ fr, Sat C fr C.N c (st0 avs) (RetQ C.P fn.results.toList [] out)) : Contract C.P f sp := by
  refine Contract.intro hf hn hb hN fun gs out hsp => ?_
  obtain ⟨avs, h1, h2, rfl, h3⟩ := h gs out hsp
  exact ⟨h2, fun fr tt => Sat.weak (by rw [enter_vals h1]; exact (h3 fr).mono fun e s hq => hq.vals h1)⟩
section
variable {C : Cx} {f : Nat} {fn : Func} {c : Code} (hf : C.P.funcs[f]? = some fn) (hn : (fn.name == "runtime.NumGoroutine") = false) (hb : fn.body = some c) (hN : fn.ntmps = C.N)
include hf hn hb hN
theorem Contract.intro0 {o : Option Out} (h : ∀ out, o = some out → ∀ fr, Sat C fr C.N c (st0 []) (RetQ C.P fn.results.toList [] out)) : Contract C.P f (sp0 o) := by
  refine Contract.introV hf hn hb hN fun gs out hsp => ?_
  unfold sp0 at hsp
  split at hsp
  · exact ⟨_, by simp, by simp, rfl, h out hsp⟩
  · cases hsp
theorem Contract.intro1 {α : Type} {a : Bool} {T : Ty α} {o : α → Option Out} (h1 : 1 ≤ C.N) (h : ∀ x out, o x = some out → ∀ fr, Sat C fr C.N c (st0 [tyV a T x]) (RetQ C.P fn.results.toList [] out)) : Contract C.P f (sp1 a T o) := by
  refine Contract.introV hf hn hb hN fun gs out hsp => ?_
  unfold sp1 at hsp
  split at hsp
  · obtain ⟨x, e1, hsp⟩ := Option.bind_eq_some_iff.1 hsp
    obtain ⟨p1, v1⟩ := argD_inv e1
    exact ⟨_, by simp [p1], by simpa using h1, by simp [v1], h x out hsp⟩
  · cases hsp
theorem Contract.intro2 {α β : Type} {a b : Bool} {T : Ty α} {U : Ty β} {o : α → β → Option Out} (h1 : 2 ≤ C.N) (h : ∀ x y out, o x y = some out → ∀ fr, Sat C fr C.N c (st0 [tyV a T x, tyV b U y]) (RetQ C.P fn.results.toList [] out)) : Contract C.P f (sp2 a T b U o) := by
  refine Contract.introV hf hn hb hN fun gs out hsp => ?_
  unfold sp2 at hsp
  split at hsp
  · obtain ⟨x, e1, hsp⟩ := Option.bind_eq_some_iff.1 hsp
    obtain ⟨y, e2, hsp⟩ := Option.bind_eq_some_iff.1 hsp
    obtain ⟨p1, v1⟩ := argD_inv e1
    obtain ⟨p2, v2⟩ := argD_inv e2
    exact ⟨_, by simp [p1, p2], by simpa using h1, by simp [v1, v2], h x y out hsp⟩
  · cases hsp
theorem Contract.intro3 {α β γ : Type} {a b d : Bool} {T : Ty α} {U : Ty β} {V : Ty γ} {o : α → β → γ → Option Out} (h1 : 3 ≤ C.N) (h : ∀ x y z out, o x y z = some out → ∀ fr, Sat C fr C.N c (st0 [tyV a T x, tyV b U y, tyV d V z]) (RetQ C.P fn.results.toList [] out)) : Contract C.P f (sp3 a T b U d V o) := by
  refine Contract.introV hf hn hb hN fun gs out hsp => ?_
  unfold sp3 at hsp
  split at hsp
  · obtain ⟨x, e1, hsp⟩ := Option.bind_eq_some_iff.1 hsp
    obtain ⟨y, e2, hsp⟩ := Option.bind_eq_some_iff.1 hsp
    obtain ⟨z, e3, hsp⟩ := Option.bind_eq_some_iff.1 hsp
    obtain ⟨p1, v1⟩ := argD_inv e1
    obtain ⟨p2, v2⟩ := argD_inv e2
    obtain ⟨p3, v3⟩ := argD_inv e3
    exact ⟨_, by simp [p1, p2, p3], by simpa using h1, by simp [v1, v2, v3], h x y z out hsp⟩
  · cases hsp
theorem Contract.intro4 {α β γ δ : Type} {a b d e : Bool} {T : Ty α} {U : Ty β} {V : Ty γ} {W : Ty δ} {o : α → β → γ → δ → Option Out} (h1 : 4 ≤ C.N) (h : ∀ x y z u out, o x y z u = some out → ∀ fr, Sat C fr C.N c (st0 [tyV a T x, tyV b U y, tyV d V z, tyV e W u]) (RetQ C.P fn.results.toList [] out)) : Contract C.P f (sp4 a T b U d V e W o) := by
  refine Contract.introV hf hn hb hN fun gs out hsp => ?_
  unfold sp4 at hsp
  split at hsp
  · obtain ⟨x, e1, hsp⟩ := Option.bind_eq_some_iff.1 hsp
    obtain ⟨y, e2, hsp⟩ := Option.bind_eq_some_iff.1 hsp
    obtain ⟨z, e3, hsp⟩ := Option.bind_eq_some_iff.1 hsp
    obtain ⟨u, e4, hsp⟩ := Option.bind_eq_some_iff.1 hsp
    obtain ⟨p1, v1⟩ := argD_inv e1
    obtain ⟨p2, v2⟩ := argD_inv e2
    obtain ⟨p3, v3⟩ := argD_inv e3
    obtain ⟨p4, v4⟩ := argD_inv e4
    exact ⟨_, by simp [p1, p2, p3, p4], by simpa using h1, by simp [v1, v2, v3, v4], h x y z u out hsp⟩
  · cases hsp
theorem Contract.intro5 {α β γ δ ε : Type} {a b d e g : Bool} {T : Ty α} {U : Ty β} {V : Ty γ} {W : Ty δ} {X : Ty ε} {o : α → β → γ → δ → ε → Option Out} (h1 : 5 ≤ C.N) (h : ∀ x y z u v out, o x y z u v = some out → ∀ fr, Sat C fr C.N c (st0 [tyV a T x, tyV b U y, tyV d V z, tyV e W u, tyV g X v]) (RetQ C.P fn.results.toList [] out)) : Contract C.P f (sp5 a T b U d V e W g X o) := by
  refine Contract.introV hf hn hb hN fun gs out hsp => ?_
  unfold sp5 at hsp
  split at hsp
  · obtain ⟨x, e1, hsp⟩ := Option.bind_eq_some_iff.1 hsp
    obtain ⟨y, e2, hsp⟩ := Option.bind_eq_some_iff.1 hsp
    obtain ⟨z, e3, hsp⟩ := Option.bind_eq_some_iff.1 hsp
    obtain ⟨u, e4, hsp⟩ := Option.bind_eq_some_iff.1 hsp
    obtain ⟨v, e5, hsp⟩ := Option.bind_eq_some_iff.1 hsp
    obtain ⟨p1, v1⟩ := argD_inv e1
    obtain ⟨p2, v2⟩ := argD_inv e2
    obtain ⟨p3, v3⟩ := argD_inv e3
    obtain ⟨p4, v4⟩ := argD_inv e4
    obtain ⟨p5, v5⟩ := argD_inv e5
    exact ⟨_, by simp [p1, p2, p3, p4, p5], by simpa using h1, by simp [v1, v2, v3, v4, v5], h x y z u v out hsp⟩
  · cases hsp
end
end Go.Proofs.Ytmbmebfeoejlnaa.Ab
