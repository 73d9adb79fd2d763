/- What is unfolded by reckoning. -/
import Derived.Test.YtmbmebfeoejlnaaA25
namespace Go.Proofs.Ytmbmebfeoejlnaa.Ab
set_option linter.unusedVariables false
set_option linter.unusedSimpArgs false
open Go.RowKit
attribute [simp] tokE Obj.d zeros toLV toLVs putAt someP thenQ blockQ setS dstOk site anyShared tyV st0 RetQ RetOK resAVs resAV outAll outVal outLeaf outLeafs ptrOK sp0 sp1 sp2 sp3 sp4 sp5 argD litsOf
@[simp] theorem pureL_map {α : Type} (f : α → D) : ∀ xs : List α, pureL (xs.map f) = xs.all fun x => (f x).pure
  | [] => rfl
  | x :: xs => by simp [pureL, pureL_map f xs]
attribute [simp] pureL_app D.pure pureL
@[simp] theorem tInt_n {k : IntKind} : (tInt k).n = 1 := rfl
@[simp] theorem tInt_enc {k : IntKind} {b : Bool} : (tInt k).enc b = fun x => [.lit (.int k x)] := rfl
@[simp] theorem tInt_dec {k k' : IntKind} {x : Int} : (tInt k).dec [.lit (.int k' x)] = if k' = k then some x else none := rfl
@[simp] theorem tBool_n : tBool.n = 1 := rfl
@[simp] theorem tBool_enc {b : Bool} : tBool.enc b = fun x => [.lit (.bool x)] := rfl
@[simp] theorem tBool_dec {x : Bool} : tBool.dec [.lit (.bool x)] = some x := rfl
@[simp] theorem tStr_n : tStr.n = 1 := rfl
@[simp] theorem tStr_enc {b : Bool} : tStr.enc b = fun x => [.lit (.string x)] := rfl
@[simp] theorem tStr_dec {x : ByteArray} : tStr.dec [.lit (.string x)] = some x := rfl
@[simp] theorem tSl_n {α : Type} {e : Nat} {T : Ty α} : (tSl e T).n = 1 := rfl
@[simp] theorem tSl_enc {α : Type} {e : Nat} {T : Ty α} {b : Bool} : (tSl e T).enc b = fun x => [.sl b e T.n (x.flatMap (T.enc b))] := rfl
@[simp] theorem tSl_dec {α : Type} {e e' k : Nat} {T : Ty α} {b : Bool} {ds : List D} : (tSl e T).dec [.sl b e' k ds] = if e' = e ∧ k = T.n then decAll T ds.length ds else none := rfl
@[simp] theorem tPair_n {α β : Type} {T : Ty α} {U : Ty β} : (tPair T U).n = T.n + U.n := rfl
@[simp] theorem tPair_enc {α β : Type} {T : Ty α} {U : Ty β} {b : Bool} : (tPair T U).enc b = fun x => T.enc b x.1 ++ U.enc b x.2 := rfl
@[simp] theorem tPair_dec {α β : Type} {T : Ty α} {U : Ty β} {ds : List D} : (tPair T U).dec ds = (T.dec (ds.take T.n)).bind fun x => (U.dec (ds.drop T.n)).map fun y => (x, y) := rfl
@[simp] theorem iso_n {α β : Type} {T : Ty α} {f : α → β} {g : β → α} {h1 h2} : (T.iso f g h1 h2).n = T.n := rfl
@[simp] theorem iso_enc {α β : Type} {T : Ty α} {f : α → β} {g : β → α} {h1 h2} {b : Bool} : (T.iso f g h1 h2).enc b = fun y => T.enc b (g y) := rfl
@[simp] theorem iso_dec {α β : Type} {T : Ty α} {f : α → β} {g : β → α} {h1 h2} {ds : List D} : (T.iso f g h1 h2).dec ds = (T.dec ds).map f := rfl
theorem decAll_map' {α : Type} {T : Ty α} {d : α → D} (hn : T.n = 1) (h : ∀ x, T.dec [d x] = some x) : ∀ (xs : List α) (n : Nat), xs.length ≤ n → decAll T n (xs.map d) = some xs
  | [], n, _ => by cases n <;> rfl
  | x :: xs, 0, h2 => by simp at h2
  | x :: xs, n + 1, h2 => by
    rw [List.map_cons, decAll_succ T n _ (by simp), hn]
    simp only [List.take_succ_cons, List.take_zero, List.drop_succ_cons, List.drop_zero, h]
    rw [decAll_map' hn h xs n (by simpa using h2)]
    rfl
@[simp] theorem decAll_map {α : Type} {T : Ty α} {d : α → D} (hn : T.n = 1) (h : ∀ x, T.dec [d x] = some x) (xs : List α) : decAll T xs.length (xs.map d) = some xs := decAll_map' hn h xs _ (Nat.le_refl _)
/-- the contracts that a text knows -/
@[simp] def ctOf : List (Nat × Spec) → Nat → Option Spec
  | [], _ => none
  | (n, s) :: l, f => if f = n then some s else ctOf l f
def Known (P : Program) : List (Nat × Spec) → Prop
  | [] => True
  | (n, s) :: l => Contract P n s ∧ Known P l
theorem knows {P : Program} {N : Nat} {fz : Nat → Bool} : ∀ {l : List (Nat × Spec)}, Known P l → Knows ⟨P, N, ctOf l, fz⟩
  | [], _ => fun f sp h => by cases h
  | (n, s) :: l, hk => fun f sp h => by
    have h2 : (if f = n then some s else ctOf l f) = some sp := h
    clear h
    by_cases e : f = n
    · rw [if_pos e] at h2; subst e; obtain rfl := Option.some.inj h2; exact hk.1
    · rw [if_neg e] at h2; exact knows (N := N) (fz := fz) hk.2 f sp h2
/-- what an abstract machine knows that calls so many -/
noncomputable def cx (N : Nat) (l : List (Nat × Spec)) : Cx := ⟨Try.prog, N, ctOf l, fun _ => false⟩
end Go.Proofs.Ytmbmebfeoejlnaa.Ab
