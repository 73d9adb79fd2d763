/- Plain Lean types told as data (D): how a value is told, how it is read back. -/
import Derived.Test.YtmbmebfeoejlnaaA22
namespace Go.Proofs.Ytmbmebfeoejlnaa.Ab
set_option linter.unusedVariables false
set_option linter.unusedSimpArgs false
open Go.RowKit

structure Ty (α : Type) where
  n : Nat
  pos : 0 < n
  enc : Bool → α → List D
  dec : List D → Option α
  len : ∀ b x, (enc b x).length = n
  de : ∀ b x, dec (enc b x) = some x
  ed : ∀ ds x, dec ds = some x → ds.map shareC = enc true x
  pure : ∀ x, pureL (enc false x) = true
theorem Ty.sh {α : Type} (T : Ty α) (b : Bool) (x : α) : (T.enc b x).map shareC = T.enc true x := T.ed _ _ (T.de b x)
theorem pureL_app : ∀ {xs ys : List D}, pureL (xs ++ ys) = (pureL xs && pureL ys)
  | [], ys => by simp [pureL]
  | x :: xs, ys => by simp [pureL, pureL_app (xs := xs), Bool.and_assoc]
def tInt (k : IntKind) : Ty Int where
  n := 1
  pos := by omega
  enc _ x := [.lit (.int k x)]
  dec
    | [.lit (.int k' x)] => if k' = k then some x else none
    | _ => none
  len _ _ := rfl
  de _ x := by simp
  ed ds x h := by
    split at h
    · split at h
      · rename_i e; subst e; obtain rfl := Option.some.inj h; simp [shareC]
      · cases h
    · cases h
  pure x := rfl
def tBool : Ty Bool where
  n := 1
  pos := by omega
  enc _ x := [.lit (.bool x)]
  dec
    | [.lit (.bool x)] => some x
    | _ => none
  len _ _ := rfl
  de _ x := rfl
  ed ds x h := by
    split at h
    · obtain rfl := Option.some.inj h; simp [shareC]
    · cases h
  pure x := rfl
def tStr : Ty ByteArray where
  n := 1
  pos := by omega
  enc _ x := [.lit (.string x)]
  dec
    | [.lit (.string x)] => some x
    | _ => none
  len _ _ := rfl
  de _ x := rfl
  ed ds x h := by
    split at h
    · obtain rfl := Option.some.inj h; simp [shareC]
    · cases h
  pure x := rfl
def tPair {α β : Type} (T : Ty α) (U : Ty β) : Ty (α × β) where
  n := T.n + U.n
  pos := by have := T.pos; omega
  enc b x := T.enc b x.1 ++ U.enc b x.2
  dec ds := (T.dec (ds.take T.n)).bind fun x => (U.dec (ds.drop T.n)).map fun y => (x, y)
  len b x := by simp [T.len, U.len]
  de b x := by
    have h := T.len b x.1
    rw [← h, List.take_left, List.drop_left, T.de, U.de]; rfl
  ed ds x h := by
    obtain ⟨y, h1, h2⟩ := Option.bind_eq_some_iff.1 h
    obtain ⟨z, h3, rfl⟩ := Option.map_eq_some_iff.1 h2
    rw [← T.ed _ _ h1, ← U.ed _ _ h3, ← List.map_append, List.take_append_drop]
  pure x := by rw [pureL_app, T.pure, U.pure]; rfl
def Ty.iso {α β : Type} (T : Ty α) (f : α → β) (g : β → α) (h1 : ∀ y, f (g y) = y) (h2 : ∀ x, g (f x) = x) : Ty β where
  n := T.n
  pos := T.pos
  enc b y := T.enc b (g y)
  dec ds := (T.dec ds).map f
  len b y := T.len b _
  de b y := by rw [T.de]; simp [h1]
  ed ds y h := by
    obtain ⟨x, h3, rfl⟩ := Option.map_eq_some_iff.1 h
    rw [h2]; exact T.ed _ _ h3
  pure y := T.pure _
def decAll {α : Type} (T : Ty α) : Nat → List D → Option (List α)
  | _, [] => some []
  | 0, _ => none
  | f + 1, ds => (T.dec (ds.take T.n)).bind fun x => (decAll T f (ds.drop T.n)).map (x :: ·)
theorem decAll_succ {α : Type} (T : Ty α) (f : Nat) : ∀ (ds : List D), ds ≠ [] → decAll T (f + 1) ds = (T.dec (ds.take T.n)).bind fun x => (decAll T f (ds.drop T.n)).map (x :: ·)
  | [], h => absurd rfl h
  | _ :: _, _ => rfl
theorem decAll_enc {α : Type} (T : Ty α) (b : Bool) : ∀ (xs : List α) (f : Nat), xs.length ≤ f → decAll T f (xs.flatMap (T.enc b)) = some xs
  | [], f, _ => by cases f <;> rfl
  | x :: xs, 0, h => by simp at h
  | x :: xs, f + 1, h => by
    have hl := T.len b x
    have hne : (x :: xs).flatMap (T.enc b) ≠ [] := by
      intro e
      have := congrArg List.length e
      have hp := T.pos
      rw [List.flatMap_cons, List.length_append, hl] at this
      simp at this; omega
    rw [decAll_succ T f _ hne, List.flatMap_cons]
    rw [← hl, List.take_left, List.drop_left, T.de, decAll_enc T b xs f (by simpa using h)]
    rfl
theorem decAll_sh {α : Type} (T : Ty α) : ∀ (f : Nat) (ds : List D) (xs : List α), decAll T f ds = some xs → ds.map shareC = xs.flatMap (T.enc true)
  | f, [], xs, h => by
    cases f <;> (simp only [decAll, Option.some.injEq] at h; subst h; rfl)
  | 0, d :: ds, xs, h => by simp [decAll] at h
  | f + 1, d :: ds, xs, h => by
    rw [decAll_succ T f _ (by simp)] at h
    obtain ⟨x, h1, h2⟩ := Option.bind_eq_some_iff.1 h
    obtain ⟨ys, h3, rfl⟩ := Option.map_eq_some_iff.1 h2
    have e1 := T.ed _ _ h1
    have e2 := decAll_sh T f _ _ h3
    rw [List.flatMap_cons, ← e1, ← e2, ← List.map_append, List.take_append_drop]
theorem flatMap_len {α : Type} (T : Ty α) (b : Bool) : ∀ (xs : List α), (xs.flatMap (T.enc b)).length = xs.length * T.n
  | [] => by simp
  | x :: xs => by rw [List.flatMap_cons, List.length_append, T.len, flatMap_len T b xs]; simp [Nat.succ_mul]; omega
theorem pureL_flat {α : Type} (T : Ty α) : ∀ (xs : List α), pureL (xs.flatMap (T.enc false)) = true
  | [] => rfl
  | x :: xs => by rw [List.flatMap_cons, pureL_app, T.pure, pureL_flat T xs]; rfl
/-- slices: e: the element's type -/
def tSl {α : Type} (e : Nat) (T : Ty α) : Ty (List α) where
  n := 1
  pos := by omega
  enc b xs := [.sl b e T.n (xs.flatMap (T.enc b))]
  dec
    | [.sl _ e' k ds] => if e' = e ∧ k = T.n then decAll T ds.length ds else none
    | _ => none
  len _ _ := rfl
  de b xs := by
    simp only [and_self, if_true]
    exact decAll_enc T b xs _ (by rw [flatMap_len]; exact Nat.le_mul_of_pos_right _ T.pos)
  ed ds x h := by
    split at h
    · split at h
      · rename_i e; obtain ⟨rfl, rfl⟩ := e
        simp [shareC, shareL_map, decAll_sh T _ _ _ h]
      · cases h
    · cases h
  pure x := by simp [pureL, D.pure, pureL_flat]
/-- the leaf of a type of one cell -/
def Ty.one {α : Type} (T : Ty α) (b : Bool) (x : α) : D := (T.enc b x).headD .hole
theorem flat_get {α : Type} (T : Ty α) (b : Bool) : ∀ (xs : List α) (i : Nat) (x : α), xs[i]? = some x → ((xs.flatMap (T.enc b)).drop (i * T.n)).take T.n = T.enc b x
  | [], i, x, h => by simp at h
  | y :: xs, 0, x, h => by
    simp at h; subst h
    rw [List.flatMap_cons, Nat.zero_mul, List.drop_zero]
    exact List.take_left' (T.len b y)
  | y :: xs, i + 1, x, h => by
    rw [List.flatMap_cons, Nat.succ_mul, Nat.add_comm, ← List.drop_drop, List.drop_left' (T.len b y)]
    exact flat_get T b xs i x (by simpa using h)
end Go.Proofs.Ytmbmebfeoejlnaa.Ab
