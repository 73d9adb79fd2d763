/- Slices of numbers: cut, copied, compared; rows cut and copied. -/
import Derived.Test.YtmbmebfeoejlnaaB1
namespace Go.Proofs.Ytmbmebfeoejlnaa.Ab
set_option linter.unusedVariables false
set_option linter.unusedSimpArgs false
open Go.RowKit
abbrev Cube := List (List (List Int))
abbrev tTok : Ty (List Int) := tSl 3 t64
abbrev tRow : Ty (List Int) := tSl 81 t32
abbrev tMat : Ty (List (List Int)) := tSl 51 tRow
abbrev tCube : Ty Cube := tSl 79 tMat
abbrev dTok (b : Bool) (r : List Int) : D := .sl b 3 1 (r.map fun x => .lit (.int .i64 x))
abbrev dRow (b : Bool) (r : List Int) : D := .sl b 81 1 (r.map fun x => .lit (.int .i32 x))
abbrev dMat (b : Bool) (m : List (List Int)) : D := .sl b 51 1 (m.map fun r => .sl b 81 1 (r.map fun x => .lit (.int .i32 x)))
abbrev dCube (b : Bool) (c : Cube) : D := .sl b 79 1 (c.map fun m => .sl b 51 1 (m.map fun r => .sl b 81 1 (r.map fun x => .lit (.int .i32 x))))
@[simp] def oTok (r : List Int) : Out := ⟨[(false, [dTok false r])], []⟩
@[simp] def oRow (r : List Int) : Out := ⟨[(false, [dRow false r])], []⟩
@[simp] def oMat (m : List (List Int)) : Out := ⟨[(false, [dMat false m])], []⟩
@[simp] def oCube (m : Cube) : Out := ⟨[(false, [dCube false m])], []⟩
theorem flat1 {α β : Type} (f : α → β) (xs : List α) : xs.flatMap (fun x => [f x]) = xs.map f := by
  induction xs with
  | nil => rfl
  | cons x xs ih => simp [ih]
attribute [simp] flat1
theorem take1 {α : Type} {l : List α} {j : Nat} {x : α} (h : l[j]? = some x) : List.take 1 (List.drop j l) = [x] := by
  obtain ⟨h1, h2⟩ := List.getElem?_eq_some_iff.1 h
  rw [List.drop_eq_getElem_cons h1, h2]; rfl
theorem take_succ_get {α : Type} {l : List α} {j : Nat} {x : α} (h : l[j]? = some x) : l.take (j + 1) = l.take j ++ [x] := by
  rw [List.take_add_one, h]; rfl
theorem take_eq {α : Type} {l : List α} {j m : Nat} (h : j ≤ m) (h2 : j = m ∨ l.length ≤ j) : l.take j = l.take m := by
  rcases h2 with rfl | h2
  · rfl
  · rw [List.take_of_length_le h2, List.take_of_length_le (by omega)]
theorem sum_const {α : Type} (l : List α) (n : Nat) : (l.map fun _ => n).sum = l.length * n := by
  induction l with
  | nil => simp
  | cons x l ih => simp [ih, Nat.succ_mul, Nat.add_comm]
attribute [simp] sum_const
@[simp] theorem pureL_flatMap {α : Type} (f : α → List D) : ∀ l : List α, pureL (l.flatMap f) = l.all fun x => pureL (f x)
  | [] => rfl
  | x :: l => by simp [pureL_flatMap f l]
theorem all_take_succ {α : Type} {l : List α} {j : Nat} {x : α} {p : α → Bool} (h : l[j]? = some x) : (l.take (j + 1)).all p = ((l.take j).all p && p x) := by
  rw [take_succ_get h, List.all_append]; simp
theorem any_get {α : Type} {l : List α} {j : Nat} {x : α} {p : α → Bool} (h : l[j]? = some x) (hp : p x = true) : l.any p = true := List.any_eq_true.2 ⟨x, List.mem_of_getElem? h, hp⟩
theorem any_take_succ {α : Type} {l : List α} {j : Nat} {x : α} {p : α → Bool} (h : l[j]? = some x) : (l.take (j + 1)).any p = ((l.take j).any p || p x) := by
  rw [take_succ_get h, List.any_append]; simp
def okRow (l : List Int) : Prop := l.length < 2 ^ 40
instance (l : List Int) : Decidable (okRow l) := by unfold okRow; infer_instance
def lenMat (m : List (List Int)) : Prop := m.length < 2 ^ 40 ∧ ∀ r ∈ m, okRow r
instance (c : List (List Int)) : Decidable (lenMat c) := by unfold lenMat; infer_instance
def lenOK (c : Cube) : Prop := c.length < 2 ^ 40 ∧ ∀ m ∈ c, lenMat m
instance (c : Cube) : Decidable (lenOK c) := by unfold lenOK; infer_instance
def S27 : Spec := fun gs => sp2 false (tTok) false (t64) (fun l n => if 0 ≤ n ∧ n < 2 ^ 40 then some (oTok (l.take n.toNat)) else none) gs
@[simp] theorem S27_eq (gs : List Arg) : S27 gs = sp2 false (tTok) false (t64) (fun l n => if 0 ≤ n ∧ n < 2 ^ 40 then some (oTok (l.take n.toNat)) else none) gs := rfl
theorem k27 : Contract Try.prog 27 S27 := by
  refine Contract.intro2 (C := cx 15 []) Try.func27 rfl rfl rfl (by show 2 ≤ 15; decide) fun l n out ho fr => ?_
  have hk := knowsX (N := 15) (l := []) trivial
  split at ho
  case isFalse => cases ho
  rename_i hn
  obtain rfl := Option.some.inj ho
  obtain ⟨m, rfl⟩ := Int.eq_ofNat_of_zero_le hn.1
  refine Sat.seqK fun zK1 zh1 zg1 => ?_
  refine Sat.regionP hk [⟨some 4, Op.assign (Operand.const (Value.slice none 0 0)), 27, none⟩] (by kernel_rfl) (by kernel_rfl) ?_
  simp [-List.map_take, -List.map_drop, ← List.map_take, ← List.map_drop, Function.comp_def]
  refine zh1 _ ?_
  refine Sat.seqK fun zK2 zh2 zg2 => ?_
  refine Sat.seqK fun zK3 zh3 zg3 => ?_
  refine Sat.regionP hk [⟨some 5, Op.move (Operand.tmp 0), 27, none⟩, ⟨some 6, Op.call { callee := Callee.builtin Builtin.len, args := #[Operand.tmp 5], argTypes := #[27] }, 3, none⟩, ⟨some 7, Op.move (Operand.tmp 1), 3, none⟩, ⟨some 8, Op.binOp BinOp.gtr 3 (Operand.tmp 6) (Operand.tmp 7) 3, 4, none⟩] (by kernel_rfl) (by kernel_rfl) ?_
  simp [-List.map_take, -List.map_drop, ← List.map_take, ← List.map_drop, Function.comp_def]
  refine zh3 _ ?_
  refine Sat.cond rfl (fun c8 => ?_) (fun c8 => ?_)
  · skip
    try simp at c8
    have hf : fitsL Try.prog 3 1 m = true := by simp [fitsL, maxL]; omega
    refine Sat.regionP hk [⟨some 9, Op.move (Operand.tmp 0), 27, none⟩, ⟨some 10, Op.move (Operand.tmp 1), 3, none⟩, ⟨some 11, Op.slice 27 (Operand.tmp 9) none (some (Operand.tmp 10)) none, 27, none⟩, ⟨some 0, Op.assign (Operand.tmp 11), 27, none⟩] (by kernel_rfl) (by kernel_rfl) ?_
    simp [-List.map_take, -List.map_drop, ← List.map_take, ← List.map_drop, Function.comp_def, c8, Nat.le_of_lt c8, hf]
    refine zh2 _ ?_
    refine Sat.seqK fun zK4 zh4 zg4 => ?_
    refine Sat.regionP hk [⟨some 12, Op.buildSlice 27 0 #[], 27, none⟩, ⟨some 13, Op.move (Operand.tmp 0), 27, none⟩, ⟨some 14, Op.call { callee := Callee.builtin Builtin.append, args := #[Operand.tmp 12, Operand.tmp 13], argTypes := #[27, 27] }, 27, none⟩, ⟨some 4, Op.assign (Operand.tmp 14), 27, none⟩] (by kernel_rfl) (by kernel_rfl) ?_
    simp [-List.map_take, -List.map_drop, ← List.map_take, ← List.map_drop, Function.comp_def, c8, Nat.le_of_lt c8, hf]
    refine zh4 _ ?_
    refine Sat.ret ?_
    simp [-List.map_take, -List.map_drop, ← List.map_take, ← List.map_drop, Function.comp_def, c8, Nat.le_of_lt c8, hf]
  · skip
    try simp at c8
    have hf : fitsL Try.prog 3 1 l.length = true := by simp [fitsL, maxL]; omega
    refine Sat.skip ?_
    refine zh2 _ ?_
    refine Sat.seqK fun zK5 zh5 zg5 => ?_
    refine Sat.regionP hk [⟨some 12, Op.buildSlice 27 0 #[], 27, none⟩, ⟨some 13, Op.move (Operand.tmp 0), 27, none⟩, ⟨some 14, Op.call { callee := Callee.builtin Builtin.append, args := #[Operand.tmp 12, Operand.tmp 13], argTypes := #[27, 27] }, 27, none⟩, ⟨some 4, Op.assign (Operand.tmp 14), 27, none⟩] (by kernel_rfl) (by kernel_rfl) ?_
    simp [-List.map_take, -List.map_drop, ← List.map_take, ← List.map_drop, Function.comp_def, hf, List.take_of_length_le c8]
    refine zh5 _ ?_
    refine Sat.ret ?_
    simp [-List.map_take, -List.map_drop, ← List.map_take, ← List.map_drop, Function.comp_def, hf, List.take_of_length_le c8]
def S49 : Spec := fun gs => sp2 false (tRow) false (t64) (fun l n => if 0 ≤ n ∧ n < 2 ^ 40 then some (oRow (l.take n.toNat)) else none) gs
@[simp] theorem S49_eq (gs : List Arg) : S49 gs = sp2 false (tRow) false (t64) (fun l n => if 0 ≤ n ∧ n < 2 ^ 40 then some (oRow (l.take n.toNat)) else none) gs := rfl
theorem k49 : Contract Try.prog 49 S49 := by
  refine Contract.intro2 (C := cx 15 []) Try.func49 rfl rfl rfl (by show 2 ≤ 15; decide) fun l n out ho fr => ?_
  have hk := knowsX (N := 15) (l := []) trivial
  split at ho
  case isFalse => cases ho
  rename_i hn
  obtain rfl := Option.some.inj ho
  obtain ⟨m, rfl⟩ := Int.eq_ofNat_of_zero_le hn.1
  refine Sat.seqK fun zK1 zh1 zg1 => ?_
  refine Sat.regionP hk [⟨some 4, Op.assign (Operand.const (Value.slice none 0 0)), 51, none⟩] (by kernel_rfl) (by kernel_rfl) ?_
  simp [-List.map_take, -List.map_drop, ← List.map_take, ← List.map_drop, Function.comp_def]
  refine zh1 _ ?_
  refine Sat.seqK fun zK2 zh2 zg2 => ?_
  refine Sat.seqK fun zK3 zh3 zg3 => ?_
  refine Sat.regionP hk [⟨some 5, Op.move (Operand.tmp 0), 51, none⟩, ⟨some 6, Op.call { callee := Callee.builtin Builtin.len, args := #[Operand.tmp 5], argTypes := #[51] }, 3, none⟩, ⟨some 7, Op.move (Operand.tmp 1), 3, none⟩, ⟨some 8, Op.binOp BinOp.gtr 3 (Operand.tmp 6) (Operand.tmp 7) 3, 4, none⟩] (by kernel_rfl) (by kernel_rfl) ?_
  simp [-List.map_take, -List.map_drop, ← List.map_take, ← List.map_drop, Function.comp_def]
  refine zh3 _ ?_
  refine Sat.cond rfl (fun c8 => ?_) (fun c8 => ?_)
  · skip
    try simp at c8
    have hf : fitsL Try.prog 81 1 m = true := by simp [fitsL, maxL]; omega
    refine Sat.regionP hk [⟨some 9, Op.move (Operand.tmp 0), 51, none⟩, ⟨some 10, Op.move (Operand.tmp 1), 3, none⟩, ⟨some 11, Op.slice 51 (Operand.tmp 9) none (some (Operand.tmp 10)) none, 51, none⟩, ⟨some 0, Op.assign (Operand.tmp 11), 51, none⟩] (by kernel_rfl) (by kernel_rfl) ?_
    simp [-List.map_take, -List.map_drop, ← List.map_take, ← List.map_drop, Function.comp_def, c8, Nat.le_of_lt c8, hf]
    refine zh2 _ ?_
    refine Sat.seqK fun zK4 zh4 zg4 => ?_
    refine Sat.regionP hk [⟨some 12, Op.buildSlice 51 0 #[], 51, none⟩, ⟨some 13, Op.move (Operand.tmp 0), 51, none⟩, ⟨some 14, Op.call { callee := Callee.builtin Builtin.append, args := #[Operand.tmp 12, Operand.tmp 13], argTypes := #[51, 51] }, 51, none⟩, ⟨some 4, Op.assign (Operand.tmp 14), 51, none⟩] (by kernel_rfl) (by kernel_rfl) ?_
    simp [-List.map_take, -List.map_drop, ← List.map_take, ← List.map_drop, Function.comp_def, c8, Nat.le_of_lt c8, hf]
    refine zh4 _ ?_
    refine Sat.ret ?_
    simp [-List.map_take, -List.map_drop, ← List.map_take, ← List.map_drop, Function.comp_def, c8, Nat.le_of_lt c8, hf]
  · skip
    try simp at c8
    have hf : fitsL Try.prog 81 1 l.length = true := by simp [fitsL, maxL]; omega
    refine Sat.skip ?_
    refine zh2 _ ?_
    refine Sat.seqK fun zK5 zh5 zg5 => ?_
    refine Sat.regionP hk [⟨some 12, Op.buildSlice 51 0 #[], 51, none⟩, ⟨some 13, Op.move (Operand.tmp 0), 51, none⟩, ⟨some 14, Op.call { callee := Callee.builtin Builtin.append, args := #[Operand.tmp 12, Operand.tmp 13], argTypes := #[51, 51] }, 51, none⟩, ⟨some 4, Op.assign (Operand.tmp 14), 51, none⟩] (by kernel_rfl) (by kernel_rfl) ?_
    simp [-List.map_take, -List.map_drop, ← List.map_take, ← List.map_drop, Function.comp_def, hf, List.take_of_length_le c8]
    refine zh5 _ ?_
    refine Sat.ret ?_
    simp [-List.map_take, -List.map_drop, ← List.map_take, ← List.map_drop, Function.comp_def, hf, List.take_of_length_le c8]
def S93 : Spec := fun gs => sp1 false (tRow) (fun l => if okRow l then some (oRow l) else none) gs
@[simp] theorem S93_eq (gs : List Arg) : S93 gs = sp1 false (tRow) (fun l => if okRow l then some (oRow l) else none) gs := rfl
theorem k93 : Contract Try.prog 93 S93 := by
  refine Contract.intro1 (C := cx 8 []) Try.func93 rfl rfl rfl (by show 1 ≤ 8; decide) fun l out ho fr => ?_
  have hk := knowsX (N := 8) (l := []) trivial
  split at ho
  case isFalse => cases ho
  rename_i hn
  obtain rfl := Option.some.inj ho
  have hn1 : l.length < 1099511627776 := hn
  refine Sat.seqK fun zK1 zh1 zg1 => ?_
  refine Sat.regionP hk [⟨some 2, Op.assign (Operand.const (Value.slice none 0 0)), 51, none⟩] (by kernel_rfl) (by kernel_rfl) ?_
  simp [-List.map_take, -List.map_drop, ← List.map_take, ← List.map_drop, Function.comp_def]
  refine zh1 _ ?_
  refine Sat.seqK fun zK2 zh2 zg2 => ?_
  refine Sat.seqK fun zK3 zh3 zg3 => ?_
  rcases l with _ | ⟨x, l⟩
  · skip
    have hf : fitsL Try.prog 81 1 0 = true := by simp [fitsL, maxL]
    refine Sat.regionP hk [⟨some 3, Op.move (Operand.tmp 0), 51, none⟩, ⟨some 4, Op.binOp BinOp.eql 51 (Operand.tmp 3) (Operand.const (Value.slice none 0 0)) 51, 4, none⟩] (by kernel_rfl) (by kernel_rfl) ?_
    simp [-List.map_take, -List.map_drop, ← List.map_take, ← List.map_drop, Function.comp_def, hf]
    refine zh3 _ ?_
    refine Sat.condU rfl ?_ ?_
    · skip
      refine Sat.seqK fun zK4 zh4 zg4 => ?_
      refine Sat.regionP hk [⟨some 2, Op.assign (Operand.const (Value.slice none 0 0)), 51, none⟩] (by kernel_rfl) (by kernel_rfl) ?_
      simp [-List.map_take, -List.map_drop, ← List.map_take, ← List.map_drop, Function.comp_def, hf]
      refine zh4 _ ?_
      refine Sat.ret ?_
      refine zg2 _ _ (by simp) ?_
      simp [-List.map_take, -List.map_drop, ← List.map_take, ← List.map_drop, Function.comp_def, hf]
    · skip
      refine Sat.skip ?_
      refine zh2 _ ?_
      refine Sat.seqK fun zK5 zh5 zg5 => ?_
      refine Sat.regionP hk [⟨some 5, Op.buildSlice 51 0 #[], 51, none⟩, ⟨some 6, Op.move (Operand.tmp 0), 51, none⟩, ⟨some 7, Op.call { callee := Callee.builtin Builtin.append, args := #[Operand.tmp 5, Operand.tmp 6], argTypes := #[51, 51] }, 51, none⟩, ⟨some 2, Op.assign (Operand.tmp 7), 51, none⟩] (by kernel_rfl) (by kernel_rfl) ?_
      simp [-List.map_take, -List.map_drop, ← List.map_take, ← List.map_drop, Function.comp_def, hf]
      refine zh5 _ ?_
      refine Sat.ret ?_
      simp [-List.map_take, -List.map_drop, ← List.map_take, ← List.map_drop, Function.comp_def, hf]
  · skip
    have hf : fitsL Try.prog 81 1 (l.length + 1) = true := by simp [fitsL, maxL]; simp at hn1; omega
    refine Sat.regionP hk [⟨some 3, Op.move (Operand.tmp 0), 51, none⟩, ⟨some 4, Op.binOp BinOp.eql 51 (Operand.tmp 3) (Operand.const (Value.slice none 0 0)) 51, 4, none⟩] (by kernel_rfl) (by kernel_rfl) ?_
    simp [-List.map_take, -List.map_drop, ← List.map_take, ← List.map_drop, Function.comp_def, hf]
    refine zh3 _ ?_
    refine Sat.cond rfl (fun c4 => ?_) (fun c4 => ?_)
    · exfalso; simp [hf] at c4
    · skip
      try simp at c4
      refine Sat.skip ?_
      refine zh2 _ ?_
      refine Sat.seqK fun zK6 zh6 zg6 => ?_
      refine Sat.regionP hk [⟨some 5, Op.buildSlice 51 0 #[], 51, none⟩, ⟨some 6, Op.move (Operand.tmp 0), 51, none⟩, ⟨some 7, Op.call { callee := Callee.builtin Builtin.append, args := #[Operand.tmp 5, Operand.tmp 6], argTypes := #[51, 51] }, 51, none⟩, ⟨some 2, Op.assign (Operand.tmp 7), 51, none⟩] (by kernel_rfl) (by kernel_rfl) ?_
      simp [-List.map_take, -List.map_drop, ← List.map_take, ← List.map_drop, Function.comp_def, hf]
      refine zh6 _ ?_
      refine Sat.ret ?_
      simp [-List.map_take, -List.map_drop, ← List.map_take, ← List.map_drop, Function.comp_def, hf]
def S62 : Spec := fun gs => sp1 false (tTok) (fun l => if okRow l then some (oTok l) else none) gs
@[simp] theorem S62_eq (gs : List Arg) : S62 gs = sp1 false (tTok) (fun l => if okRow l then some (oTok l) else none) gs := rfl
theorem k62 : Contract Try.prog 62 S62 := by
  refine Contract.intro1 (C := cx 8 []) Try.func62 rfl rfl rfl (by show 1 ≤ 8; decide) fun l out ho fr => ?_
  have hk := knowsX (N := 8) (l := []) trivial
  split at ho
  case isFalse => cases ho
  rename_i hn
  obtain rfl := Option.some.inj ho
  have hn1 : l.length < 1099511627776 := hn
  refine Sat.seqK fun zK1 zh1 zg1 => ?_
  refine Sat.regionP hk [⟨some 2, Op.assign (Operand.const (Value.slice none 0 0)), 27, none⟩] (by kernel_rfl) (by kernel_rfl) ?_
  simp [-List.map_take, -List.map_drop, ← List.map_take, ← List.map_drop, Function.comp_def]
  refine zh1 _ ?_
  refine Sat.seqK fun zK2 zh2 zg2 => ?_
  refine Sat.seqK fun zK3 zh3 zg3 => ?_
  rcases l with _ | ⟨x, l⟩
  · skip
    have hf : fitsL Try.prog 3 1 0 = true := by simp [fitsL, maxL]
    refine Sat.regionP hk [⟨some 3, Op.move (Operand.tmp 0), 27, none⟩, ⟨some 4, Op.binOp BinOp.eql 27 (Operand.tmp 3) (Operand.const (Value.slice none 0 0)) 27, 4, none⟩] (by kernel_rfl) (by kernel_rfl) ?_
    simp [-List.map_take, -List.map_drop, ← List.map_take, ← List.map_drop, Function.comp_def, hf]
    refine zh3 _ ?_
    refine Sat.condU rfl ?_ ?_
    · skip
      refine Sat.seqK fun zK4 zh4 zg4 => ?_
      refine Sat.regionP hk [⟨some 2, Op.assign (Operand.const (Value.slice none 0 0)), 27, none⟩] (by kernel_rfl) (by kernel_rfl) ?_
      simp [-List.map_take, -List.map_drop, ← List.map_take, ← List.map_drop, Function.comp_def, hf]
      refine zh4 _ ?_
      refine Sat.ret ?_
      refine zg2 _ _ (by simp) ?_
      simp [-List.map_take, -List.map_drop, ← List.map_take, ← List.map_drop, Function.comp_def, hf]
    · skip
      refine Sat.skip ?_
      refine zh2 _ ?_
      refine Sat.seqK fun zK5 zh5 zg5 => ?_
      refine Sat.regionP hk [⟨some 5, Op.buildSlice 27 0 #[], 27, none⟩, ⟨some 6, Op.move (Operand.tmp 0), 27, none⟩, ⟨some 7, Op.call { callee := Callee.builtin Builtin.append, args := #[Operand.tmp 5, Operand.tmp 6], argTypes := #[27, 27] }, 27, none⟩, ⟨some 2, Op.assign (Operand.tmp 7), 27, none⟩] (by kernel_rfl) (by kernel_rfl) ?_
      simp [-List.map_take, -List.map_drop, ← List.map_take, ← List.map_drop, Function.comp_def, hf]
      refine zh5 _ ?_
      refine Sat.ret ?_
      simp [-List.map_take, -List.map_drop, ← List.map_take, ← List.map_drop, Function.comp_def, hf]
  · skip
    have hf : fitsL Try.prog 3 1 (l.length + 1) = true := by simp [fitsL, maxL]; simp at hn1; omega
    refine Sat.regionP hk [⟨some 3, Op.move (Operand.tmp 0), 27, none⟩, ⟨some 4, Op.binOp BinOp.eql 27 (Operand.tmp 3) (Operand.const (Value.slice none 0 0)) 27, 4, none⟩] (by kernel_rfl) (by kernel_rfl) ?_
    simp [-List.map_take, -List.map_drop, ← List.map_take, ← List.map_drop, Function.comp_def, hf]
    refine zh3 _ ?_
    refine Sat.cond rfl (fun c4 => ?_) (fun c4 => ?_)
    · exfalso; simp [hf] at c4
    · skip
      try simp at c4
      refine Sat.skip ?_
      refine zh2 _ ?_
      refine Sat.seqK fun zK6 zh6 zg6 => ?_
      refine Sat.regionP hk [⟨some 5, Op.buildSlice 27 0 #[], 27, none⟩, ⟨some 6, Op.move (Operand.tmp 0), 27, none⟩, ⟨some 7, Op.call { callee := Callee.builtin Builtin.append, args := #[Operand.tmp 5, Operand.tmp 6], argTypes := #[27, 27] }, 27, none⟩, ⟨some 2, Op.assign (Operand.tmp 7), 27, none⟩] (by kernel_rfl) (by kernel_rfl) ?_
      simp [-List.map_take, -List.map_drop, ← List.map_take, ← List.map_drop, Function.comp_def, hf]
      refine zh6 _ ?_
      refine Sat.ret ?_
      simp [-List.map_take, -List.map_drop, ← List.map_take, ← List.map_drop, Function.comp_def, hf]
def S60 : Spec := fun gs => sp2 false (tTok) false (tTok) (fun a b => if a.length < 2 ^ 40 ∧ b.length < 2 ^ 40 then some (oBool (decide (a = b))) else none) gs
@[simp] theorem S60_eq (gs : List Arg) : S60 gs = sp2 false (tTok) false (tTok) (fun a b => if a.length < 2 ^ 40 ∧ b.length < 2 ^ 40 then some (oBool (decide (a = b))) else none) gs := rfl
theorem k60 : Contract Try.prog 60 S60 := by
  refine Contract.intro2 (C := cx 26 []) Try.func60 rfl rfl rfl (by show 2 ≤ 26; decide) fun a b out ho fr => ?_
  have hk := knowsX (N := 26) (l := []) trivial
  split at ho
  case isFalse => cases ho
  rename_i hn
  obtain rfl := Option.some.inj ho
  refine Sat.seqK fun zK1 zh1 zg1 => ?_
  refine Sat.regionP hk [⟨some 4, Op.assign (Operand.const (Value.bool false)), 4, none⟩] (by kernel_rfl) (by kernel_rfl) ?_
  simp [-List.map_take, -List.map_drop, ← List.map_take, ← List.map_drop, Function.comp_def]
  refine zh1 _ ?_
  refine Sat.seqK fun zK2 zh2 zg2 => ?_
  refine Sat.seqK fun zK3 zh3 zg3 => ?_
  refine Sat.regionP hk [⟨some 6, Op.move (Operand.tmp 0), 27, none⟩, ⟨some 7, Op.call { callee := Callee.builtin Builtin.len, args := #[Operand.tmp 6], argTypes := #[27] }, 3, none⟩, ⟨some 8, Op.move (Operand.tmp 1), 27, none⟩, ⟨some 9, Op.call { callee := Callee.builtin Builtin.len, args := #[Operand.tmp 8], argTypes := #[27] }, 3, none⟩, ⟨some 10, Op.binOp BinOp.neq 3 (Operand.tmp 7) (Operand.tmp 9) 3, 4, none⟩] (by kernel_rfl) (by kernel_rfl) ?_
  simp [-List.map_take, -List.map_drop, ← List.map_take, ← List.map_drop, Function.comp_def]
  refine zh3 _ ?_
  refine Sat.cond rfl (fun c10 => ?_) (fun c10 => ?_)
  · skip
    try simp at c10
    refine Sat.seqK fun zK4 zh4 zg4 => ?_
    refine Sat.regionP hk [⟨some 4, Op.assign (Operand.const (Value.bool false)), 4, none⟩] (by kernel_rfl) (by kernel_rfl) ?_
    simp [-List.map_take, -List.map_drop, ← List.map_take, ← List.map_drop, Function.comp_def]
    refine zh4 _ ?_
    refine Sat.ret ?_
    refine zg2 _ _ (by simp) ?_
    simp [-List.map_take, -List.map_drop, ← List.map_take, ← List.map_drop, Function.comp_def]
    intro e; subst e; exact c10 rfl
  · skip
    try simp at c10
    refine Sat.skip ?_
    refine zh2 _ ?_
    refine Sat.seqK fun zK5 zh5 zg5 => ?_
    refine Sat.seqK fun zK6 zh6 zg6 => ?_
    refine Sat.regionP hk [⟨some 11, Op.move (Operand.tmp 0), 27, none⟩, ⟨some 12, Op.call { callee := Callee.builtin Builtin.len, args := #[Operand.tmp 11], argTypes := #[27] }, 3, none⟩, ⟨some 13, Op.move (Operand.const (Value.int IntKind.i64 0)), 3, none⟩] (by kernel_rfl) (by kernel_rfl) ?_
    simp [-List.map_take, -List.map_drop, ← List.map_take, ← List.map_drop, Function.comp_def]
    refine zh6 _ ?_
    refine Sat.loopK (E := ⟨_, _, _⟩) [0, 1, 12] [] [] ⟨by first | (simp [keepS]; done) | (simp [keepS]; rfl), by first | (simp [keepO]; done) | (simp [keepO]; rfl), by first | (simp [keepB]; done) | (simp [keepB]; rfl)⟩ (zh5) (fun (j : Nat) => (⟨[(13, num j)], [], []⟩ : Ds)) (fun (j : Nat) => j ≤ a.length ∧ a.take j = b.take j) (fun (j : Nat) => a = b) (fun (j : Nat) => a.length - j) 0 ?_ ?_ ?_ ?_
    · simp
    · exact ⟨by simp [FitL], by simp [FitL], by simp [FitL]⟩
    · rintro j hP0 zo7 zb7 zp7 zq7 zK7 zn7 zx7 zg7
      try dsimp only [Ds.app, Ds.st, List.cons_append, List.nil_append] at hP0 ⊢
      refine Sat.seqK fun zK8 zh8 zg8 => ?_
      refine Sat.regionP hk [⟨some 14, Op.binOp BinOp.lss 3 (Operand.tmp 13) (Operand.tmp 12) 3, 0, none⟩] (by kernel_rfl) (by kernel_rfl) ?_
      simp [-List.map_take, -List.map_drop, ← List.map_take, ← List.map_drop, Function.comp_def, zp7.st, zq7.st]
      refine zh8 _ ?_
      refine Sat.seqK fun zK9 zh9 zg9 => ?_
      refine Sat.cond rfl (fun c14 => ?_) (fun c14 => ?_)
      · skip
        try simp at c14
        obtain ⟨x, hx⟩ : ∃ z, a[j]? = some z := ⟨a[j], List.getElem?_eq_getElem c14⟩
        obtain ⟨y, hy⟩ : ∃ z, b[j]? = some z := ⟨b[j], List.getElem?_eq_getElem (by omega)⟩
        have hjb : j < b.length := by omega
        refine Sat.skip ?_
        refine zh9 _ ?_
        refine Sat.seqK fun zK10 zh10 zg10 => ?_
        refine Sat.blockK fun zK11 zh11 zx11 zg11 => ?_
        refine Sat.seqK fun zK12 zh12 zg12 => ?_
        refine Sat.regionP hk [⟨some 15, Op.move (Operand.tmp 13), 3, none⟩, ⟨some 5, Op.assign (Operand.tmp 15), 3, none⟩] (by kernel_rfl) (by kernel_rfl) ?_
        simp [-List.map_take, -List.map_drop, ← List.map_take, ← List.map_drop, Function.comp_def, zp7.st, zq7.st, take1 hx, take1 hy, c14, hjb]
        refine zh12 _ ?_
        refine Sat.seqK fun zK13 zh13 zg13 => ?_
        refine Sat.regionDP hk (by kernel_rfl) [⟨some 16, Op.move (Operand.tmp 0), 27, none⟩, ⟨some 17, Op.move (Operand.tmp 5), 3, none⟩, ⟨some 18, Op.indexAddr 27 (Operand.tmp 16) (Operand.tmp 17), 0, none⟩, ⟨some 19, Op.load 3 (Operand.tmp 18), 3, none⟩, ⟨some 20, Op.move (Operand.tmp 1), 27, none⟩, ⟨some 21, Op.move (Operand.tmp 5), 3, none⟩, ⟨some 22, Op.indexAddr 27 (Operand.tmp 20) (Operand.tmp 21), 0, none⟩, ⟨some 23, Op.load 3 (Operand.tmp 22), 3, none⟩, ⟨some 24, Op.binOp BinOp.neq 3 (Operand.tmp 19) (Operand.tmp 23) 3, 4, none⟩] (by kernel_rfl) (by kernel_rfl) (by decide +kernel) (fun an han => ?_)
        simp [-List.map_take, -List.map_drop, ← List.map_take, ← List.map_drop, Function.comp_def, zp7.st, zq7.st, take1 hx, take1 hy, c14, hjb]
        refine ⟨by subst han; kernel_rfl, ?_⟩
        refine zh13 _ ?_
        refine Sat.cond rfl (fun c24 => ?_) (fun c24 => ?_)
        · skip
          try simp at c24
          refine Sat.seqK fun zK14 zh14 zg14 => ?_
          refine Sat.regionP hk [⟨some 4, Op.assign (Operand.const (Value.bool false)), 4, none⟩] (by kernel_rfl) (by kernel_rfl) ?_
          simp [-List.map_take, -List.map_drop, ← List.map_take, ← List.map_drop, Function.comp_def, zp7.st, zq7.st, take1 hx, take1 hy, c14, hjb]
          refine zh14 _ ?_
          refine Sat.ret ?_
          refine zg11 _ _ (by simp) (by simp) ?_
          refine zg10 _ _ (by simp) ?_
          refine zg7 _ _ (by simp) (by simp) ?_
          refine zg5 _ _ (by simp) ?_
          simp [-List.map_take, -List.map_drop, ← List.map_take, ← List.map_drop, Function.comp_def, zp7.st, zq7.st, take1 hx, take1 hy, c14, hjb]
          intro e; subst e; rw [hx] at hy; exact c24 (Option.some.inj hy)
        · skip
          try simp at c24
          obtain rfl := c24
          refine Sat.skip ?_
          refine zh11 _ ?_
          refine zh10 _ ?_
          refine Sat.regionP hk [⟨some 25, Op.binOp BinOp.add 3 (Operand.tmp 13) (Operand.const (Value.int IntKind.i64 1)) 3, 3, none⟩, ⟨some 13, Op.move (Operand.tmp 25), 3, none⟩] (by kernel_rfl) (by kernel_rfl) ?_
          simp [-List.map_take, -List.map_drop, ← List.map_take, ← List.map_drop, Function.comp_def, zp7.st, zq7.st, take1 hx, take1 hy, c14, hjb]
          refine zn7 (j + 1) _ ?_ ?_ ?_ ?_
          · exact ⟨by omega, by rw [take_succ_get hx, take_succ_get hy, hP0.2]⟩
          · first | omega | (dsimp only; omega)
          · exact ⟨by simp [-List.map_take, -List.map_drop, ← List.map_take, ← List.map_drop, Function.comp_def, FitL, zp7.st, zq7.st, take1 hx, take1 hy, c14, hjb, w64s j (by omega)], by simp [-List.map_take, -List.map_drop, ← List.map_take, ← List.map_drop, Function.comp_def, FitL, zp7.st, zq7.st, take1 hx, take1 hy, c14, hjb, w64s j (by omega)], by simp [-List.map_take, -List.map_drop, ← List.map_take, ← List.map_drop, Function.comp_def, FitL, zp7.st, zq7.st, take1 hx, take1 hy, c14, hjb, w64s j (by omega)]⟩
          · exact ⟨by simp [-List.map_take, -List.map_drop, ← List.map_take, ← List.map_drop, Function.comp_def, FitL, zp7.st, zq7.st, take1 hx, take1 hy, c14, hjb, w64s j (by omega)], by simp [-List.map_take, -List.map_drop, ← List.map_take, ← List.map_drop, Function.comp_def, FitL, zp7.st, zq7.st, take1 hx, take1 hy, c14, hjb, w64s j (by omega)], by simp [-List.map_take, -List.map_drop, ← List.map_take, ← List.map_drop, Function.comp_def, FitL, zp7.st, zq7.st, take1 hx, take1 hy, c14, hjb, w64s j (by omega)]⟩
      · skip
        try simp at c14
        refine Sat.exit ?_
        refine zg9 _ _ (by simp) ?_
        refine zx7 j _ ?_ ?_ ?_
        · have e1 : j = a.length := by omega
          subst e1
          have e2 := hP0.2
          rw [List.take_length, List.take_of_length_le (by omega)] at e2; exact e2
        · exact ⟨by simp [-List.map_take, -List.map_drop, ← List.map_take, ← List.map_drop, Function.comp_def, FitL, zp7.st, zq7.st], by simp [-List.map_take, -List.map_drop, ← List.map_take, ← List.map_drop, Function.comp_def, FitL, zp7.st, zq7.st], by simp [-List.map_take, -List.map_drop, ← List.map_take, ← List.map_drop, Function.comp_def, FitL, zp7.st, zq7.st]⟩
        · exact ⟨by simp [-List.map_take, -List.map_drop, ← List.map_take, ← List.map_drop, Function.comp_def, FitL, zp7.st, zq7.st], by simp [-List.map_take, -List.map_drop, ← List.map_take, ← List.map_drop, Function.comp_def, FitL, zp7.st, zq7.st], by simp [-List.map_take, -List.map_drop, ← List.map_take, ← List.map_drop, Function.comp_def, FitL, zp7.st, zq7.st]⟩
    · rintro j hR0 zo7 zb7 zp7 zq7
      try dsimp only [Ds.app, Ds.st, List.cons_append, List.nil_append] at hR0 ⊢
      refine Sat.seqK fun zK15 zh15 zg15 => ?_
      refine Sat.regionP hk [⟨some 4, Op.assign (Operand.const (Value.bool true)), 4, none⟩] (by kernel_rfl) (by kernel_rfl) ?_
      simp [-List.map_take, -List.map_drop, ← List.map_take, ← List.map_drop, Function.comp_def, zp7.st, zq7.st]
      refine zh15 _ ?_
      refine Sat.ret ?_
      simp [-List.map_take, -List.map_drop, ← List.map_take, ← List.map_drop, Function.comp_def, zp7.st, zq7.st]
      exact hR0
def win (a b : Nat) (c : Cube) : Cube := c.map fun m => (m.take b).drop a
def winOK (n : Nat) (c : Cube) : Prop := lenOK c ∧ ∀ m ∈ c, n ≤ m.length
instance (n : Nat) (c : Cube) : Decidable (winOK n c) := by unfold winOK; infer_instance
def S61 : Spec := fun gs => sp3 false (tCube) false (t64) false (t64) (fun l a b => if 0 ≤ a ∧ a ≤ b ∧ winOK b.toNat l then some (oCube (win a.toNat b.toNat l)) else none) gs
@[simp] theorem S61_eq (gs : List Arg) : S61 gs = sp3 false (tCube) false (t64) false (t64) (fun l a b => if 0 ≤ a ∧ a ≤ b ∧ winOK b.toNat l then some (oCube (win a.toNat b.toNat l)) else none) gs := rfl
theorem k61 : Contract Try.prog 61 S61 := by
  refine Contract.intro3 (C := cx 40 [(93, S93)]) Try.func61 rfl rfl rfl (by show 3 ≤ 40; decide) fun l a b out ho fr => ?_
  have hk := knowsX (N := 40) (l := [(93, S93)]) ⟨k93, trivial⟩
  split at ho
  case isFalse => cases ho
  rename_i hn
  obtain rfl := Option.some.inj ho
  obtain ⟨ha, hab, hl, hb⟩ := hn
  obtain ⟨a, rfl⟩ := Int.eq_ofNat_of_zero_le ha
  obtain ⟨b, rfl⟩ := Int.eq_ofNat_of_zero_le (Int.le_trans ha hab)
  have hl1 := hl.1
  have hab' : a ≤ b := by omega
  refine Sat.seqK fun zK1 zh1 zg1 => ?_
  refine Sat.regionP hk [⟨some 6, Op.assign (Operand.const (Value.slice none 0 0)), 28, none⟩] (by kernel_rfl) (by kernel_rfl) ?_
  simp [-List.map_take, -List.map_drop, ← List.map_take, ← List.map_drop, Function.comp_def]
  refine zh1 _ ?_
  refine Sat.seqK fun zK2 zh2 zg2 => ?_
  refine Sat.regionP hk [⟨some 7, Op.assign (Operand.const (Value.slice none 0 0)), 28, none⟩] (by kernel_rfl) (by kernel_rfl) ?_
  simp [-List.map_take, -List.map_drop, ← List.map_take, ← List.map_drop, Function.comp_def]
  refine zh2 _ ?_
  refine Sat.seqK fun zK3 zh3 zg3 => ?_
  refine Sat.seqK fun zK4 zh4 zg4 => ?_
  refine Sat.regionP hk [⟨some 13, Op.move (Operand.tmp 0), 28, none⟩, ⟨some 14, Op.call { callee := Callee.builtin Builtin.len, args := #[Operand.tmp 13], argTypes := #[28] }, 3, none⟩, ⟨some 15, Op.move (Operand.const (Value.int IntKind.i64 0)), 3, none⟩] (by kernel_rfl) (by kernel_rfl) ?_
  simp [-List.map_take, -List.map_drop, ← List.map_take, ← List.map_drop, Function.comp_def]
  refine zh4 _ ?_
  refine Sat.nilK 7 508 79 1 (by simp) (by simp) ?_
  refine Sat.loopK (E := ⟨_, _, _⟩) [1, 2, 13, 14] [] [] ⟨by first | (simp [keepS]; done) | (simp [keepS]; rfl), by first | (simp [keepO]; done) | (simp [keepO]; rfl), by first | (simp [keepB]; done) | (simp [keepB]; rfl)⟩ (zh3) (fun (⟨j, v⟩ : Nat × Nat) => (⟨[(15, num j), (7, oref 508 v)], [(508, ⟨v, 0, .own, 79, 1, (l.take j).map fun m => dMat false ((m.take b).drop a)⟩)], []⟩ : Ds)) (fun (⟨j, v⟩ : Nat × Nat) => j ≤ l.length) (fun (⟨j, v⟩ : Nat × Nat) => j = l.length) (fun (⟨j, v⟩ : Nat × Nat) => l.length - j) (0, 1) ?_ ?_ ?_ ?_
  · first | omega | (dsimp only; omega)
  · exact ⟨by simp [FitL], by simp [FitL], by simp [FitL]⟩
  · rintro ⟨j, v⟩ hP0 zo5 zb5 zp5 zq5 zK5 zn5 zx5 zg5
    try dsimp only [Ds.app, Ds.st, List.cons_append, List.nil_append] at hP0 ⊢
    refine Sat.seqK fun zK6 zh6 zg6 => ?_
    refine Sat.regionP hk [⟨some 16, Op.binOp BinOp.lss 3 (Operand.tmp 15) (Operand.tmp 14) 3, 0, none⟩] (by kernel_rfl) (by kernel_rfl) ?_
    simp [-List.map_take, -List.map_drop, ← List.map_take, ← List.map_drop, Function.comp_def, zp5.st, zq5.st]
    refine zh6 _ ?_
    refine Sat.seqK fun zK7 zh7 zg7 => ?_
    refine Sat.cond rfl (fun c16 => ?_) (fun c16 => ?_)
    · skip
      try simp at c16
      obtain ⟨m, hm⟩ : ∃ z, l[j]? = some z := ⟨l[j], List.getElem?_eq_getElem c16⟩
      have hml := hl.2 m (List.mem_of_getElem? hm)
      have hbm := hb m (List.mem_of_getElem? hm)
      have hbm' : b ≤ m.length := by simpa using hbm
      generalize hw : List.drop a (List.take b m) = w
      have hwl : w.length ≤ m.length := by rw [← hw]; simp; omega
      have hml1 := hml.1
      have hw3 : ∀ r ∈ w, okRow r := fun r hr => hml.2 r (by rw [← hw] at hr; exact List.mem_of_mem_take (List.mem_of_mem_drop hr))
      refine Sat.skip ?_
      refine zh7 _ ?_
      refine Sat.seqK fun zK8 zh8 zg8 => ?_
      refine Sat.blockK fun zK9 zh9 zx9 zg9 => ?_
      refine Sat.seqK fun zK10 zh10 zg10 => ?_
      refine Sat.regionP hk [⟨some 17, Op.indexAddr 28 (Operand.tmp 13) (Operand.tmp 15), 0, none⟩, ⟨some 18, Op.load 79 (Operand.tmp 17), 79, none⟩, ⟨some 9, Op.assign (Operand.tmp 18), 79, none⟩] (by kernel_rfl) (by kernel_rfl) ?_
      simp [-List.map_take, -List.map_drop, ← List.map_take, ← List.map_drop, Function.comp_def, zp5.st, zq5.st, take1 hm, c16, hbm', hab', hw]
      refine zh10 _ ?_
      refine Sat.seqK fun zK11 zh11 zg11 => ?_
      refine Sat.regionP hk [⟨some 10, Op.assign (Operand.const (Value.slice none 0 0)), 79, none⟩] (by kernel_rfl) (by kernel_rfl) ?_
      simp [-List.map_take, -List.map_drop, ← List.map_take, ← List.map_drop, Function.comp_def, zp5.st, zq5.st, take1 hm, c16, hbm', hab', hw]
      refine zh11 _ ?_
      refine Sat.seqK fun zK12 zh12 zg12 => ?_
      refine Sat.seqK fun zK13 zh13 zg13 => ?_
      refine Sat.regionP hk [⟨some 19, Op.move (Operand.tmp 9), 79, none⟩, ⟨some 20, Op.move (Operand.tmp 1), 3, none⟩, ⟨some 21, Op.move (Operand.tmp 2), 3, none⟩, ⟨some 22, Op.slice 79 (Operand.tmp 19) (some (Operand.tmp 20)) (some (Operand.tmp 21)) none, 79, none⟩, ⟨some 23, Op.call { callee := Callee.builtin Builtin.len, args := #[Operand.tmp 22], argTypes := #[79] }, 3, none⟩, ⟨some 24, Op.move (Operand.const (Value.int IntKind.i64 0)), 3, none⟩] (by kernel_rfl) (by kernel_rfl) ?_
      simp [-List.map_take, -List.map_drop, ← List.map_take, ← List.map_drop, Function.comp_def, zp5.st, zq5.st, take1 hm, c16, hbm', hab', hw]
      refine zh13 _ ?_
      refine Sat.nilK 10 700 51 1 (by simp) (by simp [zp5.st]) ?_
      refine Sat.loopK (E := ⟨_, _, _⟩) [1, 2, 7, 13, 14, 15, 22, 23] [508] [] ⟨by first | (simp [keepS, zp5.st, zq5.st, take1 hm, c16, hbm', hab', hw]; done) | (simp [keepS, zp5.st, zq5.st, take1 hm, c16, hbm', hab', hw]; rfl), by first | (simp [keepO, zp5.st, zq5.st, take1 hm, c16, hbm', hab', hw]; done) | (simp [keepO, zp5.st, zq5.st, take1 hm, c16, hbm', hab', hw]; rfl), by first | (simp [keepB, zp5.st, zq5.st, take1 hm, c16, hbm', hab', hw]; done) | (simp [keepB, zp5.st, zq5.st, take1 hm, c16, hbm', hab', hw]; rfl)⟩ (zh12) (fun (⟨i, u⟩ : Nat × Nat) => (⟨[(24, num i), (10, oref 700 u)], [(700, ⟨u, 0, .own, 51, 1, (w.take i).map (dRow false)⟩)], []⟩ : Ds)) (fun (⟨i, u⟩ : Nat × Nat) => i ≤ w.length) (fun (⟨i, u⟩ : Nat × Nat) => i = w.length) (fun (⟨i, u⟩ : Nat × Nat) => w.length - i) (0, (zo5 700).v + 1) ?_ ?_ ?_ ?_
      · first | omega | (dsimp only; omega)
      · exact ⟨by simp [FitL, zp5.st, zq5.st, take1 hm, c16, hbm', hab', hw], by simp [FitL, zp5.st, zq5.st, take1 hm, c16, hbm', hab', hw], by simp [FitL, zp5.st, zq5.st, take1 hm, c16, hbm', hab', hw]⟩
      · rintro ⟨i, u⟩ hP2 zo14 zb14 zp14 zq14 zK14 zn14 zx14 zg14
        try dsimp only [Ds.app, Ds.st, List.cons_append, List.nil_append] at hP2 ⊢
        refine Sat.seqK fun zK15 zh15 zg15 => ?_
        refine Sat.regionP hk [⟨some 25, Op.binOp BinOp.lss 3 (Operand.tmp 24) (Operand.tmp 23) 3, 0, none⟩] (by kernel_rfl) (by kernel_rfl) ?_
        simp [-List.map_take, -List.map_drop, ← List.map_take, ← List.map_drop, Function.comp_def, zp5.st, zq5.st, take1 hm, c16, hbm', hab', hw, zp14.st, zq14.st]
        refine zh15 _ ?_
        refine Sat.seqK fun zK16 zh16 zg16 => ?_
        refine Sat.cond rfl (fun c25 => ?_) (fun c25 => ?_)
        · skip
          try simp at c25
          obtain ⟨r, hr⟩ : ∃ z, w[i]? = some z := ⟨w[i], List.getElem?_eq_getElem c25⟩
          have hr3 := hw3 r (List.mem_of_getElem? hr)
          have hf : fitsL Try.prog 51 1 (i + 1) = true := by simp [fitsL, maxL]; omega
          refine Sat.skip ?_
          refine zh16 _ ?_
          refine Sat.seqK fun zK17 zh17 zg17 => ?_
          refine Sat.blockK fun zK18 zh18 zx18 zg18 => ?_
          refine Sat.seqK fun zK19 zh19 zg19 => ?_
          refine Sat.regionP hk [⟨some 26, Op.indexAddr 79 (Operand.tmp 22) (Operand.tmp 24), 0, none⟩, ⟨some 27, Op.load 51 (Operand.tmp 26), 51, none⟩, ⟨some 12, Op.assign (Operand.tmp 27), 51, none⟩] (by kernel_rfl) (by kernel_rfl) ?_
          simp [-List.map_take, -List.map_drop, ← List.map_take, ← List.map_drop, Function.comp_def, zp5.st, zq5.st, take1 hm, c16, hbm', hab', hw, zp14.st, zq14.st, take1 hr, c25, hr3, hf, Nat.min_eq_left (Nat.le_of_lt c25)]
          refine zh19 _ ?_
          refine Sat.regionP hk [⟨some 28, Op.move (Operand.tmp 10), 79, none⟩, ⟨some 29, Op.move (Operand.tmp 12), 51, none⟩, ⟨some 30, Op.call { callee := Callee.value (Operand.func 93), args := #[Operand.tmp 29], argTypes := #[51] }, 51, none⟩, ⟨some 31, Op.buildSlice 79 1 #[(0, Operand.tmp 30)], 79, none⟩, ⟨some 32, Op.call { callee := Callee.builtin Builtin.append, args := #[Operand.tmp 28, Operand.tmp 31], argTypes := #[79, 79] }, 79, none⟩, ⟨some 10, Op.assign (Operand.tmp 32), 79, none⟩] (by kernel_rfl) (by kernel_rfl) ?_
          simp [-List.map_take, -List.map_drop, ← List.map_take, ← List.map_drop, Function.comp_def, zp5.st, zq5.st, take1 hm, c16, hbm', hab', hw, zp14.st, zq14.st, take1 hr, c25, hr3, hf, Nat.min_eq_left (Nat.le_of_lt c25)]
          refine zh18 _ ?_
          refine zh17 _ ?_
          refine Sat.regionP hk [⟨some 33, Op.binOp BinOp.add 3 (Operand.tmp 24) (Operand.const (Value.int IntKind.i64 1)) 3, 3, none⟩, ⟨some 24, Op.move (Operand.tmp 33), 3, none⟩] (by kernel_rfl) (by kernel_rfl) ?_
          simp [-List.map_take, -List.map_drop, ← List.map_take, ← List.map_drop, Function.comp_def, zp5.st, zq5.st, take1 hm, c16, hbm', hab', hw, zp14.st, zq14.st, take1 hr, c25, hr3, hf, Nat.min_eq_left (Nat.le_of_lt c25)]
          refine zn14 (i + 1, u + 1) _ ?_ ?_ ?_ ?_
          · first | omega | (dsimp only; omega)
          · first | omega | (dsimp only; omega)
          · exact ⟨by simp [-List.map_take, -List.map_drop, ← List.map_take, ← List.map_drop, Function.comp_def, FitL, zp5.st, zq5.st, take1 hm, c16, hbm', hab', hw, zp14.st, zq14.st, take1 hr, c25, hr3, hf, Nat.min_eq_left (Nat.le_of_lt c25), w64s i (by omega), take_succ_get hr], by simp [-List.map_take, -List.map_drop, ← List.map_take, ← List.map_drop, Function.comp_def, FitL, zp5.st, zq5.st, take1 hm, c16, hbm', hab', hw, zp14.st, zq14.st, take1 hr, c25, hr3, hf, Nat.min_eq_left (Nat.le_of_lt c25), w64s i (by omega), take_succ_get hr], by simp [-List.map_take, -List.map_drop, ← List.map_take, ← List.map_drop, Function.comp_def, FitL, zp5.st, zq5.st, take1 hm, c16, hbm', hab', hw, zp14.st, zq14.st, take1 hr, c25, hr3, hf, Nat.min_eq_left (Nat.le_of_lt c25), w64s i (by omega), take_succ_get hr]⟩
          · exact ⟨by simp [-List.map_take, -List.map_drop, ← List.map_take, ← List.map_drop, Function.comp_def, FitL, zp5.st, zq5.st, take1 hm, c16, hbm', hab', hw, zp14.st, zq14.st, take1 hr, c25, hr3, hf, Nat.min_eq_left (Nat.le_of_lt c25), w64s i (by omega), take_succ_get hr], by simp [-List.map_take, -List.map_drop, ← List.map_take, ← List.map_drop, Function.comp_def, FitL, zp5.st, zq5.st, take1 hm, c16, hbm', hab', hw, zp14.st, zq14.st, take1 hr, c25, hr3, hf, Nat.min_eq_left (Nat.le_of_lt c25), w64s i (by omega), take_succ_get hr], by simp [-List.map_take, -List.map_drop, ← List.map_take, ← List.map_drop, Function.comp_def, FitL, zp5.st, zq5.st, take1 hm, c16, hbm', hab', hw, zp14.st, zq14.st, take1 hr, c25, hr3, hf, Nat.min_eq_left (Nat.le_of_lt c25), w64s i (by omega), take_succ_get hr]⟩
        · skip
          try simp at c25
          refine Sat.exit ?_
          refine zg16 _ _ (by simp) ?_
          refine zx14 ⟨i, u⟩ _ ?_ ?_ ?_
          · first | omega | (dsimp only; omega)
          · exact ⟨by simp [-List.map_take, -List.map_drop, ← List.map_take, ← List.map_drop, Function.comp_def, FitL, zp5.st, zq5.st, take1 hm, c16, hbm', hab', hw, zp14.st, zq14.st], by simp [-List.map_take, -List.map_drop, ← List.map_take, ← List.map_drop, Function.comp_def, FitL, zp5.st, zq5.st, take1 hm, c16, hbm', hab', hw, zp14.st, zq14.st], by simp [-List.map_take, -List.map_drop, ← List.map_take, ← List.map_drop, Function.comp_def, FitL, zp5.st, zq5.st, take1 hm, c16, hbm', hab', hw, zp14.st, zq14.st]⟩
          · exact ⟨by simp [-List.map_take, -List.map_drop, ← List.map_take, ← List.map_drop, Function.comp_def, FitL, zp5.st, zq5.st, take1 hm, c16, hbm', hab', hw, zp14.st, zq14.st], by simp [-List.map_take, -List.map_drop, ← List.map_take, ← List.map_drop, Function.comp_def, FitL, zp5.st, zq5.st, take1 hm, c16, hbm', hab', hw, zp14.st, zq14.st], by simp [-List.map_take, -List.map_drop, ← List.map_take, ← List.map_drop, Function.comp_def, FitL, zp5.st, zq5.st, take1 hm, c16, hbm', hab', hw, zp14.st, zq14.st]⟩
      · rintro ⟨i, u⟩ hR2 zo14 zb14 zp14 zq14
        try dsimp only [Ds.app, Ds.st, List.cons_append, List.nil_append] at hR2 ⊢
        subst hR2
        have hf2 : fitsL Try.prog 79 1 (j + 1) = true := by simp [fitsL, maxL]; omega
        refine Sat.regionP hk [⟨some 34, Op.move (Operand.tmp 7), 28, none⟩, ⟨some 35, Op.move (Operand.tmp 10), 79, none⟩, ⟨some 36, Op.buildSlice 28 1 #[(0, Operand.tmp 35)], 28, none⟩, ⟨some 37, Op.call { callee := Callee.builtin Builtin.append, args := #[Operand.tmp 34, Operand.tmp 36], argTypes := #[28, 28] }, 28, none⟩, ⟨some 7, Op.assign (Operand.tmp 37), 28, none⟩] (by kernel_rfl) (by kernel_rfl) ?_
        simp [-List.map_take, -List.map_drop, ← List.map_take, ← List.map_drop, Function.comp_def, zp5.st, zq5.st, take1 hm, c16, hbm', hab', hw, zp14.st, zq14.st, hf2, Nat.min_eq_left (Nat.le_of_lt c16)]
        refine zh9 _ ?_
        refine zh8 _ ?_
        refine Sat.regionP hk [⟨some 38, Op.binOp BinOp.add 3 (Operand.tmp 15) (Operand.const (Value.int IntKind.i64 1)) 3, 3, none⟩, ⟨some 15, Op.move (Operand.tmp 38), 3, none⟩] (by kernel_rfl) (by kernel_rfl) ?_
        simp [-List.map_take, -List.map_drop, ← List.map_take, ← List.map_drop, Function.comp_def, zp5.st, zq5.st, take1 hm, c16, hbm', hab', hw, zp14.st, zq14.st, hf2, Nat.min_eq_left (Nat.le_of_lt c16)]
        refine zn5 (j + 1, v + 1) _ ?_ ?_ ?_ ?_
        · first | omega | (dsimp only; omega)
        · first | omega | (dsimp only; omega)
        · exact ⟨by simp [-List.map_take, -List.map_drop, ← List.map_take, ← List.map_drop, Function.comp_def, FitL, zp5.st, zq5.st, take1 hm, c16, hbm', hab', hw, zp14.st, zq14.st, hf2, Nat.min_eq_left (Nat.le_of_lt c16), w64s j (by omega), take_succ_get hm, hw], by simp [-List.map_take, -List.map_drop, ← List.map_take, ← List.map_drop, Function.comp_def, FitL, zp5.st, zq5.st, take1 hm, c16, hbm', hab', hw, zp14.st, zq14.st, hf2, Nat.min_eq_left (Nat.le_of_lt c16), w64s j (by omega), take_succ_get hm, hw], by simp [-List.map_take, -List.map_drop, ← List.map_take, ← List.map_drop, Function.comp_def, FitL, zp5.st, zq5.st, take1 hm, c16, hbm', hab', hw, zp14.st, zq14.st, hf2, Nat.min_eq_left (Nat.le_of_lt c16), w64s j (by omega), take_succ_get hm, hw]⟩
        · exact ⟨by simp [-List.map_take, -List.map_drop, ← List.map_take, ← List.map_drop, Function.comp_def, FitL, zp5.st, zq5.st, take1 hm, c16, hbm', hab', hw, zp14.st, zq14.st, hf2, Nat.min_eq_left (Nat.le_of_lt c16), w64s j (by omega), take_succ_get hm, hw], by simp [-List.map_take, -List.map_drop, ← List.map_take, ← List.map_drop, Function.comp_def, FitL, zp5.st, zq5.st, take1 hm, c16, hbm', hab', hw, zp14.st, zq14.st, hf2, Nat.min_eq_left (Nat.le_of_lt c16), w64s j (by omega), take_succ_get hm, hw], by simp [-List.map_take, -List.map_drop, ← List.map_take, ← List.map_drop, Function.comp_def, FitL, zp5.st, zq5.st, take1 hm, c16, hbm', hab', hw, zp14.st, zq14.st, hf2, Nat.min_eq_left (Nat.le_of_lt c16), w64s j (by omega), take_succ_get hm, hw]⟩
    · skip
      try simp at c16
      refine Sat.exit ?_
      refine zg7 _ _ (by simp) ?_
      refine zx5 ⟨j, v⟩ _ ?_ ?_ ?_
      · first | omega | (dsimp only; omega)
      · exact ⟨by simp [-List.map_take, -List.map_drop, ← List.map_take, ← List.map_drop, Function.comp_def, FitL, zp5.st, zq5.st], by simp [-List.map_take, -List.map_drop, ← List.map_take, ← List.map_drop, Function.comp_def, FitL, zp5.st, zq5.st], by simp [-List.map_take, -List.map_drop, ← List.map_take, ← List.map_drop, Function.comp_def, FitL, zp5.st, zq5.st]⟩
      · exact ⟨by simp [-List.map_take, -List.map_drop, ← List.map_take, ← List.map_drop, Function.comp_def, FitL, zp5.st, zq5.st], by simp [-List.map_take, -List.map_drop, ← List.map_take, ← List.map_drop, Function.comp_def, FitL, zp5.st, zq5.st], by simp [-List.map_take, -List.map_drop, ← List.map_take, ← List.map_drop, Function.comp_def, FitL, zp5.st, zq5.st]⟩
  · rintro ⟨j, v⟩ hR0 zo5 zb5 zp5 zq5
    try dsimp only [Ds.app, Ds.st, List.cons_append, List.nil_append] at hR0 ⊢
    subst hR0
    refine Sat.seqK fun zK20 zh20 zg20 => ?_
    refine Sat.regionP hk [⟨some 39, Op.move (Operand.tmp 7), 28, none⟩, ⟨some 6, Op.assign (Operand.tmp 39), 28, none⟩] (by kernel_rfl) (by kernel_rfl) ?_
    simp [-List.map_take, -List.map_drop, ← List.map_take, ← List.map_drop, Function.comp_def, zp5.st, zq5.st, win]
    refine zh20 _ ?_
    refine Sat.ret ?_
    simp [-List.map_take, -List.map_drop, ← List.map_take, ← List.map_drop, Function.comp_def, zp5.st, zq5.st, win]
end Go.Proofs.Ytmbmebfeoejlnaa.Ab
