/- The contracts of numbers: fix, vec.Grow. -/
import Derived.Test.YtmbmebfeoejlnaaA31
namespace Go.Proofs.Ytmbmebfeoejlnaa.Ab
set_option linter.unusedVariables false
set_option linter.unusedSimpArgs false
open Go.RowKit
abbrev t32 : Ty Int := tInt .i32
abbrev t64 : Ty Int := tInt .i64
@[simp] def o32 (x : Int) : Out := ⟨[(false, [.lit (.int .i32 x)])], []⟩
@[simp] def o64 (x : Int) : Out := ⟨[(false, [.lit (.int .i64 x)])], []⟩
@[simp] def oBool (b : Bool) : Out := ⟨[(false, [.lit (.bool b)])], []⟩
@[simp] abbrev num (j : Nat) : AV := .l (.d (.lit (.int .i64 j)))
@[simp] abbrev oref (i v : Nat) : AV := .l (.ref i v [] 0 none)
@[simp] abbrev bol (b : Bool) : AV := .l (.d (.lit (.bool b)))
@[simp] abbrev n64 (j : Int) : AV := .l (.d (.lit (.int .i64 j)))
@[simp] abbrev n32 (j : Int) : AV := .l (.d (.lit (.int .i32 j)))
def w64 (x : Int) : Int := IntKind.i64.wrap x
def sat (x : Int) : Int := IntKind.i32.wrap (if -2147483647 < (if 2147483647 < x then 2147483647 else x) then (if 2147483647 < x then 2147483647 else x) else -2147483647)
def round (x d : Int) : Int :=
  let q := w64 (x.tdiv d); let r := x.tmod d
  if r ≥ w64 (d - r) ∧ r > 0 then w64 (q + 1) else if r < 0 ∧ w64 (0 - r) ≥ w64 (d + r) then w64 (q - 1) else q
def grow (s x : Int) : Int :=
  if 0 < x ∧ s > w64 (9223372036854775807 - x) then 9223372036854775807
  else if x < 0 ∧ s < w64 (-9223372036854775807 - x) then -9223372036854775807
  else if w64 (s + x) < -9223372036854775807 then -9223372036854775807 else w64 (s + x)
def S100 : Spec := fun gs => sp1 false (t64) (fun x => some (o32 (sat x))) gs
@[simp] theorem S100_eq (gs : List Arg) : S100 gs = sp1 false (t64) (fun x => some (o32 (sat x))) gs := rfl
theorem k100 : Contract Try.prog 100 S100 := by
  refine Contract.intro1 (C := cx 7 []) Try.func100 rfl rfl rfl (by show 1 ≤ 7; decide) fun x out ho fr => ?_
  have hk := knowsX (N := 7) (l := []) trivial
  obtain rfl := Option.some.inj ho
  refine Sat.seqK fun zK1 zh1 zg1 => ?_
  refine Sat.regionP hk [⟨some 2, Op.assign (Operand.const (Value.int IntKind.i32 0)), 81, none⟩] (by kernel_rfl) (by kernel_rfl) ?_
  simp [-List.map_take, -List.map_drop, ← List.map_take, ← List.map_drop, Function.comp_def]
  refine zh1 _ ?_
  refine Sat.seqK fun zK2 zh2 zg2 => ?_
  refine Sat.regionP hk [⟨some 3, Op.move (Operand.tmp 0), 2, none⟩, ⟨some 4, Op.call { callee := Callee.builtin Builtin.min, args := #[Operand.tmp 3, Operand.const (Value.int IntKind.i64 2147483647)], argTypes := #[2, 2] }, 2, none⟩, ⟨some 5, Op.call { callee := Callee.builtin Builtin.max, args := #[Operand.const (Value.int IntKind.i64 (-2147483647)), Operand.tmp 4], argTypes := #[2, 2] }, 2, none⟩, ⟨some 6, Op.convert 2 81 (Operand.tmp 5), 81, none⟩, ⟨some 2, Op.assign (Operand.tmp 6), 81, none⟩] (by kernel_rfl) (by kernel_rfl) ?_
  simp [-List.map_take, -List.map_drop, ← List.map_take, ← List.map_drop, Function.comp_def]
  refine zh2 _ ?_
  refine Sat.ret ?_
  simp [-List.map_take, -List.map_drop, ← List.map_take, ← List.map_drop, Function.comp_def]
  all_goals simp [sat]
def S99 : Spec := fun gs => sp2 false (t32) false (t32) (fun x y => some (o32 (sat (w64 (w64 x + w64 y))))) gs
@[simp] theorem S99_eq (gs : List Arg) : S99 gs = sp2 false (t32) false (t32) (fun x y => some (o32 (sat (w64 (w64 x + w64 y))))) gs := rfl
theorem k99 : Contract Try.prog 99 S99 := by
  refine Contract.intro2 (C := cx 11 [(100, S100)]) Try.func99 rfl rfl rfl (by show 2 ≤ 11; decide) fun x y out ho fr => ?_
  have hk := knowsX (N := 11) (l := [(100, S100)]) ⟨k100, trivial⟩
  obtain rfl := Option.some.inj ho
  refine Sat.seqK fun zK1 zh1 zg1 => ?_
  refine Sat.regionP hk [⟨some 4, Op.assign (Operand.const (Value.int IntKind.i32 0)), 81, none⟩] (by kernel_rfl) (by kernel_rfl) ?_
  simp [-List.map_take, -List.map_drop, ← List.map_take, ← List.map_drop, Function.comp_def]
  refine zh1 _ ?_
  refine Sat.seqK fun zK2 zh2 zg2 => ?_
  refine Sat.regionP hk [⟨some 5, Op.move (Operand.tmp 0), 81, none⟩, ⟨some 6, Op.convert 81 2 (Operand.tmp 5), 2, none⟩, ⟨some 7, Op.move (Operand.tmp 1), 81, none⟩, ⟨some 8, Op.convert 81 2 (Operand.tmp 7), 2, none⟩, ⟨some 9, Op.binOp BinOp.add 2 (Operand.tmp 6) (Operand.tmp 8) 2, 2, none⟩, ⟨some 10, Op.call { callee := Callee.value (Operand.func 100), args := #[Operand.tmp 9], argTypes := #[2] }, 81, none⟩, ⟨some 4, Op.assign (Operand.tmp 10), 81, none⟩] (by kernel_rfl) (by kernel_rfl) ?_
  simp [-List.map_take, -List.map_drop, ← List.map_take, ← List.map_drop, Function.comp_def]
  refine zh2 _ ?_
  refine Sat.ret ?_
  simp [-List.map_take, -List.map_drop, ← List.map_take, ← List.map_drop, Function.comp_def]
  all_goals simp [w64]
def S142 : Spec := fun gs => sp2 false (t32) false (t32) (fun x y => some (o32 (sat (w64 (w64 x - w64 y))))) gs
@[simp] theorem S142_eq (gs : List Arg) : S142 gs = sp2 false (t32) false (t32) (fun x y => some (o32 (sat (w64 (w64 x - w64 y))))) gs := rfl
theorem k142 : Contract Try.prog 142 S142 := by
  refine Contract.intro2 (C := cx 11 [(100, S100)]) Try.func142 rfl rfl rfl (by show 2 ≤ 11; decide) fun x y out ho fr => ?_
  have hk := knowsX (N := 11) (l := [(100, S100)]) ⟨k100, trivial⟩
  obtain rfl := Option.some.inj ho
  refine Sat.seqK fun zK1 zh1 zg1 => ?_
  refine Sat.regionP hk [⟨some 4, Op.assign (Operand.const (Value.int IntKind.i32 0)), 81, none⟩] (by kernel_rfl) (by kernel_rfl) ?_
  simp [-List.map_take, -List.map_drop, ← List.map_take, ← List.map_drop, Function.comp_def]
  refine zh1 _ ?_
  refine Sat.seqK fun zK2 zh2 zg2 => ?_
  refine Sat.regionP hk [⟨some 5, Op.move (Operand.tmp 0), 81, none⟩, ⟨some 6, Op.convert 81 2 (Operand.tmp 5), 2, none⟩, ⟨some 7, Op.move (Operand.tmp 1), 81, none⟩, ⟨some 8, Op.convert 81 2 (Operand.tmp 7), 2, none⟩, ⟨some 9, Op.binOp BinOp.sub 2 (Operand.tmp 6) (Operand.tmp 8) 2, 2, none⟩, ⟨some 10, Op.call { callee := Callee.value (Operand.func 100), args := #[Operand.tmp 9], argTypes := #[2] }, 81, none⟩, ⟨some 4, Op.assign (Operand.tmp 10), 81, none⟩] (by kernel_rfl) (by kernel_rfl) ?_
  simp [-List.map_take, -List.map_drop, ← List.map_take, ← List.map_drop, Function.comp_def]
  refine zh2 _ ?_
  refine Sat.ret ?_
  simp [-List.map_take, -List.map_drop, ← List.map_take, ← List.map_drop, Function.comp_def]
  all_goals simp [w64]
def S139 : Spec := fun gs => sp2 false (t64) false (t64) (fun x d => if d = 0 then none else some (o64 (round x d))) gs
@[simp] theorem S139_eq (gs : List Arg) : S139 gs = sp2 false (t64) false (t64) (fun x d => if d = 0 then none else some (o64 (round x d))) gs := rfl
theorem k139 : Contract Try.prog 139 S139 := by
  refine Contract.intro2 (C := cx 39 []) Try.func139 rfl rfl rfl (by show 2 ≤ 39; decide) fun x d out ho fr => ?_
  have hk := knowsX (N := 39) (l := []) trivial
  have hd : d ≠ 0 := by rintro rfl; simp at ho
  rw [if_neg hd] at ho
  obtain rfl := Option.some.inj ho
  refine Sat.seqK fun zK1 zh1 zg1 => ?_
  refine Sat.regionP hk [⟨some 4, Op.assign (Operand.const (Value.int IntKind.i64 0)), 2, none⟩] (by kernel_rfl) (by kernel_rfl) ?_
  simp [-List.map_take, -List.map_drop, ← List.map_take, ← List.map_drop, Function.comp_def, hd]
  refine zh1 _ ?_
  refine Sat.seqK fun zK2 zh2 zg2 => ?_
  refine Sat.regionDP hk (by kernel_rfl) [⟨some 7, Op.move (Operand.tmp 0), 2, none⟩, ⟨some 8, Op.move (Operand.tmp 1), 2, none⟩, ⟨some 9, Op.binOp BinOp.quo 2 (Operand.tmp 7) (Operand.tmp 8) 2, 2, none⟩, ⟨some 10, Op.move (Operand.tmp 0), 2, none⟩, ⟨some 11, Op.move (Operand.tmp 1), 2, none⟩, ⟨some 12, Op.binOp BinOp.rem 2 (Operand.tmp 10) (Operand.tmp 11) 2, 2, none⟩, ⟨some 5, Op.assign (Operand.tmp 9), 2, none⟩, ⟨some 6, Op.assign (Operand.tmp 12), 2, none⟩] (by kernel_rfl) (by kernel_rfl) (by decide +kernel) (fun an han => ?_)
  simp [-List.map_take, -List.map_drop, ← List.map_take, ← List.map_drop, Function.comp_def, hd]
  refine ⟨by subst han; kernel_rfl, ?_⟩
  refine zh2 _ ?_
  refine Sat.seqK fun zK3 zh3 zg3 => ?_
  refine Sat.blockK fun zK4 zh4 zx4 zg4 => ?_
  refine Sat.seqK fun zK5 zh5 zg5 => ?_
  by_cases h1 : IntKind.i64.wrap (d - x.tmod d) ≤ x.tmod d
  · skip
    refine Sat.regionP hk [⟨some 14, Op.move (Operand.tmp 6), 2, none⟩, ⟨some 15, Op.move (Operand.tmp 1), 2, none⟩, ⟨some 16, Op.move (Operand.tmp 6), 2, none⟩, ⟨some 17, Op.binOp BinOp.sub 2 (Operand.tmp 15) (Operand.tmp 16) 2, 2, none⟩, ⟨some 18, Op.binOp BinOp.geq 2 (Operand.tmp 14) (Operand.tmp 17) 2, 4, none⟩, ⟨some 19, Op.move (Operand.tmp 18), 4, none⟩, ⟨some 20, Op.move (Operand.tmp 6), 2, some (19, true)⟩, ⟨some 21, Op.binOp BinOp.gtr 2 (Operand.tmp 20) (Operand.const (Value.int IntKind.i64 0)) 2, 4, some (19, true)⟩, ⟨some 22, Op.pick (Operand.tmp 19) (Operand.tmp 21) (Operand.const (Value.bool false)), 4, none⟩, ⟨some 13, Op.assign (Operand.tmp 22), 4, none⟩] (by kernel_rfl) (by kernel_rfl) ?_
    simp [-List.map_take, -List.map_drop, ← List.map_take, ← List.map_drop, Function.comp_def, hd, h1]
    refine zh5 _ ?_
    refine Sat.cond rfl (fun c13 => ?_) (fun c13 => ?_)
    · skip
      try simp at c13
      refine Sat.regionP hk [⟨some 23, Op.move (Operand.tmp 5), 2, none⟩, ⟨some 24, Op.binOp BinOp.add 2 (Operand.tmp 23) (Operand.const (Value.int IntKind.i64 1)) 2, 2, none⟩, ⟨some 5, Op.assign (Operand.tmp 24), 2, none⟩] (by kernel_rfl) (by kernel_rfl) ?_
      simp [-List.map_take, -List.map_drop, ← List.map_take, ← List.map_drop, Function.comp_def, hd, h1]
      refine zh4 _ ?_
      refine zh3 _ ?_
      refine Sat.seqK fun zK6 zh6 zg6 => ?_
      refine Sat.regionP hk [⟨some 38, Op.move (Operand.tmp 5), 2, none⟩, ⟨some 4, Op.assign (Operand.tmp 38), 2, none⟩] (by kernel_rfl) (by kernel_rfl) ?_
      simp [-List.map_take, -List.map_drop, ← List.map_take, ← List.map_drop, Function.comp_def, hd, h1]
      refine zh6 _ ?_
      refine Sat.ret ?_
      simp [-List.map_take, -List.map_drop, ← List.map_take, ← List.map_drop, Function.comp_def, hd, h1]
      all_goals simp [round, w64, h1, c13]
    · skip
      try simp at c13
      refine Sat.seqK fun zK7 zh7 zg7 => ?_
      by_cases h3 : x.tmod d < 0
      · skip
        refine Sat.regionP hk [⟨some 26, Op.move (Operand.tmp 6), 2, none⟩, ⟨some 27, Op.binOp BinOp.lss 2 (Operand.tmp 26) (Operand.const (Value.int IntKind.i64 0)) 2, 4, none⟩, ⟨some 28, Op.move (Operand.tmp 27), 4, none⟩, ⟨some 29, Op.move (Operand.tmp 6), 2, some (28, true)⟩, ⟨some 30, Op.unOp UnOp.neg 2 (Operand.tmp 29), 2, some (28, true)⟩, ⟨some 31, Op.move (Operand.tmp 1), 2, some (28, true)⟩, ⟨some 32, Op.move (Operand.tmp 6), 2, some (28, true)⟩, ⟨some 33, Op.binOp BinOp.add 2 (Operand.tmp 31) (Operand.tmp 32) 2, 2, some (28, true)⟩, ⟨some 34, Op.binOp BinOp.geq 2 (Operand.tmp 30) (Operand.tmp 33) 2, 4, some (28, true)⟩, ⟨some 35, Op.pick (Operand.tmp 28) (Operand.tmp 34) (Operand.const (Value.bool false)), 4, none⟩, ⟨some 25, Op.assign (Operand.tmp 35), 4, none⟩] (by kernel_rfl) (by kernel_rfl) ?_
        simp [-List.map_take, -List.map_drop, ← List.map_take, ← List.map_drop, Function.comp_def, hd, h1, h3]
        refine zh7 _ ?_
        refine Sat.cond rfl (fun c25 => ?_) (fun c25 => ?_)
        · skip
          try simp at c25
          refine Sat.regionP hk [⟨some 36, Op.move (Operand.tmp 5), 2, none⟩, ⟨some 37, Op.binOp BinOp.sub 2 (Operand.tmp 36) (Operand.const (Value.int IntKind.i64 1)) 2, 2, none⟩, ⟨some 5, Op.assign (Operand.tmp 37), 2, none⟩] (by kernel_rfl) (by kernel_rfl) ?_
          simp [-List.map_take, -List.map_drop, ← List.map_take, ← List.map_drop, Function.comp_def, hd, h1, h3]
          refine zh4 _ ?_
          refine zh3 _ ?_
          refine Sat.seqK fun zK8 zh8 zg8 => ?_
          refine Sat.regionP hk [⟨some 38, Op.move (Operand.tmp 5), 2, none⟩, ⟨some 4, Op.assign (Operand.tmp 38), 2, none⟩] (by kernel_rfl) (by kernel_rfl) ?_
          simp [-List.map_take, -List.map_drop, ← List.map_take, ← List.map_drop, Function.comp_def, hd, h1, h3]
          refine zh8 _ ?_
          refine Sat.ret ?_
          simp [-List.map_take, -List.map_drop, ← List.map_take, ← List.map_drop, Function.comp_def, hd, h1, h3]
          all_goals simp [round, w64, h1, c13, Int.not_lt.2 c13, h3, c25]
        · skip
          try simp at c25
          refine Sat.skip ?_
          refine zh4 _ ?_
          refine zh3 _ ?_
          refine Sat.seqK fun zK9 zh9 zg9 => ?_
          refine Sat.regionP hk [⟨some 38, Op.move (Operand.tmp 5), 2, none⟩, ⟨some 4, Op.assign (Operand.tmp 38), 2, none⟩] (by kernel_rfl) (by kernel_rfl) ?_
          simp [-List.map_take, -List.map_drop, ← List.map_take, ← List.map_drop, Function.comp_def, hd, h1, h3]
          refine zh9 _ ?_
          refine Sat.ret ?_
          simp [-List.map_take, -List.map_drop, ← List.map_take, ← List.map_drop, Function.comp_def, hd, h1, h3]
          all_goals simp [round, w64, h1, c13, Int.not_lt.2 c13, h3, c25, Int.not_le.2 c25]
      · skip
        refine Sat.regionP hk [⟨some 26, Op.move (Operand.tmp 6), 2, none⟩, ⟨some 27, Op.binOp BinOp.lss 2 (Operand.tmp 26) (Operand.const (Value.int IntKind.i64 0)) 2, 4, none⟩, ⟨some 28, Op.move (Operand.tmp 27), 4, none⟩, ⟨some 29, Op.move (Operand.tmp 6), 2, some (28, true)⟩, ⟨some 30, Op.unOp UnOp.neg 2 (Operand.tmp 29), 2, some (28, true)⟩, ⟨some 31, Op.move (Operand.tmp 1), 2, some (28, true)⟩, ⟨some 32, Op.move (Operand.tmp 6), 2, some (28, true)⟩, ⟨some 33, Op.binOp BinOp.add 2 (Operand.tmp 31) (Operand.tmp 32) 2, 2, some (28, true)⟩, ⟨some 34, Op.binOp BinOp.geq 2 (Operand.tmp 30) (Operand.tmp 33) 2, 4, some (28, true)⟩, ⟨some 35, Op.pick (Operand.tmp 28) (Operand.tmp 34) (Operand.const (Value.bool false)), 4, none⟩, ⟨some 25, Op.assign (Operand.tmp 35), 4, none⟩] (by kernel_rfl) (by kernel_rfl) ?_
        simp [-List.map_take, -List.map_drop, ← List.map_take, ← List.map_drop, Function.comp_def, hd, h1, h3]
        refine zh7 _ ?_
        refine Sat.cond rfl (fun c25 => ?_) (fun c25 => ?_)
        · exfalso; simp [hd, h1, h3] at c25
        · skip
          try simp at c25
          refine Sat.skip ?_
          refine zh4 _ ?_
          refine zh3 _ ?_
          refine Sat.seqK fun zK10 zh10 zg10 => ?_
          refine Sat.regionP hk [⟨some 38, Op.move (Operand.tmp 5), 2, none⟩, ⟨some 4, Op.assign (Operand.tmp 38), 2, none⟩] (by kernel_rfl) (by kernel_rfl) ?_
          simp [-List.map_take, -List.map_drop, ← List.map_take, ← List.map_drop, Function.comp_def, hd, h1, h3]
          refine zh10 _ ?_
          refine Sat.ret ?_
          simp [-List.map_take, -List.map_drop, ← List.map_take, ← List.map_drop, Function.comp_def, hd, h1, h3]
          all_goals simp [round, w64, h1, c13, Int.not_lt.2 c13, h3]
  · skip
    refine Sat.regionP hk [⟨some 14, Op.move (Operand.tmp 6), 2, none⟩, ⟨some 15, Op.move (Operand.tmp 1), 2, none⟩, ⟨some 16, Op.move (Operand.tmp 6), 2, none⟩, ⟨some 17, Op.binOp BinOp.sub 2 (Operand.tmp 15) (Operand.tmp 16) 2, 2, none⟩, ⟨some 18, Op.binOp BinOp.geq 2 (Operand.tmp 14) (Operand.tmp 17) 2, 4, none⟩, ⟨some 19, Op.move (Operand.tmp 18), 4, none⟩, ⟨some 20, Op.move (Operand.tmp 6), 2, some (19, true)⟩, ⟨some 21, Op.binOp BinOp.gtr 2 (Operand.tmp 20) (Operand.const (Value.int IntKind.i64 0)) 2, 4, some (19, true)⟩, ⟨some 22, Op.pick (Operand.tmp 19) (Operand.tmp 21) (Operand.const (Value.bool false)), 4, none⟩, ⟨some 13, Op.assign (Operand.tmp 22), 4, none⟩] (by kernel_rfl) (by kernel_rfl) ?_
    simp [-List.map_take, -List.map_drop, ← List.map_take, ← List.map_drop, Function.comp_def, hd, h1]
    refine zh5 _ ?_
    refine Sat.cond rfl (fun c13 => ?_) (fun c13 => ?_)
    · exfalso; simp [hd, h1] at c13
    · skip
      try simp at c13
      refine Sat.seqK fun zK11 zh11 zg11 => ?_
      by_cases h3 : x.tmod d < 0
      · skip
        refine Sat.regionP hk [⟨some 26, Op.move (Operand.tmp 6), 2, none⟩, ⟨some 27, Op.binOp BinOp.lss 2 (Operand.tmp 26) (Operand.const (Value.int IntKind.i64 0)) 2, 4, none⟩, ⟨some 28, Op.move (Operand.tmp 27), 4, none⟩, ⟨some 29, Op.move (Operand.tmp 6), 2, some (28, true)⟩, ⟨some 30, Op.unOp UnOp.neg 2 (Operand.tmp 29), 2, some (28, true)⟩, ⟨some 31, Op.move (Operand.tmp 1), 2, some (28, true)⟩, ⟨some 32, Op.move (Operand.tmp 6), 2, some (28, true)⟩, ⟨some 33, Op.binOp BinOp.add 2 (Operand.tmp 31) (Operand.tmp 32) 2, 2, some (28, true)⟩, ⟨some 34, Op.binOp BinOp.geq 2 (Operand.tmp 30) (Operand.tmp 33) 2, 4, some (28, true)⟩, ⟨some 35, Op.pick (Operand.tmp 28) (Operand.tmp 34) (Operand.const (Value.bool false)), 4, none⟩, ⟨some 25, Op.assign (Operand.tmp 35), 4, none⟩] (by kernel_rfl) (by kernel_rfl) ?_
        simp [-List.map_take, -List.map_drop, ← List.map_take, ← List.map_drop, Function.comp_def, hd, h1, h3]
        refine zh11 _ ?_
        refine Sat.cond rfl (fun c25 => ?_) (fun c25 => ?_)
        · skip
          try simp at c25
          refine Sat.regionP hk [⟨some 36, Op.move (Operand.tmp 5), 2, none⟩, ⟨some 37, Op.binOp BinOp.sub 2 (Operand.tmp 36) (Operand.const (Value.int IntKind.i64 1)) 2, 2, none⟩, ⟨some 5, Op.assign (Operand.tmp 37), 2, none⟩] (by kernel_rfl) (by kernel_rfl) ?_
          simp [-List.map_take, -List.map_drop, ← List.map_take, ← List.map_drop, Function.comp_def, hd, h1, h3]
          refine zh4 _ ?_
          refine zh3 _ ?_
          refine Sat.seqK fun zK12 zh12 zg12 => ?_
          refine Sat.regionP hk [⟨some 38, Op.move (Operand.tmp 5), 2, none⟩, ⟨some 4, Op.assign (Operand.tmp 38), 2, none⟩] (by kernel_rfl) (by kernel_rfl) ?_
          simp [-List.map_take, -List.map_drop, ← List.map_take, ← List.map_drop, Function.comp_def, hd, h1, h3]
          refine zh12 _ ?_
          refine Sat.ret ?_
          simp [-List.map_take, -List.map_drop, ← List.map_take, ← List.map_drop, Function.comp_def, hd, h1, h3]
          all_goals simp [round, w64, h1, h3, c25]
        · skip
          try simp at c25
          refine Sat.skip ?_
          refine zh4 _ ?_
          refine zh3 _ ?_
          refine Sat.seqK fun zK13 zh13 zg13 => ?_
          refine Sat.regionP hk [⟨some 38, Op.move (Operand.tmp 5), 2, none⟩, ⟨some 4, Op.assign (Operand.tmp 38), 2, none⟩] (by kernel_rfl) (by kernel_rfl) ?_
          simp [-List.map_take, -List.map_drop, ← List.map_take, ← List.map_drop, Function.comp_def, hd, h1, h3]
          refine zh13 _ ?_
          refine Sat.ret ?_
          simp [-List.map_take, -List.map_drop, ← List.map_take, ← List.map_drop, Function.comp_def, hd, h1, h3]
          all_goals simp [round, w64, h1, h3, c25, Int.not_le.2 c25]
      · skip
        refine Sat.regionP hk [⟨some 26, Op.move (Operand.tmp 6), 2, none⟩, ⟨some 27, Op.binOp BinOp.lss 2 (Operand.tmp 26) (Operand.const (Value.int IntKind.i64 0)) 2, 4, none⟩, ⟨some 28, Op.move (Operand.tmp 27), 4, none⟩, ⟨some 29, Op.move (Operand.tmp 6), 2, some (28, true)⟩, ⟨some 30, Op.unOp UnOp.neg 2 (Operand.tmp 29), 2, some (28, true)⟩, ⟨some 31, Op.move (Operand.tmp 1), 2, some (28, true)⟩, ⟨some 32, Op.move (Operand.tmp 6), 2, some (28, true)⟩, ⟨some 33, Op.binOp BinOp.add 2 (Operand.tmp 31) (Operand.tmp 32) 2, 2, some (28, true)⟩, ⟨some 34, Op.binOp BinOp.geq 2 (Operand.tmp 30) (Operand.tmp 33) 2, 4, some (28, true)⟩, ⟨some 35, Op.pick (Operand.tmp 28) (Operand.tmp 34) (Operand.const (Value.bool false)), 4, none⟩, ⟨some 25, Op.assign (Operand.tmp 35), 4, none⟩] (by kernel_rfl) (by kernel_rfl) ?_
        simp [-List.map_take, -List.map_drop, ← List.map_take, ← List.map_drop, Function.comp_def, hd, h1, h3]
        refine zh11 _ ?_
        refine Sat.cond rfl (fun c25 => ?_) (fun c25 => ?_)
        · exfalso; simp [hd, h1, h3] at c25
        · skip
          try simp at c25
          refine Sat.skip ?_
          refine zh4 _ ?_
          refine zh3 _ ?_
          refine Sat.seqK fun zK14 zh14 zg14 => ?_
          refine Sat.regionP hk [⟨some 38, Op.move (Operand.tmp 5), 2, none⟩, ⟨some 4, Op.assign (Operand.tmp 38), 2, none⟩] (by kernel_rfl) (by kernel_rfl) ?_
          simp [-List.map_take, -List.map_drop, ← List.map_take, ← List.map_drop, Function.comp_def, hd, h1, h3]
          refine zh14 _ ?_
          refine Sat.ret ?_
          simp [-List.map_take, -List.map_drop, ← List.map_take, ← List.map_drop, Function.comp_def, hd, h1, h3]
          all_goals simp [round, w64, h1, h3]
def S116 : Spec := fun gs => sp2 false (t32) false (t32) (fun x y => some (o32 (sat (round (w64 (w64 x * w64 y)) 65536)))) gs
@[simp] theorem S116_eq (gs : List Arg) : S116 gs = sp2 false (t32) false (t32) (fun x y => some (o32 (sat (round (w64 (w64 x * w64 y)) 65536)))) gs := rfl
theorem k116 : Contract Try.prog 116 S116 := by
  refine Contract.intro2 (C := cx 12 [(139, S139), (100, S100)]) Try.func116 rfl rfl rfl (by show 2 ≤ 12; decide) fun x y out ho fr => ?_
  have hk := knowsX (N := 12) (l := [(139, S139), (100, S100)]) ⟨k139, k100, trivial⟩
  obtain rfl := Option.some.inj ho
  refine Sat.seqK fun zK1 zh1 zg1 => ?_
  refine Sat.regionP hk [⟨some 4, Op.assign (Operand.const (Value.int IntKind.i32 0)), 81, none⟩] (by kernel_rfl) (by kernel_rfl) ?_
  simp [-List.map_take, -List.map_drop, ← List.map_take, ← List.map_drop, Function.comp_def]
  refine zh1 _ ?_
  refine Sat.seqK fun zK2 zh2 zg2 => ?_
  refine Sat.regionP hk [⟨some 5, Op.move (Operand.tmp 0), 81, none⟩, ⟨some 6, Op.convert 81 2 (Operand.tmp 5), 2, none⟩, ⟨some 7, Op.move (Operand.tmp 1), 81, none⟩, ⟨some 8, Op.convert 81 2 (Operand.tmp 7), 2, none⟩, ⟨some 9, Op.binOp BinOp.mul 2 (Operand.tmp 6) (Operand.tmp 8) 2, 2, none⟩, ⟨some 10, Op.call { callee := Callee.value (Operand.func 139), args := #[Operand.tmp 9, Operand.const (Value.int IntKind.i64 65536)], argTypes := #[2, 2] }, 2, none⟩, ⟨some 11, Op.call { callee := Callee.value (Operand.func 100), args := #[Operand.tmp 10], argTypes := #[2] }, 81, none⟩, ⟨some 4, Op.assign (Operand.tmp 11), 81, none⟩] (by kernel_rfl) (by kernel_rfl) ?_
  simp [-List.map_take, -List.map_drop, ← List.map_take, ← List.map_drop, Function.comp_def]
  refine zh2 _ ?_
  refine Sat.ret ?_
  simp [-List.map_take, -List.map_drop, ← List.map_take, ← List.map_drop, Function.comp_def]
  all_goals simp [w64]
def S140 : Spec := fun gs => sp1 false (t64) (fun n => some (o32 (sat (w64 ((if -65536 < (if 65536 < n then 65536 else n) then (if 65536 < n then 65536 else n) else -65536) * 65536))))) gs
@[simp] theorem S140_eq (gs : List Arg) : S140 gs = sp1 false (t64) (fun n => some (o32 (sat (w64 ((if -65536 < (if 65536 < n then 65536 else n) then (if 65536 < n then 65536 else n) else -65536) * 65536))))) gs := rfl
theorem k140 : Contract Try.prog 140 S140 := by
  refine Contract.intro1 (C := cx 9 [(100, S100)]) Try.func140 rfl rfl rfl (by show 1 ≤ 9; decide) fun n out ho fr => ?_
  have hk := knowsX (N := 9) (l := [(100, S100)]) ⟨k100, trivial⟩
  obtain rfl := Option.some.inj ho
  refine Sat.seqK fun zK1 zh1 zg1 => ?_
  refine Sat.regionP hk [⟨some 2, Op.assign (Operand.const (Value.int IntKind.i32 0)), 81, none⟩] (by kernel_rfl) (by kernel_rfl) ?_
  simp [-List.map_take, -List.map_drop, ← List.map_take, ← List.map_drop, Function.comp_def]
  refine zh1 _ ?_
  refine Sat.seqK fun zK2 zh2 zg2 => ?_
  refine Sat.regionP hk [⟨some 3, Op.move (Operand.tmp 0), 3, none⟩, ⟨some 4, Op.call { callee := Callee.builtin Builtin.min, args := #[Operand.tmp 3, Operand.const (Value.int IntKind.i64 65536)], argTypes := #[3, 3] }, 3, none⟩, ⟨some 5, Op.call { callee := Callee.builtin Builtin.max, args := #[Operand.const (Value.int IntKind.i64 (-65536)), Operand.tmp 4], argTypes := #[3, 3] }, 3, none⟩, ⟨some 0, Op.assign (Operand.tmp 5), 3, none⟩] (by kernel_rfl) (by kernel_rfl) ?_
  simp [-List.map_take, -List.map_drop, ← List.map_take, ← List.map_drop, Function.comp_def]
  refine zh2 _ ?_
  refine Sat.seqK fun zK3 zh3 zg3 => ?_
  refine Sat.regionP hk [⟨some 6, Op.move (Operand.tmp 0), 3, none⟩, ⟨some 7, Op.binOp BinOp.mul 2 (Operand.tmp 6) (Operand.const (Value.int IntKind.i64 65536)) 2, 2, none⟩, ⟨some 8, Op.call { callee := Callee.value (Operand.func 100), args := #[Operand.tmp 7], argTypes := #[2] }, 81, none⟩, ⟨some 2, Op.assign (Operand.tmp 8), 81, none⟩] (by kernel_rfl) (by kernel_rfl) ?_
  simp [-List.map_take, -List.map_drop, ← List.map_take, ← List.map_drop, Function.comp_def]
  refine zh3 _ ?_
  refine Sat.ret ?_
  simp [-List.map_take, -List.map_drop, ← List.map_take, ← List.map_drop, Function.comp_def]
  all_goals simp [w64]
def S137 : Spec := fun gs => sp2 false (t64) false (t64) (fun s x => some (o64 (grow s x))) gs
@[simp] theorem S137_eq (gs : List Arg) : S137 gs = sp2 false (t64) false (t64) (fun s x => some (o64 (grow s x))) gs := rfl
theorem k137 : Contract Try.prog 137 S137 := by
  refine Contract.intro2 (C := cx 27 []) Try.func137 rfl rfl rfl (by show 2 ≤ 27; decide) fun s x out ho fr => ?_
  have hk := knowsX (N := 27) (l := []) trivial
  obtain rfl := Option.some.inj ho
  refine Sat.seqK fun zK1 zh1 zg1 => ?_
  refine Sat.regionP hk [⟨some 4, Op.assign (Operand.const (Value.int IntKind.i64 0)), 2, none⟩] (by kernel_rfl) (by kernel_rfl) ?_
  simp [-List.map_take, -List.map_drop, ← List.map_take, ← List.map_drop, Function.comp_def]
  refine zh1 _ ?_
  refine Sat.seqK fun zK2 zh2 zg2 => ?_
  refine Sat.blockK fun zK3 zh3 zx3 zg3 => ?_
  refine Sat.seqK fun zK4 zh4 zg4 => ?_
  by_cases h1 : 0 < x
  · skip
    refine Sat.regionP hk [⟨some 6, Op.move (Operand.tmp 1), 2, none⟩, ⟨some 7, Op.binOp BinOp.gtr 2 (Operand.tmp 6) (Operand.const (Value.int IntKind.i64 0)) 2, 4, none⟩, ⟨some 8, Op.move (Operand.tmp 7), 4, none⟩, ⟨some 9, Op.move (Operand.tmp 0), 2, some (8, true)⟩, ⟨some 10, Op.move (Operand.tmp 1), 2, some (8, true)⟩, ⟨some 11, Op.binOp BinOp.sub 2 (Operand.const (Value.int IntKind.i64 9223372036854775807)) (Operand.tmp 10) 2, 2, some (8, true)⟩, ⟨some 12, Op.binOp BinOp.gtr 2 (Operand.tmp 9) (Operand.tmp 11) 2, 4, some (8, true)⟩, ⟨some 13, Op.pick (Operand.tmp 8) (Operand.tmp 12) (Operand.const (Value.bool false)), 4, none⟩, ⟨some 5, Op.assign (Operand.tmp 13), 4, none⟩] (by kernel_rfl) (by kernel_rfl) ?_
    simp [-List.map_take, -List.map_drop, ← List.map_take, ← List.map_drop, Function.comp_def, h1]
    refine zh4 _ ?_
    refine Sat.cond rfl (fun c5 => ?_) (fun c5 => ?_)
    · skip
      try simp at c5
      refine Sat.seqK fun zK5 zh5 zg5 => ?_
      refine Sat.regionP hk [⟨some 4, Op.assign (Operand.const (Value.int IntKind.i64 9223372036854775807)), 2, none⟩] (by kernel_rfl) (by kernel_rfl) ?_
      simp [-List.map_take, -List.map_drop, ← List.map_take, ← List.map_drop, Function.comp_def, h1]
      refine zh5 _ ?_
      refine Sat.ret ?_
      refine zg3 _ _ (by simp) (by simp) ?_
      refine zg2 _ _ (by simp) ?_
      simp [-List.map_take, -List.map_drop, ← List.map_take, ← List.map_drop, Function.comp_def, h1]
      all_goals simp [grow, w64, h1, c5]
    · skip
      try simp at c5
      refine Sat.seqK fun zK6 zh6 zg6 => ?_
      by_cases h3 : x < 0
      · skip
        refine Sat.regionP hk [⟨some 15, Op.move (Operand.tmp 1), 2, none⟩, ⟨some 16, Op.binOp BinOp.lss 2 (Operand.tmp 15) (Operand.const (Value.int IntKind.i64 0)) 2, 4, none⟩, ⟨some 17, Op.move (Operand.tmp 16), 4, none⟩, ⟨some 18, Op.move (Operand.tmp 0), 2, some (17, true)⟩, ⟨some 19, Op.move (Operand.tmp 1), 2, some (17, true)⟩, ⟨some 20, Op.binOp BinOp.sub 2 (Operand.const (Value.int IntKind.i64 (-9223372036854775807))) (Operand.tmp 19) 2, 2, some (17, true)⟩, ⟨some 21, Op.binOp BinOp.lss 2 (Operand.tmp 18) (Operand.tmp 20) 2, 4, some (17, true)⟩, ⟨some 22, Op.pick (Operand.tmp 17) (Operand.tmp 21) (Operand.const (Value.bool false)), 4, none⟩, ⟨some 14, Op.assign (Operand.tmp 22), 4, none⟩] (by kernel_rfl) (by kernel_rfl) ?_
        simp [-List.map_take, -List.map_drop, ← List.map_take, ← List.map_drop, Function.comp_def, h1, h3]
        refine zh6 _ ?_
        refine Sat.cond rfl (fun c14 => ?_) (fun c14 => ?_)
        · skip
          try simp at c14
          refine Sat.seqK fun zK7 zh7 zg7 => ?_
          refine Sat.regionP hk [⟨some 4, Op.assign (Operand.const (Value.int IntKind.i64 (-9223372036854775807))), 2, none⟩] (by kernel_rfl) (by kernel_rfl) ?_
          simp [-List.map_take, -List.map_drop, ← List.map_take, ← List.map_drop, Function.comp_def, h1, h3]
          refine zh7 _ ?_
          refine Sat.ret ?_
          refine zg3 _ _ (by simp) (by simp) ?_
          refine zg2 _ _ (by simp) ?_
          simp [-List.map_take, -List.map_drop, ← List.map_take, ← List.map_drop, Function.comp_def, h1, h3]
          all_goals simp [grow, w64, h1, c5, Int.not_lt.2 c5, h3, c14]
        · skip
          try simp at c14
          refine Sat.skip ?_
          refine zh3 _ ?_
          refine zh2 _ ?_
          refine Sat.seqK fun zK8 zh8 zg8 => ?_
          refine Sat.regionP hk [⟨some 23, Op.move (Operand.tmp 0), 2, none⟩, ⟨some 24, Op.move (Operand.tmp 1), 2, none⟩, ⟨some 25, Op.binOp BinOp.add 2 (Operand.tmp 23) (Operand.tmp 24) 2, 2, none⟩, ⟨some 26, Op.call { callee := Callee.builtin Builtin.max, args := #[Operand.tmp 25, Operand.const (Value.int IntKind.i64 (-9223372036854775807))], argTypes := #[2, 2] }, 2, none⟩, ⟨some 4, Op.assign (Operand.tmp 26), 2, none⟩] (by kernel_rfl) (by kernel_rfl) ?_
          simp [-List.map_take, -List.map_drop, ← List.map_take, ← List.map_drop, Function.comp_def, h1, h3]
          refine zh8 _ ?_
          refine Sat.ret ?_
          simp [-List.map_take, -List.map_drop, ← List.map_take, ← List.map_drop, Function.comp_def, h1, h3]
          all_goals simp [grow, w64, h1, c5, Int.not_lt.2 c5, h3, c14, Int.not_lt.2 c14]
          all_goals (split <;> (rename_i h9; simp [h9]))
      · skip
        refine Sat.regionP hk [⟨some 15, Op.move (Operand.tmp 1), 2, none⟩, ⟨some 16, Op.binOp BinOp.lss 2 (Operand.tmp 15) (Operand.const (Value.int IntKind.i64 0)) 2, 4, none⟩, ⟨some 17, Op.move (Operand.tmp 16), 4, none⟩, ⟨some 18, Op.move (Operand.tmp 0), 2, some (17, true)⟩, ⟨some 19, Op.move (Operand.tmp 1), 2, some (17, true)⟩, ⟨some 20, Op.binOp BinOp.sub 2 (Operand.const (Value.int IntKind.i64 (-9223372036854775807))) (Operand.tmp 19) 2, 2, some (17, true)⟩, ⟨some 21, Op.binOp BinOp.lss 2 (Operand.tmp 18) (Operand.tmp 20) 2, 4, some (17, true)⟩, ⟨some 22, Op.pick (Operand.tmp 17) (Operand.tmp 21) (Operand.const (Value.bool false)), 4, none⟩, ⟨some 14, Op.assign (Operand.tmp 22), 4, none⟩] (by kernel_rfl) (by kernel_rfl) ?_
        simp [-List.map_take, -List.map_drop, ← List.map_take, ← List.map_drop, Function.comp_def, h1, h3]
        refine zh6 _ ?_
        refine Sat.cond rfl (fun c14 => ?_) (fun c14 => ?_)
        · exfalso; simp [h1, h3] at c14
        · skip
          try simp at c14
          refine Sat.skip ?_
          refine zh3 _ ?_
          refine zh2 _ ?_
          refine Sat.seqK fun zK9 zh9 zg9 => ?_
          refine Sat.regionP hk [⟨some 23, Op.move (Operand.tmp 0), 2, none⟩, ⟨some 24, Op.move (Operand.tmp 1), 2, none⟩, ⟨some 25, Op.binOp BinOp.add 2 (Operand.tmp 23) (Operand.tmp 24) 2, 2, none⟩, ⟨some 26, Op.call { callee := Callee.builtin Builtin.max, args := #[Operand.tmp 25, Operand.const (Value.int IntKind.i64 (-9223372036854775807))], argTypes := #[2, 2] }, 2, none⟩, ⟨some 4, Op.assign (Operand.tmp 26), 2, none⟩] (by kernel_rfl) (by kernel_rfl) ?_
          simp [-List.map_take, -List.map_drop, ← List.map_take, ← List.map_drop, Function.comp_def, h1, h3]
          refine zh9 _ ?_
          refine Sat.ret ?_
          simp [-List.map_take, -List.map_drop, ← List.map_take, ← List.map_drop, Function.comp_def, h1, h3]
          all_goals simp [grow, w64, h1, c5, Int.not_lt.2 c5, h3]
          all_goals (split <;> (rename_i h9; simp [h9]))
  · skip
    refine Sat.regionP hk [⟨some 6, Op.move (Operand.tmp 1), 2, none⟩, ⟨some 7, Op.binOp BinOp.gtr 2 (Operand.tmp 6) (Operand.const (Value.int IntKind.i64 0)) 2, 4, none⟩, ⟨some 8, Op.move (Operand.tmp 7), 4, none⟩, ⟨some 9, Op.move (Operand.tmp 0), 2, some (8, true)⟩, ⟨some 10, Op.move (Operand.tmp 1), 2, some (8, true)⟩, ⟨some 11, Op.binOp BinOp.sub 2 (Operand.const (Value.int IntKind.i64 9223372036854775807)) (Operand.tmp 10) 2, 2, some (8, true)⟩, ⟨some 12, Op.binOp BinOp.gtr 2 (Operand.tmp 9) (Operand.tmp 11) 2, 4, some (8, true)⟩, ⟨some 13, Op.pick (Operand.tmp 8) (Operand.tmp 12) (Operand.const (Value.bool false)), 4, none⟩, ⟨some 5, Op.assign (Operand.tmp 13), 4, none⟩] (by kernel_rfl) (by kernel_rfl) ?_
    simp [-List.map_take, -List.map_drop, ← List.map_take, ← List.map_drop, Function.comp_def, h1]
    refine zh4 _ ?_
    refine Sat.cond rfl (fun c5 => ?_) (fun c5 => ?_)
    · exfalso; simp [h1] at c5
    · skip
      try simp at c5
      refine Sat.seqK fun zK10 zh10 zg10 => ?_
      by_cases h3 : x < 0
      · skip
        refine Sat.regionP hk [⟨some 15, Op.move (Operand.tmp 1), 2, none⟩, ⟨some 16, Op.binOp BinOp.lss 2 (Operand.tmp 15) (Operand.const (Value.int IntKind.i64 0)) 2, 4, none⟩, ⟨some 17, Op.move (Operand.tmp 16), 4, none⟩, ⟨some 18, Op.move (Operand.tmp 0), 2, some (17, true)⟩, ⟨some 19, Op.move (Operand.tmp 1), 2, some (17, true)⟩, ⟨some 20, Op.binOp BinOp.sub 2 (Operand.const (Value.int IntKind.i64 (-9223372036854775807))) (Operand.tmp 19) 2, 2, some (17, true)⟩, ⟨some 21, Op.binOp BinOp.lss 2 (Operand.tmp 18) (Operand.tmp 20) 2, 4, some (17, true)⟩, ⟨some 22, Op.pick (Operand.tmp 17) (Operand.tmp 21) (Operand.const (Value.bool false)), 4, none⟩, ⟨some 14, Op.assign (Operand.tmp 22), 4, none⟩] (by kernel_rfl) (by kernel_rfl) ?_
        simp [-List.map_take, -List.map_drop, ← List.map_take, ← List.map_drop, Function.comp_def, h1, h3]
        refine zh10 _ ?_
        refine Sat.cond rfl (fun c14 => ?_) (fun c14 => ?_)
        · skip
          try simp at c14
          refine Sat.seqK fun zK11 zh11 zg11 => ?_
          refine Sat.regionP hk [⟨some 4, Op.assign (Operand.const (Value.int IntKind.i64 (-9223372036854775807))), 2, none⟩] (by kernel_rfl) (by kernel_rfl) ?_
          simp [-List.map_take, -List.map_drop, ← List.map_take, ← List.map_drop, Function.comp_def, h1, h3]
          refine zh11 _ ?_
          refine Sat.ret ?_
          refine zg3 _ _ (by simp) (by simp) ?_
          refine zg2 _ _ (by simp) ?_
          simp [-List.map_take, -List.map_drop, ← List.map_take, ← List.map_drop, Function.comp_def, h1, h3]
          all_goals simp [grow, w64, h1, h3, c14]
        · skip
          try simp at c14
          refine Sat.skip ?_
          refine zh3 _ ?_
          refine zh2 _ ?_
          refine Sat.seqK fun zK12 zh12 zg12 => ?_
          refine Sat.regionP hk [⟨some 23, Op.move (Operand.tmp 0), 2, none⟩, ⟨some 24, Op.move (Operand.tmp 1), 2, none⟩, ⟨some 25, Op.binOp BinOp.add 2 (Operand.tmp 23) (Operand.tmp 24) 2, 2, none⟩, ⟨some 26, Op.call { callee := Callee.builtin Builtin.max, args := #[Operand.tmp 25, Operand.const (Value.int IntKind.i64 (-9223372036854775807))], argTypes := #[2, 2] }, 2, none⟩, ⟨some 4, Op.assign (Operand.tmp 26), 2, none⟩] (by kernel_rfl) (by kernel_rfl) ?_
          simp [-List.map_take, -List.map_drop, ← List.map_take, ← List.map_drop, Function.comp_def, h1, h3]
          refine zh12 _ ?_
          refine Sat.ret ?_
          simp [-List.map_take, -List.map_drop, ← List.map_take, ← List.map_drop, Function.comp_def, h1, h3]
          all_goals simp [grow, w64, h1, h3, c14, Int.not_lt.2 c14]
          all_goals (split <;> (rename_i h9; simp [h9]))
      · skip
        refine Sat.regionP hk [⟨some 15, Op.move (Operand.tmp 1), 2, none⟩, ⟨some 16, Op.binOp BinOp.lss 2 (Operand.tmp 15) (Operand.const (Value.int IntKind.i64 0)) 2, 4, none⟩, ⟨some 17, Op.move (Operand.tmp 16), 4, none⟩, ⟨some 18, Op.move (Operand.tmp 0), 2, some (17, true)⟩, ⟨some 19, Op.move (Operand.tmp 1), 2, some (17, true)⟩, ⟨some 20, Op.binOp BinOp.sub 2 (Operand.const (Value.int IntKind.i64 (-9223372036854775807))) (Operand.tmp 19) 2, 2, some (17, true)⟩, ⟨some 21, Op.binOp BinOp.lss 2 (Operand.tmp 18) (Operand.tmp 20) 2, 4, some (17, true)⟩, ⟨some 22, Op.pick (Operand.tmp 17) (Operand.tmp 21) (Operand.const (Value.bool false)), 4, none⟩, ⟨some 14, Op.assign (Operand.tmp 22), 4, none⟩] (by kernel_rfl) (by kernel_rfl) ?_
        simp [-List.map_take, -List.map_drop, ← List.map_take, ← List.map_drop, Function.comp_def, h1, h3]
        refine zh10 _ ?_
        refine Sat.cond rfl (fun c14 => ?_) (fun c14 => ?_)
        · exfalso; simp [h1, h3] at c14
        · skip
          try simp at c14
          refine Sat.skip ?_
          refine zh3 _ ?_
          refine zh2 _ ?_
          refine Sat.seqK fun zK13 zh13 zg13 => ?_
          refine Sat.regionP hk [⟨some 23, Op.move (Operand.tmp 0), 2, none⟩, ⟨some 24, Op.move (Operand.tmp 1), 2, none⟩, ⟨some 25, Op.binOp BinOp.add 2 (Operand.tmp 23) (Operand.tmp 24) 2, 2, none⟩, ⟨some 26, Op.call { callee := Callee.builtin Builtin.max, args := #[Operand.tmp 25, Operand.const (Value.int IntKind.i64 (-9223372036854775807))], argTypes := #[2, 2] }, 2, none⟩, ⟨some 4, Op.assign (Operand.tmp 26), 2, none⟩] (by kernel_rfl) (by kernel_rfl) ?_
          simp [-List.map_take, -List.map_drop, ← List.map_take, ← List.map_drop, Function.comp_def, h1, h3]
          refine zh13 _ ?_
          refine Sat.ret ?_
          simp [-List.map_take, -List.map_drop, ← List.map_take, ← List.map_drop, Function.comp_def, h1, h3]
          all_goals simp [grow, w64, h1, h3]
          all_goals (split <;> (rename_i h9; simp [h9]))
end Go.Proofs.Ytmbmebfeoejlnaa.Ab
