/- Blocks and views told. -/
import Derived.Test.YtmbmebfeoejlnaaB8
namespace Go.Proofs.Ytmbmebfeoejlnaa.Ab
set_option linter.unusedVariables false
set_option linter.unusedSimpArgs false
open Go.RowKit
abbrev Blk := List Int × Int × Cube × Cube
abbrev View := List Int × Cube × Cube
abbrev tBlk : Ty Blk := tPair tTok (tPair t64 (tPair tCube tCube))
abbrev tView : Ty View := tPair tTok (tPair tCube tCube)
abbrev eBlk (b : Bool) (x : Blk) : List D := [dTok b x.1, .lit (.int .i64 x.2.1), dCube b x.2.2.1, dCube b x.2.2.2]
abbrev eView (b : Bool) (x : View) : List D := [dTok b x.1, dCube b x.2.1, dCube b x.2.2]
@[simp] def oBlk (x : Blk) : Out := ⟨[(true, eBlk false x)], []⟩
@[simp] def oView (x : View) : Out := ⟨[(true, eView false x)], []⟩
def cutRows (n : Nat) (m : List (List Int)) : List (List Int) := (m.take n).map fun r => r.take 40
def cutCube (n : Nat) (c : Cube) : Cube := (c.take 5).map (cutRows n)
def cutBlk (b : Blk) : Blk := (b.1.take 140, b.2.1, cutCube 20 b.2.2.1, cutCube 20 b.2.2.2)
def cutView (v : View) : View := (v.1.take 130, cutCube 130 v.2.1, cutCube 130 v.2.2)
def S58 : Spec := fun gs => sp1 false (tCube) (fun l => some (oCube (cutCube 20 l))) gs
@[simp] theorem S58_eq (gs : List Arg) : S58 gs = sp1 false (tCube) (fun l => some (oCube (cutCube 20 l))) gs := rfl
theorem k58 : Contract Try.prog 58 S58 := by
  refine Contract.intro1 (C := cx 25 [(92, S92)]) Try.func58 rfl rfl rfl (by show 1 ≤ 25; decide) fun l out ho fr => ?_
  have hk := knowsX (N := 25) (l := [(92, S92)]) ⟨k92, trivial⟩
  obtain rfl := Option.some.inj ho
  refine Sat.seqK fun zK1 zh1 zg1 => ?_
  refine Sat.regionP hk [⟨some 2, Op.assign (Operand.const (Value.slice none 0 0)), 28, none⟩] (by kernel_rfl) (by kernel_rfl) ?_
  simp [-List.map_take, -List.map_drop, ← List.map_take, ← List.map_drop, Function.comp_def]
  refine zh1 _ ?_
  refine Sat.seqK fun zK2 zh2 zg2 => ?_
  refine Sat.regionP hk [⟨some 5, Op.buildSlice 28 0 #[], 28, none⟩, ⟨some 3, Op.assign (Operand.tmp 5), 28, none⟩] (by kernel_rfl) (by kernel_rfl) ?_
  simp [-List.map_take, -List.map_drop, ← List.map_take, ← List.map_drop, Function.comp_def]
  refine zh2 _ ?_
  refine Sat.seqK fun zK3 zh3 zg3 => ?_
  refine Sat.seqK fun zK4 zh4 zg4 => ?_
  refine Sat.regionP hk [⟨some 4, Op.assign (Operand.const (Value.int IntKind.i64 0)), 3, none⟩] (by kernel_rfl) (by kernel_rfl) ?_
  simp [-List.map_take, -List.map_drop, ← List.map_take, ← List.map_drop, Function.comp_def]
  refine zh4 _ ?_
  refine Sat.loopK (E := ⟨_, _, _⟩) [0] [] [] ⟨by first | (simp [keepS]; done) | (simp [keepS]; rfl), by first | (simp [keepO]; done) | (simp [keepO]; rfl), by first | (simp [keepB]; done) | (simp [keepB]; rfl)⟩ (zh3) (fun (⟨j, v⟩ : Nat × Nat) => (⟨[(4, num j), (3, oref 320 v)], [(320, ⟨v, 0, .own, 79, 1, (l.take j).map fun m => .sl false 51 1 ((m.take 20).map fun r => .sl false 81 1 ((r.take 40).map fun x => .lit (.int .i32 x)))⟩)], []⟩ : Ds)) (fun (⟨j, v⟩ : Nat × Nat) => j ≤ l.length ∧ j ≤ 5) (fun (⟨j, v⟩ : Nat × Nat) => j ≤ l.length ∧ j ≤ 5 ∧ (j = l.length ∨ j = 5)) (fun (⟨j, v⟩ : Nat × Nat) => l.length - j) (0, 1) ?_ ?_ ?_ ?_
  · first | omega | (dsimp only; omega)
  · exact ⟨by simp [FitL], by simp [FitL], by simp [FitL]⟩
  · rintro ⟨j, v⟩ hP0 zo5 zb5 zp5 zq5 zK5 zn5 zx5 zg5
    try dsimp only [Ds.app, Ds.st, List.cons_append, List.nil_append] at hP0 ⊢
    refine Sat.seqK fun zK6 zh6 zg6 => ?_
    refine Sat.seqK fun zK7 zh7 zg7 => ?_
    by_cases hj : j < l.length
    · skip
      obtain ⟨r, hr⟩ : ∃ r, l[j]? = some r := ⟨l[j], List.getElem?_eq_getElem hj⟩
      refine Sat.regionP hk [⟨some 6, Op.move (Operand.tmp 4), 3, none⟩, ⟨some 7, Op.move (Operand.tmp 0), 28, none⟩, ⟨some 8, Op.call { callee := Callee.builtin Builtin.len, args := #[Operand.tmp 7], argTypes := #[28] }, 3, none⟩, ⟨some 9, Op.binOp BinOp.lss 3 (Operand.tmp 6) (Operand.tmp 8) 3, 4, none⟩, ⟨some 10, Op.move (Operand.tmp 9), 4, none⟩, ⟨some 11, Op.move (Operand.tmp 4), 3, some (10, true)⟩, ⟨some 12, Op.binOp BinOp.lss 3 (Operand.tmp 11) (Operand.const (Value.int IntKind.i64 5)) 3, 4, some (10, true)⟩, ⟨some 13, Op.pick (Operand.tmp 10) (Operand.tmp 12) (Operand.const (Value.bool false)), 4, none⟩] (by kernel_rfl) (by kernel_rfl) ?_
      simp [-List.map_take, -List.map_drop, ← List.map_take, ← List.map_drop, Function.comp_def, zp5.st, zq5.st, hj]
      refine zh7 _ ?_
      refine Sat.cond rfl (fun c13 => ?_) (fun c13 => ?_)
      · skip
        try simp at c13
        have hf : fitsL Try.prog 79 1 (j + 1) = true := by simp [fitsL, maxL]; omega
        refine Sat.skip ?_
        refine zh6 _ ?_
        refine Sat.seqK fun zK8 zh8 zg8 => ?_
        refine Sat.blockK fun zK9 zh9 zx9 zg9 => ?_
        refine Sat.regionP hk [⟨some 16, Op.move (Operand.tmp 3), 28, none⟩, ⟨some 17, Op.move (Operand.tmp 0), 28, none⟩, ⟨some 18, Op.move (Operand.tmp 4), 3, none⟩, ⟨some 19, Op.indexAddr 28 (Operand.tmp 17) (Operand.tmp 18), 0, none⟩, ⟨some 20, Op.load 79 (Operand.tmp 19), 79, none⟩, ⟨some 21, Op.call { callee := Callee.value (Operand.func 92), args := #[Operand.tmp 20, Operand.const (Value.int IntKind.i64 20)], argTypes := #[79, 3] }, 79, none⟩, ⟨some 22, Op.buildSlice 28 1 #[(0, Operand.tmp 21)], 28, none⟩, ⟨some 23, Op.call { callee := Callee.builtin Builtin.append, args := #[Operand.tmp 16, Operand.tmp 22], argTypes := #[28, 28] }, 28, none⟩, ⟨some 3, Op.assign (Operand.tmp 23), 28, none⟩] (by kernel_rfl) (by kernel_rfl) ?_
        simp [-List.map_take, -List.map_drop, ← List.map_take, ← List.map_drop, Function.comp_def, zp5.st, zq5.st, hj, hf, take1 hr, take_succ_get hr, w64s j (by omega), Nat.min_eq_left (Nat.le_of_lt hj)]
        refine zh9 _ ?_
        refine zh8 _ ?_
        refine Sat.regionP hk [⟨some 14, Op.move (Operand.tmp 4), 3, none⟩, ⟨some 15, Op.binOp BinOp.add 3 (Operand.tmp 14) (Operand.const (Value.int IntKind.i64 1)) 3, 3, none⟩, ⟨some 4, Op.assign (Operand.tmp 15), 3, none⟩] (by kernel_rfl) (by kernel_rfl) ?_
        simp [-List.map_take, -List.map_drop, ← List.map_take, ← List.map_drop, Function.comp_def, zp5.st, zq5.st, hj, hf, take1 hr, take_succ_get hr, w64s j (by omega), Nat.min_eq_left (Nat.le_of_lt hj)]
        refine zn5 (j + 1, v + 1) _ ?_ ?_ ?_ ?_
        · first | omega | (dsimp only; omega)
        · first | omega | (dsimp only; omega)
        · exact ⟨by simp [-List.map_take, -List.map_drop, ← List.map_take, ← List.map_drop, Function.comp_def, FitL, zp5.st, zq5.st, hj, hf, take1 hr, take_succ_get hr, w64s j (by omega), Nat.min_eq_left (Nat.le_of_lt hj)], by simp [-List.map_take, -List.map_drop, ← List.map_take, ← List.map_drop, Function.comp_def, FitL, zp5.st, zq5.st, hj, hf, take1 hr, take_succ_get hr, w64s j (by omega), Nat.min_eq_left (Nat.le_of_lt hj)], by simp [-List.map_take, -List.map_drop, ← List.map_take, ← List.map_drop, Function.comp_def, FitL, zp5.st, zq5.st, hj, hf, take1 hr, take_succ_get hr, w64s j (by omega), Nat.min_eq_left (Nat.le_of_lt hj)]⟩
        · exact ⟨by simp [-List.map_take, -List.map_drop, ← List.map_take, ← List.map_drop, Function.comp_def, FitL, zp5.st, zq5.st, hj, hf, take1 hr, take_succ_get hr, w64s j (by omega), Nat.min_eq_left (Nat.le_of_lt hj)], by simp [-List.map_take, -List.map_drop, ← List.map_take, ← List.map_drop, Function.comp_def, FitL, zp5.st, zq5.st, hj, hf, take1 hr, take_succ_get hr, w64s j (by omega), Nat.min_eq_left (Nat.le_of_lt hj)], by simp [-List.map_take, -List.map_drop, ← List.map_take, ← List.map_drop, Function.comp_def, FitL, zp5.st, zq5.st, hj, hf, take1 hr, take_succ_get hr, w64s j (by omega), Nat.min_eq_left (Nat.le_of_lt hj)]⟩
      · skip
        try simp at c13
        refine Sat.exit ?_
        refine zg6 _ _ (by simp) ?_
        refine zx5 ⟨j, v⟩ _ ?_ ?_ ?_
        · first | omega | (dsimp only; omega)
        · exact ⟨by simp [-List.map_take, -List.map_drop, ← List.map_take, ← List.map_drop, Function.comp_def, FitL, zp5.st, zq5.st, hj], by simp [-List.map_take, -List.map_drop, ← List.map_take, ← List.map_drop, Function.comp_def, FitL, zp5.st, zq5.st, hj], by simp [-List.map_take, -List.map_drop, ← List.map_take, ← List.map_drop, Function.comp_def, FitL, zp5.st, zq5.st, hj]⟩
        · exact ⟨by simp [-List.map_take, -List.map_drop, ← List.map_take, ← List.map_drop, Function.comp_def, FitL, zp5.st, zq5.st, hj], by simp [-List.map_take, -List.map_drop, ← List.map_take, ← List.map_drop, Function.comp_def, FitL, zp5.st, zq5.st, hj], by simp [-List.map_take, -List.map_drop, ← List.map_take, ← List.map_drop, Function.comp_def, FitL, zp5.st, zq5.st, hj]⟩
    · skip
      refine Sat.regionP hk [⟨some 6, Op.move (Operand.tmp 4), 3, none⟩, ⟨some 7, Op.move (Operand.tmp 0), 28, none⟩, ⟨some 8, Op.call { callee := Callee.builtin Builtin.len, args := #[Operand.tmp 7], argTypes := #[28] }, 3, none⟩, ⟨some 9, Op.binOp BinOp.lss 3 (Operand.tmp 6) (Operand.tmp 8) 3, 4, none⟩, ⟨some 10, Op.move (Operand.tmp 9), 4, none⟩, ⟨some 11, Op.move (Operand.tmp 4), 3, some (10, true)⟩, ⟨some 12, Op.binOp BinOp.lss 3 (Operand.tmp 11) (Operand.const (Value.int IntKind.i64 5)) 3, 4, some (10, true)⟩, ⟨some 13, Op.pick (Operand.tmp 10) (Operand.tmp 12) (Operand.const (Value.bool false)), 4, none⟩] (by kernel_rfl) (by kernel_rfl) ?_
      simp [-List.map_take, -List.map_drop, ← List.map_take, ← List.map_drop, Function.comp_def, zp5.st, zq5.st, hj]
      refine zh7 _ ?_
      refine Sat.cond rfl (fun c13 => ?_) (fun c13 => ?_)
      · exfalso; simp [zp5.st, zq5.st, hj] at c13
      · skip
        try simp at c13
        refine Sat.exit ?_
        refine zg6 _ _ (by simp) ?_
        refine zx5 ⟨j, v⟩ _ ?_ ?_ ?_
        · first | omega | (dsimp only; omega)
        · exact ⟨by simp [-List.map_take, -List.map_drop, ← List.map_take, ← List.map_drop, Function.comp_def, FitL, zp5.st, zq5.st, hj], by simp [-List.map_take, -List.map_drop, ← List.map_take, ← List.map_drop, Function.comp_def, FitL, zp5.st, zq5.st, hj], by simp [-List.map_take, -List.map_drop, ← List.map_take, ← List.map_drop, Function.comp_def, FitL, zp5.st, zq5.st, hj]⟩
        · exact ⟨by simp [-List.map_take, -List.map_drop, ← List.map_take, ← List.map_drop, Function.comp_def, FitL, zp5.st, zq5.st, hj], by simp [-List.map_take, -List.map_drop, ← List.map_take, ← List.map_drop, Function.comp_def, FitL, zp5.st, zq5.st, hj], by simp [-List.map_take, -List.map_drop, ← List.map_take, ← List.map_drop, Function.comp_def, FitL, zp5.st, zq5.st, hj]⟩
  · rintro ⟨j, v⟩ hR0 zo5 zb5 zp5 zq5
    try dsimp only [Ds.app, Ds.st, List.cons_append, List.nil_append] at hR0 ⊢
    have e0 : l.take j = l.take 5 := take_eq (by omega) (by omega)
    refine Sat.seqK fun zK10 zh10 zg10 => ?_
    refine Sat.regionP hk [⟨some 24, Op.move (Operand.tmp 3), 28, none⟩, ⟨some 2, Op.assign (Operand.tmp 24), 28, none⟩] (by kernel_rfl) (by kernel_rfl) ?_
    simp [-List.map_take, -List.map_drop, ← List.map_take, ← List.map_drop, Function.comp_def, zp5.st, zq5.st, e0, cutCube, cutRows]
    refine zh10 _ ?_
    refine Sat.ret ?_
    simp [-List.map_take, -List.map_drop, ← List.map_take, ← List.map_drop, Function.comp_def, zp5.st, zq5.st, e0, cutCube, cutRows]
def S68 : Spec := fun gs => sp1 false (tCube) (fun l => some (oCube (cutCube 130 l))) gs
@[simp] theorem S68_eq (gs : List Arg) : S68 gs = sp1 false (tCube) (fun l => some (oCube (cutCube 130 l))) gs := rfl
theorem k68 : Contract Try.prog 68 S68 := by
  refine Contract.intro1 (C := cx 25 [(92, S92)]) Try.func68 rfl rfl rfl (by show 1 ≤ 25; decide) fun l out ho fr => ?_
  have hk := knowsX (N := 25) (l := [(92, S92)]) ⟨k92, trivial⟩
  obtain rfl := Option.some.inj ho
  refine Sat.seqK fun zK1 zh1 zg1 => ?_
  refine Sat.regionP hk [⟨some 2, Op.assign (Operand.const (Value.slice none 0 0)), 28, none⟩] (by kernel_rfl) (by kernel_rfl) ?_
  simp [-List.map_take, -List.map_drop, ← List.map_take, ← List.map_drop, Function.comp_def]
  refine zh1 _ ?_
  refine Sat.seqK fun zK2 zh2 zg2 => ?_
  refine Sat.regionP hk [⟨some 5, Op.buildSlice 28 0 #[], 28, none⟩, ⟨some 3, Op.assign (Operand.tmp 5), 28, none⟩] (by kernel_rfl) (by kernel_rfl) ?_
  simp [-List.map_take, -List.map_drop, ← List.map_take, ← List.map_drop, Function.comp_def]
  refine zh2 _ ?_
  refine Sat.seqK fun zK3 zh3 zg3 => ?_
  refine Sat.seqK fun zK4 zh4 zg4 => ?_
  refine Sat.regionP hk [⟨some 4, Op.assign (Operand.const (Value.int IntKind.i64 0)), 3, none⟩] (by kernel_rfl) (by kernel_rfl) ?_
  simp [-List.map_take, -List.map_drop, ← List.map_take, ← List.map_drop, Function.comp_def]
  refine zh4 _ ?_
  refine Sat.loopK (E := ⟨_, _, _⟩) [0] [] [] ⟨by first | (simp [keepS]; done) | (simp [keepS]; rfl), by first | (simp [keepO]; done) | (simp [keepO]; rfl), by first | (simp [keepB]; done) | (simp [keepB]; rfl)⟩ (zh3) (fun (⟨j, v⟩ : Nat × Nat) => (⟨[(4, num j), (3, oref 320 v)], [(320, ⟨v, 0, .own, 79, 1, (l.take j).map fun m => .sl false 51 1 ((m.take 130).map fun r => .sl false 81 1 ((r.take 40).map fun x => .lit (.int .i32 x)))⟩)], []⟩ : Ds)) (fun (⟨j, v⟩ : Nat × Nat) => j ≤ l.length ∧ j ≤ 5) (fun (⟨j, v⟩ : Nat × Nat) => j ≤ l.length ∧ j ≤ 5 ∧ (j = l.length ∨ j = 5)) (fun (⟨j, v⟩ : Nat × Nat) => l.length - j) (0, 1) ?_ ?_ ?_ ?_
  · first | omega | (dsimp only; omega)
  · exact ⟨by simp [FitL], by simp [FitL], by simp [FitL]⟩
  · rintro ⟨j, v⟩ hP0 zo5 zb5 zp5 zq5 zK5 zn5 zx5 zg5
    try dsimp only [Ds.app, Ds.st, List.cons_append, List.nil_append] at hP0 ⊢
    refine Sat.seqK fun zK6 zh6 zg6 => ?_
    refine Sat.seqK fun zK7 zh7 zg7 => ?_
    by_cases hj : j < l.length
    · skip
      obtain ⟨r, hr⟩ : ∃ r, l[j]? = some r := ⟨l[j], List.getElem?_eq_getElem hj⟩
      refine Sat.regionP hk [⟨some 6, Op.move (Operand.tmp 4), 3, none⟩, ⟨some 7, Op.move (Operand.tmp 0), 28, none⟩, ⟨some 8, Op.call { callee := Callee.builtin Builtin.len, args := #[Operand.tmp 7], argTypes := #[28] }, 3, none⟩, ⟨some 9, Op.binOp BinOp.lss 3 (Operand.tmp 6) (Operand.tmp 8) 3, 4, none⟩, ⟨some 10, Op.move (Operand.tmp 9), 4, none⟩, ⟨some 11, Op.move (Operand.tmp 4), 3, some (10, true)⟩, ⟨some 12, Op.binOp BinOp.lss 3 (Operand.tmp 11) (Operand.const (Value.int IntKind.i64 5)) 3, 4, some (10, true)⟩, ⟨some 13, Op.pick (Operand.tmp 10) (Operand.tmp 12) (Operand.const (Value.bool false)), 4, none⟩] (by kernel_rfl) (by kernel_rfl) ?_
      simp [-List.map_take, -List.map_drop, ← List.map_take, ← List.map_drop, Function.comp_def, zp5.st, zq5.st, hj]
      refine zh7 _ ?_
      refine Sat.cond rfl (fun c13 => ?_) (fun c13 => ?_)
      · skip
        try simp at c13
        have hf : fitsL Try.prog 79 1 (j + 1) = true := by simp [fitsL, maxL]; omega
        refine Sat.skip ?_
        refine zh6 _ ?_
        refine Sat.seqK fun zK8 zh8 zg8 => ?_
        refine Sat.blockK fun zK9 zh9 zx9 zg9 => ?_
        refine Sat.regionP hk [⟨some 16, Op.move (Operand.tmp 3), 28, none⟩, ⟨some 17, Op.move (Operand.tmp 0), 28, none⟩, ⟨some 18, Op.move (Operand.tmp 4), 3, none⟩, ⟨some 19, Op.indexAddr 28 (Operand.tmp 17) (Operand.tmp 18), 0, none⟩, ⟨some 20, Op.load 79 (Operand.tmp 19), 79, none⟩, ⟨some 21, Op.call { callee := Callee.value (Operand.func 92), args := #[Operand.tmp 20, Operand.const (Value.int IntKind.i64 130)], argTypes := #[79, 3] }, 79, none⟩, ⟨some 22, Op.buildSlice 28 1 #[(0, Operand.tmp 21)], 28, none⟩, ⟨some 23, Op.call { callee := Callee.builtin Builtin.append, args := #[Operand.tmp 16, Operand.tmp 22], argTypes := #[28, 28] }, 28, none⟩, ⟨some 3, Op.assign (Operand.tmp 23), 28, none⟩] (by kernel_rfl) (by kernel_rfl) ?_
        simp [-List.map_take, -List.map_drop, ← List.map_take, ← List.map_drop, Function.comp_def, zp5.st, zq5.st, hj, hf, take1 hr, take_succ_get hr, w64s j (by omega), Nat.min_eq_left (Nat.le_of_lt hj)]
        refine zh9 _ ?_
        refine zh8 _ ?_
        refine Sat.regionP hk [⟨some 14, Op.move (Operand.tmp 4), 3, none⟩, ⟨some 15, Op.binOp BinOp.add 3 (Operand.tmp 14) (Operand.const (Value.int IntKind.i64 1)) 3, 3, none⟩, ⟨some 4, Op.assign (Operand.tmp 15), 3, none⟩] (by kernel_rfl) (by kernel_rfl) ?_
        simp [-List.map_take, -List.map_drop, ← List.map_take, ← List.map_drop, Function.comp_def, zp5.st, zq5.st, hj, hf, take1 hr, take_succ_get hr, w64s j (by omega), Nat.min_eq_left (Nat.le_of_lt hj)]
        refine zn5 (j + 1, v + 1) _ ?_ ?_ ?_ ?_
        · first | omega | (dsimp only; omega)
        · first | omega | (dsimp only; omega)
        · exact ⟨by simp [-List.map_take, -List.map_drop, ← List.map_take, ← List.map_drop, Function.comp_def, FitL, zp5.st, zq5.st, hj, hf, take1 hr, take_succ_get hr, w64s j (by omega), Nat.min_eq_left (Nat.le_of_lt hj)], by simp [-List.map_take, -List.map_drop, ← List.map_take, ← List.map_drop, Function.comp_def, FitL, zp5.st, zq5.st, hj, hf, take1 hr, take_succ_get hr, w64s j (by omega), Nat.min_eq_left (Nat.le_of_lt hj)], by simp [-List.map_take, -List.map_drop, ← List.map_take, ← List.map_drop, Function.comp_def, FitL, zp5.st, zq5.st, hj, hf, take1 hr, take_succ_get hr, w64s j (by omega), Nat.min_eq_left (Nat.le_of_lt hj)]⟩
        · exact ⟨by simp [-List.map_take, -List.map_drop, ← List.map_take, ← List.map_drop, Function.comp_def, FitL, zp5.st, zq5.st, hj, hf, take1 hr, take_succ_get hr, w64s j (by omega), Nat.min_eq_left (Nat.le_of_lt hj)], by simp [-List.map_take, -List.map_drop, ← List.map_take, ← List.map_drop, Function.comp_def, FitL, zp5.st, zq5.st, hj, hf, take1 hr, take_succ_get hr, w64s j (by omega), Nat.min_eq_left (Nat.le_of_lt hj)], by simp [-List.map_take, -List.map_drop, ← List.map_take, ← List.map_drop, Function.comp_def, FitL, zp5.st, zq5.st, hj, hf, take1 hr, take_succ_get hr, w64s j (by omega), Nat.min_eq_left (Nat.le_of_lt hj)]⟩
      · skip
        try simp at c13
        refine Sat.exit ?_
        refine zg6 _ _ (by simp) ?_
        refine zx5 ⟨j, v⟩ _ ?_ ?_ ?_
        · first | omega | (dsimp only; omega)
        · exact ⟨by simp [-List.map_take, -List.map_drop, ← List.map_take, ← List.map_drop, Function.comp_def, FitL, zp5.st, zq5.st, hj], by simp [-List.map_take, -List.map_drop, ← List.map_take, ← List.map_drop, Function.comp_def, FitL, zp5.st, zq5.st, hj], by simp [-List.map_take, -List.map_drop, ← List.map_take, ← List.map_drop, Function.comp_def, FitL, zp5.st, zq5.st, hj]⟩
        · exact ⟨by simp [-List.map_take, -List.map_drop, ← List.map_take, ← List.map_drop, Function.comp_def, FitL, zp5.st, zq5.st, hj], by simp [-List.map_take, -List.map_drop, ← List.map_take, ← List.map_drop, Function.comp_def, FitL, zp5.st, zq5.st, hj], by simp [-List.map_take, -List.map_drop, ← List.map_take, ← List.map_drop, Function.comp_def, FitL, zp5.st, zq5.st, hj]⟩
    · skip
      refine Sat.regionP hk [⟨some 6, Op.move (Operand.tmp 4), 3, none⟩, ⟨some 7, Op.move (Operand.tmp 0), 28, none⟩, ⟨some 8, Op.call { callee := Callee.builtin Builtin.len, args := #[Operand.tmp 7], argTypes := #[28] }, 3, none⟩, ⟨some 9, Op.binOp BinOp.lss 3 (Operand.tmp 6) (Operand.tmp 8) 3, 4, none⟩, ⟨some 10, Op.move (Operand.tmp 9), 4, none⟩, ⟨some 11, Op.move (Operand.tmp 4), 3, some (10, true)⟩, ⟨some 12, Op.binOp BinOp.lss 3 (Operand.tmp 11) (Operand.const (Value.int IntKind.i64 5)) 3, 4, some (10, true)⟩, ⟨some 13, Op.pick (Operand.tmp 10) (Operand.tmp 12) (Operand.const (Value.bool false)), 4, none⟩] (by kernel_rfl) (by kernel_rfl) ?_
      simp [-List.map_take, -List.map_drop, ← List.map_take, ← List.map_drop, Function.comp_def, zp5.st, zq5.st, hj]
      refine zh7 _ ?_
      refine Sat.cond rfl (fun c13 => ?_) (fun c13 => ?_)
      · exfalso; simp [zp5.st, zq5.st, hj] at c13
      · skip
        try simp at c13
        refine Sat.exit ?_
        refine zg6 _ _ (by simp) ?_
        refine zx5 ⟨j, v⟩ _ ?_ ?_ ?_
        · first | omega | (dsimp only; omega)
        · exact ⟨by simp [-List.map_take, -List.map_drop, ← List.map_take, ← List.map_drop, Function.comp_def, FitL, zp5.st, zq5.st, hj], by simp [-List.map_take, -List.map_drop, ← List.map_take, ← List.map_drop, Function.comp_def, FitL, zp5.st, zq5.st, hj], by simp [-List.map_take, -List.map_drop, ← List.map_take, ← List.map_drop, Function.comp_def, FitL, zp5.st, zq5.st, hj]⟩
        · exact ⟨by simp [-List.map_take, -List.map_drop, ← List.map_take, ← List.map_drop, Function.comp_def, FitL, zp5.st, zq5.st, hj], by simp [-List.map_take, -List.map_drop, ← List.map_take, ← List.map_drop, Function.comp_def, FitL, zp5.st, zq5.st, hj], by simp [-List.map_take, -List.map_drop, ← List.map_take, ← List.map_drop, Function.comp_def, FitL, zp5.st, zq5.st, hj]⟩
  · rintro ⟨j, v⟩ hR0 zo5 zb5 zp5 zq5
    try dsimp only [Ds.app, Ds.st, List.cons_append, List.nil_append] at hR0 ⊢
    have e0 : l.take j = l.take 5 := take_eq (by omega) (by omega)
    refine Sat.seqK fun zK10 zh10 zg10 => ?_
    refine Sat.regionP hk [⟨some 24, Op.move (Operand.tmp 3), 28, none⟩, ⟨some 2, Op.assign (Operand.tmp 24), 28, none⟩] (by kernel_rfl) (by kernel_rfl) ?_
    simp [-List.map_take, -List.map_drop, ← List.map_take, ← List.map_drop, Function.comp_def, zp5.st, zq5.st, e0, cutCube, cutRows]
    refine zh10 _ ?_
    refine Sat.ret ?_
    simp [-List.map_take, -List.map_drop, ← List.map_take, ← List.map_drop, Function.comp_def, zp5.st, zq5.st, e0, cutCube, cutRows]
def S57 : Spec := fun gs => sp1 true (tBlk) (fun b => some (oBlk (cutBlk b))) gs
@[simp] theorem S57_eq (gs : List Arg) : S57 gs = sp1 true (tBlk) (fun b => some (oBlk (cutBlk b))) gs := rfl
theorem k57 : Contract Try.prog 57 S57 := by
  refine Contract.intro1 (C := cx 17 [(27, S27), (58, S58)]) Try.func57 rfl rfl rfl (by show 1 ≤ 17; decide) fun b out ho fr => ?_
  have hk := knowsX (N := 17) (l := [(27, S27), (58, S58)]) ⟨k27, k58, trivial⟩
  obtain rfl := Option.some.inj ho
  refine Sat.seqK fun zK1 zh1 zg1 => ?_
  refine Sat.regionP hk [⟨some 1, Op.box 34 (Operand.tmp 0), 0, none⟩, ⟨some 2, Op.alloc 30, 0, none⟩] (by kernel_rfl) (by kernel_rfl) ?_
  simp [-List.map_take, -List.map_drop, ← List.map_take, ← List.map_drop, Function.comp_def]
  refine zh1 _ ?_
  refine Sat.seqK fun zK2 zh2 zg2 => ?_
  refine Sat.regionDP hk (by kernel_rfl) [⟨some 3, Op.fieldAddr 34 (Operand.tmp 1) 0, 0, none⟩, ⟨some 4, Op.load 27 (Operand.tmp 3), 27, none⟩, ⟨some 5, Op.call { callee := Callee.value (Operand.func 27), args := #[Operand.tmp 4, Operand.const (Value.int IntKind.i64 140)], argTypes := #[27, 3] }, 27, none⟩, ⟨some 6, Op.fieldAddr 34 (Operand.tmp 1) 1, 0, none⟩, ⟨some 7, Op.load 3 (Operand.tmp 6), 3, none⟩, ⟨some 8, Op.fieldAddr 34 (Operand.tmp 1) 2, 0, none⟩, ⟨some 9, Op.fieldAddr 32 (Operand.tmp 8) 0, 0, none⟩, ⟨some 10, Op.load 28 (Operand.tmp 9), 28, none⟩, ⟨some 11, Op.call { callee := Callee.value (Operand.func 58), args := #[Operand.tmp 10], argTypes := #[28] }, 28, none⟩, ⟨some 12, Op.fieldAddr 34 (Operand.tmp 1) 2, 0, none⟩, ⟨some 13, Op.fieldAddr 32 (Operand.tmp 12) 1, 0, none⟩, ⟨some 14, Op.load 28 (Operand.tmp 13), 28, none⟩, ⟨some 15, Op.call { callee := Callee.value (Operand.func 58), args := #[Operand.tmp 14], argTypes := #[28] }, 28, none⟩, ⟨some 16, Op.build 30 #[(0, Operand.tmp 5), (1, Operand.tmp 7), (2, Operand.tmp 11), (3, Operand.tmp 15)], 30, none⟩, ⟨none, Op.store 30 (Operand.tmp 2) (Operand.tmp 16), 0, none⟩] (by kernel_rfl) (by kernel_rfl) (by decide +kernel) (fun an han => ?_)
  simp [-List.map_take, -List.map_drop, ← List.map_take, ← List.map_drop, Function.comp_def]
  refine ⟨by subst han; kernel_rfl, ?_⟩
  refine zh2 _ ?_
  refine Sat.ret ?_
  simp [-List.map_take, -List.map_drop, ← List.map_take, ← List.map_drop, Function.comp_def]
  all_goals simp [cutBlk]
def S16 : Spec := fun gs => sp1 true (tBlk) (fun b => some (oBlk (cutBlk b))) gs
@[simp] theorem S16_eq (gs : List Arg) : S16 gs = sp1 true (tBlk) (fun b => some (oBlk (cutBlk b))) gs := rfl
theorem k16 : Contract Try.prog 16 S16 := by
  refine Contract.intro1 (C := cx 16 [(27, S27), (58, S58)]) Try.func16 rfl rfl rfl (by show 1 ≤ 16; decide) fun b out ho fr => ?_
  have hk := knowsX (N := 16) (l := [(27, S27), (58, S58)]) ⟨k27, k58, trivial⟩
  obtain rfl := Option.some.inj ho
  refine Sat.seqK fun zK1 zh1 zg1 => ?_
  refine Sat.regionP hk [⟨some 1, Op.box 30 (Operand.tmp 0), 0, none⟩, ⟨some 2, Op.alloc 34, 0, none⟩] (by kernel_rfl) (by kernel_rfl) ?_
  simp [-List.map_take, -List.map_drop, ← List.map_take, ← List.map_drop, Function.comp_def]
  refine zh1 _ ?_
  refine Sat.seqK fun zK2 zh2 zg2 => ?_
  refine Sat.regionDP hk (by kernel_rfl) [⟨some 3, Op.fieldAddr 30 (Operand.tmp 1) 0, 0, none⟩, ⟨some 4, Op.load 27 (Operand.tmp 3), 27, none⟩, ⟨some 5, Op.call { callee := Callee.value (Operand.func 27), args := #[Operand.tmp 4, Operand.const (Value.int IntKind.i64 140)], argTypes := #[27, 3] }, 27, none⟩, ⟨some 6, Op.fieldAddr 30 (Operand.tmp 1) 1, 0, none⟩, ⟨some 7, Op.load 3 (Operand.tmp 6), 3, none⟩, ⟨some 8, Op.fieldAddr 30 (Operand.tmp 1) 2, 0, none⟩, ⟨some 9, Op.load 28 (Operand.tmp 8), 28, none⟩, ⟨some 10, Op.call { callee := Callee.value (Operand.func 58), args := #[Operand.tmp 9], argTypes := #[28] }, 28, none⟩, ⟨some 11, Op.fieldAddr 30 (Operand.tmp 1) 3, 0, none⟩, ⟨some 12, Op.load 28 (Operand.tmp 11), 28, none⟩, ⟨some 13, Op.call { callee := Callee.value (Operand.func 58), args := #[Operand.tmp 12], argTypes := #[28] }, 28, none⟩, ⟨some 14, Op.build 32 #[(0, Operand.tmp 10), (1, Operand.tmp 13)], 32, none⟩, ⟨some 15, Op.build 34 #[(0, Operand.tmp 5), (1, Operand.tmp 7), (2, Operand.tmp 14)], 34, none⟩, ⟨none, Op.store 34 (Operand.tmp 2) (Operand.tmp 15), 0, none⟩] (by kernel_rfl) (by kernel_rfl) (by decide +kernel) (fun an han => ?_)
  simp [-List.map_take, -List.map_drop, ← List.map_take, ← List.map_drop, Function.comp_def]
  refine ⟨by subst han; kernel_rfl, ?_⟩
  refine zh2 _ ?_
  refine Sat.ret ?_
  simp [-List.map_take, -List.map_drop, ← List.map_take, ← List.map_drop, Function.comp_def]
  all_goals simp [cutBlk]
def S23 : Spec := fun gs => sp1 true (tView) (fun b => some (oView (cutView b))) gs
@[simp] theorem S23_eq (gs : List Arg) : S23 gs = sp1 true (tView) (fun b => some (oView (cutView b))) gs := rfl
theorem k23 : Contract Try.prog 23 S23 := by
  refine Contract.intro1 (C := cx 15 [(27, S27), (68, S68)]) Try.func23 rfl rfl rfl (by show 1 ≤ 15; decide) fun b out ho fr => ?_
  have hk := knowsX (N := 15) (l := [(27, S27), (68, S68)]) ⟨k27, k68, trivial⟩
  obtain rfl := Option.some.inj ho
  refine Sat.seqK fun zK1 zh1 zg1 => ?_
  refine Sat.regionP hk [⟨some 1, Op.box 40 (Operand.tmp 0), 0, none⟩, ⟨some 2, Op.alloc 44, 0, none⟩] (by kernel_rfl) (by kernel_rfl) ?_
  simp [-List.map_take, -List.map_drop, ← List.map_take, ← List.map_drop, Function.comp_def]
  refine zh1 _ ?_
  refine Sat.seqK fun zK2 zh2 zg2 => ?_
  refine Sat.regionDP hk (by kernel_rfl) [⟨some 3, Op.fieldAddr 40 (Operand.tmp 1) 0, 0, none⟩, ⟨some 4, Op.load 27 (Operand.tmp 3), 27, none⟩, ⟨some 5, Op.call { callee := Callee.value (Operand.func 27), args := #[Operand.tmp 4, Operand.const (Value.int IntKind.i64 130)], argTypes := #[27, 3] }, 27, none⟩, ⟨some 6, Op.fieldAddr 40 (Operand.tmp 1) 1, 0, none⟩, ⟨some 7, Op.fieldAddr 32 (Operand.tmp 6) 0, 0, none⟩, ⟨some 8, Op.load 28 (Operand.tmp 7), 28, none⟩, ⟨some 9, Op.call { callee := Callee.value (Operand.func 68), args := #[Operand.tmp 8], argTypes := #[28] }, 28, none⟩, ⟨some 10, Op.fieldAddr 40 (Operand.tmp 1) 1, 0, none⟩, ⟨some 11, Op.fieldAddr 32 (Operand.tmp 10) 1, 0, none⟩, ⟨some 12, Op.load 28 (Operand.tmp 11), 28, none⟩, ⟨some 13, Op.call { callee := Callee.value (Operand.func 68), args := #[Operand.tmp 12], argTypes := #[28] }, 28, none⟩, ⟨some 14, Op.build 44 #[(0, Operand.tmp 5), (1, Operand.tmp 9), (2, Operand.tmp 13)], 44, none⟩, ⟨none, Op.store 44 (Operand.tmp 2) (Operand.tmp 14), 0, none⟩] (by kernel_rfl) (by kernel_rfl) (by decide +kernel) (fun an han => ?_)
  simp [-List.map_take, -List.map_drop, ← List.map_take, ← List.map_drop, Function.comp_def]
  refine ⟨by subst han; kernel_rfl, ?_⟩
  refine zh2 _ ?_
  refine Sat.ret ?_
  simp [-List.map_take, -List.map_drop, ← List.map_take, ← List.map_drop, Function.comp_def]
  all_goals simp [cutView]
def S45 : Spec := fun gs => sp1 true (tView) (fun b => some (oView (cutView b))) gs
@[simp] theorem S45_eq (gs : List Arg) : S45 gs = sp1 true (tView) (fun b => some (oView (cutView b))) gs := rfl
theorem k45 : Contract Try.prog 45 S45 := by
  refine Contract.intro1 (C := cx 14 [(27, S27), (68, S68)]) Try.func45 rfl rfl rfl (by show 1 ≤ 14; decide) fun b out ho fr => ?_
  have hk := knowsX (N := 14) (l := [(27, S27), (68, S68)]) ⟨k27, k68, trivial⟩
  obtain rfl := Option.some.inj ho
  refine Sat.seqK fun zK1 zh1 zg1 => ?_
  refine Sat.regionP hk [⟨some 1, Op.box 44 (Operand.tmp 0), 0, none⟩, ⟨some 2, Op.alloc 40, 0, none⟩] (by kernel_rfl) (by kernel_rfl) ?_
  simp [-List.map_take, -List.map_drop, ← List.map_take, ← List.map_drop, Function.comp_def]
  refine zh1 _ ?_
  refine Sat.seqK fun zK2 zh2 zg2 => ?_
  refine Sat.regionDP hk (by kernel_rfl) [⟨some 3, Op.fieldAddr 44 (Operand.tmp 1) 0, 0, none⟩, ⟨some 4, Op.load 27 (Operand.tmp 3), 27, none⟩, ⟨some 5, Op.call { callee := Callee.value (Operand.func 27), args := #[Operand.tmp 4, Operand.const (Value.int IntKind.i64 130)], argTypes := #[27, 3] }, 27, none⟩, ⟨some 6, Op.fieldAddr 44 (Operand.tmp 1) 1, 0, none⟩, ⟨some 7, Op.load 28 (Operand.tmp 6), 28, none⟩, ⟨some 8, Op.call { callee := Callee.value (Operand.func 68), args := #[Operand.tmp 7], argTypes := #[28] }, 28, none⟩, ⟨some 9, Op.fieldAddr 44 (Operand.tmp 1) 2, 0, none⟩, ⟨some 10, Op.load 28 (Operand.tmp 9), 28, none⟩, ⟨some 11, Op.call { callee := Callee.value (Operand.func 68), args := #[Operand.tmp 10], argTypes := #[28] }, 28, none⟩, ⟨some 12, Op.build 32 #[(0, Operand.tmp 8), (1, Operand.tmp 11)], 32, none⟩, ⟨some 13, Op.build 40 #[(0, Operand.tmp 5), (1, Operand.tmp 12)], 40, none⟩, ⟨none, Op.store 40 (Operand.tmp 2) (Operand.tmp 13), 0, none⟩] (by kernel_rfl) (by kernel_rfl) (by decide +kernel) (fun an han => ?_)
  simp [-List.map_take, -List.map_drop, ← List.map_take, ← List.map_drop, Function.comp_def]
  refine ⟨by subst han; kernel_rfl, ?_⟩
  refine zh2 _ ?_
  refine Sat.ret ?_
  simp [-List.map_take, -List.map_drop, ← List.map_take, ← List.map_drop, Function.comp_def]
  all_goals simp [cutView]
end Go.Proofs.Ytmbmebfeoejlnaa.Ab
