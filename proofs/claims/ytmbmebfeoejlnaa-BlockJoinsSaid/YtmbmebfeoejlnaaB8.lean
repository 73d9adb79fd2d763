/- The laws' cuts: rows of numbers. -/
import Derived.Test.YtmbmebfeoejlnaaB3
namespace Go.Proofs.Ytmbmebfeoejlnaa.Ab
set_option linter.unusedVariables false
set_option linter.unusedSimpArgs false
open Go.RowKit
def S92 : Spec := fun gs => sp2 false (tMat) false (t64) (fun l n => if 0 ≤ n ∧ n < 2 ^ 40 then some (oMat ((l.take n.toNat).map fun r => r.take 40)) else none) gs
@[simp] theorem S92_eq (gs : List Arg) : S92 gs = sp2 false (tMat) false (t64) (fun l n => if 0 ≤ n ∧ n < 2 ^ 40 then some (oMat ((l.take n.toNat).map fun r => r.take 40)) else none) gs := rfl
theorem k92 : Contract Try.prog 92 S92 := by
  refine Contract.intro2 (C := cx 28 [(49, S49)]) Try.func92 rfl rfl rfl (by show 2 ≤ 28; decide) fun l n out ho fr => ?_
  have hk := knowsX (N := 28) (l := [(49, S49)]) ⟨k49, trivial⟩
  split at ho
  case isFalse => cases ho
  rename_i hn
  obtain rfl := Option.some.inj ho
  obtain ⟨m, rfl⟩ := Int.eq_ofNat_of_zero_le hn.1
  refine Sat.seqK fun zK1 zh1 zg1 => ?_
  refine Sat.regionP hk [⟨some 4, Op.assign (Operand.const (Value.slice none 0 0)), 79, none⟩] (by kernel_rfl) (by kernel_rfl) ?_
  simp [-List.map_take, -List.map_drop, ← List.map_take, ← List.map_drop, Function.comp_def]
  refine zh1 _ ?_
  refine Sat.seqK fun zK2 zh2 zg2 => ?_
  refine Sat.regionP hk [⟨some 7, Op.buildSlice 79 0 #[], 79, none⟩, ⟨some 5, Op.assign (Operand.tmp 7), 79, none⟩] (by kernel_rfl) (by kernel_rfl) ?_
  simp [-List.map_take, -List.map_drop, ← List.map_take, ← List.map_drop, Function.comp_def]
  refine zh2 _ ?_
  refine Sat.seqK fun zK3 zh3 zg3 => ?_
  refine Sat.seqK fun zK4 zh4 zg4 => ?_
  refine Sat.regionP hk [⟨some 6, Op.assign (Operand.const (Value.int IntKind.i64 0)), 3, none⟩] (by kernel_rfl) (by kernel_rfl) ?_
  simp [-List.map_take, -List.map_drop, ← List.map_take, ← List.map_drop, Function.comp_def]
  refine zh4 _ ?_
  refine Sat.loopK (E := ⟨_, _, _⟩) [0, 1] [] [] ⟨by first | (simp [keepS]; done) | (simp [keepS]; rfl), by first | (simp [keepO]; done) | (simp [keepO]; rfl), by first | (simp [keepB]; done) | (simp [keepB]; rfl)⟩ (zh3) (fun (⟨j, v⟩ : Nat × Nat) => (⟨[(6, num j), (5, oref 448 v)], [(448, ⟨v, 0, .own, 51, 1, ((l.take j).map fun r => r.take 40).map fun r => .sl false 81 1 (r.map fun x => .lit (.int .i32 x))⟩)], []⟩ : Ds)) (fun (⟨j, v⟩ : Nat × Nat) => j ≤ l.length ∧ j ≤ m) (fun (⟨j, v⟩ : Nat × Nat) => j ≤ l.length ∧ j ≤ m ∧ (j = l.length ∨ j = m)) (fun (⟨j, v⟩ : Nat × Nat) => l.length - j) (0, 1) ?_ ?_ ?_ ?_
  · first | omega | (dsimp only; omega)
  · exact ⟨by simp [FitL], by simp [FitL], by simp [FitL]⟩
  · rintro ⟨j, v⟩ hP0 zo5 zb5 zp5 zq5 zK5 zn5 zx5 zg5
    try dsimp only [Ds.app, Ds.st, List.cons_append, List.nil_append] at hP0 ⊢
    refine Sat.seqK fun zK6 zh6 zg6 => ?_
    refine Sat.seqK fun zK7 zh7 zg7 => ?_
    by_cases hj : j < l.length
    · skip
      obtain ⟨r, hr⟩ : ∃ r, l[j]? = some r := ⟨l[j], List.getElem?_eq_getElem hj⟩
      refine Sat.regionP hk [⟨some 8, Op.move (Operand.tmp 6), 3, none⟩, ⟨some 9, Op.move (Operand.tmp 0), 79, none⟩, ⟨some 10, Op.call { callee := Callee.builtin Builtin.len, args := #[Operand.tmp 9], argTypes := #[79] }, 3, none⟩, ⟨some 11, Op.binOp BinOp.lss 3 (Operand.tmp 8) (Operand.tmp 10) 3, 4, none⟩, ⟨some 12, Op.move (Operand.tmp 11), 4, none⟩, ⟨some 13, Op.move (Operand.tmp 6), 3, some (12, true)⟩, ⟨some 14, Op.move (Operand.tmp 1), 3, some (12, true)⟩, ⟨some 15, Op.binOp BinOp.lss 3 (Operand.tmp 13) (Operand.tmp 14) 3, 4, some (12, true)⟩, ⟨some 16, Op.pick (Operand.tmp 12) (Operand.tmp 15) (Operand.const (Value.bool false)), 4, none⟩] (by kernel_rfl) (by kernel_rfl) ?_
      simp [-List.map_take, -List.map_drop, ← List.map_take, ← List.map_drop, Function.comp_def, zp5.st, zq5.st, hj]
      refine zh7 _ ?_
      refine Sat.cond rfl (fun c16 => ?_) (fun c16 => ?_)
      · skip
        try simp at c16
        have hf : fitsL Try.prog 51 1 (j + 1) = true := by simp [fitsL, maxL]; omega
        refine Sat.skip ?_
        refine zh6 _ ?_
        refine Sat.seqK fun zK8 zh8 zg8 => ?_
        refine Sat.blockK fun zK9 zh9 zx9 zg9 => ?_
        refine Sat.regionP hk [⟨some 19, Op.move (Operand.tmp 5), 79, none⟩, ⟨some 20, Op.move (Operand.tmp 0), 79, none⟩, ⟨some 21, Op.move (Operand.tmp 6), 3, none⟩, ⟨some 22, Op.indexAddr 79 (Operand.tmp 20) (Operand.tmp 21), 0, none⟩, ⟨some 23, Op.load 51 (Operand.tmp 22), 51, none⟩, ⟨some 24, Op.call { callee := Callee.value (Operand.func 49), args := #[Operand.tmp 23, Operand.const (Value.int IntKind.i64 40)], argTypes := #[51, 3] }, 51, none⟩, ⟨some 25, Op.buildSlice 79 1 #[(0, Operand.tmp 24)], 79, none⟩, ⟨some 26, Op.call { callee := Callee.builtin Builtin.append, args := #[Operand.tmp 19, Operand.tmp 25], argTypes := #[79, 79] }, 79, none⟩, ⟨some 5, Op.assign (Operand.tmp 26), 79, none⟩] (by kernel_rfl) (by kernel_rfl) ?_
        simp [-List.map_take, -List.map_drop, ← List.map_take, ← List.map_drop, Function.comp_def, zp5.st, zq5.st, hj, hf, take1 hr, take_succ_get hr, w64s j (by omega), Nat.min_eq_left (Nat.le_of_lt hj)]
        refine zh9 _ ?_
        refine zh8 _ ?_
        refine Sat.regionP hk [⟨some 17, Op.move (Operand.tmp 6), 3, none⟩, ⟨some 18, Op.binOp BinOp.add 3 (Operand.tmp 17) (Operand.const (Value.int IntKind.i64 1)) 3, 3, none⟩, ⟨some 6, Op.assign (Operand.tmp 18), 3, none⟩] (by kernel_rfl) (by kernel_rfl) ?_
        simp [-List.map_take, -List.map_drop, ← List.map_take, ← List.map_drop, Function.comp_def, zp5.st, zq5.st, hj, hf, take1 hr, take_succ_get hr, w64s j (by omega), Nat.min_eq_left (Nat.le_of_lt hj)]
        refine zn5 (j + 1, v + 1) _ ?_ ?_ ?_ ?_
        · first | omega | (dsimp only; omega)
        · first | omega | (dsimp only; omega)
        · exact ⟨by simp [-List.map_take, -List.map_drop, ← List.map_take, ← List.map_drop, Function.comp_def, FitL, zp5.st, zq5.st, hj, hf, take1 hr, take_succ_get hr, w64s j (by omega), Nat.min_eq_left (Nat.le_of_lt hj), w64s j (by omega)], by simp [-List.map_take, -List.map_drop, ← List.map_take, ← List.map_drop, Function.comp_def, FitL, zp5.st, zq5.st, hj, hf, take1 hr, take_succ_get hr, w64s j (by omega), Nat.min_eq_left (Nat.le_of_lt hj), w64s j (by omega)], by simp [-List.map_take, -List.map_drop, ← List.map_take, ← List.map_drop, Function.comp_def, FitL, zp5.st, zq5.st, hj, hf, take1 hr, take_succ_get hr, w64s j (by omega), Nat.min_eq_left (Nat.le_of_lt hj), w64s j (by omega)]⟩
        · exact ⟨by simp [-List.map_take, -List.map_drop, ← List.map_take, ← List.map_drop, Function.comp_def, FitL, zp5.st, zq5.st, hj, hf, take1 hr, take_succ_get hr, w64s j (by omega), Nat.min_eq_left (Nat.le_of_lt hj), w64s j (by omega)], by simp [-List.map_take, -List.map_drop, ← List.map_take, ← List.map_drop, Function.comp_def, FitL, zp5.st, zq5.st, hj, hf, take1 hr, take_succ_get hr, w64s j (by omega), Nat.min_eq_left (Nat.le_of_lt hj), w64s j (by omega)], by simp [-List.map_take, -List.map_drop, ← List.map_take, ← List.map_drop, Function.comp_def, FitL, zp5.st, zq5.st, hj, hf, take1 hr, take_succ_get hr, w64s j (by omega), Nat.min_eq_left (Nat.le_of_lt hj), w64s j (by omega)]⟩
      · skip
        try simp at c16
        refine Sat.exit ?_
        refine zg6 _ _ (by simp) ?_
        refine zx5 ⟨j, v⟩ _ ?_ ?_ ?_
        · first | omega | (dsimp only; omega)
        · exact ⟨by simp [-List.map_take, -List.map_drop, ← List.map_take, ← List.map_drop, Function.comp_def, FitL, zp5.st, zq5.st, hj], by simp [-List.map_take, -List.map_drop, ← List.map_take, ← List.map_drop, Function.comp_def, FitL, zp5.st, zq5.st, hj], by simp [-List.map_take, -List.map_drop, ← List.map_take, ← List.map_drop, Function.comp_def, FitL, zp5.st, zq5.st, hj]⟩
        · exact ⟨by simp [-List.map_take, -List.map_drop, ← List.map_take, ← List.map_drop, Function.comp_def, FitL, zp5.st, zq5.st, hj], by simp [-List.map_take, -List.map_drop, ← List.map_take, ← List.map_drop, Function.comp_def, FitL, zp5.st, zq5.st, hj], by simp [-List.map_take, -List.map_drop, ← List.map_take, ← List.map_drop, Function.comp_def, FitL, zp5.st, zq5.st, hj]⟩
    · skip
      refine Sat.regionP hk [⟨some 8, Op.move (Operand.tmp 6), 3, none⟩, ⟨some 9, Op.move (Operand.tmp 0), 79, none⟩, ⟨some 10, Op.call { callee := Callee.builtin Builtin.len, args := #[Operand.tmp 9], argTypes := #[79] }, 3, none⟩, ⟨some 11, Op.binOp BinOp.lss 3 (Operand.tmp 8) (Operand.tmp 10) 3, 4, none⟩, ⟨some 12, Op.move (Operand.tmp 11), 4, none⟩, ⟨some 13, Op.move (Operand.tmp 6), 3, some (12, true)⟩, ⟨some 14, Op.move (Operand.tmp 1), 3, some (12, true)⟩, ⟨some 15, Op.binOp BinOp.lss 3 (Operand.tmp 13) (Operand.tmp 14) 3, 4, some (12, true)⟩, ⟨some 16, Op.pick (Operand.tmp 12) (Operand.tmp 15) (Operand.const (Value.bool false)), 4, none⟩] (by kernel_rfl) (by kernel_rfl) ?_
      simp [-List.map_take, -List.map_drop, ← List.map_take, ← List.map_drop, Function.comp_def, zp5.st, zq5.st, hj]
      refine zh7 _ ?_
      refine Sat.cond rfl (fun c16 => ?_) (fun c16 => ?_)
      · exfalso; simp [zp5.st, zq5.st, hj] at c16
      · skip
        try simp at c16
        refine Sat.exit ?_
        refine zg6 _ _ (by simp) ?_
        refine zx5 ⟨j, v⟩ _ ?_ ?_ ?_
        · first | omega | (dsimp only; omega)
        · exact ⟨by simp [-List.map_take, -List.map_drop, ← List.map_take, ← List.map_drop, Function.comp_def, FitL, zp5.st, zq5.st, hj], by simp [-List.map_take, -List.map_drop, ← List.map_take, ← List.map_drop, Function.comp_def, FitL, zp5.st, zq5.st, hj], by simp [-List.map_take, -List.map_drop, ← List.map_take, ← List.map_drop, Function.comp_def, FitL, zp5.st, zq5.st, hj]⟩
        · exact ⟨by simp [-List.map_take, -List.map_drop, ← List.map_take, ← List.map_drop, Function.comp_def, FitL, zp5.st, zq5.st, hj], by simp [-List.map_take, -List.map_drop, ← List.map_take, ← List.map_drop, Function.comp_def, FitL, zp5.st, zq5.st, hj], by simp [-List.map_take, -List.map_drop, ← List.map_take, ← List.map_drop, Function.comp_def, FitL, zp5.st, zq5.st, hj]⟩
  · rintro ⟨j, v⟩ hR0 zo5 zb5 zp5 zq5
    try dsimp only [Ds.app, Ds.st, List.cons_append, List.nil_append] at hR0 ⊢
    have e0 : l.take j = l.take m := take_eq (by omega) (by omega)
    refine Sat.seqK fun zK10 zh10 zg10 => ?_
    refine Sat.regionP hk [⟨some 27, Op.move (Operand.tmp 5), 79, none⟩, ⟨some 4, Op.assign (Operand.tmp 27), 79, none⟩] (by kernel_rfl) (by kernel_rfl) ?_
    simp [-List.map_take, -List.map_drop, ← List.map_take, ← List.map_drop, Function.comp_def, zp5.st, zq5.st, e0]
    refine zh10 _ ?_
    refine Sat.ret ?_
    simp [-List.map_take, -List.map_drop, ← List.map_take, ← List.map_drop, Function.comp_def, zp5.st, zq5.st, e0]
end Go.Proofs.Ytmbmebfeoejlnaa.Ab
