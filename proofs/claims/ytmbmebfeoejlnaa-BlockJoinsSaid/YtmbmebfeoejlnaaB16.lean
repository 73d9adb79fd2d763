/- Rows, lists and views compared. -/
import Derived.Test.YtmbmebfeoejlnaaB9
namespace Go.Proofs.Ytmbmebfeoejlnaa.Ab
set_option linter.unusedVariables false
set_option linter.unusedSimpArgs false
open Go.RowKit
def fineV (v : View) : Prop := v.1.length < 2 ^ 40 ∧ lenOK v.2.1 ∧ lenOK v.2.2
instance (v : View) : Decidable (fineV v) := by unfold fineV; infer_instance
theorem ne_at {α : Type} {a b : List α} {j : Nat} {x y : α} (hx : a[j]? = some x) (hy : b[j]? = some y) (h : ¬ x = y) : ¬ a = b := by
  rintro rfl; rw [hx] at hy; exact h (Option.some.inj hy)
theorem ne_len {α : Type} {a b : List α} (h : ¬ a.length = b.length) : ¬ a = b := by rintro rfl; exact h rfl
theorem eq_up {α : Type} {a b : List α} {j : Nat} {x : α} (hx : a[j]? = some x) (hy : b[j]? = some x) (h : a.take j = b.take j) : a.take (j + 1) = b.take (j + 1) := by rw [take_succ_get hx, take_succ_get hy, h]
theorem eq_end {α : Type} {a b : List α} {j : Nat} (h : a.take j = b.take j) (h1 : a.length ≤ j) (h2 : b.length ≤ j) : a = b := by rwa [List.take_of_length_le h1, List.take_of_length_le h2] at h
def S33 : Spec := fun gs => sp2 false (tRow) false (tRow) (fun a b => if okRow a ∧ okRow b then some (oBool (decide (a = b))) else none) gs
@[simp] theorem S33_eq (gs : List Arg) : S33 gs = sp2 false (tRow) false (tRow) (fun a b => if okRow a ∧ okRow b then some (oBool (decide (a = b))) else none) gs := rfl
theorem k33 : Contract Try.prog 33 S33 := by
  refine Contract.intro2 (C := cx 26 []) Try.func33 rfl rfl rfl (by show 2 ≤ 26; decide) fun a b out ho fr => ?_
  have hk := knowsX (N := 26) (l := []) trivial
  split at ho
  case isFalse => cases ho
  rename_i hn
  obtain rfl := Option.some.inj ho
  have hn1 : a.length < 1099511627776 := hn.1
  refine Sat.seqK fun zK1 zh1 zg1 => ?_
  refine Sat.regionP hk [⟨some 4, Op.assign (Operand.const (Value.bool false)), 4, none⟩] (by kernel_rfl) (by kernel_rfl) ?_
  simp [-List.map_take, -List.map_drop, ← List.map_take, ← List.map_drop, Function.comp_def]
  refine zh1 _ ?_
  refine Sat.seqK fun zK2 zh2 zg2 => ?_
  refine Sat.seqK fun zK3 zh3 zg3 => ?_
  refine Sat.regionP hk [⟨some 6, Op.move (Operand.tmp 0), 51, none⟩, ⟨some 7, Op.call { callee := Callee.builtin Builtin.len, args := #[Operand.tmp 6], argTypes := #[51] }, 3, none⟩, ⟨some 8, Op.move (Operand.tmp 1), 51, none⟩, ⟨some 9, Op.call { callee := Callee.builtin Builtin.len, args := #[Operand.tmp 8], argTypes := #[51] }, 3, none⟩, ⟨some 10, Op.binOp BinOp.neq 3 (Operand.tmp 7) (Operand.tmp 9) 3, 4, none⟩] (by kernel_rfl) (by kernel_rfl) ?_
  simp [-List.map_take, -List.map_drop, ← List.map_take, ← List.map_drop, Function.comp_def]
  refine zh3 _ ?_
  refine Sat.cond rfl (fun c10 => ?_) (fun c10 => ?_)
  · skip
    try simp at c10
    refine Sat.seqK fun zK4 zh4 zg4 => ?_
    refine Sat.regionP hk [⟨some 4, Op.assign (Operand.const (Value.bool false)), 4, none⟩] (by kernel_rfl) (by kernel_rfl) ?_
    simp [-List.map_take, -List.map_drop, ← List.map_take, ← List.map_drop, Function.comp_def]
    refine zh4 _ ?_
    refine Sat.ret ?_
    refine zg2 _ _ (by simp) ?_
    simp [-List.map_take, -List.map_drop, ← List.map_take, ← List.map_drop, Function.comp_def]
    exact ne_len (by omega)
  · skip
    try simp at c10
    refine Sat.skip ?_
    refine zh2 _ ?_
    refine Sat.seqK fun zK5 zh5 zg5 => ?_
    refine Sat.seqK fun zK6 zh6 zg6 => ?_
    refine Sat.regionP hk [⟨some 11, Op.move (Operand.tmp 0), 51, none⟩, ⟨some 12, Op.call { callee := Callee.builtin Builtin.len, args := #[Operand.tmp 11], argTypes := #[51] }, 3, none⟩, ⟨some 13, Op.move (Operand.const (Value.int IntKind.i64 0)), 3, none⟩] (by kernel_rfl) (by kernel_rfl) ?_
    simp [-List.map_take, -List.map_drop, ← List.map_take, ← List.map_drop, Function.comp_def]
    refine zh6 _ ?_
    refine Sat.loopK (E := ⟨_, _, _⟩) [0, 1, 12] [] [] ⟨by first | (simp [keepS]; done) | (simp [keepS]; rfl), by first | (simp [keepO]; done) | (simp [keepO]; rfl), by first | (simp [keepB]; done) | (simp [keepB]; rfl)⟩ (zh5) (fun (j : Nat) => (⟨[(13, num j)], [], []⟩ : Ds)) (fun (j : Nat) => j ≤ a.length ∧ a.take j = b.take j) (fun (j : Nat) => a = b) (fun (j : Nat) => a.length - j) 0 ?_ ?_ ?_ ?_
    · simp
    · exact ⟨by simp [FitL], by simp [FitL], by simp [FitL]⟩
    · rintro j hP0 zo7 zb7 zp7 zq7 zK7 zn7 zx7 zg7
      try dsimp only [Ds.app, Ds.st, List.cons_append, List.nil_append] at hP0 ⊢
      refine Sat.seqK fun zK8 zh8 zg8 => ?_
      refine Sat.regionP hk [⟨some 14, Op.binOp BinOp.lss 3 (Operand.tmp 13) (Operand.tmp 12) 3, 0, none⟩] (by kernel_rfl) (by kernel_rfl) ?_
      simp [-List.map_take, -List.map_drop, ← List.map_take, ← List.map_drop, Function.comp_def, zp7.st, zq7.st]
      refine zh8 _ ?_
      refine Sat.seqK fun zK9 zh9 zg9 => ?_
      refine Sat.cond rfl (fun c14 => ?_) (fun c14 => ?_)
      · skip
        try simp at c14
        obtain ⟨x, hx⟩ : ∃ z, a[j]? = some z := ⟨a[j], List.getElem?_eq_getElem c14⟩
        obtain ⟨y, hy⟩ : ∃ z, b[j]? = some z := ⟨b[j], List.getElem?_eq_getElem (by omega)⟩
        have hjb : j < b.length := by omega
        refine Sat.skip ?_
        refine zh9 _ ?_
        refine Sat.seqK fun zK10 zh10 zg10 => ?_
        refine Sat.blockK fun zK11 zh11 zx11 zg11 => ?_
        refine Sat.seqK fun zK12 zh12 zg12 => ?_
        refine Sat.regionP hk [⟨some 15, Op.move (Operand.tmp 13), 3, none⟩, ⟨some 5, Op.assign (Operand.tmp 15), 3, none⟩] (by kernel_rfl) (by kernel_rfl) ?_
        simp [-List.map_take, -List.map_drop, ← List.map_take, ← List.map_drop, Function.comp_def, zp7.st, zq7.st, take1 hx, take1 hy, c14, hjb]
        refine zh12 _ ?_
        refine Sat.seqK fun zK13 zh13 zg13 => ?_
        refine Sat.regionDP hk (by kernel_rfl) [⟨some 16, Op.move (Operand.tmp 0), 51, none⟩, ⟨some 17, Op.move (Operand.tmp 5), 3, none⟩, ⟨some 18, Op.indexAddr 51 (Operand.tmp 16) (Operand.tmp 17), 0, none⟩, ⟨some 19, Op.load 81 (Operand.tmp 18), 81, none⟩, ⟨some 20, Op.move (Operand.tmp 1), 51, none⟩, ⟨some 21, Op.move (Operand.tmp 5), 3, none⟩, ⟨some 22, Op.indexAddr 51 (Operand.tmp 20) (Operand.tmp 21), 0, none⟩, ⟨some 23, Op.load 81 (Operand.tmp 22), 81, none⟩, ⟨some 24, Op.binOp BinOp.neq 81 (Operand.tmp 19) (Operand.tmp 23) 81, 4, none⟩] (by kernel_rfl) (by kernel_rfl) (by decide +kernel) (fun an han => ?_)
        simp [-List.map_take, -List.map_drop, ← List.map_take, ← List.map_drop, Function.comp_def, zp7.st, zq7.st, take1 hx, take1 hy, c14, hjb]
        refine ⟨by subst han; kernel_rfl, ?_⟩
        refine zh13 _ ?_
        refine Sat.cond rfl (fun c24 => ?_) (fun c24 => ?_)
        · skip
          try simp at c24
          refine Sat.seqK fun zK14 zh14 zg14 => ?_
          refine Sat.regionP hk [⟨some 4, Op.assign (Operand.const (Value.bool false)), 4, none⟩] (by kernel_rfl) (by kernel_rfl) ?_
          simp [-List.map_take, -List.map_drop, ← List.map_take, ← List.map_drop, Function.comp_def, zp7.st, zq7.st, take1 hx, take1 hy, c14, hjb]
          refine zh14 _ ?_
          refine Sat.ret ?_
          refine zg11 _ _ (by simp) (by simp) ?_
          refine zg10 _ _ (by simp) ?_
          refine zg7 _ _ (by simp) (by simp) ?_
          refine zg5 _ _ (by simp) ?_
          simp [-List.map_take, -List.map_drop, ← List.map_take, ← List.map_drop, Function.comp_def, zp7.st, zq7.st, take1 hx, take1 hy, c14, hjb]
          exact ne_at hx hy c24
        · skip
          try simp at c24
          obtain rfl := c24
          refine Sat.skip ?_
          refine zh11 _ ?_
          refine zh10 _ ?_
          refine Sat.regionP hk [⟨some 25, Op.binOp BinOp.add 3 (Operand.tmp 13) (Operand.const (Value.int IntKind.i64 1)) 3, 3, none⟩, ⟨some 13, Op.move (Operand.tmp 25), 3, none⟩] (by kernel_rfl) (by kernel_rfl) ?_
          simp [-List.map_take, -List.map_drop, ← List.map_take, ← List.map_drop, Function.comp_def, zp7.st, zq7.st, take1 hx, take1 hy, c14, hjb]
          refine zn7 (j + 1) _ ?_ ?_ ?_ ?_
          · exact ⟨by omega, eq_up hx hy hP0.2⟩
          · first | omega | (dsimp only; omega)
          · exact ⟨by simp [-List.map_take, -List.map_drop, ← List.map_take, ← List.map_drop, Function.comp_def, FitL, zp7.st, zq7.st, take1 hx, take1 hy, c14, hjb, w64s j (by omega)], by simp [-List.map_take, -List.map_drop, ← List.map_take, ← List.map_drop, Function.comp_def, FitL, zp7.st, zq7.st, take1 hx, take1 hy, c14, hjb, w64s j (by omega)], by simp [-List.map_take, -List.map_drop, ← List.map_take, ← List.map_drop, Function.comp_def, FitL, zp7.st, zq7.st, take1 hx, take1 hy, c14, hjb, w64s j (by omega)]⟩
          · exact ⟨by simp [-List.map_take, -List.map_drop, ← List.map_take, ← List.map_drop, Function.comp_def, FitL, zp7.st, zq7.st, take1 hx, take1 hy, c14, hjb, w64s j (by omega)], by simp [-List.map_take, -List.map_drop, ← List.map_take, ← List.map_drop, Function.comp_def, FitL, zp7.st, zq7.st, take1 hx, take1 hy, c14, hjb, w64s j (by omega)], by simp [-List.map_take, -List.map_drop, ← List.map_take, ← List.map_drop, Function.comp_def, FitL, zp7.st, zq7.st, take1 hx, take1 hy, c14, hjb, w64s j (by omega)]⟩
      · skip
        try simp at c14
        refine Sat.exit ?_
        refine zg9 _ _ (by simp) ?_
        refine zx7 j _ ?_ ?_ ?_
        · exact eq_end hP0.2 (by omega) (by omega)
        · exact ⟨by simp [-List.map_take, -List.map_drop, ← List.map_take, ← List.map_drop, Function.comp_def, FitL, zp7.st, zq7.st], by simp [-List.map_take, -List.map_drop, ← List.map_take, ← List.map_drop, Function.comp_def, FitL, zp7.st, zq7.st], by simp [-List.map_take, -List.map_drop, ← List.map_take, ← List.map_drop, Function.comp_def, FitL, zp7.st, zq7.st]⟩
        · exact ⟨by simp [-List.map_take, -List.map_drop, ← List.map_take, ← List.map_drop, Function.comp_def, FitL, zp7.st, zq7.st], by simp [-List.map_take, -List.map_drop, ← List.map_take, ← List.map_drop, Function.comp_def, FitL, zp7.st, zq7.st], by simp [-List.map_take, -List.map_drop, ← List.map_take, ← List.map_drop, Function.comp_def, FitL, zp7.st, zq7.st]⟩
    · rintro j hR0 zo7 zb7 zp7 zq7
      try dsimp only [Ds.app, Ds.st, List.cons_append, List.nil_append] at hR0 ⊢
      refine Sat.seqK fun zK15 zh15 zg15 => ?_
      refine Sat.regionP hk [⟨some 4, Op.assign (Operand.const (Value.bool true)), 4, none⟩] (by kernel_rfl) (by kernel_rfl) ?_
      simp [-List.map_take, -List.map_drop, ← List.map_take, ← List.map_drop, Function.comp_def, zp7.st, zq7.st]
      refine zh15 _ ?_
      refine Sat.ret ?_
      simp [-List.map_take, -List.map_drop, ← List.map_take, ← List.map_drop, Function.comp_def, zp7.st, zq7.st]
      exact hR0
def S35 : Spec := fun gs => sp2 false (tCube) false (tCube) (fun a b => if lenOK a ∧ lenOK b then some (oBool (decide (a = b))) else none) gs
@[simp] theorem S35_eq (gs : List Arg) : S35 gs = sp2 false (tCube) false (tCube) (fun a b => if lenOK a ∧ lenOK b then some (oBool (decide (a = b))) else none) gs := rfl
theorem k35 : Contract Try.prog 35 S35 := by
  refine Contract.intro2 (C := cx 54 [(33, S33)]) Try.func35 rfl rfl rfl (by show 2 ≤ 54; decide) fun a b out ho fr => ?_
  have hk := knowsX (N := 54) (l := [(33, S33)]) ⟨k33, trivial⟩
  split at ho
  case isFalse => cases ho
  rename_i hn
  obtain rfl := Option.some.inj ho
  have hn1 := hn.1.1
  refine Sat.seqK fun zK1 zh1 zg1 => ?_
  refine Sat.regionP hk [⟨some 4, Op.assign (Operand.const (Value.bool false)), 4, none⟩] (by kernel_rfl) (by kernel_rfl) ?_
  simp [-List.map_take, -List.map_drop, ← List.map_take, ← List.map_drop, Function.comp_def]
  refine zh1 _ ?_
  refine Sat.seqK fun zK2 zh2 zg2 => ?_
  refine Sat.seqK fun zK3 zh3 zg3 => ?_
  refine Sat.regionP hk [⟨some 7, Op.move (Operand.tmp 0), 28, none⟩, ⟨some 8, Op.call { callee := Callee.builtin Builtin.len, args := #[Operand.tmp 7], argTypes := #[28] }, 3, none⟩, ⟨some 9, Op.move (Operand.tmp 1), 28, none⟩, ⟨some 10, Op.call { callee := Callee.builtin Builtin.len, args := #[Operand.tmp 9], argTypes := #[28] }, 3, none⟩, ⟨some 11, Op.binOp BinOp.neq 3 (Operand.tmp 8) (Operand.tmp 10) 3, 4, none⟩] (by kernel_rfl) (by kernel_rfl) ?_
  simp [-List.map_take, -List.map_drop, ← List.map_take, ← List.map_drop, Function.comp_def]
  refine zh3 _ ?_
  refine Sat.cond rfl (fun c11 => ?_) (fun c11 => ?_)
  · skip
    try simp at c11
    refine Sat.seqK fun zK4 zh4 zg4 => ?_
    refine Sat.regionP hk [⟨some 4, Op.assign (Operand.const (Value.bool false)), 4, none⟩] (by kernel_rfl) (by kernel_rfl) ?_
    simp [-List.map_take, -List.map_drop, ← List.map_take, ← List.map_drop, Function.comp_def]
    refine zh4 _ ?_
    refine Sat.ret ?_
    refine zg2 _ _ (by simp) ?_
    simp [-List.map_take, -List.map_drop, ← List.map_take, ← List.map_drop, Function.comp_def]
    exact ne_len (by omega)
  · skip
    try simp at c11
    refine Sat.skip ?_
    refine zh2 _ ?_
    refine Sat.seqK fun zK5 zh5 zg5 => ?_
    refine Sat.seqK fun zK6 zh6 zg6 => ?_
    refine Sat.regionP hk [⟨some 12, Op.move (Operand.tmp 0), 28, none⟩, ⟨some 13, Op.call { callee := Callee.builtin Builtin.len, args := #[Operand.tmp 12], argTypes := #[28] }, 3, none⟩, ⟨some 14, Op.move (Operand.const (Value.int IntKind.i64 0)), 3, none⟩] (by kernel_rfl) (by kernel_rfl) ?_
    simp [-List.map_take, -List.map_drop, ← List.map_take, ← List.map_drop, Function.comp_def]
    refine zh6 _ ?_
    refine Sat.loopK (E := ⟨_, _, _⟩) [0, 1, 13] [] [] ⟨by first | (simp [keepS]; done) | (simp [keepS]; rfl), by first | (simp [keepO]; done) | (simp [keepO]; rfl), by first | (simp [keepB]; done) | (simp [keepB]; rfl)⟩ (zh5) (fun (j : Nat) => (⟨[(14, num j)], [], []⟩ : Ds)) (fun (j : Nat) => j ≤ a.length ∧ a.take j = b.take j) (fun (j : Nat) => a = b) (fun (j : Nat) => a.length - j) 0 ?_ ?_ ?_ ?_
    · simp
    · exact ⟨by simp [FitL], by simp [FitL], by simp [FitL]⟩
    · rintro j hP0 zo7 zb7 zp7 zq7 zK7 zn7 zx7 zg7
      try dsimp only [Ds.app, Ds.st, List.cons_append, List.nil_append] at hP0 ⊢
      refine Sat.seqK fun zK8 zh8 zg8 => ?_
      refine Sat.regionP hk [⟨some 15, Op.binOp BinOp.lss 3 (Operand.tmp 14) (Operand.tmp 13) 3, 0, none⟩] (by kernel_rfl) (by kernel_rfl) ?_
      simp [-List.map_take, -List.map_drop, ← List.map_take, ← List.map_drop, Function.comp_def, zp7.st, zq7.st]
      refine zh8 _ ?_
      refine Sat.seqK fun zK9 zh9 zg9 => ?_
      refine Sat.cond rfl (fun c15 => ?_) (fun c15 => ?_)
      · skip
        try simp at c15
        obtain ⟨x, hx⟩ : ∃ z, a[j]? = some z := ⟨a[j], List.getElem?_eq_getElem c15⟩
        obtain ⟨y, hy⟩ : ∃ z, b[j]? = some z := ⟨b[j], List.getElem?_eq_getElem (by omega)⟩
        have hjb : j < b.length := by omega
        have hxl := hn.1.2 x (List.mem_of_getElem? hx)
        have hyl := hn.2.2 y (List.mem_of_getElem? hy)
        have hx1 := hxl.1
        refine Sat.skip ?_
        refine zh9 _ ?_
        refine Sat.seqK fun zK10 zh10 zg10 => ?_
        refine Sat.blockK fun zK11 zh11 zx11 zg11 => ?_
        refine Sat.seqK fun zK12 zh12 zg12 => ?_
        refine Sat.regionP hk [⟨some 16, Op.move (Operand.tmp 14), 3, none⟩, ⟨some 5, Op.assign (Operand.tmp 16), 3, none⟩] (by kernel_rfl) (by kernel_rfl) ?_
        simp [-List.map_take, -List.map_drop, ← List.map_take, ← List.map_drop, Function.comp_def, zp7.st, zq7.st, take1 hx, take1 hy, c15, hjb]
        refine zh12 _ ?_
        refine Sat.seqK fun zK13 zh13 zg13 => ?_
        refine Sat.seqK fun zK14 zh14 zg14 => ?_
        refine Sat.regionDP hk (by kernel_rfl) [⟨some 17, Op.move (Operand.tmp 0), 28, none⟩, ⟨some 18, Op.move (Operand.tmp 5), 3, none⟩, ⟨some 19, Op.indexAddr 28 (Operand.tmp 17) (Operand.tmp 18), 0, none⟩, ⟨some 20, Op.load 79 (Operand.tmp 19), 79, none⟩, ⟨some 21, Op.call { callee := Callee.builtin Builtin.len, args := #[Operand.tmp 20], argTypes := #[79] }, 3, none⟩, ⟨some 22, Op.move (Operand.tmp 1), 28, none⟩, ⟨some 23, Op.move (Operand.tmp 5), 3, none⟩, ⟨some 24, Op.indexAddr 28 (Operand.tmp 22) (Operand.tmp 23), 0, none⟩, ⟨some 25, Op.load 79 (Operand.tmp 24), 79, none⟩, ⟨some 26, Op.call { callee := Callee.builtin Builtin.len, args := #[Operand.tmp 25], argTypes := #[79] }, 3, none⟩, ⟨some 27, Op.binOp BinOp.neq 3 (Operand.tmp 21) (Operand.tmp 26) 3, 4, none⟩] (by kernel_rfl) (by kernel_rfl) (by decide +kernel) (fun an han => ?_)
        simp [-List.map_take, -List.map_drop, ← List.map_take, ← List.map_drop, Function.comp_def, zp7.st, zq7.st, take1 hx, take1 hy, c15, hjb]
        refine ⟨by subst han; kernel_rfl, ?_⟩
        refine zh14 _ ?_
        refine Sat.cond rfl (fun c27 => ?_) (fun c27 => ?_)
        · skip
          try simp at c27
          refine Sat.seqK fun zK15 zh15 zg15 => ?_
          refine Sat.regionP hk [⟨some 4, Op.assign (Operand.const (Value.bool false)), 4, none⟩] (by kernel_rfl) (by kernel_rfl) ?_
          simp [-List.map_take, -List.map_drop, ← List.map_take, ← List.map_drop, Function.comp_def, zp7.st, zq7.st, take1 hx, take1 hy, c15, hjb]
          refine zh15 _ ?_
          refine Sat.ret ?_
          refine zg13 _ _ (by simp) ?_
          refine zg11 _ _ (by simp) (by simp) ?_
          refine zg10 _ _ (by simp) ?_
          refine zg7 _ _ (by simp) (by simp) ?_
          refine zg5 _ _ (by simp) ?_
          simp [-List.map_take, -List.map_drop, ← List.map_take, ← List.map_drop, Function.comp_def, zp7.st, zq7.st, take1 hx, take1 hy, c15, hjb]
          exact ne_at hx hy (ne_len (by omega))
        · skip
          try simp at c27
          refine Sat.skip ?_
          refine zh13 _ ?_
          refine Sat.seqK fun zK16 zh16 zg16 => ?_
          refine Sat.regionP hk [⟨some 28, Op.move (Operand.tmp 0), 28, none⟩, ⟨some 29, Op.move (Operand.tmp 5), 3, none⟩, ⟨some 30, Op.indexAddr 28 (Operand.tmp 28) (Operand.tmp 29), 0, none⟩, ⟨some 31, Op.load 79 (Operand.tmp 30), 79, none⟩, ⟨some 32, Op.call { callee := Callee.builtin Builtin.len, args := #[Operand.tmp 31], argTypes := #[79] }, 3, none⟩, ⟨some 33, Op.move (Operand.const (Value.int IntKind.i64 0)), 3, none⟩] (by kernel_rfl) (by kernel_rfl) ?_
          simp [-List.map_take, -List.map_drop, ← List.map_take, ← List.map_drop, Function.comp_def, zp7.st, zq7.st, take1 hx, take1 hy, c15, hjb]
          refine zh16 _ ?_
          refine Sat.loopK (E := ⟨_, _, _⟩) [0, 1, 5, 13, 14, 32] [] [] ⟨by first | (simp [keepS, zp7.st, zq7.st, take1 hx, take1 hy, c15, hjb]; done) | (simp [keepS, zp7.st, zq7.st, take1 hx, take1 hy, c15, hjb]; rfl), by first | (simp [keepO, zp7.st, zq7.st, take1 hx, take1 hy, c15, hjb]; done) | (simp [keepO, zp7.st, zq7.st, take1 hx, take1 hy, c15, hjb]; rfl), by first | (simp [keepB, zp7.st, zq7.st, take1 hx, take1 hy, c15, hjb]; done) | (simp [keepB, zp7.st, zq7.st, take1 hx, take1 hy, c15, hjb]; rfl)⟩ (fun s hs => zh11 s (zh10 s hs)) (fun (i : Nat) => (⟨[(33, num i)], [], []⟩ : Ds)) (fun (i : Nat) => i ≤ x.length ∧ x.take i = y.take i) (fun (i : Nat) => x = y) (fun (i : Nat) => x.length - i) 0 ?_ ?_ ?_ ?_
          · simp
          · exact ⟨by simp [FitL, zp7.st, zq7.st, take1 hx, take1 hy, c15, hjb], by simp [FitL, zp7.st, zq7.st, take1 hx, take1 hy, c15, hjb], by simp [FitL, zp7.st, zq7.st, take1 hx, take1 hy, c15, hjb]⟩
          · rintro i hP2 zo17 zb17 zp17 zq17 zK17 zn17 zx17 zg17
            try dsimp only [Ds.app, Ds.st, List.cons_append, List.nil_append] at hP2 ⊢
            refine Sat.seqK fun zK18 zh18 zg18 => ?_
            refine Sat.regionP hk [⟨some 34, Op.binOp BinOp.lss 3 (Operand.tmp 33) (Operand.tmp 32) 3, 0, none⟩] (by kernel_rfl) (by kernel_rfl) ?_
            simp [-List.map_take, -List.map_drop, ← List.map_take, ← List.map_drop, Function.comp_def, zp7.st, zq7.st, take1 hx, take1 hy, c15, hjb, zp17.st, zq17.st]
            refine zh18 _ ?_
            refine Sat.seqK fun zK19 zh19 zg19 => ?_
            refine Sat.cond rfl (fun c34 => ?_) (fun c34 => ?_)
            · skip
              try simp at c34
              obtain ⟨r, hr⟩ : ∃ z, x[i]? = some z := ⟨x[i], List.getElem?_eq_getElem c34⟩
              obtain ⟨q, hq⟩ : ∃ z, y[i]? = some z := ⟨y[i], List.getElem?_eq_getElem (by omega)⟩
              have hib : i < y.length := by omega
              have hr1 := hxl.2 r (List.mem_of_getElem? hr)
              have hq1 := hyl.2 q (List.mem_of_getElem? hq)
              refine Sat.skip ?_
              refine zh19 _ ?_
              refine Sat.seqK fun zK20 zh20 zg20 => ?_
              refine Sat.blockK fun zK21 zh21 zx21 zg21 => ?_
              refine Sat.seqK fun zK22 zh22 zg22 => ?_
              refine Sat.regionP hk [⟨some 35, Op.move (Operand.tmp 33), 3, none⟩, ⟨some 6, Op.assign (Operand.tmp 35), 3, none⟩] (by kernel_rfl) (by kernel_rfl) ?_
              simp [-List.map_take, -List.map_drop, ← List.map_take, ← List.map_drop, Function.comp_def, zp7.st, zq7.st, take1 hx, take1 hy, c15, hjb, zp17.st, zq17.st, take1 hr, take1 hq, c34, hib, hr1, hq1]
              refine zh22 _ ?_
              refine Sat.seqK fun zK23 zh23 zg23 => ?_
              refine Sat.regionDP hk (by kernel_rfl) [⟨some 36, Op.move (Operand.tmp 0), 28, none⟩, ⟨some 37, Op.move (Operand.tmp 5), 3, none⟩, ⟨some 38, Op.indexAddr 28 (Operand.tmp 36) (Operand.tmp 37), 0, none⟩, ⟨some 39, Op.load 79 (Operand.tmp 38), 79, none⟩, ⟨some 40, Op.move (Operand.tmp 6), 3, none⟩, ⟨some 41, Op.indexAddr 79 (Operand.tmp 39) (Operand.tmp 40), 0, none⟩, ⟨some 42, Op.load 51 (Operand.tmp 41), 51, none⟩, ⟨some 43, Op.move (Operand.tmp 1), 28, none⟩, ⟨some 44, Op.move (Operand.tmp 5), 3, none⟩, ⟨some 45, Op.indexAddr 28 (Operand.tmp 43) (Operand.tmp 44), 0, none⟩, ⟨some 46, Op.load 79 (Operand.tmp 45), 79, none⟩, ⟨some 47, Op.move (Operand.tmp 6), 3, none⟩, ⟨some 48, Op.indexAddr 79 (Operand.tmp 46) (Operand.tmp 47), 0, none⟩, ⟨some 49, Op.load 51 (Operand.tmp 48), 51, none⟩, ⟨some 50, Op.call { callee := Callee.value (Operand.func 33), args := #[Operand.tmp 42, Operand.tmp 49], argTypes := #[51, 51] }, 4, none⟩, ⟨some 51, Op.unOp UnOp.not 4 (Operand.tmp 50), 4, none⟩] (by kernel_rfl) (by kernel_rfl) (by decide +kernel) (fun an han => ?_)
              simp [-List.map_take, -List.map_drop, ← List.map_take, ← List.map_drop, Function.comp_def, zp7.st, zq7.st, take1 hx, take1 hy, c15, hjb, zp17.st, zq17.st, take1 hr, take1 hq, c34, hib, hr1, hq1]
              refine ⟨by subst han; kernel_rfl, ?_⟩
              refine zh23 _ ?_
              refine Sat.cond rfl (fun c51 => ?_) (fun c51 => ?_)
              · skip
                try simp at c51
                refine Sat.seqK fun zK24 zh24 zg24 => ?_
                refine Sat.regionP hk [⟨some 4, Op.assign (Operand.const (Value.bool false)), 4, none⟩] (by kernel_rfl) (by kernel_rfl) ?_
                simp [-List.map_take, -List.map_drop, ← List.map_take, ← List.map_drop, Function.comp_def, zp7.st, zq7.st, take1 hx, take1 hy, c15, hjb, zp17.st, zq17.st, take1 hr, take1 hq, c34, hib, hr1, hq1]
                refine zh24 _ ?_
                refine Sat.ret ?_
                refine zg21 _ _ (by simp) (by simp) ?_
                refine zg20 _ _ (by simp) ?_
                refine zg17 _ _ (by simp) (by simp) ?_
                refine zg11 _ _ (by simp) (by simp) ?_
                refine zg10 _ _ (by simp) ?_
                refine zg7 _ _ (by simp) (by simp) ?_
                refine zg5 _ _ (by simp) ?_
                simp [-List.map_take, -List.map_drop, ← List.map_take, ← List.map_drop, Function.comp_def, zp7.st, zq7.st, take1 hx, take1 hy, c15, hjb, zp17.st, zq17.st, take1 hr, take1 hq, c34, hib, hr1, hq1]
                exact ne_at hx hy (ne_at hr hq c51)
              · skip
                try simp at c51
                obtain rfl := c51
                refine Sat.skip ?_
                refine zh21 _ ?_
                refine zh20 _ ?_
                refine Sat.regionP hk [⟨some 52, Op.binOp BinOp.add 3 (Operand.tmp 33) (Operand.const (Value.int IntKind.i64 1)) 3, 3, none⟩, ⟨some 33, Op.move (Operand.tmp 52), 3, none⟩] (by kernel_rfl) (by kernel_rfl) ?_
                simp [-List.map_take, -List.map_drop, ← List.map_take, ← List.map_drop, Function.comp_def, zp7.st, zq7.st, take1 hx, take1 hy, c15, hjb, zp17.st, zq17.st, take1 hr, take1 hq, c34, hib, hr1, hq1]
                refine zn17 (i + 1) _ ?_ ?_ ?_ ?_
                · exact ⟨by omega, eq_up hr hq hP2.2⟩
                · first | omega | (dsimp only; omega)
                · exact ⟨by simp [-List.map_take, -List.map_drop, ← List.map_take, ← List.map_drop, Function.comp_def, FitL, zp7.st, zq7.st, take1 hx, take1 hy, c15, hjb, zp17.st, zq17.st, take1 hr, take1 hq, c34, hib, hr1, hq1, w64s i (by omega)], by simp [-List.map_take, -List.map_drop, ← List.map_take, ← List.map_drop, Function.comp_def, FitL, zp7.st, zq7.st, take1 hx, take1 hy, c15, hjb, zp17.st, zq17.st, take1 hr, take1 hq, c34, hib, hr1, hq1, w64s i (by omega)], by simp [-List.map_take, -List.map_drop, ← List.map_take, ← List.map_drop, Function.comp_def, FitL, zp7.st, zq7.st, take1 hx, take1 hy, c15, hjb, zp17.st, zq17.st, take1 hr, take1 hq, c34, hib, hr1, hq1, w64s i (by omega)]⟩
                · exact ⟨by simp [-List.map_take, -List.map_drop, ← List.map_take, ← List.map_drop, Function.comp_def, FitL, zp7.st, zq7.st, take1 hx, take1 hy, c15, hjb, zp17.st, zq17.st, take1 hr, take1 hq, c34, hib, hr1, hq1, w64s i (by omega)], by simp [-List.map_take, -List.map_drop, ← List.map_take, ← List.map_drop, Function.comp_def, FitL, zp7.st, zq7.st, take1 hx, take1 hy, c15, hjb, zp17.st, zq17.st, take1 hr, take1 hq, c34, hib, hr1, hq1, w64s i (by omega)], by simp [-List.map_take, -List.map_drop, ← List.map_take, ← List.map_drop, Function.comp_def, FitL, zp7.st, zq7.st, take1 hx, take1 hy, c15, hjb, zp17.st, zq17.st, take1 hr, take1 hq, c34, hib, hr1, hq1, w64s i (by omega)]⟩
            · skip
              try simp at c34
              refine Sat.exit ?_
              refine zg19 _ _ (by simp) ?_
              refine zx17 i _ ?_ ?_ ?_
              · exact eq_end hP2.2 (by omega) (by omega)
              · exact ⟨by simp [-List.map_take, -List.map_drop, ← List.map_take, ← List.map_drop, Function.comp_def, FitL, zp7.st, zq7.st, take1 hx, take1 hy, c15, hjb, zp17.st, zq17.st], by simp [-List.map_take, -List.map_drop, ← List.map_take, ← List.map_drop, Function.comp_def, FitL, zp7.st, zq7.st, take1 hx, take1 hy, c15, hjb, zp17.st, zq17.st], by simp [-List.map_take, -List.map_drop, ← List.map_take, ← List.map_drop, Function.comp_def, FitL, zp7.st, zq7.st, take1 hx, take1 hy, c15, hjb, zp17.st, zq17.st]⟩
              · exact ⟨by simp [-List.map_take, -List.map_drop, ← List.map_take, ← List.map_drop, Function.comp_def, FitL, zp7.st, zq7.st, take1 hx, take1 hy, c15, hjb, zp17.st, zq17.st], by simp [-List.map_take, -List.map_drop, ← List.map_take, ← List.map_drop, Function.comp_def, FitL, zp7.st, zq7.st, take1 hx, take1 hy, c15, hjb, zp17.st, zq17.st], by simp [-List.map_take, -List.map_drop, ← List.map_take, ← List.map_drop, Function.comp_def, FitL, zp7.st, zq7.st, take1 hx, take1 hy, c15, hjb, zp17.st, zq17.st]⟩
          · rintro i hR2 zo17 zb17 zp17 zq17
            try dsimp only [Ds.app, Ds.st, List.cons_append, List.nil_append] at hR2 ⊢
            refine Sat.regionP hk [⟨some 53, Op.binOp BinOp.add 3 (Operand.tmp 14) (Operand.const (Value.int IntKind.i64 1)) 3, 3, none⟩, ⟨some 14, Op.move (Operand.tmp 53), 3, none⟩] (by kernel_rfl) (by kernel_rfl) ?_
            simp [-List.map_take, -List.map_drop, ← List.map_take, ← List.map_drop, Function.comp_def, zp7.st, zq7.st, take1 hx, take1 hy, c15, hjb, zp17.st, zq17.st]
            refine zn7 (j + 1) _ ?_ ?_ ?_ ?_
            · subst hR2
              exact ⟨by omega, eq_up hx hy hP0.2⟩
            · first | omega | (dsimp only; omega)
            · exact ⟨by simp [-List.map_take, -List.map_drop, ← List.map_take, ← List.map_drop, Function.comp_def, FitL, zp7.st, zq7.st, take1 hx, take1 hy, c15, hjb, zp17.st, zq17.st, w64s j (by omega)], by simp [-List.map_take, -List.map_drop, ← List.map_take, ← List.map_drop, Function.comp_def, FitL, zp7.st, zq7.st, take1 hx, take1 hy, c15, hjb, zp17.st, zq17.st, w64s j (by omega)], by simp [-List.map_take, -List.map_drop, ← List.map_take, ← List.map_drop, Function.comp_def, FitL, zp7.st, zq7.st, take1 hx, take1 hy, c15, hjb, zp17.st, zq17.st, w64s j (by omega)]⟩
            · exact ⟨by simp [-List.map_take, -List.map_drop, ← List.map_take, ← List.map_drop, Function.comp_def, FitL, zp7.st, zq7.st, take1 hx, take1 hy, c15, hjb, zp17.st, zq17.st, w64s j (by omega)], by simp [-List.map_take, -List.map_drop, ← List.map_take, ← List.map_drop, Function.comp_def, FitL, zp7.st, zq7.st, take1 hx, take1 hy, c15, hjb, zp17.st, zq17.st, w64s j (by omega)], by simp [-List.map_take, -List.map_drop, ← List.map_take, ← List.map_drop, Function.comp_def, FitL, zp7.st, zq7.st, take1 hx, take1 hy, c15, hjb, zp17.st, zq17.st, w64s j (by omega)]⟩
      · skip
        try simp at c15
        refine Sat.exit ?_
        refine zg9 _ _ (by simp) ?_
        refine zx7 j _ ?_ ?_ ?_
        · exact eq_end hP0.2 (by omega) (by omega)
        · exact ⟨by simp [-List.map_take, -List.map_drop, ← List.map_take, ← List.map_drop, Function.comp_def, FitL, zp7.st, zq7.st], by simp [-List.map_take, -List.map_drop, ← List.map_take, ← List.map_drop, Function.comp_def, FitL, zp7.st, zq7.st], by simp [-List.map_take, -List.map_drop, ← List.map_take, ← List.map_drop, Function.comp_def, FitL, zp7.st, zq7.st]⟩
        · exact ⟨by simp [-List.map_take, -List.map_drop, ← List.map_take, ← List.map_drop, Function.comp_def, FitL, zp7.st, zq7.st], by simp [-List.map_take, -List.map_drop, ← List.map_take, ← List.map_drop, Function.comp_def, FitL, zp7.st, zq7.st], by simp [-List.map_take, -List.map_drop, ← List.map_take, ← List.map_drop, Function.comp_def, FitL, zp7.st, zq7.st]⟩
    · rintro j hR0 zo7 zb7 zp7 zq7
      try dsimp only [Ds.app, Ds.st, List.cons_append, List.nil_append] at hR0 ⊢
      refine Sat.seqK fun zK25 zh25 zg25 => ?_
      refine Sat.regionP hk [⟨some 4, Op.assign (Operand.const (Value.bool true)), 4, none⟩] (by kernel_rfl) (by kernel_rfl) ?_
      simp [-List.map_take, -List.map_drop, ← List.map_take, ← List.map_drop, Function.comp_def, zp7.st, zq7.st]
      refine zh25 _ ?_
      refine Sat.ret ?_
      simp [-List.map_take, -List.map_drop, ← List.map_take, ← List.map_drop, Function.comp_def, zp7.st, zq7.st]
      exact hR0
def S22 : Spec := fun gs => sp2 true (tView) true (tView) (fun a b => if fineV a ∧ fineV b then some (oBool (decide (a = b))) else none) gs
@[simp] theorem S22_eq (gs : List Arg) : S22 gs = sp2 true (tView) true (tView) (fun a b => if fineV a ∧ fineV b then some (oBool (decide (a = b))) else none) gs := rfl
theorem k22 : Contract Try.prog 22 S22 := by
  refine Contract.intro2 (C := cx 47 [(35, S35)]) Try.func22 rfl rfl rfl (by show 2 ≤ 47; decide) fun a b out ho fr => ?_
  have hk := knowsX (N := 47) (l := [(35, S35)]) ⟨k35, trivial⟩
  split at ho
  case isFalse => cases ho
  rename_i hn
  obtain rfl := Option.some.inj ho
  obtain ⟨⟨hn1, hk1, hx1⟩, hn2, hk2, hx2⟩ := hn
  obtain ⟨at', ak, ax⟩ := a
  obtain ⟨bt, bk, bx⟩ := b
  have hk1' : lenOK ak := hk1
  have hk2' : lenOK bk := hk2
  have hx1' : lenOK ax := hx1
  have hx2' : lenOK bx := hx2
  have hn1' : at'.length < 1099511627776 := hn1
  refine Sat.seqK fun zK1 zh1 zg1 => ?_
  refine Sat.regionP hk [⟨some 2, Op.box 44 (Operand.tmp 0), 0, none⟩, ⟨some 3, Op.box 44 (Operand.tmp 1), 0, none⟩, ⟨some 4, Op.assign (Operand.const (Value.bool false)), 4, none⟩] (by kernel_rfl) (by kernel_rfl) ?_
  simp [-List.map_take, -List.map_drop, ← List.map_take, ← List.map_drop, Function.comp_def]
  refine zh1 _ ?_
  refine Sat.seqK fun zK2 zh2 zg2 => ?_
  refine Sat.seqK fun zK3 zh3 zg3 => ?_
  by_cases q1 : ¬ (at'.length : Int) = (bt.length : Int)
  · skip
    have hne : ¬ at' = bt := ne_len (by omega)
    refine Sat.regionP hk [⟨some 6, Op.fieldAddr 44 (Operand.tmp 2) 0, 0, none⟩, ⟨some 7, Op.load 27 (Operand.tmp 6), 27, none⟩, ⟨some 8, Op.call { callee := Callee.builtin Builtin.len, args := #[Operand.tmp 7], argTypes := #[27] }, 3, none⟩, ⟨some 9, Op.fieldAddr 44 (Operand.tmp 3) 0, 0, none⟩, ⟨some 10, Op.load 27 (Operand.tmp 9), 27, none⟩, ⟨some 11, Op.call { callee := Callee.builtin Builtin.len, args := #[Operand.tmp 10], argTypes := #[27] }, 3, none⟩, ⟨some 12, Op.binOp BinOp.neq 3 (Operand.tmp 8) (Operand.tmp 11) 3, 4, none⟩, ⟨some 13, Op.move (Operand.tmp 12), 4, none⟩, ⟨some 14, Op.fieldAddr 44 (Operand.tmp 2) 1, 0, some (13, false)⟩, ⟨some 15, Op.load 28 (Operand.tmp 14), 28, some (13, false)⟩, ⟨some 16, Op.fieldAddr 44 (Operand.tmp 3) 1, 0, some (13, false)⟩, ⟨some 17, Op.load 28 (Operand.tmp 16), 28, some (13, false)⟩, ⟨some 18, Op.call { callee := Callee.value (Operand.func 35), args := #[Operand.tmp 15, Operand.tmp 17], argTypes := #[28, 28] }, 4, some (13, false)⟩, ⟨some 19, Op.unOp UnOp.not 4 (Operand.tmp 18), 4, some (13, false)⟩, ⟨some 20, Op.pick (Operand.tmp 13) (Operand.const (Value.bool true)) (Operand.tmp 19), 4, none⟩, ⟨some 21, Op.move (Operand.tmp 20), 4, none⟩, ⟨some 22, Op.fieldAddr 44 (Operand.tmp 2) 2, 0, some (21, false)⟩, ⟨some 23, Op.load 28 (Operand.tmp 22), 28, some (21, false)⟩, ⟨some 24, Op.fieldAddr 44 (Operand.tmp 3) 2, 0, some (21, false)⟩, ⟨some 25, Op.load 28 (Operand.tmp 24), 28, some (21, false)⟩, ⟨some 26, Op.call { callee := Callee.value (Operand.func 35), args := #[Operand.tmp 23, Operand.tmp 25], argTypes := #[28, 28] }, 4, some (21, false)⟩, ⟨some 27, Op.unOp UnOp.not 4 (Operand.tmp 26), 4, some (21, false)⟩, ⟨some 28, Op.pick (Operand.tmp 21) (Operand.const (Value.bool true)) (Operand.tmp 27), 4, none⟩] (by kernel_rfl) (by kernel_rfl) ?_
    simp [-List.map_take, -List.map_drop, ← List.map_take, ← List.map_drop, Function.comp_def, q1, hk1', hk2', hx1', hx2']
    refine zh3 _ ?_
    refine Sat.cond rfl (fun c28 => ?_) (fun c28 => ?_)
    · skip
      try simp at c28
      refine Sat.seqK fun zK4 zh4 zg4 => ?_
      refine Sat.regionP hk [⟨some 4, Op.assign (Operand.const (Value.bool false)), 4, none⟩] (by kernel_rfl) (by kernel_rfl) ?_
      simp [-List.map_take, -List.map_drop, ← List.map_take, ← List.map_drop, Function.comp_def, q1, hk1', hk2', hx1', hx2']
      refine zh4 _ ?_
      refine Sat.ret ?_
      refine zg2 _ _ (by simp) ?_
      simp [-List.map_take, -List.map_drop, ← List.map_take, ← List.map_drop, Function.comp_def, q1, hk1', hk2', hx1', hx2']
      all_goals simp [hne]
    · exfalso; simp [q1, hk1', hk2', hx1', hx2'] at c28
  · skip
    try simp only [Classical.not_not] at q1
    by_cases q2 : ¬ ak = bk
    · skip
      refine Sat.regionP hk [⟨some 6, Op.fieldAddr 44 (Operand.tmp 2) 0, 0, none⟩, ⟨some 7, Op.load 27 (Operand.tmp 6), 27, none⟩, ⟨some 8, Op.call { callee := Callee.builtin Builtin.len, args := #[Operand.tmp 7], argTypes := #[27] }, 3, none⟩, ⟨some 9, Op.fieldAddr 44 (Operand.tmp 3) 0, 0, none⟩, ⟨some 10, Op.load 27 (Operand.tmp 9), 27, none⟩, ⟨some 11, Op.call { callee := Callee.builtin Builtin.len, args := #[Operand.tmp 10], argTypes := #[27] }, 3, none⟩, ⟨some 12, Op.binOp BinOp.neq 3 (Operand.tmp 8) (Operand.tmp 11) 3, 4, none⟩, ⟨some 13, Op.move (Operand.tmp 12), 4, none⟩, ⟨some 14, Op.fieldAddr 44 (Operand.tmp 2) 1, 0, some (13, false)⟩, ⟨some 15, Op.load 28 (Operand.tmp 14), 28, some (13, false)⟩, ⟨some 16, Op.fieldAddr 44 (Operand.tmp 3) 1, 0, some (13, false)⟩, ⟨some 17, Op.load 28 (Operand.tmp 16), 28, some (13, false)⟩, ⟨some 18, Op.call { callee := Callee.value (Operand.func 35), args := #[Operand.tmp 15, Operand.tmp 17], argTypes := #[28, 28] }, 4, some (13, false)⟩, ⟨some 19, Op.unOp UnOp.not 4 (Operand.tmp 18), 4, some (13, false)⟩, ⟨some 20, Op.pick (Operand.tmp 13) (Operand.const (Value.bool true)) (Operand.tmp 19), 4, none⟩, ⟨some 21, Op.move (Operand.tmp 20), 4, none⟩, ⟨some 22, Op.fieldAddr 44 (Operand.tmp 2) 2, 0, some (21, false)⟩, ⟨some 23, Op.load 28 (Operand.tmp 22), 28, some (21, false)⟩, ⟨some 24, Op.fieldAddr 44 (Operand.tmp 3) 2, 0, some (21, false)⟩, ⟨some 25, Op.load 28 (Operand.tmp 24), 28, some (21, false)⟩, ⟨some 26, Op.call { callee := Callee.value (Operand.func 35), args := #[Operand.tmp 23, Operand.tmp 25], argTypes := #[28, 28] }, 4, some (21, false)⟩, ⟨some 27, Op.unOp UnOp.not 4 (Operand.tmp 26), 4, some (21, false)⟩, ⟨some 28, Op.pick (Operand.tmp 21) (Operand.const (Value.bool true)) (Operand.tmp 27), 4, none⟩] (by kernel_rfl) (by kernel_rfl) ?_
      simp [-List.map_take, -List.map_drop, ← List.map_take, ← List.map_drop, Function.comp_def, q1, q2, hk1', hk2', hx1', hx2']
      refine zh3 _ ?_
      refine Sat.cond rfl (fun c28 => ?_) (fun c28 => ?_)
      · skip
        try simp at c28
        refine Sat.seqK fun zK5 zh5 zg5 => ?_
        refine Sat.regionP hk [⟨some 4, Op.assign (Operand.const (Value.bool false)), 4, none⟩] (by kernel_rfl) (by kernel_rfl) ?_
        simp [-List.map_take, -List.map_drop, ← List.map_take, ← List.map_drop, Function.comp_def, q1, q2, hk1', hk2', hx1', hx2']
        refine zh5 _ ?_
        refine Sat.ret ?_
        refine zg2 _ _ (by simp) ?_
        simp [-List.map_take, -List.map_drop, ← List.map_take, ← List.map_drop, Function.comp_def, q1, q2, hk1', hk2', hx1', hx2']
      · exfalso; simp [q1, q2, hk1', hk2', hx1', hx2'] at c28
    · skip
      try simp only [Classical.not_not] at q2
      by_cases q3 : ¬ ax = bx
      · skip
        refine Sat.regionP hk [⟨some 6, Op.fieldAddr 44 (Operand.tmp 2) 0, 0, none⟩, ⟨some 7, Op.load 27 (Operand.tmp 6), 27, none⟩, ⟨some 8, Op.call { callee := Callee.builtin Builtin.len, args := #[Operand.tmp 7], argTypes := #[27] }, 3, none⟩, ⟨some 9, Op.fieldAddr 44 (Operand.tmp 3) 0, 0, none⟩, ⟨some 10, Op.load 27 (Operand.tmp 9), 27, none⟩, ⟨some 11, Op.call { callee := Callee.builtin Builtin.len, args := #[Operand.tmp 10], argTypes := #[27] }, 3, none⟩, ⟨some 12, Op.binOp BinOp.neq 3 (Operand.tmp 8) (Operand.tmp 11) 3, 4, none⟩, ⟨some 13, Op.move (Operand.tmp 12), 4, none⟩, ⟨some 14, Op.fieldAddr 44 (Operand.tmp 2) 1, 0, some (13, false)⟩, ⟨some 15, Op.load 28 (Operand.tmp 14), 28, some (13, false)⟩, ⟨some 16, Op.fieldAddr 44 (Operand.tmp 3) 1, 0, some (13, false)⟩, ⟨some 17, Op.load 28 (Operand.tmp 16), 28, some (13, false)⟩, ⟨some 18, Op.call { callee := Callee.value (Operand.func 35), args := #[Operand.tmp 15, Operand.tmp 17], argTypes := #[28, 28] }, 4, some (13, false)⟩, ⟨some 19, Op.unOp UnOp.not 4 (Operand.tmp 18), 4, some (13, false)⟩, ⟨some 20, Op.pick (Operand.tmp 13) (Operand.const (Value.bool true)) (Operand.tmp 19), 4, none⟩, ⟨some 21, Op.move (Operand.tmp 20), 4, none⟩, ⟨some 22, Op.fieldAddr 44 (Operand.tmp 2) 2, 0, some (21, false)⟩, ⟨some 23, Op.load 28 (Operand.tmp 22), 28, some (21, false)⟩, ⟨some 24, Op.fieldAddr 44 (Operand.tmp 3) 2, 0, some (21, false)⟩, ⟨some 25, Op.load 28 (Operand.tmp 24), 28, some (21, false)⟩, ⟨some 26, Op.call { callee := Callee.value (Operand.func 35), args := #[Operand.tmp 23, Operand.tmp 25], argTypes := #[28, 28] }, 4, some (21, false)⟩, ⟨some 27, Op.unOp UnOp.not 4 (Operand.tmp 26), 4, some (21, false)⟩, ⟨some 28, Op.pick (Operand.tmp 21) (Operand.const (Value.bool true)) (Operand.tmp 27), 4, none⟩] (by kernel_rfl) (by kernel_rfl) ?_
        simp [-List.map_take, -List.map_drop, ← List.map_take, ← List.map_drop, Function.comp_def, q1, q2, q3, hk1', hk2', hx1', hx2']
        refine zh3 _ ?_
        refine Sat.cond rfl (fun c28 => ?_) (fun c28 => ?_)
        · skip
          try simp at c28
          refine Sat.seqK fun zK6 zh6 zg6 => ?_
          refine Sat.regionP hk [⟨some 4, Op.assign (Operand.const (Value.bool false)), 4, none⟩] (by kernel_rfl) (by kernel_rfl) ?_
          simp [-List.map_take, -List.map_drop, ← List.map_take, ← List.map_drop, Function.comp_def, q1, q2, q3, hk1', hk2', hx1', hx2']
          refine zh6 _ ?_
          refine Sat.ret ?_
          refine zg2 _ _ (by simp) ?_
          simp [-List.map_take, -List.map_drop, ← List.map_take, ← List.map_drop, Function.comp_def, q1, q2, q3, hk1', hk2', hx1', hx2']
        · exfalso; simp [q1, q2, q3, hk1', hk2', hx1', hx2'] at c28
      · skip
        try simp only [Classical.not_not] at q3
        subst q2
        subst q3
        refine Sat.regionP hk [⟨some 6, Op.fieldAddr 44 (Operand.tmp 2) 0, 0, none⟩, ⟨some 7, Op.load 27 (Operand.tmp 6), 27, none⟩, ⟨some 8, Op.call { callee := Callee.builtin Builtin.len, args := #[Operand.tmp 7], argTypes := #[27] }, 3, none⟩, ⟨some 9, Op.fieldAddr 44 (Operand.tmp 3) 0, 0, none⟩, ⟨some 10, Op.load 27 (Operand.tmp 9), 27, none⟩, ⟨some 11, Op.call { callee := Callee.builtin Builtin.len, args := #[Operand.tmp 10], argTypes := #[27] }, 3, none⟩, ⟨some 12, Op.binOp BinOp.neq 3 (Operand.tmp 8) (Operand.tmp 11) 3, 4, none⟩, ⟨some 13, Op.move (Operand.tmp 12), 4, none⟩, ⟨some 14, Op.fieldAddr 44 (Operand.tmp 2) 1, 0, some (13, false)⟩, ⟨some 15, Op.load 28 (Operand.tmp 14), 28, some (13, false)⟩, ⟨some 16, Op.fieldAddr 44 (Operand.tmp 3) 1, 0, some (13, false)⟩, ⟨some 17, Op.load 28 (Operand.tmp 16), 28, some (13, false)⟩, ⟨some 18, Op.call { callee := Callee.value (Operand.func 35), args := #[Operand.tmp 15, Operand.tmp 17], argTypes := #[28, 28] }, 4, some (13, false)⟩, ⟨some 19, Op.unOp UnOp.not 4 (Operand.tmp 18), 4, some (13, false)⟩, ⟨some 20, Op.pick (Operand.tmp 13) (Operand.const (Value.bool true)) (Operand.tmp 19), 4, none⟩, ⟨some 21, Op.move (Operand.tmp 20), 4, none⟩, ⟨some 22, Op.fieldAddr 44 (Operand.tmp 2) 2, 0, some (21, false)⟩, ⟨some 23, Op.load 28 (Operand.tmp 22), 28, some (21, false)⟩, ⟨some 24, Op.fieldAddr 44 (Operand.tmp 3) 2, 0, some (21, false)⟩, ⟨some 25, Op.load 28 (Operand.tmp 24), 28, some (21, false)⟩, ⟨some 26, Op.call { callee := Callee.value (Operand.func 35), args := #[Operand.tmp 23, Operand.tmp 25], argTypes := #[28, 28] }, 4, some (21, false)⟩, ⟨some 27, Op.unOp UnOp.not 4 (Operand.tmp 26), 4, some (21, false)⟩, ⟨some 28, Op.pick (Operand.tmp 21) (Operand.const (Value.bool true)) (Operand.tmp 27), 4, none⟩] (by kernel_rfl) (by kernel_rfl) ?_
        simp [-List.map_take, -List.map_drop, ← List.map_take, ← List.map_drop, Function.comp_def, q1, hk1', hx1']
        refine zh3 _ ?_
        refine Sat.cond rfl (fun c28 => ?_) (fun c28 => ?_)
        · exfalso; simp [q1, hk1', hx1'] at c28
        · skip
          try simp at c28
          refine Sat.skip ?_
          refine zh2 _ ?_
          refine Sat.seqK fun zK7 zh7 zg7 => ?_
          refine Sat.seqK fun zK8 zh8 zg8 => ?_
          refine Sat.regionP hk [⟨some 29, Op.fieldAddr 44 (Operand.tmp 2) 0, 0, none⟩, ⟨some 30, Op.load 27 (Operand.tmp 29), 27, none⟩, ⟨some 31, Op.call { callee := Callee.builtin Builtin.len, args := #[Operand.tmp 30], argTypes := #[27] }, 3, none⟩, ⟨some 32, Op.move (Operand.const (Value.int IntKind.i64 0)), 3, none⟩] (by kernel_rfl) (by kernel_rfl) ?_
          simp [-List.map_take, -List.map_drop, ← List.map_take, ← List.map_drop, Function.comp_def, q1, hk1', hx1']
          refine zh8 _ ?_
          refine Sat.loopK (E := ⟨_, _, _⟩) [2, 3, 31] [] [128, 192] ⟨by first | (simp [keepS, q1, hk1', hx1']; done) | (simp [keepS, q1, hk1', hx1']; rfl), by first | (simp [keepO, q1, hk1', hx1']; done) | (simp [keepO, q1, hk1', hx1']; rfl), by first | (simp [keepB, q1, hk1', hx1']; done) | (simp [keepB, q1, hk1', hx1']; rfl)⟩ (zh7) (fun (j : Nat) => (⟨[(32, num j)], [], []⟩ : Ds)) (fun (j : Nat) => j ≤ at'.length ∧ at'.take j = bt.take j) (fun (j : Nat) => at' = bt) (fun (j : Nat) => at'.length - j) 0 ?_ ?_ ?_ ?_
          · simp
          · exact ⟨by simp [FitL, q1, hk1', hx1'], by simp [FitL, q1, hk1', hx1'], by simp [FitL, q1, hk1', hx1']⟩
          · rintro j hP0 zo9 zb9 zp9 zq9 zK9 zn9 zx9 zg9
            try dsimp only [Ds.app, Ds.st, List.cons_append, List.nil_append] at hP0 ⊢
            refine Sat.seqK fun zK10 zh10 zg10 => ?_
            refine Sat.regionP hk [⟨some 33, Op.binOp BinOp.lss 3 (Operand.tmp 32) (Operand.tmp 31) 3, 0, none⟩] (by kernel_rfl) (by kernel_rfl) ?_
            simp [-List.map_take, -List.map_drop, ← List.map_take, ← List.map_drop, Function.comp_def, q1, hk1', hx1', zp9.st, zq9.st]
            refine zh10 _ ?_
            refine Sat.seqK fun zK11 zh11 zg11 => ?_
            refine Sat.cond rfl (fun c33 => ?_) (fun c33 => ?_)
            · skip
              try simp at c33
              obtain ⟨x, hx⟩ : ∃ z, at'[j]? = some z := ⟨at'[j], List.getElem?_eq_getElem (by omega)⟩
              obtain ⟨y, hy⟩ : ∃ z, bt[j]? = some z := ⟨bt[j], List.getElem?_eq_getElem (by omega)⟩
              have hjb : j < bt.length := by omega
              refine Sat.skip ?_
              refine zh11 _ ?_
              refine Sat.seqK fun zK12 zh12 zg12 => ?_
              refine Sat.blockK fun zK13 zh13 zx13 zg13 => ?_
              refine Sat.seqK fun zK14 zh14 zg14 => ?_
              refine Sat.regionP hk [⟨some 34, Op.move (Operand.tmp 32), 3, none⟩, ⟨some 5, Op.assign (Operand.tmp 34), 3, none⟩] (by kernel_rfl) (by kernel_rfl) ?_
              simp [-List.map_take, -List.map_drop, ← List.map_take, ← List.map_drop, Function.comp_def, q1, hk1', hx1', zp9.st, zq9.st, take1 hx, take1 hy, c33, hjb]
              refine zh14 _ ?_
              refine Sat.seqK fun zK15 zh15 zg15 => ?_
              refine Sat.regionDP hk (by kernel_rfl) [⟨some 35, Op.fieldAddr 44 (Operand.tmp 2) 0, 0, none⟩, ⟨some 36, Op.load 27 (Operand.tmp 35), 27, none⟩, ⟨some 37, Op.move (Operand.tmp 5), 3, none⟩, ⟨some 38, Op.indexAddr 27 (Operand.tmp 36) (Operand.tmp 37), 0, none⟩, ⟨some 39, Op.load 3 (Operand.tmp 38), 3, none⟩, ⟨some 40, Op.fieldAddr 44 (Operand.tmp 3) 0, 0, none⟩, ⟨some 41, Op.load 27 (Operand.tmp 40), 27, none⟩, ⟨some 42, Op.move (Operand.tmp 5), 3, none⟩, ⟨some 43, Op.indexAddr 27 (Operand.tmp 41) (Operand.tmp 42), 0, none⟩, ⟨some 44, Op.load 3 (Operand.tmp 43), 3, none⟩, ⟨some 45, Op.binOp BinOp.neq 3 (Operand.tmp 39) (Operand.tmp 44) 3, 4, none⟩] (by kernel_rfl) (by kernel_rfl) (by decide +kernel) (fun an han => ?_)
              simp [-List.map_take, -List.map_drop, ← List.map_take, ← List.map_drop, Function.comp_def, q1, hk1', hx1', zp9.st, zq9.st, take1 hx, take1 hy, c33, hjb]
              refine ⟨by subst han; kernel_rfl, ?_⟩
              refine zh15 _ ?_
              refine Sat.cond rfl (fun c45 => ?_) (fun c45 => ?_)
              · skip
                try simp at c45
                refine Sat.seqK fun zK16 zh16 zg16 => ?_
                refine Sat.regionP hk [⟨some 4, Op.assign (Operand.const (Value.bool false)), 4, none⟩] (by kernel_rfl) (by kernel_rfl) ?_
                simp [-List.map_take, -List.map_drop, ← List.map_take, ← List.map_drop, Function.comp_def, q1, hk1', hx1', zp9.st, zq9.st, take1 hx, take1 hy, c33, hjb]
                refine zh16 _ ?_
                refine Sat.ret ?_
                refine zg13 _ _ (by simp) (by simp) ?_
                refine zg12 _ _ (by simp) ?_
                refine zg9 _ _ (by simp) (by simp) ?_
                refine zg7 _ _ (by simp) ?_
                simp [-List.map_take, -List.map_drop, ← List.map_take, ← List.map_drop, Function.comp_def, q1, hk1', hx1', zp9.st, zq9.st, take1 hx, take1 hy, c33, hjb]
                exact ne_at hx hy c45
              · skip
                try simp at c45
                obtain rfl := c45
                refine Sat.skip ?_
                refine zh13 _ ?_
                refine zh12 _ ?_
                refine Sat.regionP hk [⟨some 46, Op.binOp BinOp.add 3 (Operand.tmp 32) (Operand.const (Value.int IntKind.i64 1)) 3, 3, none⟩, ⟨some 32, Op.move (Operand.tmp 46), 3, none⟩] (by kernel_rfl) (by kernel_rfl) ?_
                simp [-List.map_take, -List.map_drop, ← List.map_take, ← List.map_drop, Function.comp_def, q1, hk1', hx1', zp9.st, zq9.st, take1 hx, take1 hy, c33, hjb]
                refine zn9 (j + 1) _ ?_ ?_ ?_ ?_
                · exact ⟨by omega, eq_up hx hy hP0.2⟩
                · first | omega | (dsimp only; omega)
                · exact ⟨by simp [-List.map_take, -List.map_drop, ← List.map_take, ← List.map_drop, Function.comp_def, FitL, q1, hk1', hx1', zp9.st, zq9.st, take1 hx, take1 hy, c33, hjb, w64s j (by omega)], by simp [-List.map_take, -List.map_drop, ← List.map_take, ← List.map_drop, Function.comp_def, FitL, q1, hk1', hx1', zp9.st, zq9.st, take1 hx, take1 hy, c33, hjb, w64s j (by omega)], by simp [-List.map_take, -List.map_drop, ← List.map_take, ← List.map_drop, Function.comp_def, FitL, q1, hk1', hx1', zp9.st, zq9.st, take1 hx, take1 hy, c33, hjb, w64s j (by omega)]⟩
                · exact ⟨by simp [-List.map_take, -List.map_drop, ← List.map_take, ← List.map_drop, Function.comp_def, FitL, q1, hk1', hx1', zp9.st, zq9.st, take1 hx, take1 hy, c33, hjb, w64s j (by omega)], by simp [-List.map_take, -List.map_drop, ← List.map_take, ← List.map_drop, Function.comp_def, FitL, q1, hk1', hx1', zp9.st, zq9.st, take1 hx, take1 hy, c33, hjb, w64s j (by omega)], by simp [-List.map_take, -List.map_drop, ← List.map_take, ← List.map_drop, Function.comp_def, FitL, q1, hk1', hx1', zp9.st, zq9.st, take1 hx, take1 hy, c33, hjb, w64s j (by omega)]⟩
            · skip
              try simp at c33
              refine Sat.exit ?_
              refine zg11 _ _ (by simp) ?_
              refine zx9 j _ ?_ ?_ ?_
              · exact eq_end hP0.2 (by omega) (by omega)
              · exact ⟨by simp [-List.map_take, -List.map_drop, ← List.map_take, ← List.map_drop, Function.comp_def, FitL, q1, hk1', hx1', zp9.st, zq9.st], by simp [-List.map_take, -List.map_drop, ← List.map_take, ← List.map_drop, Function.comp_def, FitL, q1, hk1', hx1', zp9.st, zq9.st], by simp [-List.map_take, -List.map_drop, ← List.map_take, ← List.map_drop, Function.comp_def, FitL, q1, hk1', hx1', zp9.st, zq9.st]⟩
              · exact ⟨by simp [-List.map_take, -List.map_drop, ← List.map_take, ← List.map_drop, Function.comp_def, FitL, q1, hk1', hx1', zp9.st, zq9.st], by simp [-List.map_take, -List.map_drop, ← List.map_take, ← List.map_drop, Function.comp_def, FitL, q1, hk1', hx1', zp9.st, zq9.st], by simp [-List.map_take, -List.map_drop, ← List.map_take, ← List.map_drop, Function.comp_def, FitL, q1, hk1', hx1', zp9.st, zq9.st]⟩
          · rintro j hR0 zo9 zb9 zp9 zq9
            try dsimp only [Ds.app, Ds.st, List.cons_append, List.nil_append] at hR0 ⊢
            refine Sat.seqK fun zK17 zh17 zg17 => ?_
            refine Sat.regionP hk [⟨some 4, Op.assign (Operand.const (Value.bool true)), 4, none⟩] (by kernel_rfl) (by kernel_rfl) ?_
            simp [-List.map_take, -List.map_drop, ← List.map_take, ← List.map_drop, Function.comp_def, q1, hk1', hx1', zp9.st, zq9.st]
            refine zh17 _ ?_
            refine Sat.ret ?_
            simp [-List.map_take, -List.map_drop, ← List.map_take, ← List.map_drop, Function.comp_def, q1, hk1', hx1', zp9.st, zq9.st]
            exact hR0
end Go.Proofs.Ytmbmebfeoejlnaa.Ab
