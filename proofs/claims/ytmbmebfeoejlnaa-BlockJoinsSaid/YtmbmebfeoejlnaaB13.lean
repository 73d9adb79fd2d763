/- A block's form: the document's Check. -/
import Derived.Test.YtmbmebfeoejlnaaB12
namespace Go.Proofs.Ytmbmebfeoejlnaa.Ab
set_option linter.unusedVariables false
set_option linter.unusedSimpArgs false
open Go.RowKit
theorem chk_two {c : Cfg} {b : Blk} {n : Int} (hn : n = (b.1.length : Int) - b.2.1) (h : ¬ badShape c b) (h1 : b.1.any (badTok c) = false) : chk c b = if okLists n c.2.1 b.2.2.1 && okLists n c.2.1 b.2.2.2 then 0 else 4 := by
  unfold chk; rw [if_neg h, if_neg (by simp [h1]), ← hn]
def S18 : Spec := fun gs => sp2 true (tCfg) true (tBlk) (fun c b => if fine b then some (o64 (chk c b)) else none) gs
@[simp] theorem S18_eq (gs : List Arg) : S18 gs = sp2 true (tCfg) true (tBlk) (fun c b => if fine b then some (o64 (chk c b)) else none) gs := rfl
set_option maxHeartbeats 4000000 in
theorem k18 : Contract Try.prog 18 S18 := by
  refine Contract.intro2 (C := cx 88 [(59, S59)]) Try.func18 rfl rfl rfl (by show 2 ≤ 88; decide) fun c b out ho fr => ?_
  have hk := knowsX (N := 88) (l := [(59, S59)]) ⟨k59, trivial⟩
  split at ho
  case isFalse => cases ho
  rename_i hb
  obtain rfl := Option.some.inj ho
  obtain ⟨n, hnd⟩ : ∃ n, n = (b.1.length : Int) - b.2.1 := ⟨_, rfl⟩
  have hb1 := hb.1
  have hb2 := hb.2.1
  have hk1 := hb.2.2.1
  have hk2 := hb.2.2.2
  refine Sat.seqK fun zK1 zh1 zg1 => ?_
  refine Sat.regionP hk [⟨some 2, Op.box 23 (Operand.tmp 0), 0, none⟩, ⟨some 3, Op.box 30 (Operand.tmp 1), 0, none⟩, ⟨some 4, Op.assign (Operand.const (Value.int IntKind.i64 0)), 3, none⟩] (by kernel_rfl) (by kernel_rfl) ?_
  simp [-List.map_take, -List.map_drop, ← List.map_take, ← List.map_drop, Function.comp_def]
  refine zh1 _ ?_
  refine Sat.seqK fun zK2 zh2 zg2 => ?_
  refine Sat.seqK fun zK3 zh3 zg3 => ?_
  by_cases q1 : b.2.1 < 0
  · skip
    have hbad : badShape c b := .inl q1
    refine Sat.regionP hk [⟨some 8, Op.fieldAddr 30 (Operand.tmp 3) 1, 0, none⟩, ⟨some 9, Op.load 3 (Operand.tmp 8), 3, none⟩, ⟨some 10, Op.binOp BinOp.lss 3 (Operand.tmp 9) (Operand.const (Value.int IntKind.i64 0)) 3, 4, none⟩, ⟨some 11, Op.move (Operand.tmp 10), 4, none⟩, ⟨some 12, Op.fieldAddr 30 (Operand.tmp 3) 1, 0, some (11, false)⟩, ⟨some 13, Op.load 3 (Operand.tmp 12), 3, some (11, false)⟩, ⟨some 14, Op.fieldAddr 30 (Operand.tmp 3) 0, 0, some (11, false)⟩, ⟨some 15, Op.load 27 (Operand.tmp 14), 27, some (11, false)⟩, ⟨some 16, Op.call { callee := Callee.builtin Builtin.len, args := #[Operand.tmp 15], argTypes := #[27] }, 3, some (11, false)⟩, ⟨some 17, Op.binOp BinOp.geq 3 (Operand.tmp 13) (Operand.tmp 16) 3, 4, some (11, false)⟩, ⟨some 18, Op.pick (Operand.tmp 11) (Operand.const (Value.bool true)) (Operand.tmp 17), 4, none⟩, ⟨some 19, Op.move (Operand.tmp 18), 4, none⟩, ⟨some 20, Op.fieldAddr 30 (Operand.tmp 3) 0, 0, some (19, false)⟩, ⟨some 21, Op.load 27 (Operand.tmp 20), 27, some (19, false)⟩, ⟨some 22, Op.call { callee := Callee.builtin Builtin.len, args := #[Operand.tmp 21], argTypes := #[27] }, 3, some (19, false)⟩, ⟨some 23, Op.binOp BinOp.gtr 3 (Operand.tmp 22) (Operand.const (Value.int IntKind.i64 128)) 3, 4, some (19, false)⟩, ⟨some 24, Op.pick (Operand.tmp 19) (Operand.const (Value.bool true)) (Operand.tmp 23), 4, none⟩, ⟨some 25, Op.move (Operand.tmp 24), 4, none⟩, ⟨some 26, Op.fieldAddr 30 (Operand.tmp 3) 0, 0, some (25, false)⟩, ⟨some 27, Op.load 27 (Operand.tmp 26), 27, some (25, false)⟩, ⟨some 28, Op.call { callee := Callee.builtin Builtin.len, args := #[Operand.tmp 27], argTypes := #[27] }, 3, some (25, false)⟩, ⟨some 29, Op.fieldAddr 30 (Operand.tmp 3) 1, 0, some (25, false)⟩, ⟨some 30, Op.load 3 (Operand.tmp 29), 3, some (25, false)⟩, ⟨some 31, Op.binOp BinOp.sub 3 (Operand.tmp 28) (Operand.tmp 30) 3, 3, some (25, false)⟩, ⟨some 32, Op.binOp BinOp.gtr 3 (Operand.tmp 31) (Operand.const (Value.int IntKind.i64 16)) 3, 4, some (25, false)⟩, ⟨some 33, Op.pick (Operand.tmp 25) (Operand.const (Value.bool true)) (Operand.tmp 32), 4, none⟩, ⟨some 34, Op.move (Operand.tmp 33), 4, none⟩, ⟨some 35, Op.fieldAddr 30 (Operand.tmp 3) 2, 0, some (34, false)⟩, ⟨some 36, Op.load 28 (Operand.tmp 35), 28, some (34, false)⟩, ⟨some 37, Op.call { callee := Callee.builtin Builtin.len, args := #[Operand.tmp 36], argTypes := #[28] }, 3, some (34, false)⟩, ⟨some 38, Op.fieldAddr 23 (Operand.tmp 2) 4, 0, some (34, false)⟩, ⟨some 39, Op.load 3 (Operand.tmp 38), 3, some (34, false)⟩, ⟨some 40, Op.binOp BinOp.neq 3 (Operand.tmp 37) (Operand.tmp 39) 3, 4, some (34, false)⟩, ⟨some 41, Op.pick (Operand.tmp 34) (Operand.const (Value.bool true)) (Operand.tmp 40), 4, none⟩, ⟨some 42, Op.move (Operand.tmp 41), 4, none⟩, ⟨some 43, Op.fieldAddr 30 (Operand.tmp 3) 3, 0, some (42, false)⟩, ⟨some 44, Op.load 28 (Operand.tmp 43), 28, some (42, false)⟩, ⟨some 45, Op.call { callee := Callee.builtin Builtin.len, args := #[Operand.tmp 44], argTypes := #[28] }, 3, some (42, false)⟩, ⟨some 46, Op.fieldAddr 23 (Operand.tmp 2) 4, 0, some (42, false)⟩, ⟨some 47, Op.load 3 (Operand.tmp 46), 3, some (42, false)⟩, ⟨some 48, Op.binOp BinOp.neq 3 (Operand.tmp 45) (Operand.tmp 47) 3, 4, some (42, false)⟩, ⟨some 49, Op.pick (Operand.tmp 42) (Operand.const (Value.bool true)) (Operand.tmp 48), 4, none⟩] (by kernel_rfl) (by kernel_rfl) ?_
    simp [-List.map_take, -List.map_drop, ← List.map_take, ← List.map_drop, Function.comp_def, q1]
    refine zh3 _ ?_
    refine Sat.cond rfl (fun c49 => ?_) (fun c49 => ?_)
    · skip
      try simp at c49
      refine Sat.seqK fun zK4 zh4 zg4 => ?_
      refine Sat.regionP hk [⟨some 4, Op.assign (Operand.const (Value.int IntKind.i64 4)), 3, none⟩] (by kernel_rfl) (by kernel_rfl) ?_
      simp [-List.map_take, -List.map_drop, ← List.map_take, ← List.map_drop, Function.comp_def, q1]
      refine zh4 _ ?_
      refine Sat.ret ?_
      refine zg2 _ _ (by simp) ?_
      simp [-List.map_take, -List.map_drop, ← List.map_take, ← List.map_drop, Function.comp_def, q1]
      exact (chk_bad hbad).symm
    · exfalso; simp [q1] at c49
  · skip
    have hw : IntKind.i64.wrap ((b.1.length : Int) - b.2.1) = n := by rw [w64_id _ (by omega) (by omega)]; exact hnd.symm
    by_cases q2 : (b.1.length : Int) ≤ b.2.1
    · skip
      have hbad : badShape c b := .inr (.inl (by omega))
      refine Sat.regionP hk [⟨some 8, Op.fieldAddr 30 (Operand.tmp 3) 1, 0, none⟩, ⟨some 9, Op.load 3 (Operand.tmp 8), 3, none⟩, ⟨some 10, Op.binOp BinOp.lss 3 (Operand.tmp 9) (Operand.const (Value.int IntKind.i64 0)) 3, 4, none⟩, ⟨some 11, Op.move (Operand.tmp 10), 4, none⟩, ⟨some 12, Op.fieldAddr 30 (Operand.tmp 3) 1, 0, some (11, false)⟩, ⟨some 13, Op.load 3 (Operand.tmp 12), 3, some (11, false)⟩, ⟨some 14, Op.fieldAddr 30 (Operand.tmp 3) 0, 0, some (11, false)⟩, ⟨some 15, Op.load 27 (Operand.tmp 14), 27, some (11, false)⟩, ⟨some 16, Op.call { callee := Callee.builtin Builtin.len, args := #[Operand.tmp 15], argTypes := #[27] }, 3, some (11, false)⟩, ⟨some 17, Op.binOp BinOp.geq 3 (Operand.tmp 13) (Operand.tmp 16) 3, 4, some (11, false)⟩, ⟨some 18, Op.pick (Operand.tmp 11) (Operand.const (Value.bool true)) (Operand.tmp 17), 4, none⟩, ⟨some 19, Op.move (Operand.tmp 18), 4, none⟩, ⟨some 20, Op.fieldAddr 30 (Operand.tmp 3) 0, 0, some (19, false)⟩, ⟨some 21, Op.load 27 (Operand.tmp 20), 27, some (19, false)⟩, ⟨some 22, Op.call { callee := Callee.builtin Builtin.len, args := #[Operand.tmp 21], argTypes := #[27] }, 3, some (19, false)⟩, ⟨some 23, Op.binOp BinOp.gtr 3 (Operand.tmp 22) (Operand.const (Value.int IntKind.i64 128)) 3, 4, some (19, false)⟩, ⟨some 24, Op.pick (Operand.tmp 19) (Operand.const (Value.bool true)) (Operand.tmp 23), 4, none⟩, ⟨some 25, Op.move (Operand.tmp 24), 4, none⟩, ⟨some 26, Op.fieldAddr 30 (Operand.tmp 3) 0, 0, some (25, false)⟩, ⟨some 27, Op.load 27 (Operand.tmp 26), 27, some (25, false)⟩, ⟨some 28, Op.call { callee := Callee.builtin Builtin.len, args := #[Operand.tmp 27], argTypes := #[27] }, 3, some (25, false)⟩, ⟨some 29, Op.fieldAddr 30 (Operand.tmp 3) 1, 0, some (25, false)⟩, ⟨some 30, Op.load 3 (Operand.tmp 29), 3, some (25, false)⟩, ⟨some 31, Op.binOp BinOp.sub 3 (Operand.tmp 28) (Operand.tmp 30) 3, 3, some (25, false)⟩, ⟨some 32, Op.binOp BinOp.gtr 3 (Operand.tmp 31) (Operand.const (Value.int IntKind.i64 16)) 3, 4, some (25, false)⟩, ⟨some 33, Op.pick (Operand.tmp 25) (Operand.const (Value.bool true)) (Operand.tmp 32), 4, none⟩, ⟨some 34, Op.move (Operand.tmp 33), 4, none⟩, ⟨some 35, Op.fieldAddr 30 (Operand.tmp 3) 2, 0, some (34, false)⟩, ⟨some 36, Op.load 28 (Operand.tmp 35), 28, some (34, false)⟩, ⟨some 37, Op.call { callee := Callee.builtin Builtin.len, args := #[Operand.tmp 36], argTypes := #[28] }, 3, some (34, false)⟩, ⟨some 38, Op.fieldAddr 23 (Operand.tmp 2) 4, 0, some (34, false)⟩, ⟨some 39, Op.load 3 (Operand.tmp 38), 3, some (34, false)⟩, ⟨some 40, Op.binOp BinOp.neq 3 (Operand.tmp 37) (Operand.tmp 39) 3, 4, some (34, false)⟩, ⟨some 41, Op.pick (Operand.tmp 34) (Operand.const (Value.bool true)) (Operand.tmp 40), 4, none⟩, ⟨some 42, Op.move (Operand.tmp 41), 4, none⟩, ⟨some 43, Op.fieldAddr 30 (Operand.tmp 3) 3, 0, some (42, false)⟩, ⟨some 44, Op.load 28 (Operand.tmp 43), 28, some (42, false)⟩, ⟨some 45, Op.call { callee := Callee.builtin Builtin.len, args := #[Operand.tmp 44], argTypes := #[28] }, 3, some (42, false)⟩, ⟨some 46, Op.fieldAddr 23 (Operand.tmp 2) 4, 0, some (42, false)⟩, ⟨some 47, Op.load 3 (Operand.tmp 46), 3, some (42, false)⟩, ⟨some 48, Op.binOp BinOp.neq 3 (Operand.tmp 45) (Operand.tmp 47) 3, 4, some (42, false)⟩, ⟨some 49, Op.pick (Operand.tmp 42) (Operand.const (Value.bool true)) (Operand.tmp 48), 4, none⟩] (by kernel_rfl) (by kernel_rfl) ?_
      simp [-List.map_take, -List.map_drop, ← List.map_take, ← List.map_drop, Function.comp_def, q1, hw, q2]
      refine zh3 _ ?_
      refine Sat.cond rfl (fun c49 => ?_) (fun c49 => ?_)
      · skip
        try simp at c49
        refine Sat.seqK fun zK5 zh5 zg5 => ?_
        refine Sat.regionP hk [⟨some 4, Op.assign (Operand.const (Value.int IntKind.i64 4)), 3, none⟩] (by kernel_rfl) (by kernel_rfl) ?_
        simp [-List.map_take, -List.map_drop, ← List.map_take, ← List.map_drop, Function.comp_def, q1, hw, q2]
        refine zh5 _ ?_
        refine Sat.ret ?_
        refine zg2 _ _ (by simp) ?_
        simp [-List.map_take, -List.map_drop, ← List.map_take, ← List.map_drop, Function.comp_def, q1, hw, q2]
        exact (chk_bad hbad).symm
      · exfalso; simp [q1, hw, q2] at c49
    · skip
      try simp only [Classical.not_not] at q2
      by_cases q4 : 128 < (b.1.length : Int)
      · skip
        have hbad : badShape c b := .inr (.inr (.inr (.inl (by omega))))
        refine Sat.regionP hk [⟨some 8, Op.fieldAddr 30 (Operand.tmp 3) 1, 0, none⟩, ⟨some 9, Op.load 3 (Operand.tmp 8), 3, none⟩, ⟨some 10, Op.binOp BinOp.lss 3 (Operand.tmp 9) (Operand.const (Value.int IntKind.i64 0)) 3, 4, none⟩, ⟨some 11, Op.move (Operand.tmp 10), 4, none⟩, ⟨some 12, Op.fieldAddr 30 (Operand.tmp 3) 1, 0, some (11, false)⟩, ⟨some 13, Op.load 3 (Operand.tmp 12), 3, some (11, false)⟩, ⟨some 14, Op.fieldAddr 30 (Operand.tmp 3) 0, 0, some (11, false)⟩, ⟨some 15, Op.load 27 (Operand.tmp 14), 27, some (11, false)⟩, ⟨some 16, Op.call { callee := Callee.builtin Builtin.len, args := #[Operand.tmp 15], argTypes := #[27] }, 3, some (11, false)⟩, ⟨some 17, Op.binOp BinOp.geq 3 (Operand.tmp 13) (Operand.tmp 16) 3, 4, some (11, false)⟩, ⟨some 18, Op.pick (Operand.tmp 11) (Operand.const (Value.bool true)) (Operand.tmp 17), 4, none⟩, ⟨some 19, Op.move (Operand.tmp 18), 4, none⟩, ⟨some 20, Op.fieldAddr 30 (Operand.tmp 3) 0, 0, some (19, false)⟩, ⟨some 21, Op.load 27 (Operand.tmp 20), 27, some (19, false)⟩, ⟨some 22, Op.call { callee := Callee.builtin Builtin.len, args := #[Operand.tmp 21], argTypes := #[27] }, 3, some (19, false)⟩, ⟨some 23, Op.binOp BinOp.gtr 3 (Operand.tmp 22) (Operand.const (Value.int IntKind.i64 128)) 3, 4, some (19, false)⟩, ⟨some 24, Op.pick (Operand.tmp 19) (Operand.const (Value.bool true)) (Operand.tmp 23), 4, none⟩, ⟨some 25, Op.move (Operand.tmp 24), 4, none⟩, ⟨some 26, Op.fieldAddr 30 (Operand.tmp 3) 0, 0, some (25, false)⟩, ⟨some 27, Op.load 27 (Operand.tmp 26), 27, some (25, false)⟩, ⟨some 28, Op.call { callee := Callee.builtin Builtin.len, args := #[Operand.tmp 27], argTypes := #[27] }, 3, some (25, false)⟩, ⟨some 29, Op.fieldAddr 30 (Operand.tmp 3) 1, 0, some (25, false)⟩, ⟨some 30, Op.load 3 (Operand.tmp 29), 3, some (25, false)⟩, ⟨some 31, Op.binOp BinOp.sub 3 (Operand.tmp 28) (Operand.tmp 30) 3, 3, some (25, false)⟩, ⟨some 32, Op.binOp BinOp.gtr 3 (Operand.tmp 31) (Operand.const (Value.int IntKind.i64 16)) 3, 4, some (25, false)⟩, ⟨some 33, Op.pick (Operand.tmp 25) (Operand.const (Value.bool true)) (Operand.tmp 32), 4, none⟩, ⟨some 34, Op.move (Operand.tmp 33), 4, none⟩, ⟨some 35, Op.fieldAddr 30 (Operand.tmp 3) 2, 0, some (34, false)⟩, ⟨some 36, Op.load 28 (Operand.tmp 35), 28, some (34, false)⟩, ⟨some 37, Op.call { callee := Callee.builtin Builtin.len, args := #[Operand.tmp 36], argTypes := #[28] }, 3, some (34, false)⟩, ⟨some 38, Op.fieldAddr 23 (Operand.tmp 2) 4, 0, some (34, false)⟩, ⟨some 39, Op.load 3 (Operand.tmp 38), 3, some (34, false)⟩, ⟨some 40, Op.binOp BinOp.neq 3 (Operand.tmp 37) (Operand.tmp 39) 3, 4, some (34, false)⟩, ⟨some 41, Op.pick (Operand.tmp 34) (Operand.const (Value.bool true)) (Operand.tmp 40), 4, none⟩, ⟨some 42, Op.move (Operand.tmp 41), 4, none⟩, ⟨some 43, Op.fieldAddr 30 (Operand.tmp 3) 3, 0, some (42, false)⟩, ⟨some 44, Op.load 28 (Operand.tmp 43), 28, some (42, false)⟩, ⟨some 45, Op.call { callee := Callee.builtin Builtin.len, args := #[Operand.tmp 44], argTypes := #[28] }, 3, some (42, false)⟩, ⟨some 46, Op.fieldAddr 23 (Operand.tmp 2) 4, 0, some (42, false)⟩, ⟨some 47, Op.load 3 (Operand.tmp 46), 3, some (42, false)⟩, ⟨some 48, Op.binOp BinOp.neq 3 (Operand.tmp 45) (Operand.tmp 47) 3, 4, some (42, false)⟩, ⟨some 49, Op.pick (Operand.tmp 42) (Operand.const (Value.bool true)) (Operand.tmp 48), 4, none⟩] (by kernel_rfl) (by kernel_rfl) ?_
        simp [-List.map_take, -List.map_drop, ← List.map_take, ← List.map_drop, Function.comp_def, q1, hw, q2, q4]
        refine zh3 _ ?_
        refine Sat.cond rfl (fun c49 => ?_) (fun c49 => ?_)
        · skip
          try simp at c49
          refine Sat.seqK fun zK6 zh6 zg6 => ?_
          refine Sat.regionP hk [⟨some 4, Op.assign (Operand.const (Value.int IntKind.i64 4)), 3, none⟩] (by kernel_rfl) (by kernel_rfl) ?_
          simp [-List.map_take, -List.map_drop, ← List.map_take, ← List.map_drop, Function.comp_def, q1, hw, q2, q4]
          refine zh6 _ ?_
          refine Sat.ret ?_
          refine zg2 _ _ (by simp) ?_
          simp [-List.map_take, -List.map_drop, ← List.map_take, ← List.map_drop, Function.comp_def, q1, hw, q2, q4]
          exact (chk_bad hbad).symm
        · exfalso; simp [q1, hw, q2, q4] at c49
      · skip
        try simp only [Classical.not_not] at q4
        by_cases q3 : 16 < n
        · skip
          have hbad : badShape c b := .inr (.inr (.inl (by omega)))
          refine Sat.regionP hk [⟨some 8, Op.fieldAddr 30 (Operand.tmp 3) 1, 0, none⟩, ⟨some 9, Op.load 3 (Operand.tmp 8), 3, none⟩, ⟨some 10, Op.binOp BinOp.lss 3 (Operand.tmp 9) (Operand.const (Value.int IntKind.i64 0)) 3, 4, none⟩, ⟨some 11, Op.move (Operand.tmp 10), 4, none⟩, ⟨some 12, Op.fieldAddr 30 (Operand.tmp 3) 1, 0, some (11, false)⟩, ⟨some 13, Op.load 3 (Operand.tmp 12), 3, some (11, false)⟩, ⟨some 14, Op.fieldAddr 30 (Operand.tmp 3) 0, 0, some (11, false)⟩, ⟨some 15, Op.load 27 (Operand.tmp 14), 27, some (11, false)⟩, ⟨some 16, Op.call { callee := Callee.builtin Builtin.len, args := #[Operand.tmp 15], argTypes := #[27] }, 3, some (11, false)⟩, ⟨some 17, Op.binOp BinOp.geq 3 (Operand.tmp 13) (Operand.tmp 16) 3, 4, some (11, false)⟩, ⟨some 18, Op.pick (Operand.tmp 11) (Operand.const (Value.bool true)) (Operand.tmp 17), 4, none⟩, ⟨some 19, Op.move (Operand.tmp 18), 4, none⟩, ⟨some 20, Op.fieldAddr 30 (Operand.tmp 3) 0, 0, some (19, false)⟩, ⟨some 21, Op.load 27 (Operand.tmp 20), 27, some (19, false)⟩, ⟨some 22, Op.call { callee := Callee.builtin Builtin.len, args := #[Operand.tmp 21], argTypes := #[27] }, 3, some (19, false)⟩, ⟨some 23, Op.binOp BinOp.gtr 3 (Operand.tmp 22) (Operand.const (Value.int IntKind.i64 128)) 3, 4, some (19, false)⟩, ⟨some 24, Op.pick (Operand.tmp 19) (Operand.const (Value.bool true)) (Operand.tmp 23), 4, none⟩, ⟨some 25, Op.move (Operand.tmp 24), 4, none⟩, ⟨some 26, Op.fieldAddr 30 (Operand.tmp 3) 0, 0, some (25, false)⟩, ⟨some 27, Op.load 27 (Operand.tmp 26), 27, some (25, false)⟩, ⟨some 28, Op.call { callee := Callee.builtin Builtin.len, args := #[Operand.tmp 27], argTypes := #[27] }, 3, some (25, false)⟩, ⟨some 29, Op.fieldAddr 30 (Operand.tmp 3) 1, 0, some (25, false)⟩, ⟨some 30, Op.load 3 (Operand.tmp 29), 3, some (25, false)⟩, ⟨some 31, Op.binOp BinOp.sub 3 (Operand.tmp 28) (Operand.tmp 30) 3, 3, some (25, false)⟩, ⟨some 32, Op.binOp BinOp.gtr 3 (Operand.tmp 31) (Operand.const (Value.int IntKind.i64 16)) 3, 4, some (25, false)⟩, ⟨some 33, Op.pick (Operand.tmp 25) (Operand.const (Value.bool true)) (Operand.tmp 32), 4, none⟩, ⟨some 34, Op.move (Operand.tmp 33), 4, none⟩, ⟨some 35, Op.fieldAddr 30 (Operand.tmp 3) 2, 0, some (34, false)⟩, ⟨some 36, Op.load 28 (Operand.tmp 35), 28, some (34, false)⟩, ⟨some 37, Op.call { callee := Callee.builtin Builtin.len, args := #[Operand.tmp 36], argTypes := #[28] }, 3, some (34, false)⟩, ⟨some 38, Op.fieldAddr 23 (Operand.tmp 2) 4, 0, some (34, false)⟩, ⟨some 39, Op.load 3 (Operand.tmp 38), 3, some (34, false)⟩, ⟨some 40, Op.binOp BinOp.neq 3 (Operand.tmp 37) (Operand.tmp 39) 3, 4, some (34, false)⟩, ⟨some 41, Op.pick (Operand.tmp 34) (Operand.const (Value.bool true)) (Operand.tmp 40), 4, none⟩, ⟨some 42, Op.move (Operand.tmp 41), 4, none⟩, ⟨some 43, Op.fieldAddr 30 (Operand.tmp 3) 3, 0, some (42, false)⟩, ⟨some 44, Op.load 28 (Operand.tmp 43), 28, some (42, false)⟩, ⟨some 45, Op.call { callee := Callee.builtin Builtin.len, args := #[Operand.tmp 44], argTypes := #[28] }, 3, some (42, false)⟩, ⟨some 46, Op.fieldAddr 23 (Operand.tmp 2) 4, 0, some (42, false)⟩, ⟨some 47, Op.load 3 (Operand.tmp 46), 3, some (42, false)⟩, ⟨some 48, Op.binOp BinOp.neq 3 (Operand.tmp 45) (Operand.tmp 47) 3, 4, some (42, false)⟩, ⟨some 49, Op.pick (Operand.tmp 42) (Operand.const (Value.bool true)) (Operand.tmp 48), 4, none⟩] (by kernel_rfl) (by kernel_rfl) ?_
          simp [-List.map_take, -List.map_drop, ← List.map_take, ← List.map_drop, Function.comp_def, q1, hw, q2, q4, q3]
          refine zh3 _ ?_
          refine Sat.cond rfl (fun c49 => ?_) (fun c49 => ?_)
          · skip
            try simp at c49
            refine Sat.seqK fun zK7 zh7 zg7 => ?_
            refine Sat.regionP hk [⟨some 4, Op.assign (Operand.const (Value.int IntKind.i64 4)), 3, none⟩] (by kernel_rfl) (by kernel_rfl) ?_
            simp [-List.map_take, -List.map_drop, ← List.map_take, ← List.map_drop, Function.comp_def, q1, hw, q2, q4, q3]
            refine zh7 _ ?_
            refine Sat.ret ?_
            refine zg2 _ _ (by simp) ?_
            simp [-List.map_take, -List.map_drop, ← List.map_take, ← List.map_drop, Function.comp_def, q1, hw, q2, q4, q3]
            exact (chk_bad hbad).symm
          · exfalso; simp [q1, hw, q2, q4, q3] at c49
        · skip
          try simp only [Classical.not_not] at q3
          by_cases q5 : ¬ (b.2.2.1.length : Int) = c.2.2.2.2
          · skip
            have hbad : badShape c b := .inr (.inr (.inr (.inr (.inl q5))))
            refine Sat.regionP hk [⟨some 8, Op.fieldAddr 30 (Operand.tmp 3) 1, 0, none⟩, ⟨some 9, Op.load 3 (Operand.tmp 8), 3, none⟩, ⟨some 10, Op.binOp BinOp.lss 3 (Operand.tmp 9) (Operand.const (Value.int IntKind.i64 0)) 3, 4, none⟩, ⟨some 11, Op.move (Operand.tmp 10), 4, none⟩, ⟨some 12, Op.fieldAddr 30 (Operand.tmp 3) 1, 0, some (11, false)⟩, ⟨some 13, Op.load 3 (Operand.tmp 12), 3, some (11, false)⟩, ⟨some 14, Op.fieldAddr 30 (Operand.tmp 3) 0, 0, some (11, false)⟩, ⟨some 15, Op.load 27 (Operand.tmp 14), 27, some (11, false)⟩, ⟨some 16, Op.call { callee := Callee.builtin Builtin.len, args := #[Operand.tmp 15], argTypes := #[27] }, 3, some (11, false)⟩, ⟨some 17, Op.binOp BinOp.geq 3 (Operand.tmp 13) (Operand.tmp 16) 3, 4, some (11, false)⟩, ⟨some 18, Op.pick (Operand.tmp 11) (Operand.const (Value.bool true)) (Operand.tmp 17), 4, none⟩, ⟨some 19, Op.move (Operand.tmp 18), 4, none⟩, ⟨some 20, Op.fieldAddr 30 (Operand.tmp 3) 0, 0, some (19, false)⟩, ⟨some 21, Op.load 27 (Operand.tmp 20), 27, some (19, false)⟩, ⟨some 22, Op.call { callee := Callee.builtin Builtin.len, args := #[Operand.tmp 21], argTypes := #[27] }, 3, some (19, false)⟩, ⟨some 23, Op.binOp BinOp.gtr 3 (Operand.tmp 22) (Operand.const (Value.int IntKind.i64 128)) 3, 4, some (19, false)⟩, ⟨some 24, Op.pick (Operand.tmp 19) (Operand.const (Value.bool true)) (Operand.tmp 23), 4, none⟩, ⟨some 25, Op.move (Operand.tmp 24), 4, none⟩, ⟨some 26, Op.fieldAddr 30 (Operand.tmp 3) 0, 0, some (25, false)⟩, ⟨some 27, Op.load 27 (Operand.tmp 26), 27, some (25, false)⟩, ⟨some 28, Op.call { callee := Callee.builtin Builtin.len, args := #[Operand.tmp 27], argTypes := #[27] }, 3, some (25, false)⟩, ⟨some 29, Op.fieldAddr 30 (Operand.tmp 3) 1, 0, some (25, false)⟩, ⟨some 30, Op.load 3 (Operand.tmp 29), 3, some (25, false)⟩, ⟨some 31, Op.binOp BinOp.sub 3 (Operand.tmp 28) (Operand.tmp 30) 3, 3, some (25, false)⟩, ⟨some 32, Op.binOp BinOp.gtr 3 (Operand.tmp 31) (Operand.const (Value.int IntKind.i64 16)) 3, 4, some (25, false)⟩, ⟨some 33, Op.pick (Operand.tmp 25) (Operand.const (Value.bool true)) (Operand.tmp 32), 4, none⟩, ⟨some 34, Op.move (Operand.tmp 33), 4, none⟩, ⟨some 35, Op.fieldAddr 30 (Operand.tmp 3) 2, 0, some (34, false)⟩, ⟨some 36, Op.load 28 (Operand.tmp 35), 28, some (34, false)⟩, ⟨some 37, Op.call { callee := Callee.builtin Builtin.len, args := #[Operand.tmp 36], argTypes := #[28] }, 3, some (34, false)⟩, ⟨some 38, Op.fieldAddr 23 (Operand.tmp 2) 4, 0, some (34, false)⟩, ⟨some 39, Op.load 3 (Operand.tmp 38), 3, some (34, false)⟩, ⟨some 40, Op.binOp BinOp.neq 3 (Operand.tmp 37) (Operand.tmp 39) 3, 4, some (34, false)⟩, ⟨some 41, Op.pick (Operand.tmp 34) (Operand.const (Value.bool true)) (Operand.tmp 40), 4, none⟩, ⟨some 42, Op.move (Operand.tmp 41), 4, none⟩, ⟨some 43, Op.fieldAddr 30 (Operand.tmp 3) 3, 0, some (42, false)⟩, ⟨some 44, Op.load 28 (Operand.tmp 43), 28, some (42, false)⟩, ⟨some 45, Op.call { callee := Callee.builtin Builtin.len, args := #[Operand.tmp 44], argTypes := #[28] }, 3, some (42, false)⟩, ⟨some 46, Op.fieldAddr 23 (Operand.tmp 2) 4, 0, some (42, false)⟩, ⟨some 47, Op.load 3 (Operand.tmp 46), 3, some (42, false)⟩, ⟨some 48, Op.binOp BinOp.neq 3 (Operand.tmp 45) (Operand.tmp 47) 3, 4, some (42, false)⟩, ⟨some 49, Op.pick (Operand.tmp 42) (Operand.const (Value.bool true)) (Operand.tmp 48), 4, none⟩] (by kernel_rfl) (by kernel_rfl) ?_
            simp [-List.map_take, -List.map_drop, ← List.map_take, ← List.map_drop, Function.comp_def, q1, hw, q2, q4, q3, q5]
            refine zh3 _ ?_
            refine Sat.cond rfl (fun c49 => ?_) (fun c49 => ?_)
            · skip
              try simp at c49
              refine Sat.seqK fun zK8 zh8 zg8 => ?_
              refine Sat.regionP hk [⟨some 4, Op.assign (Operand.const (Value.int IntKind.i64 4)), 3, none⟩] (by kernel_rfl) (by kernel_rfl) ?_
              simp [-List.map_take, -List.map_drop, ← List.map_take, ← List.map_drop, Function.comp_def, q1, hw, q2, q4, q3, q5]
              refine zh8 _ ?_
              refine Sat.ret ?_
              refine zg2 _ _ (by simp) ?_
              simp [-List.map_take, -List.map_drop, ← List.map_take, ← List.map_drop, Function.comp_def, q1, hw, q2, q4, q3, q5]
              exact (chk_bad hbad).symm
            · exfalso; simp [q1, hw, q2, q4, q3, q5] at c49
          · skip
            try simp only [Classical.not_not] at q5
            by_cases q6 : ¬ (b.2.2.2.length : Int) = c.2.2.2.2
            · skip
              have hbad : badShape c b := .inr (.inr (.inr (.inr (.inr q6))))
              refine Sat.regionP hk [⟨some 8, Op.fieldAddr 30 (Operand.tmp 3) 1, 0, none⟩, ⟨some 9, Op.load 3 (Operand.tmp 8), 3, none⟩, ⟨some 10, Op.binOp BinOp.lss 3 (Operand.tmp 9) (Operand.const (Value.int IntKind.i64 0)) 3, 4, none⟩, ⟨some 11, Op.move (Operand.tmp 10), 4, none⟩, ⟨some 12, Op.fieldAddr 30 (Operand.tmp 3) 1, 0, some (11, false)⟩, ⟨some 13, Op.load 3 (Operand.tmp 12), 3, some (11, false)⟩, ⟨some 14, Op.fieldAddr 30 (Operand.tmp 3) 0, 0, some (11, false)⟩, ⟨some 15, Op.load 27 (Operand.tmp 14), 27, some (11, false)⟩, ⟨some 16, Op.call { callee := Callee.builtin Builtin.len, args := #[Operand.tmp 15], argTypes := #[27] }, 3, some (11, false)⟩, ⟨some 17, Op.binOp BinOp.geq 3 (Operand.tmp 13) (Operand.tmp 16) 3, 4, some (11, false)⟩, ⟨some 18, Op.pick (Operand.tmp 11) (Operand.const (Value.bool true)) (Operand.tmp 17), 4, none⟩, ⟨some 19, Op.move (Operand.tmp 18), 4, none⟩, ⟨some 20, Op.fieldAddr 30 (Operand.tmp 3) 0, 0, some (19, false)⟩, ⟨some 21, Op.load 27 (Operand.tmp 20), 27, some (19, false)⟩, ⟨some 22, Op.call { callee := Callee.builtin Builtin.len, args := #[Operand.tmp 21], argTypes := #[27] }, 3, some (19, false)⟩, ⟨some 23, Op.binOp BinOp.gtr 3 (Operand.tmp 22) (Operand.const (Value.int IntKind.i64 128)) 3, 4, some (19, false)⟩, ⟨some 24, Op.pick (Operand.tmp 19) (Operand.const (Value.bool true)) (Operand.tmp 23), 4, none⟩, ⟨some 25, Op.move (Operand.tmp 24), 4, none⟩, ⟨some 26, Op.fieldAddr 30 (Operand.tmp 3) 0, 0, some (25, false)⟩, ⟨some 27, Op.load 27 (Operand.tmp 26), 27, some (25, false)⟩, ⟨some 28, Op.call { callee := Callee.builtin Builtin.len, args := #[Operand.tmp 27], argTypes := #[27] }, 3, some (25, false)⟩, ⟨some 29, Op.fieldAddr 30 (Operand.tmp 3) 1, 0, some (25, false)⟩, ⟨some 30, Op.load 3 (Operand.tmp 29), 3, some (25, false)⟩, ⟨some 31, Op.binOp BinOp.sub 3 (Operand.tmp 28) (Operand.tmp 30) 3, 3, some (25, false)⟩, ⟨some 32, Op.binOp BinOp.gtr 3 (Operand.tmp 31) (Operand.const (Value.int IntKind.i64 16)) 3, 4, some (25, false)⟩, ⟨some 33, Op.pick (Operand.tmp 25) (Operand.const (Value.bool true)) (Operand.tmp 32), 4, none⟩, ⟨some 34, Op.move (Operand.tmp 33), 4, none⟩, ⟨some 35, Op.fieldAddr 30 (Operand.tmp 3) 2, 0, some (34, false)⟩, ⟨some 36, Op.load 28 (Operand.tmp 35), 28, some (34, false)⟩, ⟨some 37, Op.call { callee := Callee.builtin Builtin.len, args := #[Operand.tmp 36], argTypes := #[28] }, 3, some (34, false)⟩, ⟨some 38, Op.fieldAddr 23 (Operand.tmp 2) 4, 0, some (34, false)⟩, ⟨some 39, Op.load 3 (Operand.tmp 38), 3, some (34, false)⟩, ⟨some 40, Op.binOp BinOp.neq 3 (Operand.tmp 37) (Operand.tmp 39) 3, 4, some (34, false)⟩, ⟨some 41, Op.pick (Operand.tmp 34) (Operand.const (Value.bool true)) (Operand.tmp 40), 4, none⟩, ⟨some 42, Op.move (Operand.tmp 41), 4, none⟩, ⟨some 43, Op.fieldAddr 30 (Operand.tmp 3) 3, 0, some (42, false)⟩, ⟨some 44, Op.load 28 (Operand.tmp 43), 28, some (42, false)⟩, ⟨some 45, Op.call { callee := Callee.builtin Builtin.len, args := #[Operand.tmp 44], argTypes := #[28] }, 3, some (42, false)⟩, ⟨some 46, Op.fieldAddr 23 (Operand.tmp 2) 4, 0, some (42, false)⟩, ⟨some 47, Op.load 3 (Operand.tmp 46), 3, some (42, false)⟩, ⟨some 48, Op.binOp BinOp.neq 3 (Operand.tmp 45) (Operand.tmp 47) 3, 4, some (42, false)⟩, ⟨some 49, Op.pick (Operand.tmp 42) (Operand.const (Value.bool true)) (Operand.tmp 48), 4, none⟩] (by kernel_rfl) (by kernel_rfl) ?_
              simp [-List.map_take, -List.map_drop, ← List.map_take, ← List.map_drop, Function.comp_def, q1, hw, q2, q4, q3, q5, q6]
              refine zh3 _ ?_
              refine Sat.cond rfl (fun c49 => ?_) (fun c49 => ?_)
              · skip
                try simp at c49
                refine Sat.seqK fun zK9 zh9 zg9 => ?_
                refine Sat.regionP hk [⟨some 4, Op.assign (Operand.const (Value.int IntKind.i64 4)), 3, none⟩] (by kernel_rfl) (by kernel_rfl) ?_
                simp [-List.map_take, -List.map_drop, ← List.map_take, ← List.map_drop, Function.comp_def, q1, hw, q2, q4, q3, q5, q6]
                refine zh9 _ ?_
                refine Sat.ret ?_
                refine zg2 _ _ (by simp) ?_
                simp [-List.map_take, -List.map_drop, ← List.map_take, ← List.map_drop, Function.comp_def, q1, hw, q2, q4, q3, q5, q6]
                exact (chk_bad hbad).symm
              · exfalso; simp [q1, hw, q2, q4, q3, q5, q6] at c49
            · skip
              try simp only [Classical.not_not] at q6
              have hgood : ¬ badShape c b := by unfold badShape; omega
              refine Sat.regionP hk [⟨some 8, Op.fieldAddr 30 (Operand.tmp 3) 1, 0, none⟩, ⟨some 9, Op.load 3 (Operand.tmp 8), 3, none⟩, ⟨some 10, Op.binOp BinOp.lss 3 (Operand.tmp 9) (Operand.const (Value.int IntKind.i64 0)) 3, 4, none⟩, ⟨some 11, Op.move (Operand.tmp 10), 4, none⟩, ⟨some 12, Op.fieldAddr 30 (Operand.tmp 3) 1, 0, some (11, false)⟩, ⟨some 13, Op.load 3 (Operand.tmp 12), 3, some (11, false)⟩, ⟨some 14, Op.fieldAddr 30 (Operand.tmp 3) 0, 0, some (11, false)⟩, ⟨some 15, Op.load 27 (Operand.tmp 14), 27, some (11, false)⟩, ⟨some 16, Op.call { callee := Callee.builtin Builtin.len, args := #[Operand.tmp 15], argTypes := #[27] }, 3, some (11, false)⟩, ⟨some 17, Op.binOp BinOp.geq 3 (Operand.tmp 13) (Operand.tmp 16) 3, 4, some (11, false)⟩, ⟨some 18, Op.pick (Operand.tmp 11) (Operand.const (Value.bool true)) (Operand.tmp 17), 4, none⟩, ⟨some 19, Op.move (Operand.tmp 18), 4, none⟩, ⟨some 20, Op.fieldAddr 30 (Operand.tmp 3) 0, 0, some (19, false)⟩, ⟨some 21, Op.load 27 (Operand.tmp 20), 27, some (19, false)⟩, ⟨some 22, Op.call { callee := Callee.builtin Builtin.len, args := #[Operand.tmp 21], argTypes := #[27] }, 3, some (19, false)⟩, ⟨some 23, Op.binOp BinOp.gtr 3 (Operand.tmp 22) (Operand.const (Value.int IntKind.i64 128)) 3, 4, some (19, false)⟩, ⟨some 24, Op.pick (Operand.tmp 19) (Operand.const (Value.bool true)) (Operand.tmp 23), 4, none⟩, ⟨some 25, Op.move (Operand.tmp 24), 4, none⟩, ⟨some 26, Op.fieldAddr 30 (Operand.tmp 3) 0, 0, some (25, false)⟩, ⟨some 27, Op.load 27 (Operand.tmp 26), 27, some (25, false)⟩, ⟨some 28, Op.call { callee := Callee.builtin Builtin.len, args := #[Operand.tmp 27], argTypes := #[27] }, 3, some (25, false)⟩, ⟨some 29, Op.fieldAddr 30 (Operand.tmp 3) 1, 0, some (25, false)⟩, ⟨some 30, Op.load 3 (Operand.tmp 29), 3, some (25, false)⟩, ⟨some 31, Op.binOp BinOp.sub 3 (Operand.tmp 28) (Operand.tmp 30) 3, 3, some (25, false)⟩, ⟨some 32, Op.binOp BinOp.gtr 3 (Operand.tmp 31) (Operand.const (Value.int IntKind.i64 16)) 3, 4, some (25, false)⟩, ⟨some 33, Op.pick (Operand.tmp 25) (Operand.const (Value.bool true)) (Operand.tmp 32), 4, none⟩, ⟨some 34, Op.move (Operand.tmp 33), 4, none⟩, ⟨some 35, Op.fieldAddr 30 (Operand.tmp 3) 2, 0, some (34, false)⟩, ⟨some 36, Op.load 28 (Operand.tmp 35), 28, some (34, false)⟩, ⟨some 37, Op.call { callee := Callee.builtin Builtin.len, args := #[Operand.tmp 36], argTypes := #[28] }, 3, some (34, false)⟩, ⟨some 38, Op.fieldAddr 23 (Operand.tmp 2) 4, 0, some (34, false)⟩, ⟨some 39, Op.load 3 (Operand.tmp 38), 3, some (34, false)⟩, ⟨some 40, Op.binOp BinOp.neq 3 (Operand.tmp 37) (Operand.tmp 39) 3, 4, some (34, false)⟩, ⟨some 41, Op.pick (Operand.tmp 34) (Operand.const (Value.bool true)) (Operand.tmp 40), 4, none⟩, ⟨some 42, Op.move (Operand.tmp 41), 4, none⟩, ⟨some 43, Op.fieldAddr 30 (Operand.tmp 3) 3, 0, some (42, false)⟩, ⟨some 44, Op.load 28 (Operand.tmp 43), 28, some (42, false)⟩, ⟨some 45, Op.call { callee := Callee.builtin Builtin.len, args := #[Operand.tmp 44], argTypes := #[28] }, 3, some (42, false)⟩, ⟨some 46, Op.fieldAddr 23 (Operand.tmp 2) 4, 0, some (42, false)⟩, ⟨some 47, Op.load 3 (Operand.tmp 46), 3, some (42, false)⟩, ⟨some 48, Op.binOp BinOp.neq 3 (Operand.tmp 45) (Operand.tmp 47) 3, 4, some (42, false)⟩, ⟨some 49, Op.pick (Operand.tmp 42) (Operand.const (Value.bool true)) (Operand.tmp 48), 4, none⟩] (by kernel_rfl) (by kernel_rfl) ?_
              simp [-List.map_take, -List.map_drop, ← List.map_take, ← List.map_drop, Function.comp_def, q1, hw, q2, q4, q3, q5, q6]
              refine zh3 _ ?_
              refine Sat.cond rfl (fun c49 => ?_) (fun c49 => ?_)
              · exfalso; simp [q1, hw, q2, q4, q3, q5, q6] at c49
              · skip
                try simp at c49
                refine Sat.skip ?_
                refine zh2 _ ?_
                refine Sat.seqK fun zK10 zh10 zg10 => ?_
                refine Sat.seqK fun zK11 zh11 zg11 => ?_
                refine Sat.regionP hk [⟨some 50, Op.fieldAddr 30 (Operand.tmp 3) 0, 0, none⟩, ⟨some 51, Op.load 27 (Operand.tmp 50), 27, none⟩, ⟨some 52, Op.call { callee := Callee.builtin Builtin.len, args := #[Operand.tmp 51], argTypes := #[27] }, 3, none⟩, ⟨some 53, Op.move (Operand.const (Value.int IntKind.i64 0)), 3, none⟩] (by kernel_rfl) (by kernel_rfl) ?_
                simp [-List.map_take, -List.map_drop, ← List.map_take, ← List.map_drop, Function.comp_def, q1, hw, q2, q4, q3, q5, q6]
                refine zh11 _ ?_
                refine Sat.loopK (E := ⟨_, _, _⟩) [2, 3, 51, 52] [] [128, 192] ⟨by first | (simp [keepS, q1, hw, q2, q4, q3, q5, q6]; done) | (simp [keepS, q1, hw, q2, q4, q3, q5, q6]; rfl), by first | (simp [keepO, q1, hw, q2, q4, q3, q5, q6]; done) | (simp [keepO, q1, hw, q2, q4, q3, q5, q6]; rfl), by first | (simp [keepB, q1, hw, q2, q4, q3, q5, q6]; done) | (simp [keepB, q1, hw, q2, q4, q3, q5, q6]; rfl)⟩ (zh10) (fun (j : Nat) => (⟨[(53, num j)], [], []⟩ : Ds)) (fun (j : Nat) => j ≤ b.1.length ∧ (b.1.take j).any (badTok c) = false) (fun (j : Nat) => b.1.any (badTok c) = false) (fun (j : Nat) => b.1.length - j) 0 ?_ ?_ ?_ ?_
                · simp
                · exact ⟨by simp [FitL, q1, hw, q2, q4, q3, q5, q6], by simp [FitL, q1, hw, q2, q4, q3, q5, q6], by simp [FitL, q1, hw, q2, q4, q3, q5, q6]⟩
                · rintro j hP0 zo12 zb12 zp12 zq12 zK12 zn12 zx12 zg12
                  try dsimp only [Ds.app, Ds.st, List.cons_append, List.nil_append] at hP0 ⊢
                  refine Sat.seqK fun zK13 zh13 zg13 => ?_
                  refine Sat.regionP hk [⟨some 54, Op.binOp BinOp.lss 3 (Operand.tmp 53) (Operand.tmp 52) 3, 0, none⟩] (by kernel_rfl) (by kernel_rfl) ?_
                  simp [-List.map_take, -List.map_drop, ← List.map_take, ← List.map_drop, Function.comp_def, q1, hw, q2, q4, q3, q5, q6, zp12.st, zq12.st]
                  refine zh13 _ ?_
                  refine Sat.seqK fun zK14 zh14 zg14 => ?_
                  refine Sat.cond rfl (fun c54 => ?_) (fun c54 => ?_)
                  · skip
                    try simp at c54
                    obtain ⟨x, hx⟩ : ∃ z, b.1[j]? = some z := ⟨b.1[j], List.getElem?_eq_getElem c54⟩
                    refine Sat.skip ?_
                    refine zh14 _ ?_
                    refine Sat.seqK fun zK15 zh15 zg15 => ?_
                    refine Sat.blockK fun zK16 zh16 zx16 zg16 => ?_
                    refine Sat.seqK fun zK17 zh17 zg17 => ?_
                    refine Sat.regionP hk [⟨some 55, Op.indexAddr 27 (Operand.tmp 51) (Operand.tmp 53), 0, none⟩, ⟨some 56, Op.load 3 (Operand.tmp 55), 3, none⟩, ⟨some 6, Op.assign (Operand.tmp 56), 3, none⟩] (by kernel_rfl) (by kernel_rfl) ?_
                    simp [-List.map_take, -List.map_drop, ← List.map_take, ← List.map_drop, Function.comp_def, q1, hw, q2, q4, q3, q5, q6, zp12.st, zq12.st, take1 hx, c54]
                    refine zh17 _ ?_
                    refine Sat.seqK fun zK18 zh18 zg18 => ?_
                    by_cases q7 : x < 0
                    · skip
                      refine Sat.regionP hk [⟨some 57, Op.move (Operand.tmp 6), 3, none⟩, ⟨some 58, Op.binOp BinOp.lss 3 (Operand.tmp 57) (Operand.const (Value.int IntKind.i64 0)) 3, 4, none⟩, ⟨some 59, Op.move (Operand.tmp 58), 4, none⟩, ⟨some 60, Op.move (Operand.tmp 6), 3, some (59, false)⟩, ⟨some 61, Op.fieldAddr 23 (Operand.tmp 2) 0, 0, some (59, false)⟩, ⟨some 62, Op.load 3 (Operand.tmp 61), 3, some (59, false)⟩, ⟨some 63, Op.binOp BinOp.geq 3 (Operand.tmp 60) (Operand.tmp 62) 3, 4, some (59, false)⟩, ⟨some 64, Op.pick (Operand.tmp 59) (Operand.const (Value.bool true)) (Operand.tmp 63), 4, none⟩] (by kernel_rfl) (by kernel_rfl) ?_
                      simp [-List.map_take, -List.map_drop, ← List.map_take, ← List.map_drop, Function.comp_def, q1, hw, q2, q4, q3, q5, q6, zp12.st, zq12.st, take1 hx, c54, q7]
                      refine zh18 _ ?_
                      refine Sat.cond rfl (fun c64 => ?_) (fun c64 => ?_)
                      · skip
                        try simp at c64
                        refine Sat.seqK fun zK19 zh19 zg19 => ?_
                        refine Sat.regionP hk [⟨some 4, Op.assign (Operand.const (Value.int IntKind.i64 7)), 3, none⟩] (by kernel_rfl) (by kernel_rfl) ?_
                        simp [-List.map_take, -List.map_drop, ← List.map_take, ← List.map_drop, Function.comp_def, q1, hw, q2, q4, q3, q5, q6, zp12.st, zq12.st, take1 hx, c54, q7]
                        refine zh19 _ ?_
                        refine Sat.ret ?_
                        refine zg16 _ _ (by simp) (by simp) ?_
                        refine zg15 _ _ (by simp) ?_
                        refine zg12 _ _ (by simp) (by simp) ?_
                        refine zg10 _ _ (by simp) ?_
                        simp [-List.map_take, -List.map_drop, ← List.map_take, ← List.map_drop, Function.comp_def, q1, hw, q2, q4, q3, q5, q6, zp12.st, zq12.st, take1 hx, c54, q7]
                        exact (chk_tok hgood hx (.inl q7)).symm
                      · exfalso; simp [q1, hw, q2, q4, q3, q5, q6, zp12.st, zq12.st, take1 hx, c54, q7] at c64
                    · skip
                      refine Sat.regionP hk [⟨some 57, Op.move (Operand.tmp 6), 3, none⟩, ⟨some 58, Op.binOp BinOp.lss 3 (Operand.tmp 57) (Operand.const (Value.int IntKind.i64 0)) 3, 4, none⟩, ⟨some 59, Op.move (Operand.tmp 58), 4, none⟩, ⟨some 60, Op.move (Operand.tmp 6), 3, some (59, false)⟩, ⟨some 61, Op.fieldAddr 23 (Operand.tmp 2) 0, 0, some (59, false)⟩, ⟨some 62, Op.load 3 (Operand.tmp 61), 3, some (59, false)⟩, ⟨some 63, Op.binOp BinOp.geq 3 (Operand.tmp 60) (Operand.tmp 62) 3, 4, some (59, false)⟩, ⟨some 64, Op.pick (Operand.tmp 59) (Operand.const (Value.bool true)) (Operand.tmp 63), 4, none⟩] (by kernel_rfl) (by kernel_rfl) ?_
                      simp [-List.map_take, -List.map_drop, ← List.map_take, ← List.map_drop, Function.comp_def, q1, hw, q2, q4, q3, q5, q6, zp12.st, zq12.st, take1 hx, c54, q7]
                      refine zh18 _ ?_
                      refine Sat.cond rfl (fun c64 => ?_) (fun c64 => ?_)
                      · skip
                        try simp at c64
                        refine Sat.seqK fun zK20 zh20 zg20 => ?_
                        refine Sat.regionP hk [⟨some 4, Op.assign (Operand.const (Value.int IntKind.i64 7)), 3, none⟩] (by kernel_rfl) (by kernel_rfl) ?_
                        simp [-List.map_take, -List.map_drop, ← List.map_take, ← List.map_drop, Function.comp_def, q1, hw, q2, q4, q3, q5, q6, zp12.st, zq12.st, take1 hx, c54, q7]
                        refine zh20 _ ?_
                        refine Sat.ret ?_
                        refine zg16 _ _ (by simp) (by simp) ?_
                        refine zg15 _ _ (by simp) ?_
                        refine zg12 _ _ (by simp) (by simp) ?_
                        refine zg10 _ _ (by simp) ?_
                        simp [-List.map_take, -List.map_drop, ← List.map_take, ← List.map_drop, Function.comp_def, q1, hw, q2, q4, q3, q5, q6, zp12.st, zq12.st, take1 hx, c54, q7]
                        exact (chk_tok hgood hx (.inr c64)).symm
                      · skip
                        try simp at c64
                        have hxg : badTok c x = false := by simp [badTok]; omega
                        refine Sat.skip ?_
                        refine zh16 _ ?_
                        refine zh15 _ ?_
                        refine Sat.regionP hk [⟨some 65, Op.binOp BinOp.add 3 (Operand.tmp 53) (Operand.const (Value.int IntKind.i64 1)) 3, 3, none⟩, ⟨some 53, Op.move (Operand.tmp 65), 3, none⟩] (by kernel_rfl) (by kernel_rfl) ?_
                        simp [-List.map_take, -List.map_drop, ← List.map_take, ← List.map_drop, Function.comp_def, q1, hw, q2, q4, q3, q5, q6, zp12.st, zq12.st, take1 hx, c54, q7]
                        refine zn12 (j + 1) _ ?_ ?_ ?_ ?_
                        · exact ⟨by omega, by rw [any_take_succ hx, hP0.2, hxg]; rfl⟩
                        · first | omega | (dsimp only; omega)
                        · exact ⟨by simp [-List.map_take, -List.map_drop, ← List.map_take, ← List.map_drop, Function.comp_def, FitL, q1, hw, q2, q4, q3, q5, q6, zp12.st, zq12.st, take1 hx, c54, q7, w64s j (by omega)], by simp [-List.map_take, -List.map_drop, ← List.map_take, ← List.map_drop, Function.comp_def, FitL, q1, hw, q2, q4, q3, q5, q6, zp12.st, zq12.st, take1 hx, c54, q7, w64s j (by omega)], by simp [-List.map_take, -List.map_drop, ← List.map_take, ← List.map_drop, Function.comp_def, FitL, q1, hw, q2, q4, q3, q5, q6, zp12.st, zq12.st, take1 hx, c54, q7, w64s j (by omega)]⟩
                        · exact ⟨by simp [-List.map_take, -List.map_drop, ← List.map_take, ← List.map_drop, Function.comp_def, FitL, q1, hw, q2, q4, q3, q5, q6, zp12.st, zq12.st, take1 hx, c54, q7, w64s j (by omega)], by simp [-List.map_take, -List.map_drop, ← List.map_take, ← List.map_drop, Function.comp_def, FitL, q1, hw, q2, q4, q3, q5, q6, zp12.st, zq12.st, take1 hx, c54, q7, w64s j (by omega)], by simp [-List.map_take, -List.map_drop, ← List.map_take, ← List.map_drop, Function.comp_def, FitL, q1, hw, q2, q4, q3, q5, q6, zp12.st, zq12.st, take1 hx, c54, q7, w64s j (by omega)]⟩
                  · skip
                    try simp at c54
                    refine Sat.exit ?_
                    refine zg14 _ _ (by simp) ?_
                    refine zx12 j _ ?_ ?_ ?_
                    · have e1 : j = b.1.length := by omega
                      subst e1; simpa using hP0.2
                    · exact ⟨by simp [-List.map_take, -List.map_drop, ← List.map_take, ← List.map_drop, Function.comp_def, FitL, q1, hw, q2, q4, q3, q5, q6, zp12.st, zq12.st], by simp [-List.map_take, -List.map_drop, ← List.map_take, ← List.map_drop, Function.comp_def, FitL, q1, hw, q2, q4, q3, q5, q6, zp12.st, zq12.st], by simp [-List.map_take, -List.map_drop, ← List.map_take, ← List.map_drop, Function.comp_def, FitL, q1, hw, q2, q4, q3, q5, q6, zp12.st, zq12.st]⟩
                    · exact ⟨by simp [-List.map_take, -List.map_drop, ← List.map_take, ← List.map_drop, Function.comp_def, FitL, q1, hw, q2, q4, q3, q5, q6, zp12.st, zq12.st], by simp [-List.map_take, -List.map_drop, ← List.map_take, ← List.map_drop, Function.comp_def, FitL, q1, hw, q2, q4, q3, q5, q6, zp12.st, zq12.st], by simp [-List.map_take, -List.map_drop, ← List.map_take, ← List.map_drop, Function.comp_def, FitL, q1, hw, q2, q4, q3, q5, q6, zp12.st, zq12.st]⟩
                · rintro j hR0 zo12 zb12 zp12 zq12
                  try dsimp only [Ds.app, Ds.st, List.cons_append, List.nil_append] at hR0 ⊢
                  have htok := hR0
                  refine Sat.seqK fun zK21 zh21 zg21 => ?_
                  refine Sat.regionP hk [⟨some 66, Op.fieldAddr 30 (Operand.tmp 3) 0, 0, none⟩, ⟨some 67, Op.load 27 (Operand.tmp 66), 27, none⟩, ⟨some 68, Op.call { callee := Callee.builtin Builtin.len, args := #[Operand.tmp 67], argTypes := #[27] }, 3, none⟩, ⟨some 69, Op.fieldAddr 30 (Operand.tmp 3) 1, 0, none⟩, ⟨some 70, Op.load 3 (Operand.tmp 69), 3, none⟩, ⟨some 71, Op.binOp BinOp.sub 3 (Operand.tmp 68) (Operand.tmp 70) 3, 3, none⟩, ⟨some 7, Op.assign (Operand.tmp 71), 3, none⟩] (by kernel_rfl) (by kernel_rfl) ?_
                  simp [-List.map_take, -List.map_drop, ← List.map_take, ← List.map_drop, Function.comp_def, q1, hw, q2, q4, q3, q5, q6, zp12.st, zq12.st]
                  refine zh21 _ ?_
                  refine Sat.seqK fun zK22 zh22 zg22 => ?_
                  refine Sat.seqK fun zK23 zh23 zg23 => ?_
                  cases q8 : okLists n c.2.1 b.2.2.1
                  · skip
                    refine Sat.regionP hk [⟨some 72, Op.fieldAddr 30 (Operand.tmp 3) 2, 0, none⟩, ⟨some 73, Op.load 28 (Operand.tmp 72), 28, none⟩, ⟨some 74, Op.move (Operand.tmp 7), 3, none⟩, ⟨some 75, Op.fieldAddr 23 (Operand.tmp 2) 1, 0, none⟩, ⟨some 76, Op.load 3 (Operand.tmp 75), 3, none⟩, ⟨some 77, Op.call { callee := Callee.value (Operand.func 59), args := #[Operand.tmp 73, Operand.tmp 74, Operand.tmp 76], argTypes := #[28, 3, 3] }, 4, none⟩, ⟨some 78, Op.unOp UnOp.not 4 (Operand.tmp 77), 4, none⟩, ⟨some 79, Op.move (Operand.tmp 78), 4, none⟩, ⟨some 80, Op.fieldAddr 30 (Operand.tmp 3) 3, 0, some (79, false)⟩, ⟨some 81, Op.load 28 (Operand.tmp 80), 28, some (79, false)⟩, ⟨some 82, Op.move (Operand.tmp 7), 3, some (79, false)⟩, ⟨some 83, Op.fieldAddr 23 (Operand.tmp 2) 1, 0, some (79, false)⟩, ⟨some 84, Op.load 3 (Operand.tmp 83), 3, some (79, false)⟩, ⟨some 85, Op.call { callee := Callee.value (Operand.func 59), args := #[Operand.tmp 81, Operand.tmp 82, Operand.tmp 84], argTypes := #[28, 3, 3] }, 4, some (79, false)⟩, ⟨some 86, Op.unOp UnOp.not 4 (Operand.tmp 85), 4, some (79, false)⟩, ⟨some 87, Op.pick (Operand.tmp 79) (Operand.const (Value.bool true)) (Operand.tmp 86), 4, none⟩] (by kernel_rfl) (by kernel_rfl) ?_
                    simp [-List.map_take, -List.map_drop, ← List.map_take, ← List.map_drop, Function.comp_def, q1, hw, q2, q4, q3, q5, q6, zp12.st, zq12.st, q8, hk1, hk2]
                    refine zh23 _ ?_
                    refine Sat.cond rfl (fun c87 => ?_) (fun c87 => ?_)
                    · skip
                      try simp at c87
                      refine Sat.seqK fun zK24 zh24 zg24 => ?_
                      refine Sat.regionP hk [⟨some 4, Op.assign (Operand.const (Value.int IntKind.i64 4)), 3, none⟩] (by kernel_rfl) (by kernel_rfl) ?_
                      simp [-List.map_take, -List.map_drop, ← List.map_take, ← List.map_drop, Function.comp_def, q1, hw, q2, q4, q3, q5, q6, zp12.st, zq12.st, q8, hk1, hk2]
                      refine zh24 _ ?_
                      refine Sat.ret ?_
                      refine zg22 _ _ (by simp) ?_
                      simp [-List.map_take, -List.map_drop, ← List.map_take, ← List.map_drop, Function.comp_def, q1, hw, q2, q4, q3, q5, q6, zp12.st, zq12.st, q8, hk1, hk2]
                      rw [chk_two hnd hgood htok]; simp [q8]
                    · exfalso; simp [q1, hw, q2, q4, q3, q5, q6, zp12.st, zq12.st, q8, hk1, hk2] at c87
                  · skip
                    refine Sat.regionP hk [⟨some 72, Op.fieldAddr 30 (Operand.tmp 3) 2, 0, none⟩, ⟨some 73, Op.load 28 (Operand.tmp 72), 28, none⟩, ⟨some 74, Op.move (Operand.tmp 7), 3, none⟩, ⟨some 75, Op.fieldAddr 23 (Operand.tmp 2) 1, 0, none⟩, ⟨some 76, Op.load 3 (Operand.tmp 75), 3, none⟩, ⟨some 77, Op.call { callee := Callee.value (Operand.func 59), args := #[Operand.tmp 73, Operand.tmp 74, Operand.tmp 76], argTypes := #[28, 3, 3] }, 4, none⟩, ⟨some 78, Op.unOp UnOp.not 4 (Operand.tmp 77), 4, none⟩, ⟨some 79, Op.move (Operand.tmp 78), 4, none⟩, ⟨some 80, Op.fieldAddr 30 (Operand.tmp 3) 3, 0, some (79, false)⟩, ⟨some 81, Op.load 28 (Operand.tmp 80), 28, some (79, false)⟩, ⟨some 82, Op.move (Operand.tmp 7), 3, some (79, false)⟩, ⟨some 83, Op.fieldAddr 23 (Operand.tmp 2) 1, 0, some (79, false)⟩, ⟨some 84, Op.load 3 (Operand.tmp 83), 3, some (79, false)⟩, ⟨some 85, Op.call { callee := Callee.value (Operand.func 59), args := #[Operand.tmp 81, Operand.tmp 82, Operand.tmp 84], argTypes := #[28, 3, 3] }, 4, some (79, false)⟩, ⟨some 86, Op.unOp UnOp.not 4 (Operand.tmp 85), 4, some (79, false)⟩, ⟨some 87, Op.pick (Operand.tmp 79) (Operand.const (Value.bool true)) (Operand.tmp 86), 4, none⟩] (by kernel_rfl) (by kernel_rfl) ?_
                    simp [-List.map_take, -List.map_drop, ← List.map_take, ← List.map_drop, Function.comp_def, q1, hw, q2, q4, q3, q5, q6, zp12.st, zq12.st, q8, hk1, hk2]
                    refine zh23 _ ?_
                    refine Sat.cond rfl (fun c87 => ?_) (fun c87 => ?_)
                    · skip
                      try simp at c87
                      refine Sat.seqK fun zK25 zh25 zg25 => ?_
                      refine Sat.regionP hk [⟨some 4, Op.assign (Operand.const (Value.int IntKind.i64 4)), 3, none⟩] (by kernel_rfl) (by kernel_rfl) ?_
                      simp [-List.map_take, -List.map_drop, ← List.map_take, ← List.map_drop, Function.comp_def, q1, hw, q2, q4, q3, q5, q6, zp12.st, zq12.st, q8, hk1, hk2]
                      refine zh25 _ ?_
                      refine Sat.ret ?_
                      refine zg22 _ _ (by simp) ?_
                      simp [-List.map_take, -List.map_drop, ← List.map_take, ← List.map_drop, Function.comp_def, q1, hw, q2, q4, q3, q5, q6, zp12.st, zq12.st, q8, hk1, hk2]
                      rw [chk_two hnd hgood htok]; simp [q8, c87]
                    · skip
                      try simp at c87
                      refine Sat.skip ?_
                      refine zh22 _ ?_
                      refine Sat.seqK fun zK26 zh26 zg26 => ?_
                      refine Sat.regionP hk [⟨some 4, Op.assign (Operand.const (Value.int IntKind.i64 0)), 3, none⟩] (by kernel_rfl) (by kernel_rfl) ?_
                      simp [-List.map_take, -List.map_drop, ← List.map_take, ← List.map_drop, Function.comp_def, q1, hw, q2, q4, q3, q5, q6, zp12.st, zq12.st, q8, hk1, hk2]
                      refine zh26 _ ?_
                      refine Sat.ret ?_
                      simp [-List.map_take, -List.map_drop, ← List.map_take, ← List.map_drop, Function.comp_def, q1, hw, q2, q4, q3, q5, q6, zp12.st, zq12.st, q8, hk1, hk2]
                      rw [chk_two hnd hgood htok]; simp [q8, c87]
end Go.Proofs.Ytmbmebfeoejlnaa.Ab
