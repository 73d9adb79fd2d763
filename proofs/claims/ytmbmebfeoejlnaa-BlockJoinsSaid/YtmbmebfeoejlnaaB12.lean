/- A block's form: Check, the program's and the document's. -/
import Derived.Test.YtmbmebfeoejlnaaB11
namespace Go.Proofs.Ytmbmebfeoejlnaa.Ab
set_option linter.unusedVariables false
set_option linter.unusedSimpArgs false
open Go.RowKit
def fine (b : Blk) : Prop := b.1.length < 2 ^ 40 ∧ b.2.1 < 9223372036854775808 ∧ lenOK b.2.2.1 ∧ lenOK b.2.2.2
instance (b : Blk) : Decidable (fine b) := by unfold fine; infer_instance
theorem chk_bad {c : Cfg} {b : Blk} (h : badShape c b) : chk c b = 4 := by unfold chk; rw [if_pos h]
theorem chk_tok {c : Cfg} {b : Blk} (h : ¬ badShape c b) {t : Int} {j : Nat} (h1 : b.1[j]? = some t) (h2 : t < 0 ∨ c.1 ≤ t) : chk c b = 7 := by
  unfold chk; rw [if_neg h, if_pos (any_get h1 (by simpa [badTok] using h2))]
theorem chk_lists {c : Cfg} {b : Blk} {n : Int} (hn : n = (b.1.length : Int) - b.2.1) (h : ¬ badShape c b) (h1 : b.1.any (badTok c) = false) {s : Cube} {i : Nat} (hs : [b.2.2.1, b.2.2.2][i]? = some s) (h2 : okLists n c.2.1 s = false) : chk c b = 4 := by
  unfold chk; rw [if_neg h, if_neg (by simp [h1]), ← hn, if_neg]
  match i, hs with
  | 0, hs => simp at hs; subst hs; simp [h2]
  | 1, hs => simp at hs; subst hs; simp [h2]
theorem chk_fine {c : Cfg} {b : Blk} {n : Int} (hn : n = (b.1.length : Int) - b.2.1) (h : ¬ badShape c b) (h1 : b.1.any (badTok c) = false) (h2 : [b.2.2.1, b.2.2.2].all (okLists n c.2.1) = true) : chk c b = 0 := by
  unfold chk; rw [if_neg h, if_neg (by simp [h1]), ← hn, if_pos]
  simpa using h2
theorem lists_len {n d : Int} {s : Cube} {k : Nat} {m : List (List Int)} (h1 : s[k]? = some m) (h : ¬ (m.length : Int) = n) : okLists n d s = false := by
  unfold okLists; rw [List.all_eq_false]; exact ⟨m, List.mem_of_getElem? h1, by simp [h]⟩
theorem lists_row {n d : Int} {s : Cube} {k q : Nat} {m : List (List Int)} {r : List Int} (h1 : s[k]? = some m) (h2 : m[q]? = some r) (h : ¬ (r.length : Int) = d) : okLists n d s = false := by
  unfold okLists; rw [List.all_eq_false]; refine ⟨m, List.mem_of_getElem? h1, ?_⟩
  have : okRows d m = false := by unfold okRows; rw [List.all_eq_false]; exact ⟨r, List.mem_of_getElem? h2, by simp [h]⟩
  simp [this]
theorem two_fine {b : Blk} (hb : fine b) {i : Nat} {s : Cube} (hs : [b.2.2.1, b.2.2.2][i]? = some s) : lenOK s := by
  match i, hs with
  | 0, hs => simp at hs; subst hs; exact hb.2.2.1
  | 1, hs => simp at hs; subst hs; exact hb.2.2.2
def S17 : Spec := fun gs => sp2 true (tCfg) true (tBlk) (fun c b => if fine b then some (o64 (chk c b)) else none) gs
@[simp] theorem S17_eq (gs : List Arg) : S17 gs = sp2 true (tCfg) true (tBlk) (fun c b => if fine b then some (o64 (chk c b)) else none) gs := rfl
set_option maxHeartbeats 4000000 in
theorem k17 : Contract Try.prog 17 S17 := by
  refine Contract.intro2 (C := cx 107 []) Try.func17 rfl rfl rfl (by show 2 ≤ 107; decide) fun c b out ho fr => ?_
  have hk := knowsX (N := 107) (l := []) trivial
  split at ho
  case isFalse => cases ho
  rename_i hb
  obtain rfl := Option.some.inj ho
  obtain ⟨n, hnd⟩ : ∃ n, n = (b.1.length : Int) - b.2.1 := ⟨_, rfl⟩
  have hb1 := hb.1
  have hb2 := hb.2.1
  refine Sat.seqK fun zK1 zh1 zg1 => ?_
  refine Sat.regionP hk [⟨some 2, Op.box 23 (Operand.tmp 0), 0, none⟩, ⟨some 3, Op.box 34 (Operand.tmp 1), 0, none⟩, ⟨some 4, Op.assign (Operand.const (Value.int IntKind.i64 0)), 36, none⟩] (by kernel_rfl) (by kernel_rfl) ?_
  simp [-List.map_take, -List.map_drop, ← List.map_take, ← List.map_drop, Function.comp_def]
  refine zh1 _ ?_
  refine Sat.seqK fun zK2 zh2 zg2 => ?_
  by_cases q1 : b.2.1 < 0
  · skip
    have hbad : badShape c b := .inl q1
    refine Sat.regionP hk [⟨some 14, Op.fieldAddr 34 (Operand.tmp 3) 0, 0, none⟩, ⟨some 15, Op.load 27 (Operand.tmp 14), 27, none⟩, ⟨some 16, Op.call { callee := Callee.builtin Builtin.len, args := #[Operand.tmp 15], argTypes := #[27] }, 3, none⟩, ⟨some 17, Op.fieldAddr 34 (Operand.tmp 3) 1, 0, none⟩, ⟨some 18, Op.load 3 (Operand.tmp 17), 3, none⟩, ⟨some 19, Op.binOp BinOp.sub 3 (Operand.tmp 16) (Operand.tmp 18) 3, 3, none⟩, ⟨some 5, Op.assign (Operand.tmp 19), 3, none⟩] (by kernel_rfl) (by kernel_rfl) ?_
    simp [-List.map_take, -List.map_drop, ← List.map_take, ← List.map_drop, Function.comp_def, q1]
    refine zh2 _ ?_
    refine Sat.seqK fun zK3 zh3 zg3 => ?_
    refine Sat.seqK fun zK4 zh4 zg4 => ?_
    refine Sat.regionP hk [⟨some 20, Op.fieldAddr 34 (Operand.tmp 3) 1, 0, none⟩, ⟨some 21, Op.load 3 (Operand.tmp 20), 3, none⟩, ⟨some 22, Op.binOp BinOp.lss 3 (Operand.tmp 21) (Operand.const (Value.int IntKind.i64 0)) 3, 4, none⟩, ⟨some 23, Op.move (Operand.tmp 22), 4, none⟩, ⟨some 24, Op.move (Operand.tmp 5), 3, some (23, false)⟩, ⟨some 25, Op.binOp BinOp.lss 3 (Operand.tmp 24) (Operand.const (Value.int IntKind.i64 1)) 3, 4, some (23, false)⟩, ⟨some 26, Op.pick (Operand.tmp 23) (Operand.const (Value.bool true)) (Operand.tmp 25), 4, none⟩, ⟨some 27, Op.move (Operand.tmp 26), 4, none⟩, ⟨some 28, Op.move (Operand.tmp 5), 3, some (27, false)⟩, ⟨some 29, Op.binOp BinOp.gtr 3 (Operand.tmp 28) (Operand.const (Value.int IntKind.i64 16)) 3, 4, some (27, false)⟩, ⟨some 30, Op.pick (Operand.tmp 27) (Operand.const (Value.bool true)) (Operand.tmp 29), 4, none⟩, ⟨some 31, Op.move (Operand.tmp 30), 4, none⟩, ⟨some 32, Op.fieldAddr 34 (Operand.tmp 3) 0, 0, some (31, false)⟩, ⟨some 33, Op.load 27 (Operand.tmp 32), 27, some (31, false)⟩, ⟨some 34, Op.call { callee := Callee.builtin Builtin.len, args := #[Operand.tmp 33], argTypes := #[27] }, 3, some (31, false)⟩, ⟨some 35, Op.binOp BinOp.gtr 3 (Operand.tmp 34) (Operand.const (Value.int IntKind.i64 128)) 3, 4, some (31, false)⟩, ⟨some 36, Op.pick (Operand.tmp 31) (Operand.const (Value.bool true)) (Operand.tmp 35), 4, none⟩, ⟨some 37, Op.move (Operand.tmp 36), 4, none⟩, ⟨some 38, Op.fieldAddr 34 (Operand.tmp 3) 2, 0, some (37, false)⟩, ⟨some 39, Op.fieldAddr 32 (Operand.tmp 38) 0, 0, some (37, false)⟩, ⟨some 40, Op.load 28 (Operand.tmp 39), 28, some (37, false)⟩, ⟨some 41, Op.call { callee := Callee.builtin Builtin.len, args := #[Operand.tmp 40], argTypes := #[28] }, 3, some (37, false)⟩, ⟨some 42, Op.fieldAddr 23 (Operand.tmp 2) 4, 0, some (37, false)⟩, ⟨some 43, Op.load 3 (Operand.tmp 42), 3, some (37, false)⟩, ⟨some 44, Op.binOp BinOp.neq 3 (Operand.tmp 41) (Operand.tmp 43) 3, 4, some (37, false)⟩, ⟨some 45, Op.pick (Operand.tmp 37) (Operand.const (Value.bool true)) (Operand.tmp 44), 4, none⟩, ⟨some 46, Op.move (Operand.tmp 45), 4, none⟩, ⟨some 47, Op.fieldAddr 34 (Operand.tmp 3) 2, 0, some (46, false)⟩, ⟨some 48, Op.fieldAddr 32 (Operand.tmp 47) 1, 0, some (46, false)⟩, ⟨some 49, Op.load 28 (Operand.tmp 48), 28, some (46, false)⟩, ⟨some 50, Op.call { callee := Callee.builtin Builtin.len, args := #[Operand.tmp 49], argTypes := #[28] }, 3, some (46, false)⟩, ⟨some 51, Op.fieldAddr 23 (Operand.tmp 2) 4, 0, some (46, false)⟩, ⟨some 52, Op.load 3 (Operand.tmp 51), 3, some (46, false)⟩, ⟨some 53, Op.binOp BinOp.neq 3 (Operand.tmp 50) (Operand.tmp 52) 3, 4, some (46, false)⟩, ⟨some 54, Op.pick (Operand.tmp 46) (Operand.const (Value.bool true)) (Operand.tmp 53), 4, none⟩] (by kernel_rfl) (by kernel_rfl) ?_
    simp [-List.map_take, -List.map_drop, ← List.map_take, ← List.map_drop, Function.comp_def, q1]
    refine zh4 _ ?_
    refine Sat.cond rfl (fun c54 => ?_) (fun c54 => ?_)
    · skip
      try simp at c54
      refine Sat.seqK fun zK5 zh5 zg5 => ?_
      refine Sat.regionP hk [⟨some 4, Op.assign (Operand.const (Value.int IntKind.i64 4)), 36, none⟩] (by kernel_rfl) (by kernel_rfl) ?_
      simp [-List.map_take, -List.map_drop, ← List.map_take, ← List.map_drop, Function.comp_def, q1]
      refine zh5 _ ?_
      refine Sat.ret ?_
      refine zg3 _ _ (by simp) ?_
      simp [-List.map_take, -List.map_drop, ← List.map_take, ← List.map_drop, Function.comp_def, q1]
      exact (chk_bad hbad).symm
    · exfalso; simp [q1] at c54
  · skip
    have hw : IntKind.i64.wrap ((b.1.length : Int) - b.2.1) = n := by rw [w64_id _ (by omega) (by omega)]; exact hnd.symm
    refine Sat.regionP hk [⟨some 14, Op.fieldAddr 34 (Operand.tmp 3) 0, 0, none⟩, ⟨some 15, Op.load 27 (Operand.tmp 14), 27, none⟩, ⟨some 16, Op.call { callee := Callee.builtin Builtin.len, args := #[Operand.tmp 15], argTypes := #[27] }, 3, none⟩, ⟨some 17, Op.fieldAddr 34 (Operand.tmp 3) 1, 0, none⟩, ⟨some 18, Op.load 3 (Operand.tmp 17), 3, none⟩, ⟨some 19, Op.binOp BinOp.sub 3 (Operand.tmp 16) (Operand.tmp 18) 3, 3, none⟩, ⟨some 5, Op.assign (Operand.tmp 19), 3, none⟩] (by kernel_rfl) (by kernel_rfl) ?_
    simp [-List.map_take, -List.map_drop, ← List.map_take, ← List.map_drop, Function.comp_def, q1, hw]
    refine zh2 _ ?_
    refine Sat.seqK fun zK6 zh6 zg6 => ?_
    refine Sat.seqK fun zK7 zh7 zg7 => ?_
    by_cases q2 : n < 1
    · skip
      have hbad : badShape c b := .inr (.inl (by omega))
      refine Sat.regionP hk [⟨some 20, Op.fieldAddr 34 (Operand.tmp 3) 1, 0, none⟩, ⟨some 21, Op.load 3 (Operand.tmp 20), 3, none⟩, ⟨some 22, Op.binOp BinOp.lss 3 (Operand.tmp 21) (Operand.const (Value.int IntKind.i64 0)) 3, 4, none⟩, ⟨some 23, Op.move (Operand.tmp 22), 4, none⟩, ⟨some 24, Op.move (Operand.tmp 5), 3, some (23, false)⟩, ⟨some 25, Op.binOp BinOp.lss 3 (Operand.tmp 24) (Operand.const (Value.int IntKind.i64 1)) 3, 4, some (23, false)⟩, ⟨some 26, Op.pick (Operand.tmp 23) (Operand.const (Value.bool true)) (Operand.tmp 25), 4, none⟩, ⟨some 27, Op.move (Operand.tmp 26), 4, none⟩, ⟨some 28, Op.move (Operand.tmp 5), 3, some (27, false)⟩, ⟨some 29, Op.binOp BinOp.gtr 3 (Operand.tmp 28) (Operand.const (Value.int IntKind.i64 16)) 3, 4, some (27, false)⟩, ⟨some 30, Op.pick (Operand.tmp 27) (Operand.const (Value.bool true)) (Operand.tmp 29), 4, none⟩, ⟨some 31, Op.move (Operand.tmp 30), 4, none⟩, ⟨some 32, Op.fieldAddr 34 (Operand.tmp 3) 0, 0, some (31, false)⟩, ⟨some 33, Op.load 27 (Operand.tmp 32), 27, some (31, false)⟩, ⟨some 34, Op.call { callee := Callee.builtin Builtin.len, args := #[Operand.tmp 33], argTypes := #[27] }, 3, some (31, false)⟩, ⟨some 35, Op.binOp BinOp.gtr 3 (Operand.tmp 34) (Operand.const (Value.int IntKind.i64 128)) 3, 4, some (31, false)⟩, ⟨some 36, Op.pick (Operand.tmp 31) (Operand.const (Value.bool true)) (Operand.tmp 35), 4, none⟩, ⟨some 37, Op.move (Operand.tmp 36), 4, none⟩, ⟨some 38, Op.fieldAddr 34 (Operand.tmp 3) 2, 0, some (37, false)⟩, ⟨some 39, Op.fieldAddr 32 (Operand.tmp 38) 0, 0, some (37, false)⟩, ⟨some 40, Op.load 28 (Operand.tmp 39), 28, some (37, false)⟩, ⟨some 41, Op.call { callee := Callee.builtin Builtin.len, args := #[Operand.tmp 40], argTypes := #[28] }, 3, some (37, false)⟩, ⟨some 42, Op.fieldAddr 23 (Operand.tmp 2) 4, 0, some (37, false)⟩, ⟨some 43, Op.load 3 (Operand.tmp 42), 3, some (37, false)⟩, ⟨some 44, Op.binOp BinOp.neq 3 (Operand.tmp 41) (Operand.tmp 43) 3, 4, some (37, false)⟩, ⟨some 45, Op.pick (Operand.tmp 37) (Operand.const (Value.bool true)) (Operand.tmp 44), 4, none⟩, ⟨some 46, Op.move (Operand.tmp 45), 4, none⟩, ⟨some 47, Op.fieldAddr 34 (Operand.tmp 3) 2, 0, some (46, false)⟩, ⟨some 48, Op.fieldAddr 32 (Operand.tmp 47) 1, 0, some (46, false)⟩, ⟨some 49, Op.load 28 (Operand.tmp 48), 28, some (46, false)⟩, ⟨some 50, Op.call { callee := Callee.builtin Builtin.len, args := #[Operand.tmp 49], argTypes := #[28] }, 3, some (46, false)⟩, ⟨some 51, Op.fieldAddr 23 (Operand.tmp 2) 4, 0, some (46, false)⟩, ⟨some 52, Op.load 3 (Operand.tmp 51), 3, some (46, false)⟩, ⟨some 53, Op.binOp BinOp.neq 3 (Operand.tmp 50) (Operand.tmp 52) 3, 4, some (46, false)⟩, ⟨some 54, Op.pick (Operand.tmp 46) (Operand.const (Value.bool true)) (Operand.tmp 53), 4, none⟩] (by kernel_rfl) (by kernel_rfl) ?_
      simp [-List.map_take, -List.map_drop, ← List.map_take, ← List.map_drop, Function.comp_def, q1, hw, q2]
      refine zh7 _ ?_
      refine Sat.cond rfl (fun c54 => ?_) (fun c54 => ?_)
      · skip
        try simp at c54
        refine Sat.seqK fun zK8 zh8 zg8 => ?_
        refine Sat.regionP hk [⟨some 4, Op.assign (Operand.const (Value.int IntKind.i64 4)), 36, none⟩] (by kernel_rfl) (by kernel_rfl) ?_
        simp [-List.map_take, -List.map_drop, ← List.map_take, ← List.map_drop, Function.comp_def, q1, hw, q2]
        refine zh8 _ ?_
        refine Sat.ret ?_
        refine zg6 _ _ (by simp) ?_
        simp [-List.map_take, -List.map_drop, ← List.map_take, ← List.map_drop, Function.comp_def, q1, hw, q2]
        exact (chk_bad hbad).symm
      · exfalso; simp [q1, hw, q2] at c54
    · skip
      try simp only [Classical.not_not] at q2
      by_cases q3 : 16 < n
      · skip
        have hbad : badShape c b := .inr (.inr (.inl (by omega)))
        refine Sat.regionP hk [⟨some 20, Op.fieldAddr 34 (Operand.tmp 3) 1, 0, none⟩, ⟨some 21, Op.load 3 (Operand.tmp 20), 3, none⟩, ⟨some 22, Op.binOp BinOp.lss 3 (Operand.tmp 21) (Operand.const (Value.int IntKind.i64 0)) 3, 4, none⟩, ⟨some 23, Op.move (Operand.tmp 22), 4, none⟩, ⟨some 24, Op.move (Operand.tmp 5), 3, some (23, false)⟩, ⟨some 25, Op.binOp BinOp.lss 3 (Operand.tmp 24) (Operand.const (Value.int IntKind.i64 1)) 3, 4, some (23, false)⟩, ⟨some 26, Op.pick (Operand.tmp 23) (Operand.const (Value.bool true)) (Operand.tmp 25), 4, none⟩, ⟨some 27, Op.move (Operand.tmp 26), 4, none⟩, ⟨some 28, Op.move (Operand.tmp 5), 3, some (27, false)⟩, ⟨some 29, Op.binOp BinOp.gtr 3 (Operand.tmp 28) (Operand.const (Value.int IntKind.i64 16)) 3, 4, some (27, false)⟩, ⟨some 30, Op.pick (Operand.tmp 27) (Operand.const (Value.bool true)) (Operand.tmp 29), 4, none⟩, ⟨some 31, Op.move (Operand.tmp 30), 4, none⟩, ⟨some 32, Op.fieldAddr 34 (Operand.tmp 3) 0, 0, some (31, false)⟩, ⟨some 33, Op.load 27 (Operand.tmp 32), 27, some (31, false)⟩, ⟨some 34, Op.call { callee := Callee.builtin Builtin.len, args := #[Operand.tmp 33], argTypes := #[27] }, 3, some (31, false)⟩, ⟨some 35, Op.binOp BinOp.gtr 3 (Operand.tmp 34) (Operand.const (Value.int IntKind.i64 128)) 3, 4, some (31, false)⟩, ⟨some 36, Op.pick (Operand.tmp 31) (Operand.const (Value.bool true)) (Operand.tmp 35), 4, none⟩, ⟨some 37, Op.move (Operand.tmp 36), 4, none⟩, ⟨some 38, Op.fieldAddr 34 (Operand.tmp 3) 2, 0, some (37, false)⟩, ⟨some 39, Op.fieldAddr 32 (Operand.tmp 38) 0, 0, some (37, false)⟩, ⟨some 40, Op.load 28 (Operand.tmp 39), 28, some (37, false)⟩, ⟨some 41, Op.call { callee := Callee.builtin Builtin.len, args := #[Operand.tmp 40], argTypes := #[28] }, 3, some (37, false)⟩, ⟨some 42, Op.fieldAddr 23 (Operand.tmp 2) 4, 0, some (37, false)⟩, ⟨some 43, Op.load 3 (Operand.tmp 42), 3, some (37, false)⟩, ⟨some 44, Op.binOp BinOp.neq 3 (Operand.tmp 41) (Operand.tmp 43) 3, 4, some (37, false)⟩, ⟨some 45, Op.pick (Operand.tmp 37) (Operand.const (Value.bool true)) (Operand.tmp 44), 4, none⟩, ⟨some 46, Op.move (Operand.tmp 45), 4, none⟩, ⟨some 47, Op.fieldAddr 34 (Operand.tmp 3) 2, 0, some (46, false)⟩, ⟨some 48, Op.fieldAddr 32 (Operand.tmp 47) 1, 0, some (46, false)⟩, ⟨some 49, Op.load 28 (Operand.tmp 48), 28, some (46, false)⟩, ⟨some 50, Op.call { callee := Callee.builtin Builtin.len, args := #[Operand.tmp 49], argTypes := #[28] }, 3, some (46, false)⟩, ⟨some 51, Op.fieldAddr 23 (Operand.tmp 2) 4, 0, some (46, false)⟩, ⟨some 52, Op.load 3 (Operand.tmp 51), 3, some (46, false)⟩, ⟨some 53, Op.binOp BinOp.neq 3 (Operand.tmp 50) (Operand.tmp 52) 3, 4, some (46, false)⟩, ⟨some 54, Op.pick (Operand.tmp 46) (Operand.const (Value.bool true)) (Operand.tmp 53), 4, none⟩] (by kernel_rfl) (by kernel_rfl) ?_
        simp [-List.map_take, -List.map_drop, ← List.map_take, ← List.map_drop, Function.comp_def, q1, hw, q2, q3]
        refine zh7 _ ?_
        refine Sat.cond rfl (fun c54 => ?_) (fun c54 => ?_)
        · skip
          try simp at c54
          refine Sat.seqK fun zK9 zh9 zg9 => ?_
          refine Sat.regionP hk [⟨some 4, Op.assign (Operand.const (Value.int IntKind.i64 4)), 36, none⟩] (by kernel_rfl) (by kernel_rfl) ?_
          simp [-List.map_take, -List.map_drop, ← List.map_take, ← List.map_drop, Function.comp_def, q1, hw, q2, q3]
          refine zh9 _ ?_
          refine Sat.ret ?_
          refine zg6 _ _ (by simp) ?_
          simp [-List.map_take, -List.map_drop, ← List.map_take, ← List.map_drop, Function.comp_def, q1, hw, q2, q3]
          exact (chk_bad hbad).symm
        · exfalso; simp [q1, hw, q2, q3] at c54
      · skip
        try simp only [Classical.not_not] at q3
        by_cases q4 : 128 < (b.1.length : Int)
        · skip
          have hbad : badShape c b := .inr (.inr (.inr (.inl (by omega))))
          refine Sat.regionP hk [⟨some 20, Op.fieldAddr 34 (Operand.tmp 3) 1, 0, none⟩, ⟨some 21, Op.load 3 (Operand.tmp 20), 3, none⟩, ⟨some 22, Op.binOp BinOp.lss 3 (Operand.tmp 21) (Operand.const (Value.int IntKind.i64 0)) 3, 4, none⟩, ⟨some 23, Op.move (Operand.tmp 22), 4, none⟩, ⟨some 24, Op.move (Operand.tmp 5), 3, some (23, false)⟩, ⟨some 25, Op.binOp BinOp.lss 3 (Operand.tmp 24) (Operand.const (Value.int IntKind.i64 1)) 3, 4, some (23, false)⟩, ⟨some 26, Op.pick (Operand.tmp 23) (Operand.const (Value.bool true)) (Operand.tmp 25), 4, none⟩, ⟨some 27, Op.move (Operand.tmp 26), 4, none⟩, ⟨some 28, Op.move (Operand.tmp 5), 3, some (27, false)⟩, ⟨some 29, Op.binOp BinOp.gtr 3 (Operand.tmp 28) (Operand.const (Value.int IntKind.i64 16)) 3, 4, some (27, false)⟩, ⟨some 30, Op.pick (Operand.tmp 27) (Operand.const (Value.bool true)) (Operand.tmp 29), 4, none⟩, ⟨some 31, Op.move (Operand.tmp 30), 4, none⟩, ⟨some 32, Op.fieldAddr 34 (Operand.tmp 3) 0, 0, some (31, false)⟩, ⟨some 33, Op.load 27 (Operand.tmp 32), 27, some (31, false)⟩, ⟨some 34, Op.call { callee := Callee.builtin Builtin.len, args := #[Operand.tmp 33], argTypes := #[27] }, 3, some (31, false)⟩, ⟨some 35, Op.binOp BinOp.gtr 3 (Operand.tmp 34) (Operand.const (Value.int IntKind.i64 128)) 3, 4, some (31, false)⟩, ⟨some 36, Op.pick (Operand.tmp 31) (Operand.const (Value.bool true)) (Operand.tmp 35), 4, none⟩, ⟨some 37, Op.move (Operand.tmp 36), 4, none⟩, ⟨some 38, Op.fieldAddr 34 (Operand.tmp 3) 2, 0, some (37, false)⟩, ⟨some 39, Op.fieldAddr 32 (Operand.tmp 38) 0, 0, some (37, false)⟩, ⟨some 40, Op.load 28 (Operand.tmp 39), 28, some (37, false)⟩, ⟨some 41, Op.call { callee := Callee.builtin Builtin.len, args := #[Operand.tmp 40], argTypes := #[28] }, 3, some (37, false)⟩, ⟨some 42, Op.fieldAddr 23 (Operand.tmp 2) 4, 0, some (37, false)⟩, ⟨some 43, Op.load 3 (Operand.tmp 42), 3, some (37, false)⟩, ⟨some 44, Op.binOp BinOp.neq 3 (Operand.tmp 41) (Operand.tmp 43) 3, 4, some (37, false)⟩, ⟨some 45, Op.pick (Operand.tmp 37) (Operand.const (Value.bool true)) (Operand.tmp 44), 4, none⟩, ⟨some 46, Op.move (Operand.tmp 45), 4, none⟩, ⟨some 47, Op.fieldAddr 34 (Operand.tmp 3) 2, 0, some (46, false)⟩, ⟨some 48, Op.fieldAddr 32 (Operand.tmp 47) 1, 0, some (46, false)⟩, ⟨some 49, Op.load 28 (Operand.tmp 48), 28, some (46, false)⟩, ⟨some 50, Op.call { callee := Callee.builtin Builtin.len, args := #[Operand.tmp 49], argTypes := #[28] }, 3, some (46, false)⟩, ⟨some 51, Op.fieldAddr 23 (Operand.tmp 2) 4, 0, some (46, false)⟩, ⟨some 52, Op.load 3 (Operand.tmp 51), 3, some (46, false)⟩, ⟨some 53, Op.binOp BinOp.neq 3 (Operand.tmp 50) (Operand.tmp 52) 3, 4, some (46, false)⟩, ⟨some 54, Op.pick (Operand.tmp 46) (Operand.const (Value.bool true)) (Operand.tmp 53), 4, none⟩] (by kernel_rfl) (by kernel_rfl) ?_
          simp [-List.map_take, -List.map_drop, ← List.map_take, ← List.map_drop, Function.comp_def, q1, hw, q2, q3, q4]
          refine zh7 _ ?_
          refine Sat.cond rfl (fun c54 => ?_) (fun c54 => ?_)
          · skip
            try simp at c54
            refine Sat.seqK fun zK10 zh10 zg10 => ?_
            refine Sat.regionP hk [⟨some 4, Op.assign (Operand.const (Value.int IntKind.i64 4)), 36, none⟩] (by kernel_rfl) (by kernel_rfl) ?_
            simp [-List.map_take, -List.map_drop, ← List.map_take, ← List.map_drop, Function.comp_def, q1, hw, q2, q3, q4]
            refine zh10 _ ?_
            refine Sat.ret ?_
            refine zg6 _ _ (by simp) ?_
            simp [-List.map_take, -List.map_drop, ← List.map_take, ← List.map_drop, Function.comp_def, q1, hw, q2, q3, q4]
            exact (chk_bad hbad).symm
          · exfalso; simp [q1, hw, q2, q3, q4] at c54
        · skip
          try simp only [Classical.not_not] at q4
          by_cases q5 : ¬ (b.2.2.1.length : Int) = c.2.2.2.2
          · skip
            have hbad : badShape c b := .inr (.inr (.inr (.inr (.inl q5))))
            refine Sat.regionP hk [⟨some 20, Op.fieldAddr 34 (Operand.tmp 3) 1, 0, none⟩, ⟨some 21, Op.load 3 (Operand.tmp 20), 3, none⟩, ⟨some 22, Op.binOp BinOp.lss 3 (Operand.tmp 21) (Operand.const (Value.int IntKind.i64 0)) 3, 4, none⟩, ⟨some 23, Op.move (Operand.tmp 22), 4, none⟩, ⟨some 24, Op.move (Operand.tmp 5), 3, some (23, false)⟩, ⟨some 25, Op.binOp BinOp.lss 3 (Operand.tmp 24) (Operand.const (Value.int IntKind.i64 1)) 3, 4, some (23, false)⟩, ⟨some 26, Op.pick (Operand.tmp 23) (Operand.const (Value.bool true)) (Operand.tmp 25), 4, none⟩, ⟨some 27, Op.move (Operand.tmp 26), 4, none⟩, ⟨some 28, Op.move (Operand.tmp 5), 3, some (27, false)⟩, ⟨some 29, Op.binOp BinOp.gtr 3 (Operand.tmp 28) (Operand.const (Value.int IntKind.i64 16)) 3, 4, some (27, false)⟩, ⟨some 30, Op.pick (Operand.tmp 27) (Operand.const (Value.bool true)) (Operand.tmp 29), 4, none⟩, ⟨some 31, Op.move (Operand.tmp 30), 4, none⟩, ⟨some 32, Op.fieldAddr 34 (Operand.tmp 3) 0, 0, some (31, false)⟩, ⟨some 33, Op.load 27 (Operand.tmp 32), 27, some (31, false)⟩, ⟨some 34, Op.call { callee := Callee.builtin Builtin.len, args := #[Operand.tmp 33], argTypes := #[27] }, 3, some (31, false)⟩, ⟨some 35, Op.binOp BinOp.gtr 3 (Operand.tmp 34) (Operand.const (Value.int IntKind.i64 128)) 3, 4, some (31, false)⟩, ⟨some 36, Op.pick (Operand.tmp 31) (Operand.const (Value.bool true)) (Operand.tmp 35), 4, none⟩, ⟨some 37, Op.move (Operand.tmp 36), 4, none⟩, ⟨some 38, Op.fieldAddr 34 (Operand.tmp 3) 2, 0, some (37, false)⟩, ⟨some 39, Op.fieldAddr 32 (Operand.tmp 38) 0, 0, some (37, false)⟩, ⟨some 40, Op.load 28 (Operand.tmp 39), 28, some (37, false)⟩, ⟨some 41, Op.call { callee := Callee.builtin Builtin.len, args := #[Operand.tmp 40], argTypes := #[28] }, 3, some (37, false)⟩, ⟨some 42, Op.fieldAddr 23 (Operand.tmp 2) 4, 0, some (37, false)⟩, ⟨some 43, Op.load 3 (Operand.tmp 42), 3, some (37, false)⟩, ⟨some 44, Op.binOp BinOp.neq 3 (Operand.tmp 41) (Operand.tmp 43) 3, 4, some (37, false)⟩, ⟨some 45, Op.pick (Operand.tmp 37) (Operand.const (Value.bool true)) (Operand.tmp 44), 4, none⟩, ⟨some 46, Op.move (Operand.tmp 45), 4, none⟩, ⟨some 47, Op.fieldAddr 34 (Operand.tmp 3) 2, 0, some (46, false)⟩, ⟨some 48, Op.fieldAddr 32 (Operand.tmp 47) 1, 0, some (46, false)⟩, ⟨some 49, Op.load 28 (Operand.tmp 48), 28, some (46, false)⟩, ⟨some 50, Op.call { callee := Callee.builtin Builtin.len, args := #[Operand.tmp 49], argTypes := #[28] }, 3, some (46, false)⟩, ⟨some 51, Op.fieldAddr 23 (Operand.tmp 2) 4, 0, some (46, false)⟩, ⟨some 52, Op.load 3 (Operand.tmp 51), 3, some (46, false)⟩, ⟨some 53, Op.binOp BinOp.neq 3 (Operand.tmp 50) (Operand.tmp 52) 3, 4, some (46, false)⟩, ⟨some 54, Op.pick (Operand.tmp 46) (Operand.const (Value.bool true)) (Operand.tmp 53), 4, none⟩] (by kernel_rfl) (by kernel_rfl) ?_
            simp [-List.map_take, -List.map_drop, ← List.map_take, ← List.map_drop, Function.comp_def, q1, hw, q2, q3, q4, q5]
            refine zh7 _ ?_
            refine Sat.cond rfl (fun c54 => ?_) (fun c54 => ?_)
            · skip
              try simp at c54
              refine Sat.seqK fun zK11 zh11 zg11 => ?_
              refine Sat.regionP hk [⟨some 4, Op.assign (Operand.const (Value.int IntKind.i64 4)), 36, none⟩] (by kernel_rfl) (by kernel_rfl) ?_
              simp [-List.map_take, -List.map_drop, ← List.map_take, ← List.map_drop, Function.comp_def, q1, hw, q2, q3, q4, q5]
              refine zh11 _ ?_
              refine Sat.ret ?_
              refine zg6 _ _ (by simp) ?_
              simp [-List.map_take, -List.map_drop, ← List.map_take, ← List.map_drop, Function.comp_def, q1, hw, q2, q3, q4, q5]
              exact (chk_bad hbad).symm
            · exfalso; simp [q1, hw, q2, q3, q4, q5] at c54
          · skip
            try simp only [Classical.not_not] at q5
            by_cases q6 : ¬ (b.2.2.2.length : Int) = c.2.2.2.2
            · skip
              have hbad : badShape c b := .inr (.inr (.inr (.inr (.inr q6))))
              refine Sat.regionP hk [⟨some 20, Op.fieldAddr 34 (Operand.tmp 3) 1, 0, none⟩, ⟨some 21, Op.load 3 (Operand.tmp 20), 3, none⟩, ⟨some 22, Op.binOp BinOp.lss 3 (Operand.tmp 21) (Operand.const (Value.int IntKind.i64 0)) 3, 4, none⟩, ⟨some 23, Op.move (Operand.tmp 22), 4, none⟩, ⟨some 24, Op.move (Operand.tmp 5), 3, some (23, false)⟩, ⟨some 25, Op.binOp BinOp.lss 3 (Operand.tmp 24) (Operand.const (Value.int IntKind.i64 1)) 3, 4, some (23, false)⟩, ⟨some 26, Op.pick (Operand.tmp 23) (Operand.const (Value.bool true)) (Operand.tmp 25), 4, none⟩, ⟨some 27, Op.move (Operand.tmp 26), 4, none⟩, ⟨some 28, Op.move (Operand.tmp 5), 3, some (27, false)⟩, ⟨some 29, Op.binOp BinOp.gtr 3 (Operand.tmp 28) (Operand.const (Value.int IntKind.i64 16)) 3, 4, some (27, false)⟩, ⟨some 30, Op.pick (Operand.tmp 27) (Operand.const (Value.bool true)) (Operand.tmp 29), 4, none⟩, ⟨some 31, Op.move (Operand.tmp 30), 4, none⟩, ⟨some 32, Op.fieldAddr 34 (Operand.tmp 3) 0, 0, some (31, false)⟩, ⟨some 33, Op.load 27 (Operand.tmp 32), 27, some (31, false)⟩, ⟨some 34, Op.call { callee := Callee.builtin Builtin.len, args := #[Operand.tmp 33], argTypes := #[27] }, 3, some (31, false)⟩, ⟨some 35, Op.binOp BinOp.gtr 3 (Operand.tmp 34) (Operand.const (Value.int IntKind.i64 128)) 3, 4, some (31, false)⟩, ⟨some 36, Op.pick (Operand.tmp 31) (Operand.const (Value.bool true)) (Operand.tmp 35), 4, none⟩, ⟨some 37, Op.move (Operand.tmp 36), 4, none⟩, ⟨some 38, Op.fieldAddr 34 (Operand.tmp 3) 2, 0, some (37, false)⟩, ⟨some 39, Op.fieldAddr 32 (Operand.tmp 38) 0, 0, some (37, false)⟩, ⟨some 40, Op.load 28 (Operand.tmp 39), 28, some (37, false)⟩, ⟨some 41, Op.call { callee := Callee.builtin Builtin.len, args := #[Operand.tmp 40], argTypes := #[28] }, 3, some (37, false)⟩, ⟨some 42, Op.fieldAddr 23 (Operand.tmp 2) 4, 0, some (37, false)⟩, ⟨some 43, Op.load 3 (Operand.tmp 42), 3, some (37, false)⟩, ⟨some 44, Op.binOp BinOp.neq 3 (Operand.tmp 41) (Operand.tmp 43) 3, 4, some (37, false)⟩, ⟨some 45, Op.pick (Operand.tmp 37) (Operand.const (Value.bool true)) (Operand.tmp 44), 4, none⟩, ⟨some 46, Op.move (Operand.tmp 45), 4, none⟩, ⟨some 47, Op.fieldAddr 34 (Operand.tmp 3) 2, 0, some (46, false)⟩, ⟨some 48, Op.fieldAddr 32 (Operand.tmp 47) 1, 0, some (46, false)⟩, ⟨some 49, Op.load 28 (Operand.tmp 48), 28, some (46, false)⟩, ⟨some 50, Op.call { callee := Callee.builtin Builtin.len, args := #[Operand.tmp 49], argTypes := #[28] }, 3, some (46, false)⟩, ⟨some 51, Op.fieldAddr 23 (Operand.tmp 2) 4, 0, some (46, false)⟩, ⟨some 52, Op.load 3 (Operand.tmp 51), 3, some (46, false)⟩, ⟨some 53, Op.binOp BinOp.neq 3 (Operand.tmp 50) (Operand.tmp 52) 3, 4, some (46, false)⟩, ⟨some 54, Op.pick (Operand.tmp 46) (Operand.const (Value.bool true)) (Operand.tmp 53), 4, none⟩] (by kernel_rfl) (by kernel_rfl) ?_
              simp [-List.map_take, -List.map_drop, ← List.map_take, ← List.map_drop, Function.comp_def, q1, hw, q2, q3, q4, q5, q6]
              refine zh7 _ ?_
              refine Sat.cond rfl (fun c54 => ?_) (fun c54 => ?_)
              · skip
                try simp at c54
                refine Sat.seqK fun zK12 zh12 zg12 => ?_
                refine Sat.regionP hk [⟨some 4, Op.assign (Operand.const (Value.int IntKind.i64 4)), 36, none⟩] (by kernel_rfl) (by kernel_rfl) ?_
                simp [-List.map_take, -List.map_drop, ← List.map_take, ← List.map_drop, Function.comp_def, q1, hw, q2, q3, q4, q5, q6]
                refine zh12 _ ?_
                refine Sat.ret ?_
                refine zg6 _ _ (by simp) ?_
                simp [-List.map_take, -List.map_drop, ← List.map_take, ← List.map_drop, Function.comp_def, q1, hw, q2, q3, q4, q5, q6]
                exact (chk_bad hbad).symm
              · exfalso; simp [q1, hw, q2, q3, q4, q5, q6] at c54
            · skip
              try simp only [Classical.not_not] at q6
              have hgood : ¬ badShape c b := by unfold badShape; omega
              refine Sat.regionP hk [⟨some 20, Op.fieldAddr 34 (Operand.tmp 3) 1, 0, none⟩, ⟨some 21, Op.load 3 (Operand.tmp 20), 3, none⟩, ⟨some 22, Op.binOp BinOp.lss 3 (Operand.tmp 21) (Operand.const (Value.int IntKind.i64 0)) 3, 4, none⟩, ⟨some 23, Op.move (Operand.tmp 22), 4, none⟩, ⟨some 24, Op.move (Operand.tmp 5), 3, some (23, false)⟩, ⟨some 25, Op.binOp BinOp.lss 3 (Operand.tmp 24) (Operand.const (Value.int IntKind.i64 1)) 3, 4, some (23, false)⟩, ⟨some 26, Op.pick (Operand.tmp 23) (Operand.const (Value.bool true)) (Operand.tmp 25), 4, none⟩, ⟨some 27, Op.move (Operand.tmp 26), 4, none⟩, ⟨some 28, Op.move (Operand.tmp 5), 3, some (27, false)⟩, ⟨some 29, Op.binOp BinOp.gtr 3 (Operand.tmp 28) (Operand.const (Value.int IntKind.i64 16)) 3, 4, some (27, false)⟩, ⟨some 30, Op.pick (Operand.tmp 27) (Operand.const (Value.bool true)) (Operand.tmp 29), 4, none⟩, ⟨some 31, Op.move (Operand.tmp 30), 4, none⟩, ⟨some 32, Op.fieldAddr 34 (Operand.tmp 3) 0, 0, some (31, false)⟩, ⟨some 33, Op.load 27 (Operand.tmp 32), 27, some (31, false)⟩, ⟨some 34, Op.call { callee := Callee.builtin Builtin.len, args := #[Operand.tmp 33], argTypes := #[27] }, 3, some (31, false)⟩, ⟨some 35, Op.binOp BinOp.gtr 3 (Operand.tmp 34) (Operand.const (Value.int IntKind.i64 128)) 3, 4, some (31, false)⟩, ⟨some 36, Op.pick (Operand.tmp 31) (Operand.const (Value.bool true)) (Operand.tmp 35), 4, none⟩, ⟨some 37, Op.move (Operand.tmp 36), 4, none⟩, ⟨some 38, Op.fieldAddr 34 (Operand.tmp 3) 2, 0, some (37, false)⟩, ⟨some 39, Op.fieldAddr 32 (Operand.tmp 38) 0, 0, some (37, false)⟩, ⟨some 40, Op.load 28 (Operand.tmp 39), 28, some (37, false)⟩, ⟨some 41, Op.call { callee := Callee.builtin Builtin.len, args := #[Operand.tmp 40], argTypes := #[28] }, 3, some (37, false)⟩, ⟨some 42, Op.fieldAddr 23 (Operand.tmp 2) 4, 0, some (37, false)⟩, ⟨some 43, Op.load 3 (Operand.tmp 42), 3, some (37, false)⟩, ⟨some 44, Op.binOp BinOp.neq 3 (Operand.tmp 41) (Operand.tmp 43) 3, 4, some (37, false)⟩, ⟨some 45, Op.pick (Operand.tmp 37) (Operand.const (Value.bool true)) (Operand.tmp 44), 4, none⟩, ⟨some 46, Op.move (Operand.tmp 45), 4, none⟩, ⟨some 47, Op.fieldAddr 34 (Operand.tmp 3) 2, 0, some (46, false)⟩, ⟨some 48, Op.fieldAddr 32 (Operand.tmp 47) 1, 0, some (46, false)⟩, ⟨some 49, Op.load 28 (Operand.tmp 48), 28, some (46, false)⟩, ⟨some 50, Op.call { callee := Callee.builtin Builtin.len, args := #[Operand.tmp 49], argTypes := #[28] }, 3, some (46, false)⟩, ⟨some 51, Op.fieldAddr 23 (Operand.tmp 2) 4, 0, some (46, false)⟩, ⟨some 52, Op.load 3 (Operand.tmp 51), 3, some (46, false)⟩, ⟨some 53, Op.binOp BinOp.neq 3 (Operand.tmp 50) (Operand.tmp 52) 3, 4, some (46, false)⟩, ⟨some 54, Op.pick (Operand.tmp 46) (Operand.const (Value.bool true)) (Operand.tmp 53), 4, none⟩] (by kernel_rfl) (by kernel_rfl) ?_
              simp [-List.map_take, -List.map_drop, ← List.map_take, ← List.map_drop, Function.comp_def, q1, hw, q2, q3, q4, q5, q6]
              refine zh7 _ ?_
              refine Sat.cond rfl (fun c54 => ?_) (fun c54 => ?_)
              · exfalso; simp [q1, hw, q2, q3, q4, q5, q6] at c54
              · skip
                try simp at c54
                refine Sat.skip ?_
                refine zh6 _ ?_
                refine Sat.seqK fun zK13 zh13 zg13 => ?_
                refine Sat.seqK fun zK14 zh14 zg14 => ?_
                refine Sat.regionP hk [⟨some 55, Op.fieldAddr 34 (Operand.tmp 3) 0, 0, none⟩, ⟨some 56, Op.load 27 (Operand.tmp 55), 27, none⟩, ⟨some 57, Op.call { callee := Callee.builtin Builtin.len, args := #[Operand.tmp 56], argTypes := #[27] }, 3, none⟩, ⟨some 58, Op.move (Operand.const (Value.int IntKind.i64 0)), 3, none⟩] (by kernel_rfl) (by kernel_rfl) ?_
                simp [-List.map_take, -List.map_drop, ← List.map_take, ← List.map_drop, Function.comp_def, q1, hw, q2, q3, q4, q5, q6]
                refine zh14 _ ?_
                refine Sat.loopK (E := ⟨_, _, _⟩) [2, 3, 5, 56, 57] [] [128, 192] ⟨by first | (simp [keepS, q1, hw, q2, q3, q4, q5, q6]; done) | (simp [keepS, q1, hw, q2, q3, q4, q5, q6]; rfl), by first | (simp [keepO, q1, hw, q2, q3, q4, q5, q6]; done) | (simp [keepO, q1, hw, q2, q3, q4, q5, q6]; rfl), by first | (simp [keepB, q1, hw, q2, q3, q4, q5, q6]; done) | (simp [keepB, q1, hw, q2, q3, q4, q5, q6]; rfl)⟩ (zh13) (fun (j : Nat) => (⟨[(58, num j)], [], []⟩ : Ds)) (fun (j : Nat) => j ≤ b.1.length ∧ (b.1.take j).any (badTok c) = false) (fun (j : Nat) => b.1.any (badTok c) = false) (fun (j : Nat) => b.1.length - j) 0 ?_ ?_ ?_ ?_
                · simp
                · exact ⟨by simp [FitL, q1, hw, q2, q3, q4, q5, q6], by simp [FitL, q1, hw, q2, q3, q4, q5, q6], by simp [FitL, q1, hw, q2, q3, q4, q5, q6]⟩
                · rintro j hP0 zo15 zb15 zp15 zq15 zK15 zn15 zx15 zg15
                  try dsimp only [Ds.app, Ds.st, List.cons_append, List.nil_append] at hP0 ⊢
                  refine Sat.seqK fun zK16 zh16 zg16 => ?_
                  refine Sat.regionP hk [⟨some 59, Op.binOp BinOp.lss 3 (Operand.tmp 58) (Operand.tmp 57) 3, 0, none⟩] (by kernel_rfl) (by kernel_rfl) ?_
                  simp [-List.map_take, -List.map_drop, ← List.map_take, ← List.map_drop, Function.comp_def, q1, hw, q2, q3, q4, q5, q6, zp15.st, zq15.st]
                  refine zh16 _ ?_
                  refine Sat.seqK fun zK17 zh17 zg17 => ?_
                  refine Sat.cond rfl (fun c59 => ?_) (fun c59 => ?_)
                  · skip
                    try simp at c59
                    obtain ⟨x, hx⟩ : ∃ z, b.1[j]? = some z := ⟨b.1[j], List.getElem?_eq_getElem c59⟩
                    refine Sat.skip ?_
                    refine zh17 _ ?_
                    refine Sat.seqK fun zK18 zh18 zg18 => ?_
                    refine Sat.blockK fun zK19 zh19 zx19 zg19 => ?_
                    refine Sat.seqK fun zK20 zh20 zg20 => ?_
                    refine Sat.regionP hk [⟨some 60, Op.indexAddr 27 (Operand.tmp 56) (Operand.tmp 58), 0, none⟩, ⟨some 61, Op.load 3 (Operand.tmp 60), 3, none⟩, ⟨some 7, Op.assign (Operand.tmp 61), 3, none⟩] (by kernel_rfl) (by kernel_rfl) ?_
                    simp [-List.map_take, -List.map_drop, ← List.map_take, ← List.map_drop, Function.comp_def, q1, hw, q2, q3, q4, q5, q6, zp15.st, zq15.st, take1 hx, c59]
                    refine zh20 _ ?_
                    refine Sat.seqK fun zK21 zh21 zg21 => ?_
                    by_cases q7 : x < 0
                    · skip
                      refine Sat.regionP hk [⟨some 62, Op.move (Operand.tmp 7), 3, none⟩, ⟨some 63, Op.binOp BinOp.lss 3 (Operand.tmp 62) (Operand.const (Value.int IntKind.i64 0)) 3, 4, none⟩, ⟨some 64, Op.move (Operand.tmp 63), 4, none⟩, ⟨some 65, Op.move (Operand.tmp 7), 3, some (64, false)⟩, ⟨some 66, Op.fieldAddr 23 (Operand.tmp 2) 0, 0, some (64, false)⟩, ⟨some 67, Op.load 3 (Operand.tmp 66), 3, some (64, false)⟩, ⟨some 68, Op.binOp BinOp.geq 3 (Operand.tmp 65) (Operand.tmp 67) 3, 4, some (64, false)⟩, ⟨some 69, Op.pick (Operand.tmp 64) (Operand.const (Value.bool true)) (Operand.tmp 68), 4, none⟩] (by kernel_rfl) (by kernel_rfl) ?_
                      simp [-List.map_take, -List.map_drop, ← List.map_take, ← List.map_drop, Function.comp_def, q1, hw, q2, q3, q4, q5, q6, zp15.st, zq15.st, take1 hx, c59, q7]
                      refine zh21 _ ?_
                      refine Sat.cond rfl (fun c69 => ?_) (fun c69 => ?_)
                      · skip
                        try simp at c69
                        refine Sat.seqK fun zK22 zh22 zg22 => ?_
                        refine Sat.regionP hk [⟨some 4, Op.assign (Operand.const (Value.int IntKind.i64 7)), 36, none⟩] (by kernel_rfl) (by kernel_rfl) ?_
                        simp [-List.map_take, -List.map_drop, ← List.map_take, ← List.map_drop, Function.comp_def, q1, hw, q2, q3, q4, q5, q6, zp15.st, zq15.st, take1 hx, c59, q7]
                        refine zh22 _ ?_
                        refine Sat.ret ?_
                        refine zg19 _ _ (by simp) (by simp) ?_
                        refine zg18 _ _ (by simp) ?_
                        refine zg15 _ _ (by simp) (by simp) ?_
                        refine zg13 _ _ (by simp) ?_
                        simp [-List.map_take, -List.map_drop, ← List.map_take, ← List.map_drop, Function.comp_def, q1, hw, q2, q3, q4, q5, q6, zp15.st, zq15.st, take1 hx, c59, q7]
                        exact (chk_tok hgood hx (.inl q7)).symm
                      · exfalso; simp [q1, hw, q2, q3, q4, q5, q6, zp15.st, zq15.st, take1 hx, c59, q7] at c69
                    · skip
                      refine Sat.regionP hk [⟨some 62, Op.move (Operand.tmp 7), 3, none⟩, ⟨some 63, Op.binOp BinOp.lss 3 (Operand.tmp 62) (Operand.const (Value.int IntKind.i64 0)) 3, 4, none⟩, ⟨some 64, Op.move (Operand.tmp 63), 4, none⟩, ⟨some 65, Op.move (Operand.tmp 7), 3, some (64, false)⟩, ⟨some 66, Op.fieldAddr 23 (Operand.tmp 2) 0, 0, some (64, false)⟩, ⟨some 67, Op.load 3 (Operand.tmp 66), 3, some (64, false)⟩, ⟨some 68, Op.binOp BinOp.geq 3 (Operand.tmp 65) (Operand.tmp 67) 3, 4, some (64, false)⟩, ⟨some 69, Op.pick (Operand.tmp 64) (Operand.const (Value.bool true)) (Operand.tmp 68), 4, none⟩] (by kernel_rfl) (by kernel_rfl) ?_
                      simp [-List.map_take, -List.map_drop, ← List.map_take, ← List.map_drop, Function.comp_def, q1, hw, q2, q3, q4, q5, q6, zp15.st, zq15.st, take1 hx, c59, q7]
                      refine zh21 _ ?_
                      refine Sat.cond rfl (fun c69 => ?_) (fun c69 => ?_)
                      · skip
                        try simp at c69
                        refine Sat.seqK fun zK23 zh23 zg23 => ?_
                        refine Sat.regionP hk [⟨some 4, Op.assign (Operand.const (Value.int IntKind.i64 7)), 36, none⟩] (by kernel_rfl) (by kernel_rfl) ?_
                        simp [-List.map_take, -List.map_drop, ← List.map_take, ← List.map_drop, Function.comp_def, q1, hw, q2, q3, q4, q5, q6, zp15.st, zq15.st, take1 hx, c59, q7]
                        refine zh23 _ ?_
                        refine Sat.ret ?_
                        refine zg19 _ _ (by simp) (by simp) ?_
                        refine zg18 _ _ (by simp) ?_
                        refine zg15 _ _ (by simp) (by simp) ?_
                        refine zg13 _ _ (by simp) ?_
                        simp [-List.map_take, -List.map_drop, ← List.map_take, ← List.map_drop, Function.comp_def, q1, hw, q2, q3, q4, q5, q6, zp15.st, zq15.st, take1 hx, c59, q7]
                        exact (chk_tok hgood hx (.inr c69)).symm
                      · skip
                        try simp at c69
                        have hxg : badTok c x = false := by simp [badTok]; omega
                        refine Sat.skip ?_
                        refine zh19 _ ?_
                        refine zh18 _ ?_
                        refine Sat.regionP hk [⟨some 70, Op.binOp BinOp.add 3 (Operand.tmp 58) (Operand.const (Value.int IntKind.i64 1)) 3, 3, none⟩, ⟨some 58, Op.move (Operand.tmp 70), 3, none⟩] (by kernel_rfl) (by kernel_rfl) ?_
                        simp [-List.map_take, -List.map_drop, ← List.map_take, ← List.map_drop, Function.comp_def, q1, hw, q2, q3, q4, q5, q6, zp15.st, zq15.st, take1 hx, c59, q7]
                        refine zn15 (j + 1) _ ?_ ?_ ?_ ?_
                        · exact ⟨by omega, by rw [any_take_succ hx, hP0.2, hxg]; rfl⟩
                        · first | omega | (dsimp only; omega)
                        · exact ⟨by simp [-List.map_take, -List.map_drop, ← List.map_take, ← List.map_drop, Function.comp_def, FitL, q1, hw, q2, q3, q4, q5, q6, zp15.st, zq15.st, take1 hx, c59, q7, w64s j (by omega)], by simp [-List.map_take, -List.map_drop, ← List.map_take, ← List.map_drop, Function.comp_def, FitL, q1, hw, q2, q3, q4, q5, q6, zp15.st, zq15.st, take1 hx, c59, q7, w64s j (by omega)], by simp [-List.map_take, -List.map_drop, ← List.map_take, ← List.map_drop, Function.comp_def, FitL, q1, hw, q2, q3, q4, q5, q6, zp15.st, zq15.st, take1 hx, c59, q7, w64s j (by omega)]⟩
                        · exact ⟨by simp [-List.map_take, -List.map_drop, ← List.map_take, ← List.map_drop, Function.comp_def, FitL, q1, hw, q2, q3, q4, q5, q6, zp15.st, zq15.st, take1 hx, c59, q7, w64s j (by omega)], by simp [-List.map_take, -List.map_drop, ← List.map_take, ← List.map_drop, Function.comp_def, FitL, q1, hw, q2, q3, q4, q5, q6, zp15.st, zq15.st, take1 hx, c59, q7, w64s j (by omega)], by simp [-List.map_take, -List.map_drop, ← List.map_take, ← List.map_drop, Function.comp_def, FitL, q1, hw, q2, q3, q4, q5, q6, zp15.st, zq15.st, take1 hx, c59, q7, w64s j (by omega)]⟩
                  · skip
                    try simp at c59
                    refine Sat.exit ?_
                    refine zg17 _ _ (by simp) ?_
                    refine zx15 j _ ?_ ?_ ?_
                    · have e1 : j = b.1.length := by omega
                      subst e1; simpa using hP0.2
                    · exact ⟨by simp [-List.map_take, -List.map_drop, ← List.map_take, ← List.map_drop, Function.comp_def, FitL, q1, hw, q2, q3, q4, q5, q6, zp15.st, zq15.st], by simp [-List.map_take, -List.map_drop, ← List.map_take, ← List.map_drop, Function.comp_def, FitL, q1, hw, q2, q3, q4, q5, q6, zp15.st, zq15.st], by simp [-List.map_take, -List.map_drop, ← List.map_take, ← List.map_drop, Function.comp_def, FitL, q1, hw, q2, q3, q4, q5, q6, zp15.st, zq15.st]⟩
                    · exact ⟨by simp [-List.map_take, -List.map_drop, ← List.map_take, ← List.map_drop, Function.comp_def, FitL, q1, hw, q2, q3, q4, q5, q6, zp15.st, zq15.st], by simp [-List.map_take, -List.map_drop, ← List.map_take, ← List.map_drop, Function.comp_def, FitL, q1, hw, q2, q3, q4, q5, q6, zp15.st, zq15.st], by simp [-List.map_take, -List.map_drop, ← List.map_take, ← List.map_drop, Function.comp_def, FitL, q1, hw, q2, q3, q4, q5, q6, zp15.st, zq15.st]⟩
                · rintro j hR0 zo15 zb15 zp15 zq15
                  try dsimp only [Ds.app, Ds.st, List.cons_append, List.nil_append] at hR0 ⊢
                  have htok := hR0
                  refine Sat.seqK fun zK24 zh24 zg24 => ?_
                  refine Sat.seqK fun zK25 zh25 zg25 => ?_
                  refine Sat.regionP hk [⟨some 71, Op.fieldAddr 34 (Operand.tmp 3) 2, 0, none⟩, ⟨some 72, Op.fieldAddr 32 (Operand.tmp 71) 0, 0, none⟩, ⟨some 73, Op.load 28 (Operand.tmp 72), 28, none⟩, ⟨some 74, Op.fieldAddr 34 (Operand.tmp 3) 2, 0, none⟩, ⟨some 75, Op.fieldAddr 32 (Operand.tmp 74) 1, 0, none⟩, ⟨some 76, Op.load 28 (Operand.tmp 75), 28, none⟩, ⟨some 77, Op.buildSlice 107 2 #[(0, Operand.tmp 73), (1, Operand.tmp 76)], 107, none⟩, ⟨some 78, Op.call { callee := Callee.builtin Builtin.len, args := #[Operand.tmp 77], argTypes := #[107] }, 3, none⟩, ⟨some 79, Op.move (Operand.const (Value.int IntKind.i64 0)), 3, none⟩] (by kernel_rfl) (by kernel_rfl) ?_
                  simp [-List.map_take, -List.map_drop, ← List.map_take, ← List.map_drop, Function.comp_def, q1, hw, q2, q3, q4, q5, q6, zp15.st, zq15.st]
                  refine zh25 _ ?_
                  refine Sat.loopK (E := ⟨_, _, _⟩) [2, 5, 77, 78] [4928] [128] ⟨by first | (simp [keepS, q1, hw, q2, q3, q4, q5, q6, zp15.st, zq15.st]; done) | (simp [keepS, q1, hw, q2, q3, q4, q5, q6, zp15.st, zq15.st]; rfl), by first | (simp [keepO, q1, hw, q2, q3, q4, q5, q6, zp15.st, zq15.st]; done) | (simp [keepO, q1, hw, q2, q3, q4, q5, q6, zp15.st, zq15.st]; rfl), by first | (simp [keepB, q1, hw, q2, q3, q4, q5, q6, zp15.st, zq15.st]; done) | (simp [keepB, q1, hw, q2, q3, q4, q5, q6, zp15.st, zq15.st]; rfl)⟩ (zh24) (fun (i : Nat) => (⟨[(79, num i)], [], []⟩ : Ds)) (fun (i : Nat) => i ≤ 2 ∧ ([b.2.2.1, b.2.2.2].take i).all (okLists n c.2.1) = true) (fun (i : Nat) => [b.2.2.1, b.2.2.2].all (okLists n c.2.1) = true) (fun (i : Nat) => 2 - i) 0 ?_ ?_ ?_ ?_
                  · simp
                  · exact ⟨by simp [FitL, q1, hw, q2, q3, q4, q5, q6, zp15.st, zq15.st], by simp [FitL, q1, hw, q2, q3, q4, q5, q6, zp15.st, zq15.st], by simp [FitL, q1, hw, q2, q3, q4, q5, q6, zp15.st, zq15.st]⟩
                  · rintro i hP2 zo26 zb26 zp26 zq26 zK26 zn26 zx26 zg26
                    try dsimp only [Ds.app, Ds.st, List.cons_append, List.nil_append] at hP2 ⊢
                    refine Sat.seqK fun zK27 zh27 zg27 => ?_
                    refine Sat.regionP hk [⟨some 80, Op.binOp BinOp.lss 3 (Operand.tmp 79) (Operand.tmp 78) 3, 0, none⟩] (by kernel_rfl) (by kernel_rfl) ?_
                    simp [-List.map_take, -List.map_drop, ← List.map_take, ← List.map_drop, Function.comp_def, q1, hw, q2, q3, q4, q5, q6, zp15.st, zq15.st, zp26.st, zq26.st]
                    refine zh27 _ ?_
                    refine Sat.seqK fun zK28 zh28 zg28 => ?_
                    refine Sat.cond rfl (fun c80 => ?_) (fun c80 => ?_)
                    · skip
                      try simp at c80
                      obtain ⟨s, hs⟩ : ∃ s, [b.2.2.1, b.2.2.2][i]? = some s := ⟨_, List.getElem?_eq_getElem (l := [b.2.2.1, b.2.2.2]) (i := i) (by simp; omega)⟩
                      have hsl := two_fine hb hs
                      have ht1 := take1 (l := [b.2.2.1, b.2.2.2].map fun c => dCube true c) (x := dCube true s) (j := i) (by rw [List.getElem?_map, hs]; rfl)
                      simp at ht1
                      have c80n : i < 2 := by omega
                      refine Sat.skip ?_
                      refine zh28 _ ?_
                      refine Sat.seqK fun zK29 zh29 zg29 => ?_
                      refine Sat.blockK fun zK30 zh30 zx30 zg30 => ?_
                      refine Sat.seqK fun zK31 zh31 zg31 => ?_
                      refine Sat.regionP hk [⟨some 81, Op.indexAddr 107 (Operand.tmp 77) (Operand.tmp 79), 0, none⟩, ⟨some 82, Op.load 28 (Operand.tmp 81), 28, none⟩, ⟨some 9, Op.assign (Operand.tmp 82), 28, none⟩] (by kernel_rfl) (by kernel_rfl) ?_
                      simp [-List.map_take, -List.map_drop, ← List.map_take, ← List.map_drop, Function.comp_def, q1, hw, q2, q3, q4, q5, q6, zp15.st, zq15.st, zp26.st, zq26.st, ht1, c80, c80n]
                      refine zh31 _ ?_
                      refine Sat.seqK fun zK32 zh32 zg32 => ?_
                      refine Sat.regionP hk [⟨some 83, Op.move (Operand.tmp 9), 28, none⟩, ⟨some 84, Op.call { callee := Callee.builtin Builtin.len, args := #[Operand.tmp 83], argTypes := #[28] }, 3, none⟩, ⟨some 85, Op.move (Operand.const (Value.int IntKind.i64 0)), 3, none⟩] (by kernel_rfl) (by kernel_rfl) ?_
                      simp [-List.map_take, -List.map_drop, ← List.map_take, ← List.map_drop, Function.comp_def, q1, hw, q2, q3, q4, q5, q6, zp15.st, zq15.st, zp26.st, zq26.st, ht1, c80, c80n]
                      refine zh32 _ ?_
                      refine Sat.loopK (E := ⟨_, _, _⟩) [2, 5, 77, 78, 79, 83, 84] [4928] [128] ⟨by first | (simp [keepS, q1, hw, q2, q3, q4, q5, q6, zp15.st, zq15.st, zp26.st, zq26.st, ht1, c80, c80n]; done) | (simp [keepS, q1, hw, q2, q3, q4, q5, q6, zp15.st, zq15.st, zp26.st, zq26.st, ht1, c80, c80n]; rfl), by first | (simp [keepO, q1, hw, q2, q3, q4, q5, q6, zp15.st, zq15.st, zp26.st, zq26.st, ht1, c80, c80n]; done) | (simp [keepO, q1, hw, q2, q3, q4, q5, q6, zp15.st, zq15.st, zp26.st, zq26.st, ht1, c80, c80n]; rfl), by first | (simp [keepB, q1, hw, q2, q3, q4, q5, q6, zp15.st, zq15.st, zp26.st, zq26.st, ht1, c80, c80n]; done) | (simp [keepB, q1, hw, q2, q3, q4, q5, q6, zp15.st, zq15.st, zp26.st, zq26.st, ht1, c80, c80n]; rfl)⟩ (fun s hs => zh30 s (zh29 s hs)) (fun (k : Nat) => (⟨[(85, num k)], [], []⟩ : Ds)) (fun (k : Nat) => k ≤ s.length ∧ okLists n c.2.1 (s.take k) = true) (fun (k : Nat) => okLists n c.2.1 s = true) (fun (k : Nat) => s.length - k) 0 ?_ ?_ ?_ ?_
                      · simp [okLists]
                      · exact ⟨by simp [FitL, q1, hw, q2, q3, q4, q5, q6, zp15.st, zq15.st, zp26.st, zq26.st, ht1, c80, c80n], by simp [FitL, q1, hw, q2, q3, q4, q5, q6, zp15.st, zq15.st, zp26.st, zq26.st, ht1, c80, c80n], by simp [FitL, q1, hw, q2, q3, q4, q5, q6, zp15.st, zq15.st, zp26.st, zq26.st, ht1, c80, c80n]⟩
                      · rintro k hP4 zo33 zb33 zp33 zq33 zK33 zn33 zx33 zg33
                        try dsimp only [Ds.app, Ds.st, List.cons_append, List.nil_append] at hP4 ⊢
                        refine Sat.seqK fun zK34 zh34 zg34 => ?_
                        refine Sat.regionP hk [⟨some 86, Op.binOp BinOp.lss 3 (Operand.tmp 85) (Operand.tmp 84) 3, 0, none⟩] (by kernel_rfl) (by kernel_rfl) ?_
                        simp [-List.map_take, -List.map_drop, ← List.map_take, ← List.map_drop, Function.comp_def, q1, hw, q2, q3, q4, q5, q6, zp15.st, zq15.st, zp26.st, zq26.st, ht1, c80, c80n, zp33.st, zq33.st]
                        refine zh34 _ ?_
                        refine Sat.seqK fun zK35 zh35 zg35 => ?_
                        refine Sat.cond rfl (fun c86 => ?_) (fun c86 => ?_)
                        · skip
                          try simp at c86
                          obtain ⟨m, hm⟩ : ∃ z, s[k]? = some z := ⟨s[k], List.getElem?_eq_getElem c86⟩
                          have hsl1 := hsl.1
                          have hml := hsl.2 m (List.mem_of_getElem? hm)
                          refine Sat.skip ?_
                          refine zh35 _ ?_
                          refine Sat.seqK fun zK36 zh36 zg36 => ?_
                          refine Sat.blockK fun zK37 zh37 zx37 zg37 => ?_
                          refine Sat.seqK fun zK38 zh38 zg38 => ?_
                          refine Sat.regionP hk [⟨some 87, Op.indexAddr 28 (Operand.tmp 83) (Operand.tmp 85), 0, none⟩, ⟨some 88, Op.load 79 (Operand.tmp 87), 79, none⟩, ⟨some 11, Op.assign (Operand.tmp 88), 79, none⟩] (by kernel_rfl) (by kernel_rfl) ?_
                          simp [-List.map_take, -List.map_drop, ← List.map_take, ← List.map_drop, Function.comp_def, q1, hw, q2, q3, q4, q5, q6, zp15.st, zq15.st, zp26.st, zq26.st, ht1, c80, c80n, zp33.st, zq33.st, take1 hm, c86]
                          refine zh38 _ ?_
                          refine Sat.seqK fun zK39 zh39 zg39 => ?_
                          refine Sat.seqK fun zK40 zh40 zg40 => ?_
                          refine Sat.regionP hk [⟨some 89, Op.move (Operand.tmp 11), 79, none⟩, ⟨some 90, Op.call { callee := Callee.builtin Builtin.len, args := #[Operand.tmp 89], argTypes := #[79] }, 3, none⟩, ⟨some 91, Op.move (Operand.tmp 5), 3, none⟩, ⟨some 92, Op.binOp BinOp.neq 3 (Operand.tmp 90) (Operand.tmp 91) 3, 4, none⟩] (by kernel_rfl) (by kernel_rfl) ?_
                          simp [-List.map_take, -List.map_drop, ← List.map_take, ← List.map_drop, Function.comp_def, q1, hw, q2, q3, q4, q5, q6, zp15.st, zq15.st, zp26.st, zq26.st, ht1, c80, c80n, zp33.st, zq33.st, take1 hm, c86]
                          refine zh40 _ ?_
                          refine Sat.cond rfl (fun c92 => ?_) (fun c92 => ?_)
                          · skip
                            try simp at c92
                            refine Sat.seqK fun zK41 zh41 zg41 => ?_
                            refine Sat.regionP hk [⟨some 4, Op.assign (Operand.const (Value.int IntKind.i64 4)), 36, none⟩] (by kernel_rfl) (by kernel_rfl) ?_
                            simp [-List.map_take, -List.map_drop, ← List.map_take, ← List.map_drop, Function.comp_def, q1, hw, q2, q3, q4, q5, q6, zp15.st, zq15.st, zp26.st, zq26.st, ht1, c80, c80n, zp33.st, zq33.st, take1 hm, c86]
                            refine zh41 _ ?_
                            refine Sat.ret ?_
                            refine zg39 _ _ (by simp) ?_
                            refine zg37 _ _ (by simp) (by simp) ?_
                            refine zg36 _ _ (by simp) ?_
                            refine zg33 _ _ (by simp) (by simp) ?_
                            refine zg30 _ _ (by simp) (by simp) ?_
                            refine zg29 _ _ (by simp) ?_
                            refine zg26 _ _ (by simp) (by simp) ?_
                            refine zg24 _ _ (by simp) ?_
                            simp [-List.map_take, -List.map_drop, ← List.map_take, ← List.map_drop, Function.comp_def, q1, hw, q2, q3, q4, q5, q6, zp15.st, zq15.st, zp26.st, zq26.st, ht1, c80, c80n, zp33.st, zq33.st, take1 hm, c86]
                            exact (chk_lists hnd hgood htok hs (lists_len hm c92)).symm
                          · skip
                            try simp at c92
                            refine Sat.skip ?_
                            refine zh39 _ ?_
                            refine Sat.seqK fun zK42 zh42 zg42 => ?_
                            refine Sat.regionP hk [⟨some 93, Op.move (Operand.tmp 11), 79, none⟩, ⟨some 94, Op.call { callee := Callee.builtin Builtin.len, args := #[Operand.tmp 93], argTypes := #[79] }, 3, none⟩, ⟨some 95, Op.move (Operand.const (Value.int IntKind.i64 0)), 3, none⟩] (by kernel_rfl) (by kernel_rfl) ?_
                            simp [-List.map_take, -List.map_drop, ← List.map_take, ← List.map_drop, Function.comp_def, q1, hw, q2, q3, q4, q5, q6, zp15.st, zq15.st, zp26.st, zq26.st, ht1, c80, c80n, zp33.st, zq33.st, take1 hm, c86]
                            refine zh42 _ ?_
                            refine Sat.loopK (E := ⟨_, _, _⟩) [2, 5, 77, 78, 79, 83, 84, 85, 93, 94] [4928] [128] ⟨by first | (simp [keepS, q1, hw, q2, q3, q4, q5, q6, zp15.st, zq15.st, zp26.st, zq26.st, ht1, c80, c80n, zp33.st, zq33.st, take1 hm, c86]; done) | (simp [keepS, q1, hw, q2, q3, q4, q5, q6, zp15.st, zq15.st, zp26.st, zq26.st, ht1, c80, c80n, zp33.st, zq33.st, take1 hm, c86]; rfl), by first | (simp [keepO, q1, hw, q2, q3, q4, q5, q6, zp15.st, zq15.st, zp26.st, zq26.st, ht1, c80, c80n, zp33.st, zq33.st, take1 hm, c86]; done) | (simp [keepO, q1, hw, q2, q3, q4, q5, q6, zp15.st, zq15.st, zp26.st, zq26.st, ht1, c80, c80n, zp33.st, zq33.st, take1 hm, c86]; rfl), by first | (simp [keepB, q1, hw, q2, q3, q4, q5, q6, zp15.st, zq15.st, zp26.st, zq26.st, ht1, c80, c80n, zp33.st, zq33.st, take1 hm, c86]; done) | (simp [keepB, q1, hw, q2, q3, q4, q5, q6, zp15.st, zq15.st, zp26.st, zq26.st, ht1, c80, c80n, zp33.st, zq33.st, take1 hm, c86]; rfl)⟩ (fun s hs => zh37 s (zh36 s hs)) (fun (q : Nat) => (⟨[(95, num q)], [], []⟩ : Ds)) (fun (q : Nat) => q ≤ m.length ∧ okRows c.2.1 (m.take q) = true) (fun (q : Nat) => okRows c.2.1 m = true) (fun (q : Nat) => m.length - q) 0 ?_ ?_ ?_ ?_
                            · simp [okRows]
                            · exact ⟨by simp [FitL, q1, hw, q2, q3, q4, q5, q6, zp15.st, zq15.st, zp26.st, zq26.st, ht1, c80, c80n, zp33.st, zq33.st, take1 hm, c86], by simp [FitL, q1, hw, q2, q3, q4, q5, q6, zp15.st, zq15.st, zp26.st, zq26.st, ht1, c80, c80n, zp33.st, zq33.st, take1 hm, c86], by simp [FitL, q1, hw, q2, q3, q4, q5, q6, zp15.st, zq15.st, zp26.st, zq26.st, ht1, c80, c80n, zp33.st, zq33.st, take1 hm, c86]⟩
                            · rintro q hP6 zo43 zb43 zp43 zq43 zK43 zn43 zx43 zg43
                              try dsimp only [Ds.app, Ds.st, List.cons_append, List.nil_append] at hP6 ⊢
                              refine Sat.seqK fun zK44 zh44 zg44 => ?_
                              refine Sat.regionP hk [⟨some 96, Op.binOp BinOp.lss 3 (Operand.tmp 95) (Operand.tmp 94) 3, 0, none⟩] (by kernel_rfl) (by kernel_rfl) ?_
                              simp [-List.map_take, -List.map_drop, ← List.map_take, ← List.map_drop, Function.comp_def, q1, hw, q2, q3, q4, q5, q6, zp15.st, zq15.st, zp26.st, zq26.st, ht1, c80, c80n, zp33.st, zq33.st, take1 hm, c86, zp43.st, zq43.st]
                              refine zh44 _ ?_
                              refine Sat.seqK fun zK45 zh45 zg45 => ?_
                              refine Sat.cond rfl (fun c96 => ?_) (fun c96 => ?_)
                              · skip
                                try simp at c96
                                obtain ⟨r, hr⟩ : ∃ z, m[q]? = some z := ⟨m[q], List.getElem?_eq_getElem c96⟩
                                refine Sat.skip ?_
                                refine zh45 _ ?_
                                refine Sat.seqK fun zK46 zh46 zg46 => ?_
                                refine Sat.blockK fun zK47 zh47 zx47 zg47 => ?_
                                refine Sat.seqK fun zK48 zh48 zg48 => ?_
                                refine Sat.regionP hk [⟨some 97, Op.indexAddr 79 (Operand.tmp 93) (Operand.tmp 95), 0, none⟩, ⟨some 98, Op.load 51 (Operand.tmp 97), 51, none⟩, ⟨some 13, Op.assign (Operand.tmp 98), 51, none⟩] (by kernel_rfl) (by kernel_rfl) ?_
                                simp [-List.map_take, -List.map_drop, ← List.map_take, ← List.map_drop, Function.comp_def, q1, hw, q2, q3, q4, q5, q6, zp15.st, zq15.st, zp26.st, zq26.st, ht1, c80, c80n, zp33.st, zq33.st, take1 hm, c86, zp43.st, zq43.st, take1 hr, c96]
                                refine zh48 _ ?_
                                refine Sat.seqK fun zK49 zh49 zg49 => ?_
                                refine Sat.regionP hk [⟨some 99, Op.move (Operand.tmp 13), 51, none⟩, ⟨some 100, Op.call { callee := Callee.builtin Builtin.len, args := #[Operand.tmp 99], argTypes := #[51] }, 3, none⟩, ⟨some 101, Op.fieldAddr 23 (Operand.tmp 2) 1, 0, none⟩, ⟨some 102, Op.load 3 (Operand.tmp 101), 3, none⟩, ⟨some 103, Op.binOp BinOp.neq 3 (Operand.tmp 100) (Operand.tmp 102) 3, 4, none⟩] (by kernel_rfl) (by kernel_rfl) ?_
                                simp [-List.map_take, -List.map_drop, ← List.map_take, ← List.map_drop, Function.comp_def, q1, hw, q2, q3, q4, q5, q6, zp15.st, zq15.st, zp26.st, zq26.st, ht1, c80, c80n, zp33.st, zq33.st, take1 hm, c86, zp43.st, zq43.st, take1 hr, c96]
                                refine zh49 _ ?_
                                refine Sat.cond rfl (fun c103 => ?_) (fun c103 => ?_)
                                · skip
                                  try simp at c103
                                  refine Sat.seqK fun zK50 zh50 zg50 => ?_
                                  refine Sat.regionP hk [⟨some 4, Op.assign (Operand.const (Value.int IntKind.i64 4)), 36, none⟩] (by kernel_rfl) (by kernel_rfl) ?_
                                  simp [-List.map_take, -List.map_drop, ← List.map_take, ← List.map_drop, Function.comp_def, q1, hw, q2, q3, q4, q5, q6, zp15.st, zq15.st, zp26.st, zq26.st, ht1, c80, c80n, zp33.st, zq33.st, take1 hm, c86, zp43.st, zq43.st, take1 hr, c96]
                                  refine zh50 _ ?_
                                  refine Sat.ret ?_
                                  refine zg47 _ _ (by simp) (by simp) ?_
                                  refine zg46 _ _ (by simp) ?_
                                  refine zg43 _ _ (by simp) (by simp) ?_
                                  refine zg37 _ _ (by simp) (by simp) ?_
                                  refine zg36 _ _ (by simp) ?_
                                  refine zg33 _ _ (by simp) (by simp) ?_
                                  refine zg30 _ _ (by simp) (by simp) ?_
                                  refine zg29 _ _ (by simp) ?_
                                  refine zg26 _ _ (by simp) (by simp) ?_
                                  refine zg24 _ _ (by simp) ?_
                                  simp [-List.map_take, -List.map_drop, ← List.map_take, ← List.map_drop, Function.comp_def, q1, hw, q2, q3, q4, q5, q6, zp15.st, zq15.st, zp26.st, zq26.st, ht1, c80, c80n, zp33.st, zq33.st, take1 hm, c86, zp43.st, zq43.st, take1 hr, c96]
                                  exact (chk_lists hnd hgood htok hs (lists_row hm hr c103)).symm
                                · skip
                                  try simp at c103
                                  refine Sat.skip ?_
                                  refine zh47 _ ?_
                                  refine zh46 _ ?_
                                  refine Sat.regionP hk [⟨some 104, Op.binOp BinOp.add 3 (Operand.tmp 95) (Operand.const (Value.int IntKind.i64 1)) 3, 3, none⟩, ⟨some 95, Op.move (Operand.tmp 104), 3, none⟩] (by kernel_rfl) (by kernel_rfl) ?_
                                  simp [-List.map_take, -List.map_drop, ← List.map_take, ← List.map_drop, Function.comp_def, q1, hw, q2, q3, q4, q5, q6, zp15.st, zq15.st, zp26.st, zq26.st, ht1, c80, c80n, zp33.st, zq33.st, take1 hm, c86, zp43.st, zq43.st, take1 hr, c96]
                                  refine zn43 (q + 1) _ ?_ ?_ ?_ ?_
                                  · refine ⟨by omega, ?_⟩
                                    unfold okRows at hP6 ⊢
                                    rw [all_take_succ hr, hP6.2]; simp; simpa using c103
                                  · first | omega | (dsimp only; omega)
                                  · exact ⟨by simp [-List.map_take, -List.map_drop, ← List.map_take, ← List.map_drop, Function.comp_def, FitL, q1, hw, q2, q3, q4, q5, q6, zp15.st, zq15.st, zp26.st, zq26.st, ht1, c80, c80n, zp33.st, zq33.st, take1 hm, c86, zp43.st, zq43.st, take1 hr, c96, w64s q (by omega)], by simp [-List.map_take, -List.map_drop, ← List.map_take, ← List.map_drop, Function.comp_def, FitL, q1, hw, q2, q3, q4, q5, q6, zp15.st, zq15.st, zp26.st, zq26.st, ht1, c80, c80n, zp33.st, zq33.st, take1 hm, c86, zp43.st, zq43.st, take1 hr, c96, w64s q (by omega)], by simp [-List.map_take, -List.map_drop, ← List.map_take, ← List.map_drop, Function.comp_def, FitL, q1, hw, q2, q3, q4, q5, q6, zp15.st, zq15.st, zp26.st, zq26.st, ht1, c80, c80n, zp33.st, zq33.st, take1 hm, c86, zp43.st, zq43.st, take1 hr, c96, w64s q (by omega)]⟩
                                  · exact ⟨by simp [-List.map_take, -List.map_drop, ← List.map_take, ← List.map_drop, Function.comp_def, FitL, q1, hw, q2, q3, q4, q5, q6, zp15.st, zq15.st, zp26.st, zq26.st, ht1, c80, c80n, zp33.st, zq33.st, take1 hm, c86, zp43.st, zq43.st, take1 hr, c96, w64s q (by omega)], by simp [-List.map_take, -List.map_drop, ← List.map_take, ← List.map_drop, Function.comp_def, FitL, q1, hw, q2, q3, q4, q5, q6, zp15.st, zq15.st, zp26.st, zq26.st, ht1, c80, c80n, zp33.st, zq33.st, take1 hm, c86, zp43.st, zq43.st, take1 hr, c96, w64s q (by omega)], by simp [-List.map_take, -List.map_drop, ← List.map_take, ← List.map_drop, Function.comp_def, FitL, q1, hw, q2, q3, q4, q5, q6, zp15.st, zq15.st, zp26.st, zq26.st, ht1, c80, c80n, zp33.st, zq33.st, take1 hm, c86, zp43.st, zq43.st, take1 hr, c96, w64s q (by omega)]⟩
                              · skip
                                try simp at c96
                                refine Sat.exit ?_
                                refine zg45 _ _ (by simp) ?_
                                refine zx43 q _ ?_ ?_ ?_
                                · have e1 : q = m.length := by omega
                                  subst e1; simpa using hP6.2
                                · exact ⟨by simp [-List.map_take, -List.map_drop, ← List.map_take, ← List.map_drop, Function.comp_def, FitL, q1, hw, q2, q3, q4, q5, q6, zp15.st, zq15.st, zp26.st, zq26.st, ht1, c80, c80n, zp33.st, zq33.st, take1 hm, c86, zp43.st, zq43.st], by simp [-List.map_take, -List.map_drop, ← List.map_take, ← List.map_drop, Function.comp_def, FitL, q1, hw, q2, q3, q4, q5, q6, zp15.st, zq15.st, zp26.st, zq26.st, ht1, c80, c80n, zp33.st, zq33.st, take1 hm, c86, zp43.st, zq43.st], by simp [-List.map_take, -List.map_drop, ← List.map_take, ← List.map_drop, Function.comp_def, FitL, q1, hw, q2, q3, q4, q5, q6, zp15.st, zq15.st, zp26.st, zq26.st, ht1, c80, c80n, zp33.st, zq33.st, take1 hm, c86, zp43.st, zq43.st]⟩
                                · exact ⟨by simp [-List.map_take, -List.map_drop, ← List.map_take, ← List.map_drop, Function.comp_def, FitL, q1, hw, q2, q3, q4, q5, q6, zp15.st, zq15.st, zp26.st, zq26.st, ht1, c80, c80n, zp33.st, zq33.st, take1 hm, c86, zp43.st, zq43.st], by simp [-List.map_take, -List.map_drop, ← List.map_take, ← List.map_drop, Function.comp_def, FitL, q1, hw, q2, q3, q4, q5, q6, zp15.st, zq15.st, zp26.st, zq26.st, ht1, c80, c80n, zp33.st, zq33.st, take1 hm, c86, zp43.st, zq43.st], by simp [-List.map_take, -List.map_drop, ← List.map_take, ← List.map_drop, Function.comp_def, FitL, q1, hw, q2, q3, q4, q5, q6, zp15.st, zq15.st, zp26.st, zq26.st, ht1, c80, c80n, zp33.st, zq33.st, take1 hm, c86, zp43.st, zq43.st]⟩
                            · rintro q hR6 zo43 zb43 zp43 zq43
                              try dsimp only [Ds.app, Ds.st, List.cons_append, List.nil_append] at hR6 ⊢
                              have hmk := hR6
                              refine Sat.regionP hk [⟨some 105, Op.binOp BinOp.add 3 (Operand.tmp 85) (Operand.const (Value.int IntKind.i64 1)) 3, 3, none⟩, ⟨some 85, Op.move (Operand.tmp 105), 3, none⟩] (by kernel_rfl) (by kernel_rfl) ?_
                              simp [-List.map_take, -List.map_drop, ← List.map_take, ← List.map_drop, Function.comp_def, q1, hw, q2, q3, q4, q5, q6, zp15.st, zq15.st, zp26.st, zq26.st, ht1, c80, c80n, zp33.st, zq33.st, take1 hm, c86, zp43.st, zq43.st]
                              refine zn33 (k + 1) _ ?_ ?_ ?_ ?_
                              · refine ⟨by omega, ?_⟩
                                unfold okLists at hP4 ⊢
                                rw [all_take_succ hm, hP4.2, hmk]; simp; simpa using c92
                              · first | omega | (dsimp only; omega)
                              · exact ⟨by simp [-List.map_take, -List.map_drop, ← List.map_take, ← List.map_drop, Function.comp_def, FitL, q1, hw, q2, q3, q4, q5, q6, zp15.st, zq15.st, zp26.st, zq26.st, ht1, c80, c80n, zp33.st, zq33.st, take1 hm, c86, zp43.st, zq43.st, w64s k (by omega)], by simp [-List.map_take, -List.map_drop, ← List.map_take, ← List.map_drop, Function.comp_def, FitL, q1, hw, q2, q3, q4, q5, q6, zp15.st, zq15.st, zp26.st, zq26.st, ht1, c80, c80n, zp33.st, zq33.st, take1 hm, c86, zp43.st, zq43.st, w64s k (by omega)], by simp [-List.map_take, -List.map_drop, ← List.map_take, ← List.map_drop, Function.comp_def, FitL, q1, hw, q2, q3, q4, q5, q6, zp15.st, zq15.st, zp26.st, zq26.st, ht1, c80, c80n, zp33.st, zq33.st, take1 hm, c86, zp43.st, zq43.st, w64s k (by omega)]⟩
                              · exact ⟨by simp [-List.map_take, -List.map_drop, ← List.map_take, ← List.map_drop, Function.comp_def, FitL, q1, hw, q2, q3, q4, q5, q6, zp15.st, zq15.st, zp26.st, zq26.st, ht1, c80, c80n, zp33.st, zq33.st, take1 hm, c86, zp43.st, zq43.st, w64s k (by omega)], by simp [-List.map_take, -List.map_drop, ← List.map_take, ← List.map_drop, Function.comp_def, FitL, q1, hw, q2, q3, q4, q5, q6, zp15.st, zq15.st, zp26.st, zq26.st, ht1, c80, c80n, zp33.st, zq33.st, take1 hm, c86, zp43.st, zq43.st, w64s k (by omega)], by simp [-List.map_take, -List.map_drop, ← List.map_take, ← List.map_drop, Function.comp_def, FitL, q1, hw, q2, q3, q4, q5, q6, zp15.st, zq15.st, zp26.st, zq26.st, ht1, c80, c80n, zp33.st, zq33.st, take1 hm, c86, zp43.st, zq43.st, w64s k (by omega)]⟩
                        · skip
                          try simp at c86
                          refine Sat.exit ?_
                          refine zg35 _ _ (by simp) ?_
                          refine zx33 k _ ?_ ?_ ?_
                          · have e1 : k = s.length := by omega
                            subst e1; simpa using hP4.2
                          · exact ⟨by simp [-List.map_take, -List.map_drop, ← List.map_take, ← List.map_drop, Function.comp_def, FitL, q1, hw, q2, q3, q4, q5, q6, zp15.st, zq15.st, zp26.st, zq26.st, ht1, c80, c80n, zp33.st, zq33.st], by simp [-List.map_take, -List.map_drop, ← List.map_take, ← List.map_drop, Function.comp_def, FitL, q1, hw, q2, q3, q4, q5, q6, zp15.st, zq15.st, zp26.st, zq26.st, ht1, c80, c80n, zp33.st, zq33.st], by simp [-List.map_take, -List.map_drop, ← List.map_take, ← List.map_drop, Function.comp_def, FitL, q1, hw, q2, q3, q4, q5, q6, zp15.st, zq15.st, zp26.st, zq26.st, ht1, c80, c80n, zp33.st, zq33.st]⟩
                          · exact ⟨by simp [-List.map_take, -List.map_drop, ← List.map_take, ← List.map_drop, Function.comp_def, FitL, q1, hw, q2, q3, q4, q5, q6, zp15.st, zq15.st, zp26.st, zq26.st, ht1, c80, c80n, zp33.st, zq33.st], by simp [-List.map_take, -List.map_drop, ← List.map_take, ← List.map_drop, Function.comp_def, FitL, q1, hw, q2, q3, q4, q5, q6, zp15.st, zq15.st, zp26.st, zq26.st, ht1, c80, c80n, zp33.st, zq33.st], by simp [-List.map_take, -List.map_drop, ← List.map_take, ← List.map_drop, Function.comp_def, FitL, q1, hw, q2, q3, q4, q5, q6, zp15.st, zq15.st, zp26.st, zq26.st, ht1, c80, c80n, zp33.st, zq33.st]⟩
                      · rintro k hR4 zo33 zb33 zp33 zq33
                        try dsimp only [Ds.app, Ds.st, List.cons_append, List.nil_append] at hR4 ⊢
                        have hsk := hR4
                        refine Sat.regionP hk [⟨some 106, Op.binOp BinOp.add 3 (Operand.tmp 79) (Operand.const (Value.int IntKind.i64 1)) 3, 3, none⟩, ⟨some 79, Op.move (Operand.tmp 106), 3, none⟩] (by kernel_rfl) (by kernel_rfl) ?_
                        simp [-List.map_take, -List.map_drop, ← List.map_take, ← List.map_drop, Function.comp_def, q1, hw, q2, q3, q4, q5, q6, zp15.st, zq15.st, zp26.st, zq26.st, ht1, c80, c80n, zp33.st, zq33.st]
                        refine zn26 (i + 1) _ ?_ ?_ ?_ ?_
                        · exact ⟨by omega, by rw [all_take_succ hs, hP2.2]; simpa using hsk⟩
                        · first | omega | (dsimp only; omega)
                        · exact ⟨by simp [-List.map_take, -List.map_drop, ← List.map_take, ← List.map_drop, Function.comp_def, FitL, q1, hw, q2, q3, q4, q5, q6, zp15.st, zq15.st, zp26.st, zq26.st, ht1, c80, c80n, zp33.st, zq33.st, w64s i (by omega)], by simp [-List.map_take, -List.map_drop, ← List.map_take, ← List.map_drop, Function.comp_def, FitL, q1, hw, q2, q3, q4, q5, q6, zp15.st, zq15.st, zp26.st, zq26.st, ht1, c80, c80n, zp33.st, zq33.st, w64s i (by omega)], by simp [-List.map_take, -List.map_drop, ← List.map_take, ← List.map_drop, Function.comp_def, FitL, q1, hw, q2, q3, q4, q5, q6, zp15.st, zq15.st, zp26.st, zq26.st, ht1, c80, c80n, zp33.st, zq33.st, w64s i (by omega)]⟩
                        · exact ⟨by simp [-List.map_take, -List.map_drop, ← List.map_take, ← List.map_drop, Function.comp_def, FitL, q1, hw, q2, q3, q4, q5, q6, zp15.st, zq15.st, zp26.st, zq26.st, ht1, c80, c80n, zp33.st, zq33.st, w64s i (by omega)], by simp [-List.map_take, -List.map_drop, ← List.map_take, ← List.map_drop, Function.comp_def, FitL, q1, hw, q2, q3, q4, q5, q6, zp15.st, zq15.st, zp26.st, zq26.st, ht1, c80, c80n, zp33.st, zq33.st, w64s i (by omega)], by simp [-List.map_take, -List.map_drop, ← List.map_take, ← List.map_drop, Function.comp_def, FitL, q1, hw, q2, q3, q4, q5, q6, zp15.st, zq15.st, zp26.st, zq26.st, ht1, c80, c80n, zp33.st, zq33.st, w64s i (by omega)]⟩
                    · skip
                      try simp at c80
                      refine Sat.exit ?_
                      refine zg28 _ _ (by simp) ?_
                      refine zx26 i _ ?_ ?_ ?_
                      · have e1 : i = 2 := by omega
                        subst e1; simpa using hP2.2
                      · exact ⟨by simp [-List.map_take, -List.map_drop, ← List.map_take, ← List.map_drop, Function.comp_def, FitL, q1, hw, q2, q3, q4, q5, q6, zp15.st, zq15.st, zp26.st, zq26.st], by simp [-List.map_take, -List.map_drop, ← List.map_take, ← List.map_drop, Function.comp_def, FitL, q1, hw, q2, q3, q4, q5, q6, zp15.st, zq15.st, zp26.st, zq26.st], by simp [-List.map_take, -List.map_drop, ← List.map_take, ← List.map_drop, Function.comp_def, FitL, q1, hw, q2, q3, q4, q5, q6, zp15.st, zq15.st, zp26.st, zq26.st]⟩
                      · exact ⟨by simp [-List.map_take, -List.map_drop, ← List.map_take, ← List.map_drop, Function.comp_def, FitL, q1, hw, q2, q3, q4, q5, q6, zp15.st, zq15.st, zp26.st, zq26.st], by simp [-List.map_take, -List.map_drop, ← List.map_take, ← List.map_drop, Function.comp_def, FitL, q1, hw, q2, q3, q4, q5, q6, zp15.st, zq15.st, zp26.st, zq26.st], by simp [-List.map_take, -List.map_drop, ← List.map_take, ← List.map_drop, Function.comp_def, FitL, q1, hw, q2, q3, q4, q5, q6, zp15.st, zq15.st, zp26.st, zq26.st]⟩
                  · rintro i hR2 zo26 zb26 zp26 zq26
                    try dsimp only [Ds.app, Ds.st, List.cons_append, List.nil_append] at hR2 ⊢
                    have hsd := hR2
                    refine Sat.seqK fun zK51 zh51 zg51 => ?_
                    refine Sat.regionP hk [⟨some 4, Op.assign (Operand.const (Value.int IntKind.i64 0)), 36, none⟩] (by kernel_rfl) (by kernel_rfl) ?_
                    simp [-List.map_take, -List.map_drop, ← List.map_take, ← List.map_drop, Function.comp_def, q1, hw, q2, q3, q4, q5, q6, zp15.st, zq15.st, zp26.st, zq26.st]
                    refine zh51 _ ?_
                    refine Sat.ret ?_
                    simp [-List.map_take, -List.map_drop, ← List.map_take, ← List.map_drop, Function.comp_def, q1, hw, q2, q3, q4, q5, q6, zp15.st, zq15.st, zp26.st, zq26.st]
                    exact (chk_fine hnd hgood htok hsd).symm
end Go.Proofs.Ytmbmebfeoejlnaa.Ab
