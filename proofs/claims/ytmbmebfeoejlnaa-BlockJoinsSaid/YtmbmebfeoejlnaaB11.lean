/- A block's form. -/
import Derived.Test.YtmbmebfeoejlnaaB10
namespace Go.Proofs.Ytmbmebfeoejlnaa.Ab
set_option linter.unusedVariables false
set_option linter.unusedSimpArgs false
open Go.RowKit
abbrev Cfg := Int × Int × Int × Int × Int
abbrev tCfg : Ty Cfg := tPair t64 (tPair t64 (tPair t64 (tPair t64 t64)))
abbrev eCfg (c : Cfg) : List D := [.lit (.int .i64 c.1), .lit (.int .i64 c.2.1), .lit (.int .i64 c.2.2.1), .lit (.int .i64 c.2.2.2.1), .lit (.int .i64 c.2.2.2.2)]
def okRows (dim : Int) (m : List (List Int)) : Bool := m.all fun r => decide ((r.length : Int) = dim)
def okLists (n dim : Int) (c : Cube) : Bool := c.all fun m => decide ((m.length : Int) = n) && okRows dim m
def badTok (c : Cfg) (t : Int) : Bool := decide (t < 0 ∨ c.1 ≤ t)
def badShape (c : Cfg) (b : Blk) : Prop := b.2.1 < 0 ∨ (b.1.length : Int) - b.2.1 < 1 ∨ 16 < (b.1.length : Int) - b.2.1 ∨ 128 < (b.1.length : Int) ∨ (b.2.2.1.length : Int) ≠ c.2.2.2.2 ∨ (b.2.2.2.length : Int) ≠ c.2.2.2.2
instance (c : Cfg) (b : Blk) : Decidable (badShape c b) := by unfold badShape; infer_instance
def chk (c : Cfg) (b : Blk) : Int := if badShape c b then 4 else if b.1.any (badTok c) then 7 else if okLists ((b.1.length : Int) - b.2.1) c.2.1 b.2.2.1 && okLists ((b.1.length : Int) - b.2.1) c.2.1 b.2.2.2 then 0 else 4
def S59 : Spec := fun gs => sp3 false (tCube) false (t64) false (t64) (fun l n d => if lenOK l then some (oBool (okLists n d l)) else none) gs
@[simp] theorem S59_eq (gs : List Arg) : S59 gs = sp3 false (tCube) false (t64) false (t64) (fun l n d => if lenOK l then some (oBool (okLists n d l)) else none) gs := rfl
theorem k59 : Contract Try.prog 59 S59 := by
  refine Contract.intro3 (C := cx 41 []) Try.func59 rfl rfl rfl (by show 3 ≤ 41; decide) fun l n d out ho fr => ?_
  have hk := knowsX (N := 41) (l := []) trivial
  split at ho
  case isFalse => cases ho
  rename_i hn
  obtain rfl := Option.some.inj ho
  have hn1 := hn.1
  refine Sat.seqK fun zK1 zh1 zg1 => ?_
  refine Sat.regionP hk [⟨some 6, Op.assign (Operand.const (Value.bool false)), 4, none⟩] (by kernel_rfl) (by kernel_rfl) ?_
  simp [-List.map_take, -List.map_drop, ← List.map_take, ← List.map_drop, Function.comp_def]
  refine zh1 _ ?_
  refine Sat.seqK fun zK2 zh2 zg2 => ?_
  refine Sat.regionP hk [⟨some 7, Op.assign (Operand.const (Value.bool true)), 4, none⟩] (by kernel_rfl) (by kernel_rfl) ?_
  simp [-List.map_take, -List.map_drop, ← List.map_take, ← List.map_drop, Function.comp_def]
  refine zh2 _ ?_
  refine Sat.seqK fun zK3 zh3 zg3 => ?_
  refine Sat.seqK fun zK4 zh4 zg4 => ?_
  refine Sat.regionP hk [⟨some 12, Op.move (Operand.tmp 0), 28, none⟩, ⟨some 13, Op.call { callee := Callee.builtin Builtin.len, args := #[Operand.tmp 12], argTypes := #[28] }, 3, none⟩, ⟨some 14, Op.move (Operand.const (Value.int IntKind.i64 0)), 3, none⟩] (by kernel_rfl) (by kernel_rfl) ?_
  simp [-List.map_take, -List.map_drop, ← List.map_take, ← List.map_drop, Function.comp_def]
  refine zh4 _ ?_
  refine Sat.loopK (E := ⟨_, _, _⟩) [1, 2, 12, 13] [] [] ⟨by first | (simp [keepS]; done) | (simp [keepS]; rfl), by first | (simp [keepO]; done) | (simp [keepO]; rfl), by first | (simp [keepB]; done) | (simp [keepB]; rfl)⟩ (zh3) (fun (j : Nat) => (⟨[(14, num j), (7, bol (okLists n d (l.take j)))], [], []⟩ : Ds)) (fun (j : Nat) => j ≤ l.length) (fun (j : Nat) => j = l.length) (fun (j : Nat) => l.length - j) 0 ?_ ?_ ?_ ?_
  · first | omega | (dsimp only; omega)
  · exact ⟨by simp [FitL, okLists], by simp [FitL, okLists], by simp [FitL, okLists]⟩
  · rintro j hP0 zo5 zb5 zp5 zq5 zK5 zn5 zx5 zg5
    try dsimp only [Ds.app, Ds.st, List.cons_append, List.nil_append] at hP0 ⊢
    refine Sat.seqK fun zK6 zh6 zg6 => ?_
    refine Sat.regionP hk [⟨some 15, Op.binOp BinOp.lss 3 (Operand.tmp 14) (Operand.tmp 13) 3, 0, none⟩] (by kernel_rfl) (by kernel_rfl) ?_
    simp [-List.map_take, -List.map_drop, ← List.map_take, ← List.map_drop, Function.comp_def, zp5.st, zq5.st]
    refine zh6 _ ?_
    refine Sat.seqK fun zK7 zh7 zg7 => ?_
    refine Sat.cond rfl (fun c15 => ?_) (fun c15 => ?_)
    · skip
      try simp at c15
      obtain ⟨x, hx⟩ : ∃ z, l[j]? = some z := ⟨l[j], List.getElem?_eq_getElem c15⟩
      have hxl := (hn.2 x (List.mem_of_getElem? hx)).1
      refine Sat.skip ?_
      refine zh7 _ ?_
      refine Sat.seqK fun zK8 zh8 zg8 => ?_
      refine Sat.blockK fun zK9 zh9 zx9 zg9 => ?_
      refine Sat.seqK fun zK10 zh10 zg10 => ?_
      refine Sat.regionP hk [⟨some 16, Op.indexAddr 28 (Operand.tmp 12) (Operand.tmp 14), 0, none⟩, ⟨some 17, Op.load 79 (Operand.tmp 16), 79, none⟩, ⟨some 9, Op.assign (Operand.tmp 17), 79, none⟩] (by kernel_rfl) (by kernel_rfl) ?_
      simp [-List.map_take, -List.map_drop, ← List.map_take, ← List.map_drop, Function.comp_def, zp5.st, zq5.st, take1 hx, c15]
      refine zh10 _ ?_
      refine Sat.seqK fun zK11 zh11 zg11 => ?_
      refine Sat.joinK (E := ⟨_, _, _⟩) [1, 2, 9, 12, 13, 14] [] [] ⟨by first | (simp [keepS, zp5.st, zq5.st, take1 hx, c15]; done) | (simp [keepS, zp5.st, zq5.st, take1 hx, c15]; rfl), by first | (simp [keepO, zp5.st, zq5.st, take1 hx, c15]; done) | (simp [keepO, zp5.st, zq5.st, take1 hx, c15]; rfl), by first | (simp [keepB, zp5.st, zq5.st, take1 hx, c15]; done) | (simp [keepB, zp5.st, zq5.st, take1 hx, c15]; rfl)⟩ (zh11) (fun (u : Unit) => (⟨[(7, bol (okLists n d (l.take j) && decide ((x.length : Int) = n)))], [], []⟩ : Ds)) (fun (u : Unit) => True) ?_ ?_
      · intro zK12 zn12 zg12
        cases hg : okLists n d (l.take j)
        · skip
          refine Sat.regionP hk [⟨some 18, Op.move (Operand.tmp 7), 4, none⟩, ⟨some 19, Op.move (Operand.tmp 18), 4, none⟩, ⟨some 20, Op.move (Operand.tmp 9), 79, some (19, true)⟩, ⟨some 21, Op.call { callee := Callee.builtin Builtin.len, args := #[Operand.tmp 20], argTypes := #[79] }, 3, some (19, true)⟩, ⟨some 22, Op.move (Operand.tmp 1), 3, some (19, true)⟩, ⟨some 23, Op.binOp BinOp.eql 3 (Operand.tmp 21) (Operand.tmp 22) 3, 4, some (19, true)⟩, ⟨some 24, Op.pick (Operand.tmp 19) (Operand.tmp 23) (Operand.const (Value.bool false)), 4, none⟩, ⟨some 7, Op.assign (Operand.tmp 24), 4, none⟩] (by kernel_rfl) (by kernel_rfl) ?_
          simp [-List.map_take, -List.map_drop, ← List.map_take, ← List.map_drop, Function.comp_def, zp5.st, zq5.st, take1 hx, c15, hg]
          refine zn12 () _ ?_ ?_ ?_
          · trivial
          · exact ⟨by simp [-List.map_take, -List.map_drop, ← List.map_take, ← List.map_drop, Function.comp_def, FitL, zp5.st, zq5.st, take1 hx, c15, hg], by simp [-List.map_take, -List.map_drop, ← List.map_take, ← List.map_drop, Function.comp_def, FitL, zp5.st, zq5.st, take1 hx, c15, hg], by simp [-List.map_take, -List.map_drop, ← List.map_take, ← List.map_drop, Function.comp_def, FitL, zp5.st, zq5.st, take1 hx, c15, hg]⟩
          · exact ⟨by simp [-List.map_take, -List.map_drop, ← List.map_take, ← List.map_drop, Function.comp_def, FitL, zp5.st, zq5.st, take1 hx, c15, hg], by simp [-List.map_take, -List.map_drop, ← List.map_take, ← List.map_drop, Function.comp_def, FitL, zp5.st, zq5.st, take1 hx, c15, hg], by simp [-List.map_take, -List.map_drop, ← List.map_take, ← List.map_drop, Function.comp_def, FitL, zp5.st, zq5.st, take1 hx, c15, hg]⟩
        · skip
          refine Sat.regionP hk [⟨some 18, Op.move (Operand.tmp 7), 4, none⟩, ⟨some 19, Op.move (Operand.tmp 18), 4, none⟩, ⟨some 20, Op.move (Operand.tmp 9), 79, some (19, true)⟩, ⟨some 21, Op.call { callee := Callee.builtin Builtin.len, args := #[Operand.tmp 20], argTypes := #[79] }, 3, some (19, true)⟩, ⟨some 22, Op.move (Operand.tmp 1), 3, some (19, true)⟩, ⟨some 23, Op.binOp BinOp.eql 3 (Operand.tmp 21) (Operand.tmp 22) 3, 4, some (19, true)⟩, ⟨some 24, Op.pick (Operand.tmp 19) (Operand.tmp 23) (Operand.const (Value.bool false)), 4, none⟩, ⟨some 7, Op.assign (Operand.tmp 24), 4, none⟩] (by kernel_rfl) (by kernel_rfl) ?_
          simp [-List.map_take, -List.map_drop, ← List.map_take, ← List.map_drop, Function.comp_def, zp5.st, zq5.st, take1 hx, c15, hg]
          refine zn12 () _ ?_ ?_ ?_
          · trivial
          · exact ⟨by simp [-List.map_take, -List.map_drop, ← List.map_take, ← List.map_drop, Function.comp_def, FitL, zp5.st, zq5.st, take1 hx, c15, hg], by simp [-List.map_take, -List.map_drop, ← List.map_take, ← List.map_drop, Function.comp_def, FitL, zp5.st, zq5.st, take1 hx, c15, hg], by simp [-List.map_take, -List.map_drop, ← List.map_take, ← List.map_drop, Function.comp_def, FitL, zp5.st, zq5.st, take1 hx, c15, hg]⟩
          · exact ⟨by simp [-List.map_take, -List.map_drop, ← List.map_take, ← List.map_drop, Function.comp_def, FitL, zp5.st, zq5.st, take1 hx, c15, hg], by simp [-List.map_take, -List.map_drop, ← List.map_take, ← List.map_drop, Function.comp_def, FitL, zp5.st, zq5.st, take1 hx, c15, hg], by simp [-List.map_take, -List.map_drop, ← List.map_take, ← List.map_drop, Function.comp_def, FitL, zp5.st, zq5.st, take1 hx, c15, hg]⟩
      · rintro u hR12 zo12 zb12 zp12 zq12
        try dsimp only [Ds.app, Ds.st, List.cons_append, List.nil_append]
        refine Sat.seqK fun zK13 zh13 zg13 => ?_
        refine Sat.regionP hk [⟨some 25, Op.move (Operand.tmp 9), 79, none⟩, ⟨some 26, Op.call { callee := Callee.builtin Builtin.len, args := #[Operand.tmp 25], argTypes := #[79] }, 3, none⟩, ⟨some 27, Op.move (Operand.const (Value.int IntKind.i64 0)), 3, none⟩] (by kernel_rfl) (by kernel_rfl) ?_
        simp [-List.map_take, -List.map_drop, ← List.map_take, ← List.map_drop, Function.comp_def, zp5.st, zq5.st, take1 hx, c15, zp12.st, zq12.st]
        refine zh13 _ ?_
        refine Sat.loopK (E := ⟨_, _, _⟩) [1, 2, 12, 13, 14, 25, 26] [] [] ⟨by first | (simp [keepS, zp5.st, zq5.st, take1 hx, c15, zp12.st, zq12.st]; done) | (simp [keepS, zp5.st, zq5.st, take1 hx, c15, zp12.st, zq12.st]; rfl), by first | (simp [keepO, zp5.st, zq5.st, take1 hx, c15, zp12.st, zq12.st]; done) | (simp [keepO, zp5.st, zq5.st, take1 hx, c15, zp12.st, zq12.st]; rfl), by first | (simp [keepB, zp5.st, zq5.st, take1 hx, c15, zp12.st, zq12.st]; done) | (simp [keepB, zp5.st, zq5.st, take1 hx, c15, zp12.st, zq12.st]; rfl)⟩ (fun s hs => zh9 s (zh8 s hs)) (fun (i : Nat) => (⟨[(27, num i), (7, bol (okLists n d (l.take j) && decide ((x.length : Int) = n) && okRows d (x.take i)))], [], []⟩ : Ds)) (fun (i : Nat) => i ≤ x.length) (fun (i : Nat) => i = x.length) (fun (i : Nat) => x.length - i) 0 ?_ ?_ ?_ ?_
        · first | omega | (dsimp only; omega)
        · exact ⟨by simp [FitL, zp5.st, zq5.st, take1 hx, c15, zp12.st, zq12.st, okRows], by simp [FitL, zp5.st, zq5.st, take1 hx, c15, zp12.st, zq12.st, okRows], by simp [FitL, zp5.st, zq5.st, take1 hx, c15, zp12.st, zq12.st, okRows]⟩
        · rintro i hP2 zo14 zb14 zp14 zq14 zK14 zn14 zx14 zg14
          try dsimp only [Ds.app, Ds.st, List.cons_append, List.nil_append] at hP2 ⊢
          refine Sat.seqK fun zK15 zh15 zg15 => ?_
          refine Sat.regionP hk [⟨some 28, Op.binOp BinOp.lss 3 (Operand.tmp 27) (Operand.tmp 26) 3, 0, none⟩] (by kernel_rfl) (by kernel_rfl) ?_
          simp [-List.map_take, -List.map_drop, ← List.map_take, ← List.map_drop, Function.comp_def, zp5.st, zq5.st, take1 hx, c15, zp12.st, zq12.st, zp14.st, zq14.st]
          refine zh15 _ ?_
          refine Sat.seqK fun zK16 zh16 zg16 => ?_
          refine Sat.cond rfl (fun c28 => ?_) (fun c28 => ?_)
          · skip
            try simp at c28
            obtain ⟨y, hy⟩ : ∃ z, x[i]? = some z := ⟨x[i], List.getElem?_eq_getElem c28⟩
            refine Sat.skip ?_
            refine zh16 _ ?_
            refine Sat.seqK fun zK17 zh17 zg17 => ?_
            refine Sat.blockK fun zK18 zh18 zx18 zg18 => ?_
            refine Sat.seqK fun zK19 zh19 zg19 => ?_
            refine Sat.regionP hk [⟨some 29, Op.indexAddr 79 (Operand.tmp 25) (Operand.tmp 27), 0, none⟩, ⟨some 30, Op.load 51 (Operand.tmp 29), 51, none⟩, ⟨some 11, Op.assign (Operand.tmp 30), 51, none⟩] (by kernel_rfl) (by kernel_rfl) ?_
            simp [-List.map_take, -List.map_drop, ← List.map_take, ← List.map_drop, Function.comp_def, zp5.st, zq5.st, take1 hx, c15, zp12.st, zq12.st, zp14.st, zq14.st, take1 hy, c28]
            refine zh19 _ ?_
            refine Sat.joinK (E := ⟨_, _, _⟩) [1, 2, 12, 13, 14, 25, 26, 27] [] [] ⟨by first | (simp [keepS, zp5.st, zq5.st, take1 hx, c15, zp12.st, zq12.st, zp14.st, zq14.st, take1 hy, c28]; done) | (simp [keepS, zp5.st, zq5.st, take1 hx, c15, zp12.st, zq12.st, zp14.st, zq14.st, take1 hy, c28]; rfl), by first | (simp [keepO, zp5.st, zq5.st, take1 hx, c15, zp12.st, zq12.st, zp14.st, zq14.st, take1 hy, c28]; done) | (simp [keepO, zp5.st, zq5.st, take1 hx, c15, zp12.st, zq12.st, zp14.st, zq14.st, take1 hy, c28]; rfl), by first | (simp [keepB, zp5.st, zq5.st, take1 hx, c15, zp12.st, zq12.st, zp14.st, zq14.st, take1 hy, c28]; done) | (simp [keepB, zp5.st, zq5.st, take1 hx, c15, zp12.st, zq12.st, zp14.st, zq14.st, take1 hy, c28]; rfl)⟩ (fun s hs => zh18 s (zh17 s hs)) (fun (u : Unit) => (⟨[(7, bol (okLists n d (l.take j) && decide ((x.length : Int) = n) && okRows d (x.take i) && decide ((y.length : Int) = d)))], [], []⟩ : Ds)) (fun (u : Unit) => True) ?_ ?_
            · intro zK20 zn20 zg20
              cases hg : (okLists n d (l.take j) && decide ((x.length : Int) = n) && okRows d (x.take i))
              · skip
                refine Sat.regionP hk [⟨some 31, Op.move (Operand.tmp 7), 4, none⟩, ⟨some 32, Op.move (Operand.tmp 31), 4, none⟩, ⟨some 33, Op.move (Operand.tmp 11), 51, some (32, true)⟩, ⟨some 34, Op.call { callee := Callee.builtin Builtin.len, args := #[Operand.tmp 33], argTypes := #[51] }, 3, some (32, true)⟩, ⟨some 35, Op.move (Operand.tmp 2), 3, some (32, true)⟩, ⟨some 36, Op.binOp BinOp.eql 3 (Operand.tmp 34) (Operand.tmp 35) 3, 4, some (32, true)⟩, ⟨some 37, Op.pick (Operand.tmp 32) (Operand.tmp 36) (Operand.const (Value.bool false)), 4, none⟩, ⟨some 7, Op.assign (Operand.tmp 37), 4, none⟩] (by kernel_rfl) (by kernel_rfl) ?_
                simp [-List.map_take, -List.map_drop, ← List.map_take, ← List.map_drop, Function.comp_def, zp5.st, zq5.st, take1 hx, c15, zp12.st, zq12.st, zp14.st, zq14.st, take1 hy, c28, hg]
                refine zn20 () _ ?_ ?_ ?_
                · trivial
                · exact ⟨by simp [-List.map_take, -List.map_drop, ← List.map_take, ← List.map_drop, Function.comp_def, FitL, zp5.st, zq5.st, take1 hx, c15, zp12.st, zq12.st, zp14.st, zq14.st, take1 hy, c28, hg], by simp [-List.map_take, -List.map_drop, ← List.map_take, ← List.map_drop, Function.comp_def, FitL, zp5.st, zq5.st, take1 hx, c15, zp12.st, zq12.st, zp14.st, zq14.st, take1 hy, c28, hg], by simp [-List.map_take, -List.map_drop, ← List.map_take, ← List.map_drop, Function.comp_def, FitL, zp5.st, zq5.st, take1 hx, c15, zp12.st, zq12.st, zp14.st, zq14.st, take1 hy, c28, hg]⟩
                · exact ⟨by simp [-List.map_take, -List.map_drop, ← List.map_take, ← List.map_drop, Function.comp_def, FitL, zp5.st, zq5.st, take1 hx, c15, zp12.st, zq12.st, zp14.st, zq14.st, take1 hy, c28, hg], by simp [-List.map_take, -List.map_drop, ← List.map_take, ← List.map_drop, Function.comp_def, FitL, zp5.st, zq5.st, take1 hx, c15, zp12.st, zq12.st, zp14.st, zq14.st, take1 hy, c28, hg], by simp [-List.map_take, -List.map_drop, ← List.map_take, ← List.map_drop, Function.comp_def, FitL, zp5.st, zq5.st, take1 hx, c15, zp12.st, zq12.st, zp14.st, zq14.st, take1 hy, c28, hg]⟩
              · skip
                refine Sat.regionP hk [⟨some 31, Op.move (Operand.tmp 7), 4, none⟩, ⟨some 32, Op.move (Operand.tmp 31), 4, none⟩, ⟨some 33, Op.move (Operand.tmp 11), 51, some (32, true)⟩, ⟨some 34, Op.call { callee := Callee.builtin Builtin.len, args := #[Operand.tmp 33], argTypes := #[51] }, 3, some (32, true)⟩, ⟨some 35, Op.move (Operand.tmp 2), 3, some (32, true)⟩, ⟨some 36, Op.binOp BinOp.eql 3 (Operand.tmp 34) (Operand.tmp 35) 3, 4, some (32, true)⟩, ⟨some 37, Op.pick (Operand.tmp 32) (Operand.tmp 36) (Operand.const (Value.bool false)), 4, none⟩, ⟨some 7, Op.assign (Operand.tmp 37), 4, none⟩] (by kernel_rfl) (by kernel_rfl) ?_
                simp [-List.map_take, -List.map_drop, ← List.map_take, ← List.map_drop, Function.comp_def, zp5.st, zq5.st, take1 hx, c15, zp12.st, zq12.st, zp14.st, zq14.st, take1 hy, c28, hg]
                refine zn20 () _ ?_ ?_ ?_
                · trivial
                · exact ⟨by simp [-List.map_take, -List.map_drop, ← List.map_take, ← List.map_drop, Function.comp_def, FitL, zp5.st, zq5.st, take1 hx, c15, zp12.st, zq12.st, zp14.st, zq14.st, take1 hy, c28, hg], by simp [-List.map_take, -List.map_drop, ← List.map_take, ← List.map_drop, Function.comp_def, FitL, zp5.st, zq5.st, take1 hx, c15, zp12.st, zq12.st, zp14.st, zq14.st, take1 hy, c28, hg], by simp [-List.map_take, -List.map_drop, ← List.map_take, ← List.map_drop, Function.comp_def, FitL, zp5.st, zq5.st, take1 hx, c15, zp12.st, zq12.st, zp14.st, zq14.st, take1 hy, c28, hg]⟩
                · exact ⟨by simp [-List.map_take, -List.map_drop, ← List.map_take, ← List.map_drop, Function.comp_def, FitL, zp5.st, zq5.st, take1 hx, c15, zp12.st, zq12.st, zp14.st, zq14.st, take1 hy, c28, hg], by simp [-List.map_take, -List.map_drop, ← List.map_take, ← List.map_drop, Function.comp_def, FitL, zp5.st, zq5.st, take1 hx, c15, zp12.st, zq12.st, zp14.st, zq14.st, take1 hy, c28, hg], by simp [-List.map_take, -List.map_drop, ← List.map_take, ← List.map_drop, Function.comp_def, FitL, zp5.st, zq5.st, take1 hx, c15, zp12.st, zq12.st, zp14.st, zq14.st, take1 hy, c28, hg]⟩
            · rintro u hR20 zo20 zb20 zp20 zq20
              try dsimp only [Ds.app, Ds.st, List.cons_append, List.nil_append]
              refine Sat.regionP hk [⟨some 38, Op.binOp BinOp.add 3 (Operand.tmp 27) (Operand.const (Value.int IntKind.i64 1)) 3, 3, none⟩, ⟨some 27, Op.move (Operand.tmp 38), 3, none⟩] (by kernel_rfl) (by kernel_rfl) ?_
              simp [-List.map_take, -List.map_drop, ← List.map_take, ← List.map_drop, Function.comp_def, zp5.st, zq5.st, take1 hx, c15, zp12.st, zq12.st, zp14.st, zq14.st, take1 hy, c28, zp20.st, zq20.st]
              refine zn14 (i + 1) _ ?_ ?_ ?_ ?_
              · first | omega | (dsimp only; omega)
              · first | omega | (dsimp only; omega)
              · exact ⟨by simp [-List.map_take, -List.map_drop, ← List.map_take, ← List.map_drop, Function.comp_def, FitL, zp5.st, zq5.st, take1 hx, c15, zp12.st, zq12.st, zp14.st, zq14.st, take1 hy, c28, zp20.st, zq20.st, w64s i (by omega), okRows, all_take_succ hy, Bool.and_assoc], by simp [-List.map_take, -List.map_drop, ← List.map_take, ← List.map_drop, Function.comp_def, FitL, zp5.st, zq5.st, take1 hx, c15, zp12.st, zq12.st, zp14.st, zq14.st, take1 hy, c28, zp20.st, zq20.st, w64s i (by omega), okRows, all_take_succ hy, Bool.and_assoc], by simp [-List.map_take, -List.map_drop, ← List.map_take, ← List.map_drop, Function.comp_def, FitL, zp5.st, zq5.st, take1 hx, c15, zp12.st, zq12.st, zp14.st, zq14.st, take1 hy, c28, zp20.st, zq20.st, w64s i (by omega), okRows, all_take_succ hy, Bool.and_assoc]⟩
              · exact ⟨by simp [-List.map_take, -List.map_drop, ← List.map_take, ← List.map_drop, Function.comp_def, FitL, zp5.st, zq5.st, take1 hx, c15, zp12.st, zq12.st, zp14.st, zq14.st, take1 hy, c28, zp20.st, zq20.st, w64s i (by omega), okRows, all_take_succ hy, Bool.and_assoc], by simp [-List.map_take, -List.map_drop, ← List.map_take, ← List.map_drop, Function.comp_def, FitL, zp5.st, zq5.st, take1 hx, c15, zp12.st, zq12.st, zp14.st, zq14.st, take1 hy, c28, zp20.st, zq20.st, w64s i (by omega), okRows, all_take_succ hy, Bool.and_assoc], by simp [-List.map_take, -List.map_drop, ← List.map_take, ← List.map_drop, Function.comp_def, FitL, zp5.st, zq5.st, take1 hx, c15, zp12.st, zq12.st, zp14.st, zq14.st, take1 hy, c28, zp20.st, zq20.st, w64s i (by omega), okRows, all_take_succ hy, Bool.and_assoc]⟩
          · skip
            try simp at c28
            refine Sat.exit ?_
            refine zg16 _ _ (by simp) ?_
            refine zx14 i _ ?_ ?_ ?_
            · first | omega | (dsimp only; omega)
            · exact ⟨by simp [-List.map_take, -List.map_drop, ← List.map_take, ← List.map_drop, Function.comp_def, FitL, zp5.st, zq5.st, take1 hx, c15, zp12.st, zq12.st, zp14.st, zq14.st], by simp [-List.map_take, -List.map_drop, ← List.map_take, ← List.map_drop, Function.comp_def, FitL, zp5.st, zq5.st, take1 hx, c15, zp12.st, zq12.st, zp14.st, zq14.st], by simp [-List.map_take, -List.map_drop, ← List.map_take, ← List.map_drop, Function.comp_def, FitL, zp5.st, zq5.st, take1 hx, c15, zp12.st, zq12.st, zp14.st, zq14.st]⟩
            · exact ⟨by simp [-List.map_take, -List.map_drop, ← List.map_take, ← List.map_drop, Function.comp_def, FitL, zp5.st, zq5.st, take1 hx, c15, zp12.st, zq12.st, zp14.st, zq14.st], by simp [-List.map_take, -List.map_drop, ← List.map_take, ← List.map_drop, Function.comp_def, FitL, zp5.st, zq5.st, take1 hx, c15, zp12.st, zq12.st, zp14.st, zq14.st], by simp [-List.map_take, -List.map_drop, ← List.map_take, ← List.map_drop, Function.comp_def, FitL, zp5.st, zq5.st, take1 hx, c15, zp12.st, zq12.st, zp14.st, zq14.st]⟩
        · rintro i hR2 zo14 zb14 zp14 zq14
          try dsimp only [Ds.app, Ds.st, List.cons_append, List.nil_append] at hR2 ⊢
          subst hR2
          refine Sat.regionP hk [⟨some 39, Op.binOp BinOp.add 3 (Operand.tmp 14) (Operand.const (Value.int IntKind.i64 1)) 3, 3, none⟩, ⟨some 14, Op.move (Operand.tmp 39), 3, none⟩] (by kernel_rfl) (by kernel_rfl) ?_
          simp [-List.map_take, -List.map_drop, ← List.map_take, ← List.map_drop, Function.comp_def, zp5.st, zq5.st, take1 hx, c15, zp12.st, zq12.st, zp14.st, zq14.st]
          refine zn5 (j + 1) _ ?_ ?_ ?_ ?_
          · first | omega | (dsimp only; omega)
          · first | omega | (dsimp only; omega)
          · exact ⟨by simp [-List.map_take, -List.map_drop, ← List.map_take, ← List.map_drop, Function.comp_def, FitL, zp5.st, zq5.st, take1 hx, c15, zp12.st, zq12.st, zp14.st, zq14.st, w64s j (by omega), okLists, all_take_succ hx, okRows, Bool.and_assoc], by simp [-List.map_take, -List.map_drop, ← List.map_take, ← List.map_drop, Function.comp_def, FitL, zp5.st, zq5.st, take1 hx, c15, zp12.st, zq12.st, zp14.st, zq14.st, w64s j (by omega), okLists, all_take_succ hx, okRows, Bool.and_assoc], by simp [-List.map_take, -List.map_drop, ← List.map_take, ← List.map_drop, Function.comp_def, FitL, zp5.st, zq5.st, take1 hx, c15, zp12.st, zq12.st, zp14.st, zq14.st, w64s j (by omega), okLists, all_take_succ hx, okRows, Bool.and_assoc]⟩
          · exact ⟨by simp [-List.map_take, -List.map_drop, ← List.map_take, ← List.map_drop, Function.comp_def, FitL, zp5.st, zq5.st, take1 hx, c15, zp12.st, zq12.st, zp14.st, zq14.st, w64s j (by omega), okLists, all_take_succ hx, okRows, Bool.and_assoc], by simp [-List.map_take, -List.map_drop, ← List.map_take, ← List.map_drop, Function.comp_def, FitL, zp5.st, zq5.st, take1 hx, c15, zp12.st, zq12.st, zp14.st, zq14.st, w64s j (by omega), okLists, all_take_succ hx, okRows, Bool.and_assoc], by simp [-List.map_take, -List.map_drop, ← List.map_take, ← List.map_drop, Function.comp_def, FitL, zp5.st, zq5.st, take1 hx, c15, zp12.st, zq12.st, zp14.st, zq14.st, w64s j (by omega), okLists, all_take_succ hx, okRows, Bool.and_assoc]⟩
    · skip
      try simp at c15
      refine Sat.exit ?_
      refine zg7 _ _ (by simp) ?_
      refine zx5 j _ ?_ ?_ ?_
      · first | omega | (dsimp only; omega)
      · exact ⟨by simp [-List.map_take, -List.map_drop, ← List.map_take, ← List.map_drop, Function.comp_def, FitL, zp5.st, zq5.st], by simp [-List.map_take, -List.map_drop, ← List.map_take, ← List.map_drop, Function.comp_def, FitL, zp5.st, zq5.st], by simp [-List.map_take, -List.map_drop, ← List.map_take, ← List.map_drop, Function.comp_def, FitL, zp5.st, zq5.st]⟩
      · exact ⟨by simp [-List.map_take, -List.map_drop, ← List.map_take, ← List.map_drop, Function.comp_def, FitL, zp5.st, zq5.st], by simp [-List.map_take, -List.map_drop, ← List.map_take, ← List.map_drop, Function.comp_def, FitL, zp5.st, zq5.st], by simp [-List.map_take, -List.map_drop, ← List.map_take, ← List.map_drop, Function.comp_def, FitL, zp5.st, zq5.st]⟩
  · rintro j hR0 zo5 zb5 zp5 zq5
    try dsimp only [Ds.app, Ds.st, List.cons_append, List.nil_append] at hR0 ⊢
    subst hR0
    refine Sat.seqK fun zK21 zh21 zg21 => ?_
    refine Sat.regionP hk [⟨some 40, Op.move (Operand.tmp 7), 4, none⟩, ⟨some 6, Op.assign (Operand.tmp 40), 4, none⟩] (by kernel_rfl) (by kernel_rfl) ?_
    simp [-List.map_take, -List.map_drop, ← List.map_take, ← List.map_drop, Function.comp_def, zp5.st, zq5.st]
    refine zh21 _ ?_
    refine Sat.ret ?_
    simp [-List.map_take, -List.map_drop, ← List.map_take, ← List.map_drop, Function.comp_def, zp5.st, zq5.st]
end Go.Proofs.Ytmbmebfeoejlnaa.Ab
