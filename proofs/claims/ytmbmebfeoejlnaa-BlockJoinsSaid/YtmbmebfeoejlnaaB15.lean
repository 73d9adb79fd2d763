/- Pages put together, the document's way. -/
import Derived.Test.YtmbmebfeoejlnaaB14
namespace Go.Proofs.Ytmbmebfeoejlnaa.Ab
set_option linter.unusedVariables false
set_option linter.unusedSimpArgs false
open Go.RowKit
def SameUp (bt t : List Int) (fn i : Nat) (s : Bool) : Prop := (s = true → fn = t.length ∧ i ≤ fn ∧ bt.take i = t.take i) ∧ (s = false → ¬ (fn = t.length ∧ bt.take fn = t))
def SameEnd (bt t : List Int) (fn : Nat) (s : Bool) : Prop := (s = true → fn = t.length ∧ bt.take fn = t) ∧ (s = false → ¬ (fn = t.length ∧ bt.take fn = t))
theorem SameUp.start (bt t : List Int) (fn : Nat) : SameUp bt t fn 0 (decide (fn = t.length)) := ⟨fun h => ⟨of_decide_eq_true h, Nat.zero_le _, rfl⟩, fun h e => of_decide_eq_false h e.1⟩
theorem SameUp.next {bt t : List Int} {fn i : Nat} {y1 y2 : Int} (h : SameUp bt t fn i true) (hi : i < fn) (h1 : bt[i]? = some y1) (h2 : t[i]? = some y2) : SameUp bt t fn (i + 1) (decide (y1 = y2)) := by
  obtain ⟨q1, q2, q3⟩ := h.1 rfl
  refine ⟨fun e => ⟨q1, by omega, ?_⟩, fun e q => ?_⟩
  · rw [take_succ_get h1, take_succ_get h2, q3, of_decide_eq_true e]
  · refine of_decide_eq_false e ?_
    have h3 : bt[i]? = t[i]? := by rw [← q.2, List.getElem?_take, if_pos hi]
    rw [h1, h2] at h3
    exact Option.some.inj h3
theorem SameUp.endF {bt t : List Int} {fn i : Nat} (h : SameUp bt t fn i false) : SameEnd bt t fn false := ⟨fun e => (by cases e), h.2⟩
theorem SameUp.endT {bt t : List Int} {fn i : Nat} (h : SameUp bt t fn i true) (hi : fn ≤ i) : SameEnd bt t fn true := by
  obtain ⟨q1, q2, q3⟩ := h.1 rfl
  refine ⟨fun _ => ⟨q1, ?_⟩, fun e => (by cases e)⟩
  have h2 : i = fn := by omega
  subst h2
  rw [q3, q1, List.take_length]
def S20 : Spec := fun gs => sp2 true (tCfg) false (tBlksR) (fun c l => if fineAll l then some (joinOut c l) else none) gs
@[simp] theorem S20_eq (gs : List Arg) : S20 gs = sp2 true (tCfg) false (tBlksR) (fun c l => if fineAll l then some (joinOut c l) else none) gs := rfl
set_option maxHeartbeats 4000000 in
theorem k20 : Contract Try.prog 20 S20 := by
  refine Contract.intro2 (C := cx 117 [(18, S18)]) Try.func20 rfl rfl rfl (by show 2 ≤ 117; decide) fun c l out ho fr => ?_
  have hk := knowsX (N := 117) (l := [(18, S18)]) ⟨k18, trivial⟩
  split at ho
  case isFalse => cases ho
  rename_i hn
  obtain rfl := Option.some.inj ho
  have hl40 := hn.1
  refine Sat.seqK fun zK1 zh1 zg1 => ?_
  refine Sat.regionP hk [⟨some 2, Op.box 23 (Operand.tmp 0), 0, none⟩, ⟨some 4, Op.alloc 44, 0, none⟩, ⟨some 5, Op.assign (Operand.const (Value.int IntKind.i64 0)), 3, none⟩] (by kernel_rfl) (by kernel_rfl) ?_
  simp [-List.map_take, -List.map_drop, ← List.map_take, ← List.map_drop, Function.comp_def]
  refine zh1 _ ?_
  refine Sat.seqK fun zK2 zh2 zg2 => ?_
  refine Sat.regionP hk [⟨some 16, Op.build 44 #[], 44, none⟩, ⟨some 6, Op.alloc 44, 0, none⟩, ⟨none, Op.store 44 (Operand.tmp 6) (Operand.tmp 16), 0, none⟩] (by kernel_rfl) (by kernel_rfl) ?_
  simp [-List.map_take, -List.map_drop, ← List.map_take, ← List.map_drop, Function.comp_def]
  refine zh2 _ ?_
  refine Sat.seqK fun zK3 zh3 zg3 => ?_
  refine Sat.seqK fun zK4 zh4 zg4 => ?_
  refine Sat.regionP hk [⟨some 17, Op.move (Operand.tmp 1), 25, none⟩, ⟨some 18, Op.call { callee := Callee.builtin Builtin.len, args := #[Operand.tmp 17], argTypes := #[25] }, 3, none⟩, ⟨some 19, Op.move (Operand.const (Value.int IntKind.i64 0)), 3, none⟩] (by kernel_rfl) (by kernel_rfl) ?_
  simp [-List.map_take, -List.map_drop, ← List.map_take, ← List.map_drop, Function.comp_def]
  refine zh4 _ ?_
  refine Sat.loopK (E := ⟨_, _, _⟩) [2, 4, 6, 17, 18] [] [128, 256] ⟨by first | (simp [keepS]; done) | (simp [keepS]; rfl), by first | (simp [keepO]; done) | (simp [keepO]; rfl), by first | (simp [keepB]; done) | (simp [keepB]; rfl)⟩ (zh3) (fun (zq : Option (Nat × (List Int) × Cube × Cube)) => match zq with | none => (⟨[(19, num 0)], [], [(384, ⟨1, true, 44, [.d (.sl false 3 1 []), .d (.sl false 79 1 []), .d (.sl false 79 1 [])]⟩)]⟩ : Ds) | some ⟨j, t, k, x⟩ => (⟨[(19, num j)], [], [(384, ⟨1, true, 44, [.d (dTok true t), .d (dCube true k), .d (dCube true x)]⟩)]⟩ : Ds)) (fun (zq : Option (Nat × (List Int) × Cube × Cube)) => match zq with | none => True | some ⟨j, t, k, x⟩ => Joined c l j t k x) (fun (zq : Option (Nat × (List Int) × Cube × Cube)) => match zq with | none => l = [] | some ⟨j, t, k, x⟩ => j = l.length ∧ Joined c l j t k x) (fun (zq : Option (Nat × (List Int) × Cube × Cube)) => match zq with | none => l.length | some ⟨j, t, k, x⟩ => l.length - j) none ?_ ?_ ?_ ?_
  · trivial
  · exact ⟨by simp [FitL], by simp [FitL], by simp [FitL]⟩
  · rintro (_ | ⟨j, t, k, x⟩) hP0 zo5 zb5 zp5 zq5 zK5 zn5 zx5 zg5
    · skip
      try dsimp only [Ds.app, Ds.st, List.cons_append, List.nil_append] at hP0 ⊢
      refine Sat.seqK fun zK6 zh6 zg6 => ?_
      refine Sat.regionP hk [⟨some 20, Op.binOp BinOp.lss 3 (Operand.tmp 19) (Operand.tmp 18) 3, 0, none⟩] (by kernel_rfl) (by kernel_rfl) ?_
      simp [-List.map_take, -List.map_drop, ← List.map_take, ← List.map_drop, Function.comp_def, zp5.st, zq5.st]
      refine zh6 _ ?_
      refine Sat.seqK fun zK7 zh7 zg7 => ?_
      refine Sat.cond rfl (fun c20 => ?_) (fun c20 => ?_)
      · skip
        try simp at c20
        obtain ⟨b, hb⟩ : ∃ z, l[0]? = some z := ⟨l[0], List.getElem?_eq_getElem (by omega)⟩
        obtain ⟨bt, bf, bk, bx⟩ := b
        have hfb := hn.2 _ (List.mem_of_getElem? hb)
        have hg := flat_get tBlk true l _ _ hb
        simp at hg
        have hm4 : min 4 (l.length * 4 - 0 * 4) = 4 := by omega
        have hbt : bt.length < 1099511627776 := hfb.1
        refine Sat.skip ?_
        refine zh7 _ ?_
        refine Sat.seqK fun zK8 zh8 zg8 => ?_
        refine Sat.blockK fun zK9 zh9 zx9 zg9 => ?_
        refine Sat.seqK fun zK10 zh10 zg10 => ?_
        refine Sat.regionP hk [⟨some 21, Op.indexAddr 25 (Operand.tmp 17) (Operand.tmp 19), 0, none⟩, ⟨some 22, Op.load 30 (Operand.tmp 21), 30, none⟩, ⟨some 8, Op.alloc 30, 0, none⟩, ⟨none, Op.store 30 (Operand.tmp 8) (Operand.tmp 22), 0, none⟩] (by kernel_rfl) (by kernel_rfl) ?_
        simp [-List.map_take, -List.map_drop, ← List.map_take, ← List.map_drop, Function.comp_def, zp5.st, zq5.st, c20, hg, hm4, hfb, hbt]
        refine zh10 _ ?_
        refine Sat.seqK fun zK11 zh11 zg11 => ?_
        refine Sat.seqK fun zK12 zh12 zg12 => ?_
        refine Sat.regionP hk [⟨some 23, Op.load 23 (Operand.tmp 2), 23, none⟩, ⟨some 24, Op.load 30 (Operand.tmp 8), 30, none⟩, ⟨some 25, Op.call { callee := Callee.value (Operand.func 18), args := #[Operand.tmp 23, Operand.tmp 24], argTypes := #[23, 30] }, 3, none⟩, ⟨some 9, Op.assign (Operand.tmp 25), 3, none⟩] (by kernel_rfl) (by kernel_rfl) ?_
        simp [-List.map_take, -List.map_drop, ← List.map_take, ← List.map_drop, Function.comp_def, zp5.st, zq5.st, c20, hg, hm4, hfb, hbt]
        refine zh12 _ ?_
        refine Sat.seqK fun zK13 zh13 zg13 => ?_
        refine Sat.regionP hk [⟨some 26, Op.move (Operand.tmp 9), 3, none⟩, ⟨some 27, Op.binOp BinOp.neq 3 (Operand.tmp 26) (Operand.const (Value.int IntKind.i64 0)) 3, 4, none⟩] (by kernel_rfl) (by kernel_rfl) ?_
        simp [-List.map_take, -List.map_drop, ← List.map_take, ← List.map_drop, Function.comp_def, zp5.st, zq5.st, c20, hg, hm4, hfb, hbt]
        refine zh13 _ ?_
        refine Sat.cond rfl (fun c27 => ?_) (fun c27 => ?_)
        · skip
          try simp at c27
          have hj := join_bad hb (show _ = joinGo c [] [] [] (l.drop 0) from rfl) c27
          refine Sat.seqK fun zK14 zh14 zg14 => ?_
          refine Sat.regionP hk [⟨some 28, Op.build 44 #[], 44, none⟩, ⟨some 29, Op.move (Operand.tmp 9), 3, none⟩, ⟨none, Op.store 44 (Operand.tmp 4) (Operand.tmp 28), 0, none⟩, ⟨some 5, Op.assign (Operand.tmp 29), 3, none⟩] (by kernel_rfl) (by kernel_rfl) ?_
          simp [-List.map_take, -List.map_drop, ← List.map_take, ← List.map_drop, Function.comp_def, zp5.st, zq5.st, c20, hg, hm4, hfb, hbt, hj, joinOut, joinSh, c27]
          refine zh14 _ ?_
          refine Sat.ret ?_
          refine zg11 _ _ (by simp) ?_
          refine zg9 _ _ (by simp) (by simp) ?_
          refine zg8 _ _ (by simp) ?_
          refine zg5 _ _ (by simp) (by simp) ?_
          refine zg3 _ _ (by simp) ?_
          simp [-List.map_take, -List.map_drop, ← List.map_take, ← List.map_drop, Function.comp_def, zp5.st, zq5.st, c20, hg, hm4, hfb, hbt, hj, joinOut, joinSh, c27]
        · skip
          try simp at c27
          obtain ⟨n, hnd, hf0, hn1, hn16, ht128, hbk, hbx, hkm, hxm⟩ := chk_ok c27
          obtain ⟨fn, rfl⟩ := Int.eq_ofNat_of_zero_le hf0
          have hfl : fn ≤ bt.length := by omega
          have hkk : bk.length < 1099511627776 := hfb.2.2.1.1
          have hbx' : bx.length = bk.length := by omega
          refine Sat.skip ?_
          refine zh11 _ ?_
          refine Sat.seqK fun zK15 zh15 zg15 => ?_
          refine Sat.regionP hk [⟨some 30, Op.fieldAddr 30 (Operand.tmp 8) 1, 0, none⟩, ⟨some 31, Op.load 3 (Operand.tmp 30), 3, none⟩, ⟨some 32, Op.fieldAddr 44 (Operand.tmp 6) 0, 0, none⟩, ⟨some 33, Op.load 27 (Operand.tmp 32), 27, none⟩, ⟨some 34, Op.call { callee := Callee.builtin Builtin.len, args := #[Operand.tmp 33], argTypes := #[27] }, 3, none⟩, ⟨some 35, Op.binOp BinOp.eql 3 (Operand.tmp 31) (Operand.tmp 34) 3, 4, none⟩, ⟨some 10, Op.assign (Operand.tmp 35), 4, none⟩] (by kernel_rfl) (by kernel_rfl) ?_
          simp [-List.map_take, -List.map_drop, ← List.map_take, ← List.map_drop, Function.comp_def, zp5.st, zq5.st, c20, hg, hm4, hfb, hbt, hfl, c27]
          refine zh15 _ ?_
          refine Sat.seqK fun zK16 zh16 zg16 => ?_
          refine Sat.seqK fun zK17 zh17 zg17 => ?_
          refine Sat.regionP hk [⟨some 11, Op.assign (Operand.const (Value.int IntKind.i64 0)), 3, none⟩] (by kernel_rfl) (by kernel_rfl) ?_
          simp [-List.map_take, -List.map_drop, ← List.map_take, ← List.map_drop, Function.comp_def, zp5.st, zq5.st, c20, hg, hm4, hfb, hbt, hfl, c27]
          refine zh17 _ ?_
          have hcast : ((fn : Int) = (([] : List Int).length : Int)) = (fn = ([] : List Int).length) := by simp only [Int.natCast_inj]
          refine Sat.loopK (E := ⟨_, _, _⟩) [2, 4, 6, 8, 17, 18, 19] [] [128, 256, 384, 512] ⟨by first | (simp [keepS, zp5.st, zq5.st, c20, hg, hm4, hfb, hbt, hfl, c27]; done) | (simp [keepS, zp5.st, zq5.st, c20, hg, hm4, hfb, hbt, hfl, c27]; rfl), by first | (simp [keepO, zp5.st, zq5.st, c20, hg, hm4, hfb, hbt, hfl, c27]; done) | (simp [keepO, zp5.st, zq5.st, c20, hg, hm4, hfb, hbt, hfl, c27]; rfl), by first | (simp [keepB, zp5.st, zq5.st, c20, hg, hm4, hfb, hbt, hfl, c27]; done) | (simp [keepB, zp5.st, zq5.st, c20, hg, hm4, hfb, hbt, hfl, c27]; rfl)⟩ (zh16) (fun (⟨i, s⟩ : Nat × Bool) => (⟨[(11, num i), (10, bol s)], [], []⟩ : Ds)) (fun (⟨i, s⟩ : Nat × Bool) => SameUp bt [] fn i s) (fun (⟨i, s⟩ : Nat × Bool) => SameEnd bt [] fn s) (fun (⟨i, s⟩ : Nat × Bool) => fn - i) (0, decide (fn = ([] : List Int).length)) ?_ ?_ ?_ ?_
          · exact SameUp.start _ _ _
          · exact ⟨by simp [FitL, zp5.st, zq5.st, c20, hg, hm4, hfb, hbt, hfl, c27, hcast], by simp [FitL, zp5.st, zq5.st, c20, hg, hm4, hfb, hbt, hfl, c27, hcast], by simp [FitL, zp5.st, zq5.st, c20, hg, hm4, hfb, hbt, hfl, c27, hcast]⟩
          · rintro ⟨i, s⟩ hP2 zo18 zb18 zp18 zq18 zK18 zn18 zx18 zg18
            try dsimp only [Ds.app, Ds.st, List.cons_append, List.nil_append] at hP2 ⊢
            refine Sat.seqK fun zK19 zh19 zg19 => ?_
            refine Sat.seqK fun zK20 zh20 zg20 => ?_
            cases s
            · skip
              refine Sat.regionP hk [⟨some 36, Op.move (Operand.tmp 10), 4, none⟩, ⟨some 37, Op.move (Operand.tmp 36), 4, none⟩, ⟨some 38, Op.move (Operand.tmp 11), 3, some (37, true)⟩, ⟨some 39, Op.fieldAddr 30 (Operand.tmp 8) 1, 0, some (37, true)⟩, ⟨some 40, Op.load 3 (Operand.tmp 39), 3, some (37, true)⟩, ⟨some 41, Op.binOp BinOp.lss 3 (Operand.tmp 38) (Operand.tmp 40) 3, 4, some (37, true)⟩, ⟨some 42, Op.pick (Operand.tmp 37) (Operand.tmp 41) (Operand.const (Value.bool false)), 4, none⟩] (by kernel_rfl) (by kernel_rfl) ?_
              simp [-List.map_take, -List.map_drop, ← List.map_take, ← List.map_drop, Function.comp_def, zp5.st, zq5.st, c20, hg, hm4, hfb, hbt, hfl, c27, zp18.st, zq18.st]
              refine zh20 _ ?_
              refine Sat.cond rfl (fun c42 => ?_) (fun c42 => ?_)
              · exfalso; simp [zp5.st, zq5.st, c20, hg, hm4, hfb, hbt, hfl, c27, zp18.st, zq18.st] at c42
              · skip
                try simp at c42
                refine Sat.exit ?_
                refine zg19 _ _ (by simp) ?_
                refine zx18 (i, false) _ ?_ ?_ ?_
                · exact hP2.endF
                · exact ⟨by simp [-List.map_take, -List.map_drop, ← List.map_take, ← List.map_drop, Function.comp_def, FitL, zp5.st, zq5.st, c20, hg, hm4, hfb, hbt, hfl, c27, zp18.st, zq18.st], by simp [-List.map_take, -List.map_drop, ← List.map_take, ← List.map_drop, Function.comp_def, FitL, zp5.st, zq5.st, c20, hg, hm4, hfb, hbt, hfl, c27, zp18.st, zq18.st], by simp [-List.map_take, -List.map_drop, ← List.map_take, ← List.map_drop, Function.comp_def, FitL, zp5.st, zq5.st, c20, hg, hm4, hfb, hbt, hfl, c27, zp18.st, zq18.st]⟩
                · exact ⟨by simp [-List.map_take, -List.map_drop, ← List.map_take, ← List.map_drop, Function.comp_def, FitL, zp5.st, zq5.st, c20, hg, hm4, hfb, hbt, hfl, c27, zp18.st, zq18.st], by simp [-List.map_take, -List.map_drop, ← List.map_take, ← List.map_drop, Function.comp_def, FitL, zp5.st, zq5.st, c20, hg, hm4, hfb, hbt, hfl, c27, zp18.st, zq18.st], by simp [-List.map_take, -List.map_drop, ← List.map_take, ← List.map_drop, Function.comp_def, FitL, zp5.st, zq5.st, c20, hg, hm4, hfb, hbt, hfl, c27, zp18.st, zq18.st]⟩
            · skip
              refine Sat.regionP hk [⟨some 36, Op.move (Operand.tmp 10), 4, none⟩, ⟨some 37, Op.move (Operand.tmp 36), 4, none⟩, ⟨some 38, Op.move (Operand.tmp 11), 3, some (37, true)⟩, ⟨some 39, Op.fieldAddr 30 (Operand.tmp 8) 1, 0, some (37, true)⟩, ⟨some 40, Op.load 3 (Operand.tmp 39), 3, some (37, true)⟩, ⟨some 41, Op.binOp BinOp.lss 3 (Operand.tmp 38) (Operand.tmp 40) 3, 4, some (37, true)⟩, ⟨some 42, Op.pick (Operand.tmp 37) (Operand.tmp 41) (Operand.const (Value.bool false)), 4, none⟩] (by kernel_rfl) (by kernel_rfl) ?_
              simp [-List.map_take, -List.map_drop, ← List.map_take, ← List.map_drop, Function.comp_def, zp5.st, zq5.st, c20, hg, hm4, hfb, hbt, hfl, c27, zp18.st, zq18.st]
              refine zh20 _ ?_
              refine Sat.cond rfl (fun c42 => ?_) (fun c42 => ?_)
              · exfalso; simp at c42; have := (hP2.1 rfl).1; simp at this; omega
              · skip
                try simp at c42
                refine Sat.exit ?_
                refine zg19 _ _ (by simp) ?_
                refine zx18 (i, true) _ ?_ ?_ ?_
                · exact hP2.endT (by omega)
                · exact ⟨by simp [-List.map_take, -List.map_drop, ← List.map_take, ← List.map_drop, Function.comp_def, FitL, zp5.st, zq5.st, c20, hg, hm4, hfb, hbt, hfl, c27, zp18.st, zq18.st], by simp [-List.map_take, -List.map_drop, ← List.map_take, ← List.map_drop, Function.comp_def, FitL, zp5.st, zq5.st, c20, hg, hm4, hfb, hbt, hfl, c27, zp18.st, zq18.st], by simp [-List.map_take, -List.map_drop, ← List.map_take, ← List.map_drop, Function.comp_def, FitL, zp5.st, zq5.st, c20, hg, hm4, hfb, hbt, hfl, c27, zp18.st, zq18.st]⟩
                · exact ⟨by simp [-List.map_take, -List.map_drop, ← List.map_take, ← List.map_drop, Function.comp_def, FitL, zp5.st, zq5.st, c20, hg, hm4, hfb, hbt, hfl, c27, zp18.st, zq18.st], by simp [-List.map_take, -List.map_drop, ← List.map_take, ← List.map_drop, Function.comp_def, FitL, zp5.st, zq5.st, c20, hg, hm4, hfb, hbt, hfl, c27, zp18.st, zq18.st], by simp [-List.map_take, -List.map_drop, ← List.map_take, ← List.map_drop, Function.comp_def, FitL, zp5.st, zq5.st, c20, hg, hm4, hfb, hbt, hfl, c27, zp18.st, zq18.st]⟩
          · rintro ⟨i, s⟩ hR2 zo18 zb18 zp18 zq18
            try dsimp only [Ds.app, Ds.st, List.cons_append, List.nil_append] at hR2 ⊢
            refine Sat.seqK fun zK21 zh21 zg21 => ?_
            refine Sat.seqK fun zK22 zh22 zg22 => ?_
            refine Sat.regionP hk [⟨some 56, Op.move (Operand.tmp 10), 4, none⟩, ⟨some 57, Op.unOp UnOp.not 4 (Operand.tmp 56), 4, none⟩] (by kernel_rfl) (by kernel_rfl) ?_
            simp [-List.map_take, -List.map_drop, ← List.map_take, ← List.map_drop, Function.comp_def, zp5.st, zq5.st, c20, hg, hm4, hfb, hbt, hfl, c27, zp18.st, zq18.st]
            refine zh22 _ ?_
            refine Sat.cond rfl (fun c57 => ?_) (fun c57 => ?_)
            · skip
              try simp at c57
              have hj := join_none hb (show _ = joinGo c [] [] [] (l.drop 0) from rfl) c27 (by rintro ⟨e1, e2⟩; exact hR2.2 c57 ⟨by dsimp only at e1; omega, by simpa using e2⟩)
              refine Sat.seqK fun zK23 zh23 zg23 => ?_
              refine Sat.regionP hk [⟨some 58, Op.build 44 #[], 44, none⟩, ⟨none, Op.store 44 (Operand.tmp 4) (Operand.tmp 58), 0, none⟩, ⟨some 5, Op.assign (Operand.const (Value.int IntKind.i64 8)), 3, none⟩] (by kernel_rfl) (by kernel_rfl) ?_
              simp [-List.map_take, -List.map_drop, ← List.map_take, ← List.map_drop, Function.comp_def, zp5.st, zq5.st, c20, hg, hm4, hfb, hbt, hfl, c27, zp18.st, zq18.st, hj, joinOut, joinSh]
              refine zh23 _ ?_
              refine Sat.ret ?_
              refine zg21 _ _ (by simp) ?_
              refine zg9 _ _ (by simp) (by simp) ?_
              refine zg8 _ _ (by simp) ?_
              refine zg5 _ _ (by simp) (by simp) ?_
              refine zg3 _ _ (by simp) ?_
              simp [-List.map_take, -List.map_drop, ← List.map_take, ← List.map_drop, Function.comp_def, zp5.st, zq5.st, c20, hg, hm4, hfb, hbt, hfl, c27, zp18.st, zq18.st, hj, joinOut, joinSh]
            · skip
              try simp at c57
              obtain ⟨q8, htk⟩ := hR2.1 c57
              refine Sat.skip ?_
              refine zh21 _ ?_
              refine Sat.seqK fun zK24 zh24 zg24 => ?_
              refine Sat.regionP hk [⟨some 59, Op.fieldAddr 30 (Operand.tmp 8) 0, 0, none⟩, ⟨some 60, Op.load 27 (Operand.tmp 59), 27, none⟩, ⟨some 61, Op.build 44 #[(0, Operand.tmp 60)], 44, none⟩, ⟨some 12, Op.alloc 44, 0, none⟩, ⟨none, Op.store 44 (Operand.tmp 12) (Operand.tmp 61), 0, none⟩] (by kernel_rfl) (by kernel_rfl) ?_
              simp [-List.map_take, -List.map_drop, ← List.map_take, ← List.map_drop, Function.comp_def, zp5.st, zq5.st, c20, hg, hm4, hfb, hbt, hfl, c27, zp18.st, zq18.st]
              refine zh24 _ ?_
              refine Sat.seqK fun zK25 zh25 zg25 => ?_
              refine Sat.seqK fun zK26 zh26 zg26 => ?_
              refine Sat.regionP hk [⟨some 62, Op.fieldAddr 30 (Operand.tmp 8) 2, 0, none⟩, ⟨some 63, Op.load 28 (Operand.tmp 62), 28, none⟩, ⟨some 64, Op.call { callee := Callee.builtin Builtin.len, args := #[Operand.tmp 63], argTypes := #[28] }, 3, none⟩, ⟨some 65, Op.move (Operand.const (Value.int IntKind.i64 0)), 3, none⟩] (by kernel_rfl) (by kernel_rfl) ?_
              simp [-List.map_take, -List.map_drop, ← List.map_take, ← List.map_drop, Function.comp_def, zp5.st, zq5.st, c20, hg, hm4, hfb, hbt, hfl, c27, zp18.st, zq18.st]
              refine zh26 _ ?_
              refine Sat.loopK (E := ⟨_, _, _⟩) [2, 4, 6, 8, 12, 17, 18, 19, 64] [] [128, 256, 384, 512] ⟨by first | (simp [keepS, zp5.st, zq5.st, c20, hg, hm4, hfb, hbt, hfl, c27, zp18.st, zq18.st]; done) | (simp [keepS, zp5.st, zq5.st, c20, hg, hm4, hfb, hbt, hfl, c27, zp18.st, zq18.st]; rfl), by first | (simp [keepO, zp5.st, zq5.st, c20, hg, hm4, hfb, hbt, hfl, c27, zp18.st, zq18.st]; done) | (simp [keepO, zp5.st, zq5.st, c20, hg, hm4, hfb, hbt, hfl, c27, zp18.st, zq18.st]; rfl), by first | (simp [keepB, zp5.st, zq5.st, c20, hg, hm4, hfb, hbt, hfl, c27, zp18.st, zq18.st]; done) | (simp [keepB, zp5.st, zq5.st, c20, hg, hm4, hfb, hbt, hfl, c27, zp18.st, zq18.st]; rfl)⟩ (zh25) (fun (zq : Option (Nat × Nat × Nat)) => match zq with | none => (⟨[(65, num 0)], [], [(768, ⟨(zb18 768).v + 1, true, 44, [.d (dTok true bt), .d (.sl false 79 1 []), .d (.sl false 79 1 [])]⟩)]⟩ : Ds) | some ⟨i, vk, vx⟩ => (⟨[(65, num i)], [(6336, ⟨vk, 0, .own, 79, 1, ((zapp [] bk).take i).map eM⟩), (7104, ⟨vx, 0, .own, 79, 1, ((zapp [] bx).take i).map eM⟩)], [(768, ⟨(zb18 768).v + 1, true, 44, [.d (dTok true bt), .ref 6336 vk [] 0 none, .ref 7104 vx [] 0 none]⟩)]⟩ : Ds)) (fun (zq : Option (Nat × Nat × Nat)) => match zq with | none => True | some ⟨i, vk, vx⟩ => 1 ≤ i ∧ i ≤ bk.length) (fun (zq : Option (Nat × Nat × Nat)) => match zq with | none => bk.length = 0 | some ⟨i, vk, vx⟩ => 1 ≤ i ∧ i = bk.length) (fun (zq : Option (Nat × Nat × Nat)) => match zq with | none => bk.length | some ⟨i, vk, vx⟩ => bk.length - i) none ?_ ?_ ?_ ?_
              · trivial
              · exact ⟨by simp [FitL, zp5.st, zq5.st, c20, hg, hm4, hfb, hbt, hfl, c27, zp18.st, zq18.st], by simp [FitL, zp5.st, zq5.st, c20, hg, hm4, hfb, hbt, hfl, c27, zp18.st, zq18.st], by simp [FitL, zp5.st, zq5.st, c20, hg, hm4, hfb, hbt, hfl, c27, zp18.st, zq18.st]⟩
              · rintro (_ | ⟨i, vk, vx⟩) hP4 zo27 zb27 zp27 zq27 zK27 zn27 zx27 zg27
                · skip
                  try dsimp only [Ds.app, Ds.st, List.cons_append, List.nil_append] at hP4 ⊢
                  refine Sat.seqK fun zK28 zh28 zg28 => ?_
                  refine Sat.regionP hk [⟨some 66, Op.binOp BinOp.lss 3 (Operand.tmp 65) (Operand.tmp 64) 3, 0, none⟩] (by kernel_rfl) (by kernel_rfl) ?_
                  simp [-List.map_take, -List.map_drop, ← List.map_take, ← List.map_drop, Function.comp_def, zp5.st, zq5.st, c20, hg, hm4, hfb, hbt, hfl, c27, zp18.st, zq18.st, zp27.st, zq27.st]
                  refine zh28 _ ?_
                  refine Sat.seqK fun zK29 zh29 zg29 => ?_
                  refine Sat.cond rfl (fun c66 => ?_) (fun c66 => ?_)
                  · skip
                    try simp at c66
                    obtain ⟨m1, hm1⟩ : ∃ z, bk[0]? = some z := ⟨bk[0]'(by omega), List.getElem?_eq_getElem (by omega)⟩
                    obtain ⟨m2, hm2⟩ : ∃ z, bx[0]? = some z := ⟨bx[0]'(by omega), List.getElem?_eq_getElem (by omega)⟩
                    have hi1 : 0 < bk.length := by omega
                    have hi2 : 0 < bx.length := by omega
                    have m1l := hkm _ (List.mem_of_getElem? hm1)
                    have m2l := hxm _ (List.mem_of_getElem? hm2)
                    have t1 := take1 hm1
                    have t2 := take1 hm2
                    have hz1 := zapp_get (k := []) hm1
                    have hz2 := zapp_get (k := []) hm2
                    rw [show List.getD ([] : Cube) 0 [] = [] from rfl, List.nil_append] at hz1 hz2
                    have hf1 : fitsL Try.prog 51 1 m1.length = true := by simp [fitsL, maxL]; omega
                    have hf2 : fitsL Try.prog 51 1 m2.length = true := by simp [fitsL, maxL]; omega
                    have hf3 : fitsL Try.prog 79 1 (0 + 1) = true := by simp [fitsL, maxL] <;> omega
                    simp at t1 t2
                    have tz1 : List.take 1 (zapp [] bk) = [m1] := by have := take1 hz1; rwa [List.drop_zero] at this
                    have tz2 : List.take 1 (zapp [] bx) = [m2] := by have := take1 hz2; rwa [List.drop_zero] at this
                    refine Sat.skip ?_
                    refine zh29 _ ?_
                    refine Sat.seqK fun zK30 zh30 zg30 => ?_
                    refine Sat.blockK fun zK31 zh31 zx31 zg31 => ?_
                    refine Sat.seqK fun zK32 zh32 zg32 => ?_
                    refine Sat.regionP hk [⟨some 67, Op.move (Operand.tmp 65), 3, none⟩, ⟨some 13, Op.assign (Operand.tmp 67), 3, none⟩] (by kernel_rfl) (by kernel_rfl) ?_
                    simp [-List.map_take, -List.map_drop, ← List.map_take, ← List.map_drop, Function.comp_def, zp5.st, zq5.st, c20, hg, hm4, hfb, hbt, hfl, c27, zp18.st, zq18.st, zp27.st, zq27.st, c66, hi1, hi2, t1, t2, hf1, hf2, hf3, zapp_len]
                    refine zh32 _ ?_
                    refine Sat.seqK fun zK33 zh33 zg33 => ?_
                    refine Sat.regionP hk [⟨some 68, Op.buildSlice 79 0 #[], 79, none⟩, ⟨some 69, Op.buildSlice 79 0 #[], 79, none⟩, ⟨some 14, Op.assign (Operand.tmp 68), 79, none⟩, ⟨some 15, Op.assign (Operand.tmp 69), 79, none⟩] (by kernel_rfl) (by kernel_rfl) ?_
                    simp [-List.map_take, -List.map_drop, ← List.map_take, ← List.map_drop, Function.comp_def, zp5.st, zq5.st, c20, hg, hm4, hfb, hbt, hfl, c27, zp18.st, zq18.st, zp27.st, zq27.st, c66, hi1, hi2, t1, t2, hf1, hf2, hf3, zapp_len]
                    refine zh33 _ ?_
                    refine Sat.seqK fun zK34 zh34 zg34 => ?_
                    refine Sat.seqK fun zK35 zh35 zg35 => ?_
                    refine Sat.regionP hk [⟨some 70, Op.move (Operand.tmp 13), 3, none⟩, ⟨some 71, Op.fieldAddr 44 (Operand.tmp 6) 1, 0, none⟩, ⟨some 72, Op.load 28 (Operand.tmp 71), 28, none⟩, ⟨some 73, Op.call { callee := Callee.builtin Builtin.len, args := #[Operand.tmp 72], argTypes := #[28] }, 3, none⟩, ⟨some 74, Op.binOp BinOp.lss 3 (Operand.tmp 70) (Operand.tmp 73) 3, 4, none⟩] (by kernel_rfl) (by kernel_rfl) ?_
                    simp [-List.map_take, -List.map_drop, ← List.map_take, ← List.map_drop, Function.comp_def, zp5.st, zq5.st, c20, hg, hm4, hfb, hbt, hfl, c27, zp18.st, zq18.st, zp27.st, zq27.st, c66, hi1, hi2, t1, t2, hf1, hf2, hf3, zapp_len]
                    refine zh35 _ ?_
                    refine Sat.cond rfl (fun c74 => ?_) (fun c74 => ?_)
                    · exfalso; simp at c74; try omega
                    · skip
                      try simp at c74
                      refine Sat.skip ?_
                      refine zh34 _ ?_
                      refine Sat.seqK fun zK36 zh36 zg36 => ?_
                      refine Sat.regionDP hk (by kernel_rfl) [⟨some 89, Op.fieldAddr 44 (Operand.tmp 12) 1, 0, none⟩, ⟨some 90, Op.load 28 (Operand.tmp 89), 28, none⟩, ⟨some 91, Op.move (Operand.tmp 14), 79, none⟩, ⟨some 92, Op.fieldAddr 30 (Operand.tmp 8) 2, 0, none⟩, ⟨some 93, Op.load 28 (Operand.tmp 92), 28, none⟩, ⟨some 94, Op.move (Operand.tmp 13), 3, none⟩, ⟨some 95, Op.indexAddr 28 (Operand.tmp 93) (Operand.tmp 94), 0, none⟩, ⟨some 96, Op.load 79 (Operand.tmp 95), 79, none⟩, ⟨some 97, Op.call { callee := Callee.builtin Builtin.append, args := #[Operand.tmp 91, Operand.tmp 96], argTypes := #[79, 79] }, 79, none⟩, ⟨some 98, Op.buildSlice 28 1 #[(0, Operand.tmp 97)], 28, none⟩, ⟨some 99, Op.call { callee := Callee.builtin Builtin.append, args := #[Operand.tmp 90, Operand.tmp 98], argTypes := #[28, 28] }, 28, none⟩, ⟨some 100, Op.fieldAddr 44 (Operand.tmp 12) 1, 0, none⟩, ⟨none, Op.store 28 (Operand.tmp 100) (Operand.tmp 99), 0, none⟩] (by kernel_rfl) (by kernel_rfl) (by decide +kernel) (fun an han => ?_)
                      simp [-List.map_take, -List.map_drop, ← List.map_take, ← List.map_drop, Function.comp_def, zp5.st, zq5.st, c20, hg, hm4, hfb, hbt, hfl, c27, zp18.st, zq18.st, zp27.st, zq27.st, c66, hi1, hi2, t1, t2, hf1, hf2, hf3, zapp_len]
                      refine ⟨by subst han; kernel_rfl, ?_⟩
                      refine zh36 _ ?_
                      refine Sat.regionDP hk (by kernel_rfl) [⟨some 101, Op.fieldAddr 44 (Operand.tmp 12) 2, 0, none⟩, ⟨some 102, Op.load 28 (Operand.tmp 101), 28, none⟩, ⟨some 103, Op.move (Operand.tmp 15), 79, none⟩, ⟨some 104, Op.fieldAddr 30 (Operand.tmp 8) 3, 0, none⟩, ⟨some 105, Op.load 28 (Operand.tmp 104), 28, none⟩, ⟨some 106, Op.move (Operand.tmp 13), 3, none⟩, ⟨some 107, Op.indexAddr 28 (Operand.tmp 105) (Operand.tmp 106), 0, none⟩, ⟨some 108, Op.load 79 (Operand.tmp 107), 79, none⟩, ⟨some 109, Op.call { callee := Callee.builtin Builtin.append, args := #[Operand.tmp 103, Operand.tmp 108], argTypes := #[79, 79] }, 79, none⟩, ⟨some 110, Op.buildSlice 28 1 #[(0, Operand.tmp 109)], 28, none⟩, ⟨some 111, Op.call { callee := Callee.builtin Builtin.append, args := #[Operand.tmp 102, Operand.tmp 110], argTypes := #[28, 28] }, 28, none⟩, ⟨some 112, Op.fieldAddr 44 (Operand.tmp 12) 2, 0, none⟩, ⟨none, Op.store 28 (Operand.tmp 112) (Operand.tmp 111), 0, none⟩] (by kernel_rfl) (by kernel_rfl) (by decide +kernel) (fun an han => ?_)
                      simp [-List.map_take, -List.map_drop, ← List.map_take, ← List.map_drop, Function.comp_def, zp5.st, zq5.st, c20, hg, hm4, hfb, hbt, hfl, c27, zp18.st, zq18.st, zp27.st, zq27.st, c66, hi1, hi2, t1, t2, hf1, hf2, hf3, zapp_len]
                      refine ⟨by subst han; kernel_rfl, ?_⟩
                      refine zh31 _ ?_
                      refine zh30 _ ?_
                      refine Sat.regionP hk [⟨some 113, Op.binOp BinOp.add 3 (Operand.tmp 65) (Operand.const (Value.int IntKind.i64 1)) 3, 3, none⟩, ⟨some 65, Op.move (Operand.tmp 113), 3, none⟩] (by kernel_rfl) (by kernel_rfl) ?_
                      simp [-List.map_take, -List.map_drop, ← List.map_take, ← List.map_drop, Function.comp_def, zp5.st, zq5.st, c20, hg, hm4, hfb, hbt, hfl, c27, zp18.st, zq18.st, zp27.st, zq27.st, c66, hi1, hi2, t1, t2, hf1, hf2, hf3, zapp_len]
                      refine zn27 (some ⟨0 + 1, (zo27 6336).v + 1, (zo27 7104).v + 1⟩) _ ?_ ?_ ?_ ?_
                      · first | omega | (dsimp only; omega)
                      · first | omega | (dsimp only; omega)
                      · exact ⟨by simp [-List.map_take, -List.map_drop, ← List.map_take, ← List.map_drop, Function.comp_def, FitL, zp5.st, zq5.st, c20, hg, hm4, hfb, hbt, hfl, c27, zp18.st, zq18.st, zp27.st, zq27.st, c66, hi1, hi2, t1, t2, hf1, hf2, hf3, zapp_len, w64_id 1 (by decide) (by decide), take_succ_get hz1, take_succ_get hz2, eM, List.map_append, tz1, tz2], by simp [-List.map_take, -List.map_drop, ← List.map_take, ← List.map_drop, Function.comp_def, FitL, zp5.st, zq5.st, c20, hg, hm4, hfb, hbt, hfl, c27, zp18.st, zq18.st, zp27.st, zq27.st, c66, hi1, hi2, t1, t2, hf1, hf2, hf3, zapp_len, w64_id 1 (by decide) (by decide), take_succ_get hz1, take_succ_get hz2, eM, List.map_append, tz1, tz2], by simp [-List.map_take, -List.map_drop, ← List.map_take, ← List.map_drop, Function.comp_def, FitL, zp5.st, zq5.st, c20, hg, hm4, hfb, hbt, hfl, c27, zp18.st, zq18.st, zp27.st, zq27.st, c66, hi1, hi2, t1, t2, hf1, hf2, hf3, zapp_len, w64_id 1 (by decide) (by decide), take_succ_get hz1, take_succ_get hz2, eM, List.map_append, tz1, tz2]⟩
                      · exact ⟨by simp [-List.map_take, -List.map_drop, ← List.map_take, ← List.map_drop, Function.comp_def, FitL, zp5.st, zq5.st, c20, hg, hm4, hfb, hbt, hfl, c27, zp18.st, zq18.st, zp27.st, zq27.st, c66, hi1, hi2, t1, t2, hf1, hf2, hf3, zapp_len, w64_id 1 (by decide) (by decide), take_succ_get hz1, take_succ_get hz2, eM, List.map_append, tz1, tz2], by simp [-List.map_take, -List.map_drop, ← List.map_take, ← List.map_drop, Function.comp_def, FitL, zp5.st, zq5.st, c20, hg, hm4, hfb, hbt, hfl, c27, zp18.st, zq18.st, zp27.st, zq27.st, c66, hi1, hi2, t1, t2, hf1, hf2, hf3, zapp_len, w64_id 1 (by decide) (by decide), take_succ_get hz1, take_succ_get hz2, eM, List.map_append, tz1, tz2], by simp [-List.map_take, -List.map_drop, ← List.map_take, ← List.map_drop, Function.comp_def, FitL, zp5.st, zq5.st, c20, hg, hm4, hfb, hbt, hfl, c27, zp18.st, zq18.st, zp27.st, zq27.st, c66, hi1, hi2, t1, t2, hf1, hf2, hf3, zapp_len, w64_id 1 (by decide) (by decide), take_succ_get hz1, take_succ_get hz2, eM, List.map_append, tz1, tz2]⟩
                  · skip
                    try simp at c66
                    refine Sat.exit ?_
                    refine zg29 _ _ (by simp) ?_
                    refine zx27 none _ ?_ ?_ ?_
                    · first | omega | (dsimp only; omega) | simp [c66]
                    · exact ⟨by simp [-List.map_take, -List.map_drop, ← List.map_take, ← List.map_drop, Function.comp_def, FitL, zp5.st, zq5.st, c20, hg, hm4, hfb, hbt, hfl, c27, zp18.st, zq18.st, zp27.st, zq27.st], by simp [-List.map_take, -List.map_drop, ← List.map_take, ← List.map_drop, Function.comp_def, FitL, zp5.st, zq5.st, c20, hg, hm4, hfb, hbt, hfl, c27, zp18.st, zq18.st, zp27.st, zq27.st], by simp [-List.map_take, -List.map_drop, ← List.map_take, ← List.map_drop, Function.comp_def, FitL, zp5.st, zq5.st, c20, hg, hm4, hfb, hbt, hfl, c27, zp18.st, zq18.st, zp27.st, zq27.st]⟩
                    · exact ⟨by simp [-List.map_take, -List.map_drop, ← List.map_take, ← List.map_drop, Function.comp_def, FitL, zp5.st, zq5.st, c20, hg, hm4, hfb, hbt, hfl, c27, zp18.st, zq18.st, zp27.st, zq27.st], by simp [-List.map_take, -List.map_drop, ← List.map_take, ← List.map_drop, Function.comp_def, FitL, zp5.st, zq5.st, c20, hg, hm4, hfb, hbt, hfl, c27, zp18.st, zq18.st, zp27.st, zq27.st], by simp [-List.map_take, -List.map_drop, ← List.map_take, ← List.map_drop, Function.comp_def, FitL, zp5.st, zq5.st, c20, hg, hm4, hfb, hbt, hfl, c27, zp18.st, zq18.st, zp27.st, zq27.st]⟩
                · skip
                  try dsimp only [Ds.app, Ds.st, List.cons_append, List.nil_append] at hP4 ⊢
                  refine Sat.seqK fun zK37 zh37 zg37 => ?_
                  refine Sat.regionP hk [⟨some 66, Op.binOp BinOp.lss 3 (Operand.tmp 65) (Operand.tmp 64) 3, 0, none⟩] (by kernel_rfl) (by kernel_rfl) ?_
                  simp [-List.map_take, -List.map_drop, ← List.map_take, ← List.map_drop, Function.comp_def, zp5.st, zq5.st, c20, hg, hm4, hfb, hbt, hfl, c27, zp18.st, zq18.st, zp27.st, zq27.st]
                  refine zh37 _ ?_
                  refine Sat.seqK fun zK38 zh38 zg38 => ?_
                  refine Sat.cond rfl (fun c66 => ?_) (fun c66 => ?_)
                  · skip
                    try simp at c66
                    obtain ⟨m1, hm1⟩ : ∃ z, bk[i]? = some z := ⟨bk[i]'(by omega), List.getElem?_eq_getElem (by omega)⟩
                    obtain ⟨m2, hm2⟩ : ∃ z, bx[i]? = some z := ⟨bx[i]'(by omega), List.getElem?_eq_getElem (by omega)⟩
                    have hi1 : i < bk.length := by omega
                    have hi2 : i < bx.length := by omega
                    have m1l := hkm _ (List.mem_of_getElem? hm1)
                    have m2l := hxm _ (List.mem_of_getElem? hm2)
                    have t1 := take1 hm1
                    have t2 := take1 hm2
                    have hz1 := zapp_get (k := []) hm1
                    have hz2 := zapp_get (k := []) hm2
                    rw [show List.getD ([] : Cube) i [] = [] from rfl, List.nil_append] at hz1 hz2
                    have hf1 : fitsL Try.prog 51 1 m1.length = true := by simp [fitsL, maxL]; omega
                    have hf2 : fitsL Try.prog 51 1 m2.length = true := by simp [fitsL, maxL]; omega
                    have hf3 : fitsL Try.prog 79 1 (i + 1) = true := by simp [fitsL, maxL] <;> omega
                    have hmn1 : min i bk.length = i := by omega
                    have hmn2 : min i bx.length = i := by omega
                    refine Sat.skip ?_
                    refine zh38 _ ?_
                    refine Sat.seqK fun zK39 zh39 zg39 => ?_
                    refine Sat.blockK fun zK40 zh40 zx40 zg40 => ?_
                    refine Sat.seqK fun zK41 zh41 zg41 => ?_
                    refine Sat.regionP hk [⟨some 67, Op.move (Operand.tmp 65), 3, none⟩, ⟨some 13, Op.assign (Operand.tmp 67), 3, none⟩] (by kernel_rfl) (by kernel_rfl) ?_
                    simp [-List.map_take, -List.map_drop, ← List.map_take, ← List.map_drop, Function.comp_def, zp5.st, zq5.st, c20, hg, hm4, hfb, hbt, hfl, c27, zp18.st, zq18.st, zp27.st, zq27.st, c66, hi1, hi2, t1, t2, hf1, hf2, hf3, zapp_len, hmn1, hmn2]
                    refine zh41 _ ?_
                    refine Sat.seqK fun zK42 zh42 zg42 => ?_
                    refine Sat.regionP hk [⟨some 68, Op.buildSlice 79 0 #[], 79, none⟩, ⟨some 69, Op.buildSlice 79 0 #[], 79, none⟩, ⟨some 14, Op.assign (Operand.tmp 68), 79, none⟩, ⟨some 15, Op.assign (Operand.tmp 69), 79, none⟩] (by kernel_rfl) (by kernel_rfl) ?_
                    simp [-List.map_take, -List.map_drop, ← List.map_take, ← List.map_drop, Function.comp_def, zp5.st, zq5.st, c20, hg, hm4, hfb, hbt, hfl, c27, zp18.st, zq18.st, zp27.st, zq27.st, c66, hi1, hi2, t1, t2, hf1, hf2, hf3, zapp_len, hmn1, hmn2]
                    refine zh42 _ ?_
                    refine Sat.seqK fun zK43 zh43 zg43 => ?_
                    refine Sat.seqK fun zK44 zh44 zg44 => ?_
                    refine Sat.regionP hk [⟨some 70, Op.move (Operand.tmp 13), 3, none⟩, ⟨some 71, Op.fieldAddr 44 (Operand.tmp 6) 1, 0, none⟩, ⟨some 72, Op.load 28 (Operand.tmp 71), 28, none⟩, ⟨some 73, Op.call { callee := Callee.builtin Builtin.len, args := #[Operand.tmp 72], argTypes := #[28] }, 3, none⟩, ⟨some 74, Op.binOp BinOp.lss 3 (Operand.tmp 70) (Operand.tmp 73) 3, 4, none⟩] (by kernel_rfl) (by kernel_rfl) ?_
                    simp [-List.map_take, -List.map_drop, ← List.map_take, ← List.map_drop, Function.comp_def, zp5.st, zq5.st, c20, hg, hm4, hfb, hbt, hfl, c27, zp18.st, zq18.st, zp27.st, zq27.st, c66, hi1, hi2, t1, t2, hf1, hf2, hf3, zapp_len, hmn1, hmn2]
                    refine zh44 _ ?_
                    refine Sat.cond rfl (fun c74 => ?_) (fun c74 => ?_)
                    · exfalso; simp at c74; try omega
                    · skip
                      try simp at c74
                      refine Sat.skip ?_
                      refine zh43 _ ?_
                      refine Sat.seqK fun zK45 zh45 zg45 => ?_
                      refine Sat.regionDP hk (by kernel_rfl) [⟨some 89, Op.fieldAddr 44 (Operand.tmp 12) 1, 0, none⟩, ⟨some 90, Op.load 28 (Operand.tmp 89), 28, none⟩, ⟨some 91, Op.move (Operand.tmp 14), 79, none⟩, ⟨some 92, Op.fieldAddr 30 (Operand.tmp 8) 2, 0, none⟩, ⟨some 93, Op.load 28 (Operand.tmp 92), 28, none⟩, ⟨some 94, Op.move (Operand.tmp 13), 3, none⟩, ⟨some 95, Op.indexAddr 28 (Operand.tmp 93) (Operand.tmp 94), 0, none⟩, ⟨some 96, Op.load 79 (Operand.tmp 95), 79, none⟩, ⟨some 97, Op.call { callee := Callee.builtin Builtin.append, args := #[Operand.tmp 91, Operand.tmp 96], argTypes := #[79, 79] }, 79, none⟩, ⟨some 98, Op.buildSlice 28 1 #[(0, Operand.tmp 97)], 28, none⟩, ⟨some 99, Op.call { callee := Callee.builtin Builtin.append, args := #[Operand.tmp 90, Operand.tmp 98], argTypes := #[28, 28] }, 28, none⟩, ⟨some 100, Op.fieldAddr 44 (Operand.tmp 12) 1, 0, none⟩, ⟨none, Op.store 28 (Operand.tmp 100) (Operand.tmp 99), 0, none⟩] (by kernel_rfl) (by kernel_rfl) (by decide +kernel) (fun an han => ?_)
                      simp [-List.map_take, -List.map_drop, ← List.map_take, ← List.map_drop, Function.comp_def, zp5.st, zq5.st, c20, hg, hm4, hfb, hbt, hfl, c27, zp18.st, zq18.st, zp27.st, zq27.st, c66, hi1, hi2, t1, t2, hf1, hf2, hf3, zapp_len, hmn1, hmn2]
                      refine ⟨by subst han; kernel_rfl, ?_⟩
                      refine zh45 _ ?_
                      refine Sat.regionDP hk (by kernel_rfl) [⟨some 101, Op.fieldAddr 44 (Operand.tmp 12) 2, 0, none⟩, ⟨some 102, Op.load 28 (Operand.tmp 101), 28, none⟩, ⟨some 103, Op.move (Operand.tmp 15), 79, none⟩, ⟨some 104, Op.fieldAddr 30 (Operand.tmp 8) 3, 0, none⟩, ⟨some 105, Op.load 28 (Operand.tmp 104), 28, none⟩, ⟨some 106, Op.move (Operand.tmp 13), 3, none⟩, ⟨some 107, Op.indexAddr 28 (Operand.tmp 105) (Operand.tmp 106), 0, none⟩, ⟨some 108, Op.load 79 (Operand.tmp 107), 79, none⟩, ⟨some 109, Op.call { callee := Callee.builtin Builtin.append, args := #[Operand.tmp 103, Operand.tmp 108], argTypes := #[79, 79] }, 79, none⟩, ⟨some 110, Op.buildSlice 28 1 #[(0, Operand.tmp 109)], 28, none⟩, ⟨some 111, Op.call { callee := Callee.builtin Builtin.append, args := #[Operand.tmp 102, Operand.tmp 110], argTypes := #[28, 28] }, 28, none⟩, ⟨some 112, Op.fieldAddr 44 (Operand.tmp 12) 2, 0, none⟩, ⟨none, Op.store 28 (Operand.tmp 112) (Operand.tmp 111), 0, none⟩] (by kernel_rfl) (by kernel_rfl) (by decide +kernel) (fun an han => ?_)
                      simp [-List.map_take, -List.map_drop, ← List.map_take, ← List.map_drop, Function.comp_def, zp5.st, zq5.st, c20, hg, hm4, hfb, hbt, hfl, c27, zp18.st, zq18.st, zp27.st, zq27.st, c66, hi1, hi2, t1, t2, hf1, hf2, hf3, zapp_len, hmn1, hmn2]
                      refine ⟨by subst han; kernel_rfl, ?_⟩
                      refine zh40 _ ?_
                      refine zh39 _ ?_
                      refine Sat.regionP hk [⟨some 113, Op.binOp BinOp.add 3 (Operand.tmp 65) (Operand.const (Value.int IntKind.i64 1)) 3, 3, none⟩, ⟨some 65, Op.move (Operand.tmp 113), 3, none⟩] (by kernel_rfl) (by kernel_rfl) ?_
                      simp [-List.map_take, -List.map_drop, ← List.map_take, ← List.map_drop, Function.comp_def, zp5.st, zq5.st, c20, hg, hm4, hfb, hbt, hfl, c27, zp18.st, zq18.st, zp27.st, zq27.st, c66, hi1, hi2, t1, t2, hf1, hf2, hf3, zapp_len, hmn1, hmn2]
                      refine zn27 (some ⟨i + 1, vk + 1, vx + 1⟩) _ ?_ ?_ ?_ ?_
                      · first | omega | (dsimp only; omega)
                      · first | omega | (dsimp only; omega)
                      · exact ⟨by simp [-List.map_take, -List.map_drop, ← List.map_take, ← List.map_drop, Function.comp_def, FitL, zp5.st, zq5.st, c20, hg, hm4, hfb, hbt, hfl, c27, zp18.st, zq18.st, zp27.st, zq27.st, c66, hi1, hi2, t1, t2, hf1, hf2, hf3, zapp_len, hmn1, hmn2, w64s i (by omega), take_succ_get hz1, take_succ_get hz2, eM, List.map_append], by simp [-List.map_take, -List.map_drop, ← List.map_take, ← List.map_drop, Function.comp_def, FitL, zp5.st, zq5.st, c20, hg, hm4, hfb, hbt, hfl, c27, zp18.st, zq18.st, zp27.st, zq27.st, c66, hi1, hi2, t1, t2, hf1, hf2, hf3, zapp_len, hmn1, hmn2, w64s i (by omega), take_succ_get hz1, take_succ_get hz2, eM, List.map_append], by simp [-List.map_take, -List.map_drop, ← List.map_take, ← List.map_drop, Function.comp_def, FitL, zp5.st, zq5.st, c20, hg, hm4, hfb, hbt, hfl, c27, zp18.st, zq18.st, zp27.st, zq27.st, c66, hi1, hi2, t1, t2, hf1, hf2, hf3, zapp_len, hmn1, hmn2, w64s i (by omega), take_succ_get hz1, take_succ_get hz2, eM, List.map_append]⟩
                      · exact ⟨by simp [-List.map_take, -List.map_drop, ← List.map_take, ← List.map_drop, Function.comp_def, FitL, zp5.st, zq5.st, c20, hg, hm4, hfb, hbt, hfl, c27, zp18.st, zq18.st, zp27.st, zq27.st, c66, hi1, hi2, t1, t2, hf1, hf2, hf3, zapp_len, hmn1, hmn2, w64s i (by omega), take_succ_get hz1, take_succ_get hz2, eM, List.map_append], by simp [-List.map_take, -List.map_drop, ← List.map_take, ← List.map_drop, Function.comp_def, FitL, zp5.st, zq5.st, c20, hg, hm4, hfb, hbt, hfl, c27, zp18.st, zq18.st, zp27.st, zq27.st, c66, hi1, hi2, t1, t2, hf1, hf2, hf3, zapp_len, hmn1, hmn2, w64s i (by omega), take_succ_get hz1, take_succ_get hz2, eM, List.map_append], by simp [-List.map_take, -List.map_drop, ← List.map_take, ← List.map_drop, Function.comp_def, FitL, zp5.st, zq5.st, c20, hg, hm4, hfb, hbt, hfl, c27, zp18.st, zq18.st, zp27.st, zq27.st, c66, hi1, hi2, t1, t2, hf1, hf2, hf3, zapp_len, hmn1, hmn2, w64s i (by omega), take_succ_get hz1, take_succ_get hz2, eM, List.map_append]⟩
                  · skip
                    try simp at c66
                    refine Sat.exit ?_
                    refine zg38 _ _ (by simp) ?_
                    refine zx27 (some ⟨i, vk, vx⟩) _ ?_ ?_ ?_
                    · first | omega | (dsimp only; omega) | simp [c66]
                    · exact ⟨by simp [-List.map_take, -List.map_drop, ← List.map_take, ← List.map_drop, Function.comp_def, FitL, zp5.st, zq5.st, c20, hg, hm4, hfb, hbt, hfl, c27, zp18.st, zq18.st, zp27.st, zq27.st], by simp [-List.map_take, -List.map_drop, ← List.map_take, ← List.map_drop, Function.comp_def, FitL, zp5.st, zq5.st, c20, hg, hm4, hfb, hbt, hfl, c27, zp18.st, zq18.st, zp27.st, zq27.st], by simp [-List.map_take, -List.map_drop, ← List.map_take, ← List.map_drop, Function.comp_def, FitL, zp5.st, zq5.st, c20, hg, hm4, hfb, hbt, hfl, c27, zp18.st, zq18.st, zp27.st, zq27.st]⟩
                    · exact ⟨by simp [-List.map_take, -List.map_drop, ← List.map_take, ← List.map_drop, Function.comp_def, FitL, zp5.st, zq5.st, c20, hg, hm4, hfb, hbt, hfl, c27, zp18.st, zq18.st, zp27.st, zq27.st], by simp [-List.map_take, -List.map_drop, ← List.map_take, ← List.map_drop, Function.comp_def, FitL, zp5.st, zq5.st, c20, hg, hm4, hfb, hbt, hfl, c27, zp18.st, zq18.st, zp27.st, zq27.st], by simp [-List.map_take, -List.map_drop, ← List.map_take, ← List.map_drop, Function.comp_def, FitL, zp5.st, zq5.st, c20, hg, hm4, hfb, hbt, hfl, c27, zp18.st, zq18.st, zp27.st, zq27.st]⟩
              · rintro (_ | ⟨i, vk, vx⟩) hR4 zo27 zb27 zp27 zq27
                · skip
                  try dsimp only [Ds.app, Ds.st, List.cons_append, List.nil_append] at hR4 ⊢
                  have zl1 : zapp [] bk = [] := List.length_eq_zero_iff.1 (by rw [zapp_len]; exact hR4)
                  have zl2 : zapp [] bx = [] := List.length_eq_zero_iff.1 (by rw [zapp_len]; omega)
                  refine Sat.shB 768 ?_
                  simp
                  refine Sat.regionP hk [⟨some 114, Op.load 44 (Operand.tmp 12), 44, none⟩, ⟨none, Op.store 44 (Operand.tmp 6) (Operand.tmp 114), 0, none⟩] (by kernel_rfl) (by kernel_rfl) ?_
                  simp [-List.map_take, -List.map_drop, ← List.map_take, ← List.map_drop, Function.comp_def, zp5.st, zq5.st, c20, hg, hm4, hfb, hbt, hfl, c27, zp18.st, zq18.st, zp27.st, zq27.st]
                  refine zh9 _ ?_
                  refine zh8 _ ?_
                  refine Sat.regionP hk [⟨some 115, Op.binOp BinOp.add 3 (Operand.tmp 19) (Operand.const (Value.int IntKind.i64 1)) 3, 3, none⟩, ⟨some 19, Op.move (Operand.tmp 115), 3, none⟩] (by kernel_rfl) (by kernel_rfl) ?_
                  simp [-List.map_take, -List.map_drop, ← List.map_take, ← List.map_drop, Function.comp_def, zp5.st, zq5.st, c20, hg, hm4, hfb, hbt, hfl, c27, zp18.st, zq18.st, zp27.st, zq27.st]
                  refine zn5 (some ⟨0 + 1, bt, zapp [] bk, zapp [] bx⟩) _ ?_ ?_ ?_ ?_
                  · exact Joined.next hb c27 hnd hn1 ht128 hbk hbx hkm hxm (t := []) (k := List.replicate bk.length []) (x := List.replicate bx.length []) (fun m h => by rw [List.eq_of_mem_replicate h]; rfl) (fun m h => by rw [List.eq_of_mem_replicate h]; rfl) (by simp) (by simp) (by simp at q8; simp; omega) (by simp at q8; rw [q8]; rfl) zapp_rep zapp_rep rfl |> fun h => by rw [zapp_rep, zapp_rep] at h; exact h
                  · first | omega | (dsimp only; omega)
                  · exact ⟨by simp [-List.map_take, -List.map_drop, ← List.map_take, ← List.map_drop, Function.comp_def, FitL, zp5.st, zq5.st, c20, hg, hm4, hfb, hbt, hfl, c27, zp18.st, zq18.st, zp27.st, zq27.st, w64_id 1 (by decide) (by decide), zl1, zl2], by simp [-List.map_take, -List.map_drop, ← List.map_take, ← List.map_drop, Function.comp_def, FitL, zp5.st, zq5.st, c20, hg, hm4, hfb, hbt, hfl, c27, zp18.st, zq18.st, zp27.st, zq27.st, w64_id 1 (by decide) (by decide), zl1, zl2], by simp [-List.map_take, -List.map_drop, ← List.map_take, ← List.map_drop, Function.comp_def, FitL, zp5.st, zq5.st, c20, hg, hm4, hfb, hbt, hfl, c27, zp18.st, zq18.st, zp27.st, zq27.st, w64_id 1 (by decide) (by decide), zl1, zl2]⟩
                  · exact ⟨by simp [-List.map_take, -List.map_drop, ← List.map_take, ← List.map_drop, Function.comp_def, FitL, zp5.st, zq5.st, c20, hg, hm4, hfb, hbt, hfl, c27, zp18.st, zq18.st, zp27.st, zq27.st, w64_id 1 (by decide) (by decide), zl1, zl2], by simp [-List.map_take, -List.map_drop, ← List.map_take, ← List.map_drop, Function.comp_def, FitL, zp5.st, zq5.st, c20, hg, hm4, hfb, hbt, hfl, c27, zp18.st, zq18.st, zp27.st, zq27.st, w64_id 1 (by decide) (by decide), zl1, zl2], by simp [-List.map_take, -List.map_drop, ← List.map_take, ← List.map_drop, Function.comp_def, FitL, zp5.st, zq5.st, c20, hg, hm4, hfb, hbt, hfl, c27, zp18.st, zq18.st, zp27.st, zq27.st, w64_id 1 (by decide) (by decide), zl1, zl2]⟩
                · skip
                  try dsimp only [Ds.app, Ds.st, List.cons_append, List.nil_append] at hR4 ⊢
                  have tk1 : (zapp [] bk).take i = zapp [] bk := List.take_of_length_le (by rw [zapp_len]; omega)
                  have tk2 : (zapp [] bx).take i = zapp [] bx := List.take_of_length_le (by rw [zapp_len]; omega)
                  refine Sat.frz 6336 (by simp) ?_
                  refine Sat.frz 7104 (by simp) ?_
                  refine Sat.plain ?_
                  simp
                  refine Sat.regionP hk [⟨some 114, Op.load 44 (Operand.tmp 12), 44, none⟩, ⟨none, Op.store 44 (Operand.tmp 6) (Operand.tmp 114), 0, none⟩] (by kernel_rfl) (by kernel_rfl) ?_
                  simp [-List.map_take, -List.map_drop, ← List.map_take, ← List.map_drop, Function.comp_def, zp5.st, zq5.st, c20, hg, hm4, hfb, hbt, hfl, c27, zp18.st, zq18.st, zp27.st, zq27.st]
                  refine zh9 _ ?_
                  refine zh8 _ ?_
                  refine Sat.regionP hk [⟨some 115, Op.binOp BinOp.add 3 (Operand.tmp 19) (Operand.const (Value.int IntKind.i64 1)) 3, 3, none⟩, ⟨some 19, Op.move (Operand.tmp 115), 3, none⟩] (by kernel_rfl) (by kernel_rfl) ?_
                  simp [-List.map_take, -List.map_drop, ← List.map_take, ← List.map_drop, Function.comp_def, zp5.st, zq5.st, c20, hg, hm4, hfb, hbt, hfl, c27, zp18.st, zq18.st, zp27.st, zq27.st]
                  refine zn5 (some ⟨0 + 1, bt, zapp [] bk, zapp [] bx⟩) _ ?_ ?_ ?_ ?_
                  · exact Joined.next hb c27 hnd hn1 ht128 hbk hbx hkm hxm (t := []) (k := List.replicate bk.length []) (x := List.replicate bx.length []) (fun m h => by rw [List.eq_of_mem_replicate h]; rfl) (fun m h => by rw [List.eq_of_mem_replicate h]; rfl) (by simp) (by simp) (by simp at q8; simp; omega) (by simp at q8; rw [q8]; rfl) zapp_rep zapp_rep rfl |> fun h => by rw [zapp_rep, zapp_rep] at h; exact h
                  · first | omega | (dsimp only; omega)
                  · exact ⟨by simp [-List.map_take, -List.map_drop, ← List.map_take, ← List.map_drop, Function.comp_def, FitL, zp5.st, zq5.st, c20, hg, hm4, hfb, hbt, hfl, c27, zp18.st, zq18.st, zp27.st, zq27.st, w64_id 1 (by decide) (by decide), eM, tk1, tk2], by simp [-List.map_take, -List.map_drop, ← List.map_take, ← List.map_drop, Function.comp_def, FitL, zp5.st, zq5.st, c20, hg, hm4, hfb, hbt, hfl, c27, zp18.st, zq18.st, zp27.st, zq27.st, w64_id 1 (by decide) (by decide), eM, tk1, tk2], by simp [-List.map_take, -List.map_drop, ← List.map_take, ← List.map_drop, Function.comp_def, FitL, zp5.st, zq5.st, c20, hg, hm4, hfb, hbt, hfl, c27, zp18.st, zq18.st, zp27.st, zq27.st, w64_id 1 (by decide) (by decide), eM, tk1, tk2]⟩
                  · exact ⟨by simp [-List.map_take, -List.map_drop, ← List.map_take, ← List.map_drop, Function.comp_def, FitL, zp5.st, zq5.st, c20, hg, hm4, hfb, hbt, hfl, c27, zp18.st, zq18.st, zp27.st, zq27.st, w64_id 1 (by decide) (by decide), eM, tk1, tk2], by simp [-List.map_take, -List.map_drop, ← List.map_take, ← List.map_drop, Function.comp_def, FitL, zp5.st, zq5.st, c20, hg, hm4, hfb, hbt, hfl, c27, zp18.st, zq18.st, zp27.st, zq27.st, w64_id 1 (by decide) (by decide), eM, tk1, tk2], by simp [-List.map_take, -List.map_drop, ← List.map_take, ← List.map_drop, Function.comp_def, FitL, zp5.st, zq5.st, c20, hg, hm4, hfb, hbt, hfl, c27, zp18.st, zq18.st, zp27.st, zq27.st, w64_id 1 (by decide) (by decide), eM, tk1, tk2]⟩
      · skip
        try simp at c20
        refine Sat.exit ?_
        refine zg7 _ _ (by simp) ?_
        refine zx5 none _ ?_ ?_ ?_
        · simpa using c20
        · exact ⟨by simp [-List.map_take, -List.map_drop, ← List.map_take, ← List.map_drop, Function.comp_def, FitL, zp5.st, zq5.st], by simp [-List.map_take, -List.map_drop, ← List.map_take, ← List.map_drop, Function.comp_def, FitL, zp5.st, zq5.st], by simp [-List.map_take, -List.map_drop, ← List.map_take, ← List.map_drop, Function.comp_def, FitL, zp5.st, zq5.st]⟩
        · exact ⟨by simp [-List.map_take, -List.map_drop, ← List.map_take, ← List.map_drop, Function.comp_def, FitL, zp5.st, zq5.st], by simp [-List.map_take, -List.map_drop, ← List.map_take, ← List.map_drop, Function.comp_def, FitL, zp5.st, zq5.st], by simp [-List.map_take, -List.map_drop, ← List.map_take, ← List.map_drop, Function.comp_def, FitL, zp5.st, zq5.st]⟩
    · skip
      try dsimp only [Ds.app, Ds.st, List.cons_append, List.nil_append] at hP0 ⊢
      have hj1 := hP0.j1
      have ht1 := hP0.t1
      have ht2 := hP0.t2
      refine Sat.seqK fun zK46 zh46 zg46 => ?_
      refine Sat.regionP hk [⟨some 20, Op.binOp BinOp.lss 3 (Operand.tmp 19) (Operand.tmp 18) 3, 0, none⟩] (by kernel_rfl) (by kernel_rfl) ?_
      simp [-List.map_take, -List.map_drop, ← List.map_take, ← List.map_drop, Function.comp_def, zp5.st, zq5.st]
      refine zh46 _ ?_
      refine Sat.seqK fun zK47 zh47 zg47 => ?_
      refine Sat.cond rfl (fun c20 => ?_) (fun c20 => ?_)
      · skip
        try simp at c20
        obtain ⟨b, hb⟩ : ∃ z, l[j]? = some z := ⟨l[j], List.getElem?_eq_getElem c20⟩
        obtain ⟨bt, bf, bk, bx⟩ := b
        have hfb := hn.2 _ (List.mem_of_getElem? hb)
        have hg := flat_get tBlk true l _ _ hb
        simp at hg
        have hm4 : min 4 (l.length * 4 - j * 4) = 4 := by omega
        have hbt : bt.length < 1099511627776 := hfb.1
        refine Sat.skip ?_
        refine zh47 _ ?_
        refine Sat.seqK fun zK48 zh48 zg48 => ?_
        refine Sat.blockK fun zK49 zh49 zx49 zg49 => ?_
        refine Sat.seqK fun zK50 zh50 zg50 => ?_
        refine Sat.regionP hk [⟨some 21, Op.indexAddr 25 (Operand.tmp 17) (Operand.tmp 19), 0, none⟩, ⟨some 22, Op.load 30 (Operand.tmp 21), 30, none⟩, ⟨some 8, Op.alloc 30, 0, none⟩, ⟨none, Op.store 30 (Operand.tmp 8) (Operand.tmp 22), 0, none⟩] (by kernel_rfl) (by kernel_rfl) ?_
        simp [-List.map_take, -List.map_drop, ← List.map_take, ← List.map_drop, Function.comp_def, zp5.st, zq5.st, c20, hg, hm4, hfb, hbt]
        refine zh50 _ ?_
        refine Sat.seqK fun zK51 zh51 zg51 => ?_
        refine Sat.seqK fun zK52 zh52 zg52 => ?_
        refine Sat.regionP hk [⟨some 23, Op.load 23 (Operand.tmp 2), 23, none⟩, ⟨some 24, Op.load 30 (Operand.tmp 8), 30, none⟩, ⟨some 25, Op.call { callee := Callee.value (Operand.func 18), args := #[Operand.tmp 23, Operand.tmp 24], argTypes := #[23, 30] }, 3, none⟩, ⟨some 9, Op.assign (Operand.tmp 25), 3, none⟩] (by kernel_rfl) (by kernel_rfl) ?_
        simp [-List.map_take, -List.map_drop, ← List.map_take, ← List.map_drop, Function.comp_def, zp5.st, zq5.st, c20, hg, hm4, hfb, hbt]
        refine zh52 _ ?_
        refine Sat.seqK fun zK53 zh53 zg53 => ?_
        refine Sat.regionP hk [⟨some 26, Op.move (Operand.tmp 9), 3, none⟩, ⟨some 27, Op.binOp BinOp.neq 3 (Operand.tmp 26) (Operand.const (Value.int IntKind.i64 0)) 3, 4, none⟩] (by kernel_rfl) (by kernel_rfl) ?_
        simp [-List.map_take, -List.map_drop, ← List.map_take, ← List.map_drop, Function.comp_def, zp5.st, zq5.st, c20, hg, hm4, hfb, hbt]
        refine zh53 _ ?_
        refine Sat.cond rfl (fun c27 => ?_) (fun c27 => ?_)
        · skip
          try simp at c27
          have hj := join_bad hb (hP0.go) c27
          refine Sat.seqK fun zK54 zh54 zg54 => ?_
          refine Sat.regionP hk [⟨some 28, Op.build 44 #[], 44, none⟩, ⟨some 29, Op.move (Operand.tmp 9), 3, none⟩, ⟨none, Op.store 44 (Operand.tmp 4) (Operand.tmp 28), 0, none⟩, ⟨some 5, Op.assign (Operand.tmp 29), 3, none⟩] (by kernel_rfl) (by kernel_rfl) ?_
          simp [-List.map_take, -List.map_drop, ← List.map_take, ← List.map_drop, Function.comp_def, zp5.st, zq5.st, c20, hg, hm4, hfb, hbt, hj, joinOut, joinSh, c27]
          refine zh54 _ ?_
          refine Sat.ret ?_
          refine zg51 _ _ (by simp) ?_
          refine zg49 _ _ (by simp) (by simp) ?_
          refine zg48 _ _ (by simp) ?_
          refine zg5 _ _ (by simp) (by simp) ?_
          refine zg3 _ _ (by simp) ?_
          simp [-List.map_take, -List.map_drop, ← List.map_take, ← List.map_drop, Function.comp_def, zp5.st, zq5.st, c20, hg, hm4, hfb, hbt, hj, joinOut, joinSh, c27]
        · skip
          try simp at c27
          obtain ⟨n, hnd, hf0, hn1, hn16, ht128, hbk, hbx, hkm, hxm⟩ := chk_ok c27
          obtain ⟨fn, rfl⟩ := Int.eq_ofNat_of_zero_le hf0
          have hfl : fn ≤ bt.length := by omega
          have hkk : bk.length < 1099511627776 := hfb.2.2.1.1
          have hbx' : bx.length = bk.length := by omega
          refine Sat.skip ?_
          refine zh51 _ ?_
          refine Sat.seqK fun zK55 zh55 zg55 => ?_
          refine Sat.regionP hk [⟨some 30, Op.fieldAddr 30 (Operand.tmp 8) 1, 0, none⟩, ⟨some 31, Op.load 3 (Operand.tmp 30), 3, none⟩, ⟨some 32, Op.fieldAddr 44 (Operand.tmp 6) 0, 0, none⟩, ⟨some 33, Op.load 27 (Operand.tmp 32), 27, none⟩, ⟨some 34, Op.call { callee := Callee.builtin Builtin.len, args := #[Operand.tmp 33], argTypes := #[27] }, 3, none⟩, ⟨some 35, Op.binOp BinOp.eql 3 (Operand.tmp 31) (Operand.tmp 34) 3, 4, none⟩, ⟨some 10, Op.assign (Operand.tmp 35), 4, none⟩] (by kernel_rfl) (by kernel_rfl) ?_
          simp [-List.map_take, -List.map_drop, ← List.map_take, ← List.map_drop, Function.comp_def, zp5.st, zq5.st, c20, hg, hm4, hfb, hbt, hfl, c27]
          refine zh55 _ ?_
          refine Sat.seqK fun zK56 zh56 zg56 => ?_
          refine Sat.seqK fun zK57 zh57 zg57 => ?_
          refine Sat.regionP hk [⟨some 11, Op.assign (Operand.const (Value.int IntKind.i64 0)), 3, none⟩] (by kernel_rfl) (by kernel_rfl) ?_
          simp [-List.map_take, -List.map_drop, ← List.map_take, ← List.map_drop, Function.comp_def, zp5.st, zq5.st, c20, hg, hm4, hfb, hbt, hfl, c27]
          refine zh57 _ ?_
          have hcast : ((fn : Int) = ((t : List Int).length : Int)) = (fn = (t : List Int).length) := by simp only [Int.natCast_inj]
          refine Sat.loopK (E := ⟨_, _, _⟩) [2, 4, 6, 8, 17, 18, 19] [] [128, 256, 384, 512] ⟨by first | (simp [keepS, zp5.st, zq5.st, c20, hg, hm4, hfb, hbt, hfl, c27]; done) | (simp [keepS, zp5.st, zq5.st, c20, hg, hm4, hfb, hbt, hfl, c27]; rfl), by first | (simp [keepO, zp5.st, zq5.st, c20, hg, hm4, hfb, hbt, hfl, c27]; done) | (simp [keepO, zp5.st, zq5.st, c20, hg, hm4, hfb, hbt, hfl, c27]; rfl), by first | (simp [keepB, zp5.st, zq5.st, c20, hg, hm4, hfb, hbt, hfl, c27]; done) | (simp [keepB, zp5.st, zq5.st, c20, hg, hm4, hfb, hbt, hfl, c27]; rfl)⟩ (zh56) (fun (⟨i, s⟩ : Nat × Bool) => (⟨[(11, num i), (10, bol s)], [], []⟩ : Ds)) (fun (⟨i, s⟩ : Nat × Bool) => SameUp bt t fn i s) (fun (⟨i, s⟩ : Nat × Bool) => SameEnd bt t fn s) (fun (⟨i, s⟩ : Nat × Bool) => fn - i) (0, decide (fn = (t : List Int).length)) ?_ ?_ ?_ ?_
          · exact SameUp.start _ _ _
          · exact ⟨by simp [FitL, zp5.st, zq5.st, c20, hg, hm4, hfb, hbt, hfl, c27, hcast], by simp [FitL, zp5.st, zq5.st, c20, hg, hm4, hfb, hbt, hfl, c27, hcast], by simp [FitL, zp5.st, zq5.st, c20, hg, hm4, hfb, hbt, hfl, c27, hcast]⟩
          · rintro ⟨i, s⟩ hP2 zo58 zb58 zp58 zq58 zK58 zn58 zx58 zg58
            try dsimp only [Ds.app, Ds.st, List.cons_append, List.nil_append] at hP2 ⊢
            refine Sat.seqK fun zK59 zh59 zg59 => ?_
            refine Sat.seqK fun zK60 zh60 zg60 => ?_
            cases s
            · skip
              refine Sat.regionP hk [⟨some 36, Op.move (Operand.tmp 10), 4, none⟩, ⟨some 37, Op.move (Operand.tmp 36), 4, none⟩, ⟨some 38, Op.move (Operand.tmp 11), 3, some (37, true)⟩, ⟨some 39, Op.fieldAddr 30 (Operand.tmp 8) 1, 0, some (37, true)⟩, ⟨some 40, Op.load 3 (Operand.tmp 39), 3, some (37, true)⟩, ⟨some 41, Op.binOp BinOp.lss 3 (Operand.tmp 38) (Operand.tmp 40) 3, 4, some (37, true)⟩, ⟨some 42, Op.pick (Operand.tmp 37) (Operand.tmp 41) (Operand.const (Value.bool false)), 4, none⟩] (by kernel_rfl) (by kernel_rfl) ?_
              simp [-List.map_take, -List.map_drop, ← List.map_take, ← List.map_drop, Function.comp_def, zp5.st, zq5.st, c20, hg, hm4, hfb, hbt, hfl, c27, zp58.st, zq58.st]
              refine zh60 _ ?_
              refine Sat.cond rfl (fun c42 => ?_) (fun c42 => ?_)
              · exfalso; simp [zp5.st, zq5.st, c20, hg, hm4, hfb, hbt, hfl, c27, zp58.st, zq58.st] at c42
              · skip
                try simp at c42
                refine Sat.exit ?_
                refine zg59 _ _ (by simp) ?_
                refine zx58 (i, false) _ ?_ ?_ ?_
                · exact hP2.endF
                · exact ⟨by simp [-List.map_take, -List.map_drop, ← List.map_take, ← List.map_drop, Function.comp_def, FitL, zp5.st, zq5.st, c20, hg, hm4, hfb, hbt, hfl, c27, zp58.st, zq58.st], by simp [-List.map_take, -List.map_drop, ← List.map_take, ← List.map_drop, Function.comp_def, FitL, zp5.st, zq5.st, c20, hg, hm4, hfb, hbt, hfl, c27, zp58.st, zq58.st], by simp [-List.map_take, -List.map_drop, ← List.map_take, ← List.map_drop, Function.comp_def, FitL, zp5.st, zq5.st, c20, hg, hm4, hfb, hbt, hfl, c27, zp58.st, zq58.st]⟩
                · exact ⟨by simp [-List.map_take, -List.map_drop, ← List.map_take, ← List.map_drop, Function.comp_def, FitL, zp5.st, zq5.st, c20, hg, hm4, hfb, hbt, hfl, c27, zp58.st, zq58.st], by simp [-List.map_take, -List.map_drop, ← List.map_take, ← List.map_drop, Function.comp_def, FitL, zp5.st, zq5.st, c20, hg, hm4, hfb, hbt, hfl, c27, zp58.st, zq58.st], by simp [-List.map_take, -List.map_drop, ← List.map_take, ← List.map_drop, Function.comp_def, FitL, zp5.st, zq5.st, c20, hg, hm4, hfb, hbt, hfl, c27, zp58.st, zq58.st]⟩
            · skip
              refine Sat.regionP hk [⟨some 36, Op.move (Operand.tmp 10), 4, none⟩, ⟨some 37, Op.move (Operand.tmp 36), 4, none⟩, ⟨some 38, Op.move (Operand.tmp 11), 3, some (37, true)⟩, ⟨some 39, Op.fieldAddr 30 (Operand.tmp 8) 1, 0, some (37, true)⟩, ⟨some 40, Op.load 3 (Operand.tmp 39), 3, some (37, true)⟩, ⟨some 41, Op.binOp BinOp.lss 3 (Operand.tmp 38) (Operand.tmp 40) 3, 4, some (37, true)⟩, ⟨some 42, Op.pick (Operand.tmp 37) (Operand.tmp 41) (Operand.const (Value.bool false)), 4, none⟩] (by kernel_rfl) (by kernel_rfl) ?_
              simp [-List.map_take, -List.map_drop, ← List.map_take, ← List.map_drop, Function.comp_def, zp5.st, zq5.st, c20, hg, hm4, hfb, hbt, hfl, c27, zp58.st, zq58.st]
              refine zh60 _ ?_
              refine Sat.cond rfl (fun c42 => ?_) (fun c42 => ?_)
              · skip
                try simp at c42
                have hP2' := hP2.1 rfl
                obtain ⟨y1, hy1⟩ : ∃ z, bt[i]? = some z := ⟨bt[i]'(by omega), List.getElem?_eq_getElem (by omega)⟩
                obtain ⟨y2, hy2⟩ : ∃ z, t[i]? = some z := ⟨t[i]'(by omega), List.getElem?_eq_getElem (by omega)⟩
                have hi1 : i < bt.length := by omega
                have hi2 : i < t.length := by omega
                refine Sat.skip ?_
                refine zh59 _ ?_
                refine Sat.seqK fun zK61 zh61 zg61 => ?_
                refine Sat.blockK fun zK62 zh62 zx62 zg62 => ?_
                refine Sat.regionDP hk (by kernel_rfl) [⟨some 45, Op.fieldAddr 30 (Operand.tmp 8) 0, 0, none⟩, ⟨some 46, Op.load 27 (Operand.tmp 45), 27, none⟩, ⟨some 47, Op.move (Operand.tmp 11), 3, none⟩, ⟨some 48, Op.indexAddr 27 (Operand.tmp 46) (Operand.tmp 47), 0, none⟩, ⟨some 49, Op.load 3 (Operand.tmp 48), 3, none⟩, ⟨some 50, Op.fieldAddr 44 (Operand.tmp 6) 0, 0, none⟩, ⟨some 51, Op.load 27 (Operand.tmp 50), 27, none⟩, ⟨some 52, Op.move (Operand.tmp 11), 3, none⟩, ⟨some 53, Op.indexAddr 27 (Operand.tmp 51) (Operand.tmp 52), 0, none⟩, ⟨some 54, Op.load 3 (Operand.tmp 53), 3, none⟩, ⟨some 55, Op.binOp BinOp.eql 3 (Operand.tmp 49) (Operand.tmp 54) 3, 4, none⟩, ⟨some 10, Op.assign (Operand.tmp 55), 4, none⟩] (by kernel_rfl) (by kernel_rfl) (by decide +kernel) (fun an han => ?_)
                simp [-List.map_take, -List.map_drop, ← List.map_take, ← List.map_drop, Function.comp_def, zp5.st, zq5.st, c20, hg, hm4, hfb, hbt, hfl, c27, zp58.st, zq58.st, take1 hy1, take1 hy2, hi1, hi2]
                refine ⟨by subst han; kernel_rfl, ?_⟩
                refine zh62 _ ?_
                refine zh61 _ ?_
                refine Sat.regionP hk [⟨some 43, Op.move (Operand.tmp 11), 3, none⟩, ⟨some 44, Op.binOp BinOp.add 3 (Operand.tmp 43) (Operand.const (Value.int IntKind.i64 1)) 3, 3, none⟩, ⟨some 11, Op.assign (Operand.tmp 44), 3, none⟩] (by kernel_rfl) (by kernel_rfl) ?_
                simp [-List.map_take, -List.map_drop, ← List.map_take, ← List.map_drop, Function.comp_def, zp5.st, zq5.st, c20, hg, hm4, hfb, hbt, hfl, c27, zp58.st, zq58.st, take1 hy1, take1 hy2, hi1, hi2]
                refine zn58 (i + 1, decide (y1 = y2)) _ ?_ ?_ ?_ ?_
                · exact SameUp.next hP2 c42 hy1 hy2
                · first | omega | (dsimp only; omega)
                · exact ⟨by simp [-List.map_take, -List.map_drop, ← List.map_take, ← List.map_drop, Function.comp_def, FitL, zp5.st, zq5.st, c20, hg, hm4, hfb, hbt, hfl, c27, zp58.st, zq58.st, take1 hy1, take1 hy2, hi1, hi2, w64s i (by omega)], by simp [-List.map_take, -List.map_drop, ← List.map_take, ← List.map_drop, Function.comp_def, FitL, zp5.st, zq5.st, c20, hg, hm4, hfb, hbt, hfl, c27, zp58.st, zq58.st, take1 hy1, take1 hy2, hi1, hi2, w64s i (by omega)], by simp [-List.map_take, -List.map_drop, ← List.map_take, ← List.map_drop, Function.comp_def, FitL, zp5.st, zq5.st, c20, hg, hm4, hfb, hbt, hfl, c27, zp58.st, zq58.st, take1 hy1, take1 hy2, hi1, hi2, w64s i (by omega)]⟩
                · exact ⟨by simp [-List.map_take, -List.map_drop, ← List.map_take, ← List.map_drop, Function.comp_def, FitL, zp5.st, zq5.st, c20, hg, hm4, hfb, hbt, hfl, c27, zp58.st, zq58.st, take1 hy1, take1 hy2, hi1, hi2, w64s i (by omega)], by simp [-List.map_take, -List.map_drop, ← List.map_take, ← List.map_drop, Function.comp_def, FitL, zp5.st, zq5.st, c20, hg, hm4, hfb, hbt, hfl, c27, zp58.st, zq58.st, take1 hy1, take1 hy2, hi1, hi2, w64s i (by omega)], by simp [-List.map_take, -List.map_drop, ← List.map_take, ← List.map_drop, Function.comp_def, FitL, zp5.st, zq5.st, c20, hg, hm4, hfb, hbt, hfl, c27, zp58.st, zq58.st, take1 hy1, take1 hy2, hi1, hi2, w64s i (by omega)]⟩
              · skip
                try simp at c42
                refine Sat.exit ?_
                refine zg59 _ _ (by simp) ?_
                refine zx58 (i, true) _ ?_ ?_ ?_
                · exact hP2.endT (by omega)
                · exact ⟨by simp [-List.map_take, -List.map_drop, ← List.map_take, ← List.map_drop, Function.comp_def, FitL, zp5.st, zq5.st, c20, hg, hm4, hfb, hbt, hfl, c27, zp58.st, zq58.st], by simp [-List.map_take, -List.map_drop, ← List.map_take, ← List.map_drop, Function.comp_def, FitL, zp5.st, zq5.st, c20, hg, hm4, hfb, hbt, hfl, c27, zp58.st, zq58.st], by simp [-List.map_take, -List.map_drop, ← List.map_take, ← List.map_drop, Function.comp_def, FitL, zp5.st, zq5.st, c20, hg, hm4, hfb, hbt, hfl, c27, zp58.st, zq58.st]⟩
                · exact ⟨by simp [-List.map_take, -List.map_drop, ← List.map_take, ← List.map_drop, Function.comp_def, FitL, zp5.st, zq5.st, c20, hg, hm4, hfb, hbt, hfl, c27, zp58.st, zq58.st], by simp [-List.map_take, -List.map_drop, ← List.map_take, ← List.map_drop, Function.comp_def, FitL, zp5.st, zq5.st, c20, hg, hm4, hfb, hbt, hfl, c27, zp58.st, zq58.st], by simp [-List.map_take, -List.map_drop, ← List.map_take, ← List.map_drop, Function.comp_def, FitL, zp5.st, zq5.st, c20, hg, hm4, hfb, hbt, hfl, c27, zp58.st, zq58.st]⟩
          · rintro ⟨i, s⟩ hR2 zo58 zb58 zp58 zq58
            try dsimp only [Ds.app, Ds.st, List.cons_append, List.nil_append] at hR2 ⊢
            refine Sat.seqK fun zK63 zh63 zg63 => ?_
            refine Sat.seqK fun zK64 zh64 zg64 => ?_
            refine Sat.regionP hk [⟨some 56, Op.move (Operand.tmp 10), 4, none⟩, ⟨some 57, Op.unOp UnOp.not 4 (Operand.tmp 56), 4, none⟩] (by kernel_rfl) (by kernel_rfl) ?_
            simp [-List.map_take, -List.map_drop, ← List.map_take, ← List.map_drop, Function.comp_def, zp5.st, zq5.st, c20, hg, hm4, hfb, hbt, hfl, c27, zp58.st, zq58.st]
            refine zh64 _ ?_
            refine Sat.cond rfl (fun c57 => ?_) (fun c57 => ?_)
            · skip
              try simp at c57
              have hj := join_none hb (hP0.go) c27 (by rintro ⟨e1, e2⟩; exact hR2.2 c57 ⟨by dsimp only at e1; omega, by simpa using e2⟩)
              refine Sat.seqK fun zK65 zh65 zg65 => ?_
              refine Sat.regionP hk [⟨some 58, Op.build 44 #[], 44, none⟩, ⟨none, Op.store 44 (Operand.tmp 4) (Operand.tmp 58), 0, none⟩, ⟨some 5, Op.assign (Operand.const (Value.int IntKind.i64 8)), 3, none⟩] (by kernel_rfl) (by kernel_rfl) ?_
              simp [-List.map_take, -List.map_drop, ← List.map_take, ← List.map_drop, Function.comp_def, zp5.st, zq5.st, c20, hg, hm4, hfb, hbt, hfl, c27, zp58.st, zq58.st, hj, joinOut, joinSh]
              refine zh65 _ ?_
              refine Sat.ret ?_
              refine zg63 _ _ (by simp) ?_
              refine zg49 _ _ (by simp) (by simp) ?_
              refine zg48 _ _ (by simp) ?_
              refine zg5 _ _ (by simp) (by simp) ?_
              refine zg3 _ _ (by simp) ?_
              simp [-List.map_take, -List.map_drop, ← List.map_take, ← List.map_drop, Function.comp_def, zp5.st, zq5.st, c20, hg, hm4, hfb, hbt, hfl, c27, zp58.st, zq58.st, hj, joinOut, joinSh]
            · skip
              try simp at c57
              obtain ⟨q8, htk⟩ := hR2.1 c57
              refine Sat.skip ?_
              refine zh63 _ ?_
              refine Sat.seqK fun zK66 zh66 zg66 => ?_
              refine Sat.regionP hk [⟨some 59, Op.fieldAddr 30 (Operand.tmp 8) 0, 0, none⟩, ⟨some 60, Op.load 27 (Operand.tmp 59), 27, none⟩, ⟨some 61, Op.build 44 #[(0, Operand.tmp 60)], 44, none⟩, ⟨some 12, Op.alloc 44, 0, none⟩, ⟨none, Op.store 44 (Operand.tmp 12) (Operand.tmp 61), 0, none⟩] (by kernel_rfl) (by kernel_rfl) ?_
              simp [-List.map_take, -List.map_drop, ← List.map_take, ← List.map_drop, Function.comp_def, zp5.st, zq5.st, c20, hg, hm4, hfb, hbt, hfl, c27, zp58.st, zq58.st]
              refine zh66 _ ?_
              refine Sat.seqK fun zK67 zh67 zg67 => ?_
              refine Sat.seqK fun zK68 zh68 zg68 => ?_
              refine Sat.regionP hk [⟨some 62, Op.fieldAddr 30 (Operand.tmp 8) 2, 0, none⟩, ⟨some 63, Op.load 28 (Operand.tmp 62), 28, none⟩, ⟨some 64, Op.call { callee := Callee.builtin Builtin.len, args := #[Operand.tmp 63], argTypes := #[28] }, 3, none⟩, ⟨some 65, Op.move (Operand.const (Value.int IntKind.i64 0)), 3, none⟩] (by kernel_rfl) (by kernel_rfl) ?_
              simp [-List.map_take, -List.map_drop, ← List.map_take, ← List.map_drop, Function.comp_def, zp5.st, zq5.st, c20, hg, hm4, hfb, hbt, hfl, c27, zp58.st, zq58.st]
              refine zh68 _ ?_
              refine Sat.loopK (E := ⟨_, _, _⟩) [2, 4, 6, 8, 12, 17, 18, 19, 64] [] [128, 256, 384, 512] ⟨by first | (simp [keepS, zp5.st, zq5.st, c20, hg, hm4, hfb, hbt, hfl, c27, zp58.st, zq58.st]; done) | (simp [keepS, zp5.st, zq5.st, c20, hg, hm4, hfb, hbt, hfl, c27, zp58.st, zq58.st]; rfl), by first | (simp [keepO, zp5.st, zq5.st, c20, hg, hm4, hfb, hbt, hfl, c27, zp58.st, zq58.st]; done) | (simp [keepO, zp5.st, zq5.st, c20, hg, hm4, hfb, hbt, hfl, c27, zp58.st, zq58.st]; rfl), by first | (simp [keepB, zp5.st, zq5.st, c20, hg, hm4, hfb, hbt, hfl, c27, zp58.st, zq58.st]; done) | (simp [keepB, zp5.st, zq5.st, c20, hg, hm4, hfb, hbt, hfl, c27, zp58.st, zq58.st]; rfl)⟩ (zh67) (fun (zq : Option (Nat × Nat × Nat)) => match zq with | none => (⟨[(65, num 0)], [], [(768, ⟨(zb58 768).v + 1, true, 44, [.d (dTok true bt), .d (.sl false 79 1 []), .d (.sl false 79 1 [])]⟩)]⟩ : Ds) | some ⟨i, vk, vx⟩ => (⟨[(65, num i)], [(6336, ⟨vk, 0, .own, 79, 1, ((zapp k bk).take i).map eM⟩), (7104, ⟨vx, 0, .own, 79, 1, ((zapp x bx).take i).map eM⟩)], [(768, ⟨(zb58 768).v + 1, true, 44, [.d (dTok true bt), .ref 6336 vk [] 0 none, .ref 7104 vx [] 0 none]⟩)]⟩ : Ds)) (fun (zq : Option (Nat × Nat × Nat)) => match zq with | none => True | some ⟨i, vk, vx⟩ => 1 ≤ i ∧ i ≤ bk.length) (fun (zq : Option (Nat × Nat × Nat)) => match zq with | none => bk.length = 0 | some ⟨i, vk, vx⟩ => 1 ≤ i ∧ i = bk.length) (fun (zq : Option (Nat × Nat × Nat)) => match zq with | none => bk.length | some ⟨i, vk, vx⟩ => bk.length - i) none ?_ ?_ ?_ ?_
              · trivial
              · exact ⟨by simp [FitL, zp5.st, zq5.st, c20, hg, hm4, hfb, hbt, hfl, c27, zp58.st, zq58.st], by simp [FitL, zp5.st, zq5.st, c20, hg, hm4, hfb, hbt, hfl, c27, zp58.st, zq58.st], by simp [FitL, zp5.st, zq5.st, c20, hg, hm4, hfb, hbt, hfl, c27, zp58.st, zq58.st]⟩
              · rintro (_ | ⟨i, vk, vx⟩) hP4 zo69 zb69 zp69 zq69 zK69 zn69 zx69 zg69
                · skip
                  try dsimp only [Ds.app, Ds.st, List.cons_append, List.nil_append] at hP4 ⊢
                  refine Sat.seqK fun zK70 zh70 zg70 => ?_
                  refine Sat.regionP hk [⟨some 66, Op.binOp BinOp.lss 3 (Operand.tmp 65) (Operand.tmp 64) 3, 0, none⟩] (by kernel_rfl) (by kernel_rfl) ?_
                  simp [-List.map_take, -List.map_drop, ← List.map_take, ← List.map_drop, Function.comp_def, zp5.st, zq5.st, c20, hg, hm4, hfb, hbt, hfl, c27, zp58.st, zq58.st, zp69.st, zq69.st]
                  refine zh70 _ ?_
                  refine Sat.seqK fun zK71 zh71 zg71 => ?_
                  refine Sat.cond rfl (fun c66 => ?_) (fun c66 => ?_)
                  · skip
                    try simp at c66
                    obtain ⟨m1, hm1⟩ : ∃ z, bk[0]? = some z := ⟨bk[0]'(by omega), List.getElem?_eq_getElem (by omega)⟩
                    obtain ⟨m2, hm2⟩ : ∃ z, bx[0]? = some z := ⟨bx[0]'(by omega), List.getElem?_eq_getElem (by omega)⟩
                    have hi1 : 0 < bk.length := by omega
                    have hi2 : 0 < bx.length := by omega
                    have m1l := hkm _ (List.mem_of_getElem? hm1)
                    have m2l := hxm _ (List.mem_of_getElem? hm2)
                    have t1 := take1 hm1
                    have t2 := take1 hm2
                    have hz1 := zapp_get (k := k) hm1
                    have hz2 := zapp_get (k := x) hm2
                    have hkl : k.length = bk.length := by have := hP0.kl; omega
                    have hxl : x.length = bx.length := by have := hP0.xl; omega
                    obtain ⟨a1, ha1⟩ : ∃ z, k[0]? = some z := ⟨_, List.getElem?_eq_getElem (by omega)⟩
                    obtain ⟨a2, ha2⟩ : ∃ z, x[0]? = some z := ⟨_, List.getElem?_eq_getElem (by omega)⟩
                    rw [List.getD_eq_getElem?_getD, ha1, Option.getD_some] at hz1
                    rw [List.getD_eq_getElem?_getD, ha2, Option.getD_some] at hz2
                    have hi3 : 0 < k.length := by omega
                    have hi4 : 0 < x.length := by omega
                    have hi3z : (0 : Int) < (k.length : Int) := by omega
                    have q1 := hP0.km _ (List.mem_of_getElem? ha1)
                    have q2 := hP0.xm _ (List.mem_of_getElem? ha2)
                    have q3 := hP0.t2
                    have t3 := take1 ha1
                    have t4 := take1 ha2
                    have hfa : fitsL Try.prog 51 1 a1.length = true := by simp [fitsL, maxL]; omega
                    have hfb' : fitsL Try.prog 51 1 a2.length = true := by simp [fitsL, maxL]; omega
                    have hf1 : fitsL Try.prog 51 1 (a1.length + m1.length) = true := by simp [fitsL, maxL]; omega
                    have hf2 : fitsL Try.prog 51 1 (a2.length + m2.length) = true := by simp [fitsL, maxL]; omega
                    have hf3 : fitsL Try.prog 79 1 (0 + 1) = true := by simp [fitsL, maxL] <;> omega
                    simp at t1 t2
                    have tz1 : List.take 1 (zapp k bk) = [a1 ++ m1] := by have := take1 hz1; rwa [List.drop_zero] at this
                    have tz2 : List.take 1 (zapp x bx) = [a2 ++ m2] := by have := take1 hz2; rwa [List.drop_zero] at this
                    simp at t3 t4
                    refine Sat.skip ?_
                    refine zh71 _ ?_
                    refine Sat.seqK fun zK72 zh72 zg72 => ?_
                    refine Sat.blockK fun zK73 zh73 zx73 zg73 => ?_
                    refine Sat.seqK fun zK74 zh74 zg74 => ?_
                    refine Sat.regionP hk [⟨some 67, Op.move (Operand.tmp 65), 3, none⟩, ⟨some 13, Op.assign (Operand.tmp 67), 3, none⟩] (by kernel_rfl) (by kernel_rfl) ?_
                    simp [-List.map_take, -List.map_drop, ← List.map_take, ← List.map_drop, Function.comp_def, zp5.st, zq5.st, c20, hg, hm4, hfb, hbt, hfl, c27, zp58.st, zq58.st, zp69.st, zq69.st, c66, hi1, hi2, t1, t2, hf1, hf2, hf3, zapp_len, hi3, hi4, hi3z, t3, t4, hfa, hfb']
                    refine zh74 _ ?_
                    refine Sat.seqK fun zK75 zh75 zg75 => ?_
                    refine Sat.regionP hk [⟨some 68, Op.buildSlice 79 0 #[], 79, none⟩, ⟨some 69, Op.buildSlice 79 0 #[], 79, none⟩, ⟨some 14, Op.assign (Operand.tmp 68), 79, none⟩, ⟨some 15, Op.assign (Operand.tmp 69), 79, none⟩] (by kernel_rfl) (by kernel_rfl) ?_
                    simp [-List.map_take, -List.map_drop, ← List.map_take, ← List.map_drop, Function.comp_def, zp5.st, zq5.st, c20, hg, hm4, hfb, hbt, hfl, c27, zp58.st, zq58.st, zp69.st, zq69.st, c66, hi1, hi2, t1, t2, hf1, hf2, hf3, zapp_len, hi3, hi4, hi3z, t3, t4, hfa, hfb']
                    refine zh75 _ ?_
                    refine Sat.seqK fun zK76 zh76 zg76 => ?_
                    refine Sat.seqK fun zK77 zh77 zg77 => ?_
                    refine Sat.regionP hk [⟨some 70, Op.move (Operand.tmp 13), 3, none⟩, ⟨some 71, Op.fieldAddr 44 (Operand.tmp 6) 1, 0, none⟩, ⟨some 72, Op.load 28 (Operand.tmp 71), 28, none⟩, ⟨some 73, Op.call { callee := Callee.builtin Builtin.len, args := #[Operand.tmp 72], argTypes := #[28] }, 3, none⟩, ⟨some 74, Op.binOp BinOp.lss 3 (Operand.tmp 70) (Operand.tmp 73) 3, 4, none⟩] (by kernel_rfl) (by kernel_rfl) ?_
                    simp [-List.map_take, -List.map_drop, ← List.map_take, ← List.map_drop, Function.comp_def, zp5.st, zq5.st, c20, hg, hm4, hfb, hbt, hfl, c27, zp58.st, zq58.st, zp69.st, zq69.st, c66, hi1, hi2, t1, t2, hf1, hf2, hf3, zapp_len, hi3, hi4, hi3z, t3, t4, hfa, hfb']
                    refine zh77 _ ?_
                    refine Sat.cond rfl (fun c74 => ?_) (fun c74 => ?_)
                    · skip
                      try simp at c74
                      refine Sat.seqK fun zK78 zh78 zg78 => ?_
                      refine Sat.regionP hk [⟨some 75, Op.move (Operand.tmp 14), 79, none⟩, ⟨some 76, Op.fieldAddr 44 (Operand.tmp 6) 1, 0, none⟩, ⟨some 77, Op.load 28 (Operand.tmp 76), 28, none⟩, ⟨some 78, Op.move (Operand.tmp 13), 3, none⟩, ⟨some 79, Op.indexAddr 28 (Operand.tmp 77) (Operand.tmp 78), 0, none⟩, ⟨some 80, Op.load 79 (Operand.tmp 79), 79, none⟩, ⟨some 81, Op.call { callee := Callee.builtin Builtin.append, args := #[Operand.tmp 75, Operand.tmp 80], argTypes := #[79, 79] }, 79, none⟩, ⟨some 14, Op.assign (Operand.tmp 81), 79, none⟩] (by kernel_rfl) (by kernel_rfl) ?_
                      simp [-List.map_take, -List.map_drop, ← List.map_take, ← List.map_drop, Function.comp_def, zp5.st, zq5.st, c20, hg, hm4, hfb, hbt, hfl, c27, zp58.st, zq58.st, zp69.st, zq69.st, c66, hi1, hi2, t1, t2, hf1, hf2, hf3, zapp_len, hi3, hi4, hi3z, t3, t4, hfa, hfb']
                      refine zh78 _ ?_
                      refine Sat.regionP hk [⟨some 82, Op.move (Operand.tmp 15), 79, none⟩, ⟨some 83, Op.fieldAddr 44 (Operand.tmp 6) 2, 0, none⟩, ⟨some 84, Op.load 28 (Operand.tmp 83), 28, none⟩, ⟨some 85, Op.move (Operand.tmp 13), 3, none⟩, ⟨some 86, Op.indexAddr 28 (Operand.tmp 84) (Operand.tmp 85), 0, none⟩, ⟨some 87, Op.load 79 (Operand.tmp 86), 79, none⟩, ⟨some 88, Op.call { callee := Callee.builtin Builtin.append, args := #[Operand.tmp 82, Operand.tmp 87], argTypes := #[79, 79] }, 79, none⟩, ⟨some 15, Op.assign (Operand.tmp 88), 79, none⟩] (by kernel_rfl) (by kernel_rfl) ?_
                      simp [-List.map_take, -List.map_drop, ← List.map_take, ← List.map_drop, Function.comp_def, zp5.st, zq5.st, c20, hg, hm4, hfb, hbt, hfl, c27, zp58.st, zq58.st, zp69.st, zq69.st, c66, hi1, hi2, t1, t2, hf1, hf2, hf3, zapp_len, hi3, hi4, hi3z, t3, t4, hfa, hfb']
                      refine zh76 _ ?_
                      refine Sat.seqK fun zK79 zh79 zg79 => ?_
                      refine Sat.regionDP hk (by kernel_rfl) [⟨some 89, Op.fieldAddr 44 (Operand.tmp 12) 1, 0, none⟩, ⟨some 90, Op.load 28 (Operand.tmp 89), 28, none⟩, ⟨some 91, Op.move (Operand.tmp 14), 79, none⟩, ⟨some 92, Op.fieldAddr 30 (Operand.tmp 8) 2, 0, none⟩, ⟨some 93, Op.load 28 (Operand.tmp 92), 28, none⟩, ⟨some 94, Op.move (Operand.tmp 13), 3, none⟩, ⟨some 95, Op.indexAddr 28 (Operand.tmp 93) (Operand.tmp 94), 0, none⟩, ⟨some 96, Op.load 79 (Operand.tmp 95), 79, none⟩, ⟨some 97, Op.call { callee := Callee.builtin Builtin.append, args := #[Operand.tmp 91, Operand.tmp 96], argTypes := #[79, 79] }, 79, none⟩, ⟨some 98, Op.buildSlice 28 1 #[(0, Operand.tmp 97)], 28, none⟩, ⟨some 99, Op.call { callee := Callee.builtin Builtin.append, args := #[Operand.tmp 90, Operand.tmp 98], argTypes := #[28, 28] }, 28, none⟩, ⟨some 100, Op.fieldAddr 44 (Operand.tmp 12) 1, 0, none⟩, ⟨none, Op.store 28 (Operand.tmp 100) (Operand.tmp 99), 0, none⟩] (by kernel_rfl) (by kernel_rfl) (by decide +kernel) (fun an han => ?_)
                      simp [-List.map_take, -List.map_drop, ← List.map_take, ← List.map_drop, Function.comp_def, zp5.st, zq5.st, c20, hg, hm4, hfb, hbt, hfl, c27, zp58.st, zq58.st, zp69.st, zq69.st, c66, hi1, hi2, t1, t2, hf1, hf2, hf3, zapp_len, hi3, hi4, hi3z, t3, t4, hfa, hfb']
                      refine ⟨by subst han; kernel_rfl, ?_⟩
                      refine zh79 _ ?_
                      refine Sat.regionDP hk (by kernel_rfl) [⟨some 101, Op.fieldAddr 44 (Operand.tmp 12) 2, 0, none⟩, ⟨some 102, Op.load 28 (Operand.tmp 101), 28, none⟩, ⟨some 103, Op.move (Operand.tmp 15), 79, none⟩, ⟨some 104, Op.fieldAddr 30 (Operand.tmp 8) 3, 0, none⟩, ⟨some 105, Op.load 28 (Operand.tmp 104), 28, none⟩, ⟨some 106, Op.move (Operand.tmp 13), 3, none⟩, ⟨some 107, Op.indexAddr 28 (Operand.tmp 105) (Operand.tmp 106), 0, none⟩, ⟨some 108, Op.load 79 (Operand.tmp 107), 79, none⟩, ⟨some 109, Op.call { callee := Callee.builtin Builtin.append, args := #[Operand.tmp 103, Operand.tmp 108], argTypes := #[79, 79] }, 79, none⟩, ⟨some 110, Op.buildSlice 28 1 #[(0, Operand.tmp 109)], 28, none⟩, ⟨some 111, Op.call { callee := Callee.builtin Builtin.append, args := #[Operand.tmp 102, Operand.tmp 110], argTypes := #[28, 28] }, 28, none⟩, ⟨some 112, Op.fieldAddr 44 (Operand.tmp 12) 2, 0, none⟩, ⟨none, Op.store 28 (Operand.tmp 112) (Operand.tmp 111), 0, none⟩] (by kernel_rfl) (by kernel_rfl) (by decide +kernel) (fun an han => ?_)
                      simp [-List.map_take, -List.map_drop, ← List.map_take, ← List.map_drop, Function.comp_def, zp5.st, zq5.st, c20, hg, hm4, hfb, hbt, hfl, c27, zp58.st, zq58.st, zp69.st, zq69.st, c66, hi1, hi2, t1, t2, hf1, hf2, hf3, zapp_len, hi3, hi4, hi3z, t3, t4, hfa, hfb']
                      refine ⟨by subst han; kernel_rfl, ?_⟩
                      refine zh73 _ ?_
                      refine zh72 _ ?_
                      refine Sat.regionP hk [⟨some 113, Op.binOp BinOp.add 3 (Operand.tmp 65) (Operand.const (Value.int IntKind.i64 1)) 3, 3, none⟩, ⟨some 65, Op.move (Operand.tmp 113), 3, none⟩] (by kernel_rfl) (by kernel_rfl) ?_
                      simp [-List.map_take, -List.map_drop, ← List.map_take, ← List.map_drop, Function.comp_def, zp5.st, zq5.st, c20, hg, hm4, hfb, hbt, hfl, c27, zp58.st, zq58.st, zp69.st, zq69.st, c66, hi1, hi2, t1, t2, hf1, hf2, hf3, zapp_len, hi3, hi4, hi3z, t3, t4, hfa, hfb']
                      refine zn69 (some ⟨0 + 1, (zo69 6336).v + 1, (zo69 7104).v + 1⟩) _ ?_ ?_ ?_ ?_
                      · first | omega | (dsimp only; omega)
                      · first | omega | (dsimp only; omega)
                      · exact ⟨by simp [-List.map_take, -List.map_drop, ← List.map_take, ← List.map_drop, Function.comp_def, FitL, zp5.st, zq5.st, c20, hg, hm4, hfb, hbt, hfl, c27, zp58.st, zq58.st, zp69.st, zq69.st, c66, hi1, hi2, t1, t2, hf1, hf2, hf3, zapp_len, hi3, hi4, hi3z, t3, t4, hfa, hfb', w64_id 1 (by decide) (by decide), take_succ_get hz1, take_succ_get hz2, eM, List.map_append, tz1, tz2], by simp [-List.map_take, -List.map_drop, ← List.map_take, ← List.map_drop, Function.comp_def, FitL, zp5.st, zq5.st, c20, hg, hm4, hfb, hbt, hfl, c27, zp58.st, zq58.st, zp69.st, zq69.st, c66, hi1, hi2, t1, t2, hf1, hf2, hf3, zapp_len, hi3, hi4, hi3z, t3, t4, hfa, hfb', w64_id 1 (by decide) (by decide), take_succ_get hz1, take_succ_get hz2, eM, List.map_append, tz1, tz2], by simp [-List.map_take, -List.map_drop, ← List.map_take, ← List.map_drop, Function.comp_def, FitL, zp5.st, zq5.st, c20, hg, hm4, hfb, hbt, hfl, c27, zp58.st, zq58.st, zp69.st, zq69.st, c66, hi1, hi2, t1, t2, hf1, hf2, hf3, zapp_len, hi3, hi4, hi3z, t3, t4, hfa, hfb', w64_id 1 (by decide) (by decide), take_succ_get hz1, take_succ_get hz2, eM, List.map_append, tz1, tz2]⟩
                      · exact ⟨by simp [-List.map_take, -List.map_drop, ← List.map_take, ← List.map_drop, Function.comp_def, FitL, zp5.st, zq5.st, c20, hg, hm4, hfb, hbt, hfl, c27, zp58.st, zq58.st, zp69.st, zq69.st, c66, hi1, hi2, t1, t2, hf1, hf2, hf3, zapp_len, hi3, hi4, hi3z, t3, t4, hfa, hfb', w64_id 1 (by decide) (by decide), take_succ_get hz1, take_succ_get hz2, eM, List.map_append, tz1, tz2], by simp [-List.map_take, -List.map_drop, ← List.map_take, ← List.map_drop, Function.comp_def, FitL, zp5.st, zq5.st, c20, hg, hm4, hfb, hbt, hfl, c27, zp58.st, zq58.st, zp69.st, zq69.st, c66, hi1, hi2, t1, t2, hf1, hf2, hf3, zapp_len, hi3, hi4, hi3z, t3, t4, hfa, hfb', w64_id 1 (by decide) (by decide), take_succ_get hz1, take_succ_get hz2, eM, List.map_append, tz1, tz2], by simp [-List.map_take, -List.map_drop, ← List.map_take, ← List.map_drop, Function.comp_def, FitL, zp5.st, zq5.st, c20, hg, hm4, hfb, hbt, hfl, c27, zp58.st, zq58.st, zp69.st, zq69.st, c66, hi1, hi2, t1, t2, hf1, hf2, hf3, zapp_len, hi3, hi4, hi3z, t3, t4, hfa, hfb', w64_id 1 (by decide) (by decide), take_succ_get hz1, take_succ_get hz2, eM, List.map_append, tz1, tz2]⟩
                    · exfalso; simp [zp5.st, zq5.st, c20, hg, hm4, hfb, hbt, hfl, c27, zp58.st, zq58.st, zp69.st, zq69.st, c66, hi1, hi2, t1, t2, hf1, hf2, hf3, zapp_len, hi3, hi4, hi3z, t3, t4, hfa, hfb'] at c74
                  · skip
                    try simp at c66
                    refine Sat.exit ?_
                    refine zg71 _ _ (by simp) ?_
                    refine zx69 none _ ?_ ?_ ?_
                    · first | omega | (dsimp only; omega) | simp [c66]
                    · exact ⟨by simp [-List.map_take, -List.map_drop, ← List.map_take, ← List.map_drop, Function.comp_def, FitL, zp5.st, zq5.st, c20, hg, hm4, hfb, hbt, hfl, c27, zp58.st, zq58.st, zp69.st, zq69.st], by simp [-List.map_take, -List.map_drop, ← List.map_take, ← List.map_drop, Function.comp_def, FitL, zp5.st, zq5.st, c20, hg, hm4, hfb, hbt, hfl, c27, zp58.st, zq58.st, zp69.st, zq69.st], by simp [-List.map_take, -List.map_drop, ← List.map_take, ← List.map_drop, Function.comp_def, FitL, zp5.st, zq5.st, c20, hg, hm4, hfb, hbt, hfl, c27, zp58.st, zq58.st, zp69.st, zq69.st]⟩
                    · exact ⟨by simp [-List.map_take, -List.map_drop, ← List.map_take, ← List.map_drop, Function.comp_def, FitL, zp5.st, zq5.st, c20, hg, hm4, hfb, hbt, hfl, c27, zp58.st, zq58.st, zp69.st, zq69.st], by simp [-List.map_take, -List.map_drop, ← List.map_take, ← List.map_drop, Function.comp_def, FitL, zp5.st, zq5.st, c20, hg, hm4, hfb, hbt, hfl, c27, zp58.st, zq58.st, zp69.st, zq69.st], by simp [-List.map_take, -List.map_drop, ← List.map_take, ← List.map_drop, Function.comp_def, FitL, zp5.st, zq5.st, c20, hg, hm4, hfb, hbt, hfl, c27, zp58.st, zq58.st, zp69.st, zq69.st]⟩
                · skip
                  try dsimp only [Ds.app, Ds.st, List.cons_append, List.nil_append] at hP4 ⊢
                  refine Sat.seqK fun zK80 zh80 zg80 => ?_
                  refine Sat.regionP hk [⟨some 66, Op.binOp BinOp.lss 3 (Operand.tmp 65) (Operand.tmp 64) 3, 0, none⟩] (by kernel_rfl) (by kernel_rfl) ?_
                  simp [-List.map_take, -List.map_drop, ← List.map_take, ← List.map_drop, Function.comp_def, zp5.st, zq5.st, c20, hg, hm4, hfb, hbt, hfl, c27, zp58.st, zq58.st, zp69.st, zq69.st]
                  refine zh80 _ ?_
                  refine Sat.seqK fun zK81 zh81 zg81 => ?_
                  refine Sat.cond rfl (fun c66 => ?_) (fun c66 => ?_)
                  · skip
                    try simp at c66
                    obtain ⟨m1, hm1⟩ : ∃ z, bk[i]? = some z := ⟨bk[i]'(by omega), List.getElem?_eq_getElem (by omega)⟩
                    obtain ⟨m2, hm2⟩ : ∃ z, bx[i]? = some z := ⟨bx[i]'(by omega), List.getElem?_eq_getElem (by omega)⟩
                    have hi1 : i < bk.length := by omega
                    have hi2 : i < bx.length := by omega
                    have m1l := hkm _ (List.mem_of_getElem? hm1)
                    have m2l := hxm _ (List.mem_of_getElem? hm2)
                    have t1 := take1 hm1
                    have t2 := take1 hm2
                    have hz1 := zapp_get (k := k) hm1
                    have hz2 := zapp_get (k := x) hm2
                    have hkl : k.length = bk.length := by have := hP0.kl; omega
                    have hxl : x.length = bx.length := by have := hP0.xl; omega
                    obtain ⟨a1, ha1⟩ : ∃ z, k[i]? = some z := ⟨_, List.getElem?_eq_getElem (by omega)⟩
                    obtain ⟨a2, ha2⟩ : ∃ z, x[i]? = some z := ⟨_, List.getElem?_eq_getElem (by omega)⟩
                    rw [List.getD_eq_getElem?_getD, ha1, Option.getD_some] at hz1
                    rw [List.getD_eq_getElem?_getD, ha2, Option.getD_some] at hz2
                    have hi3 : i < k.length := by omega
                    have hi4 : i < x.length := by omega
                    have hi3z : (i : Int) < (k.length : Int) := by omega
                    have q1 := hP0.km _ (List.mem_of_getElem? ha1)
                    have q2 := hP0.xm _ (List.mem_of_getElem? ha2)
                    have q3 := hP0.t2
                    have t3 := take1 ha1
                    have t4 := take1 ha2
                    have hfa : fitsL Try.prog 51 1 a1.length = true := by simp [fitsL, maxL]; omega
                    have hfb' : fitsL Try.prog 51 1 a2.length = true := by simp [fitsL, maxL]; omega
                    have hf1 : fitsL Try.prog 51 1 (a1.length + m1.length) = true := by simp [fitsL, maxL]; omega
                    have hf2 : fitsL Try.prog 51 1 (a2.length + m2.length) = true := by simp [fitsL, maxL]; omega
                    have hf3 : fitsL Try.prog 79 1 (i + 1) = true := by simp [fitsL, maxL] <;> omega
                    have hmn1 : min i bk.length = i := by omega
                    have hmn2 : min i bx.length = i := by omega
                    refine Sat.skip ?_
                    refine zh81 _ ?_
                    refine Sat.seqK fun zK82 zh82 zg82 => ?_
                    refine Sat.blockK fun zK83 zh83 zx83 zg83 => ?_
                    refine Sat.seqK fun zK84 zh84 zg84 => ?_
                    refine Sat.regionP hk [⟨some 67, Op.move (Operand.tmp 65), 3, none⟩, ⟨some 13, Op.assign (Operand.tmp 67), 3, none⟩] (by kernel_rfl) (by kernel_rfl) ?_
                    simp [-List.map_take, -List.map_drop, ← List.map_take, ← List.map_drop, Function.comp_def, zp5.st, zq5.st, c20, hg, hm4, hfb, hbt, hfl, c27, zp58.st, zq58.st, zp69.st, zq69.st, c66, hi1, hi2, t1, t2, hf1, hf2, hf3, zapp_len, hi3, hi4, hi3z, t3, t4, hfa, hfb', hmn1, hmn2]
                    refine zh84 _ ?_
                    refine Sat.seqK fun zK85 zh85 zg85 => ?_
                    refine Sat.regionP hk [⟨some 68, Op.buildSlice 79 0 #[], 79, none⟩, ⟨some 69, Op.buildSlice 79 0 #[], 79, none⟩, ⟨some 14, Op.assign (Operand.tmp 68), 79, none⟩, ⟨some 15, Op.assign (Operand.tmp 69), 79, none⟩] (by kernel_rfl) (by kernel_rfl) ?_
                    simp [-List.map_take, -List.map_drop, ← List.map_take, ← List.map_drop, Function.comp_def, zp5.st, zq5.st, c20, hg, hm4, hfb, hbt, hfl, c27, zp58.st, zq58.st, zp69.st, zq69.st, c66, hi1, hi2, t1, t2, hf1, hf2, hf3, zapp_len, hi3, hi4, hi3z, t3, t4, hfa, hfb', hmn1, hmn2]
                    refine zh85 _ ?_
                    refine Sat.seqK fun zK86 zh86 zg86 => ?_
                    refine Sat.seqK fun zK87 zh87 zg87 => ?_
                    refine Sat.regionP hk [⟨some 70, Op.move (Operand.tmp 13), 3, none⟩, ⟨some 71, Op.fieldAddr 44 (Operand.tmp 6) 1, 0, none⟩, ⟨some 72, Op.load 28 (Operand.tmp 71), 28, none⟩, ⟨some 73, Op.call { callee := Callee.builtin Builtin.len, args := #[Operand.tmp 72], argTypes := #[28] }, 3, none⟩, ⟨some 74, Op.binOp BinOp.lss 3 (Operand.tmp 70) (Operand.tmp 73) 3, 4, none⟩] (by kernel_rfl) (by kernel_rfl) ?_
                    simp [-List.map_take, -List.map_drop, ← List.map_take, ← List.map_drop, Function.comp_def, zp5.st, zq5.st, c20, hg, hm4, hfb, hbt, hfl, c27, zp58.st, zq58.st, zp69.st, zq69.st, c66, hi1, hi2, t1, t2, hf1, hf2, hf3, zapp_len, hi3, hi4, hi3z, t3, t4, hfa, hfb', hmn1, hmn2]
                    refine zh87 _ ?_
                    refine Sat.cond rfl (fun c74 => ?_) (fun c74 => ?_)
                    · skip
                      try simp at c74
                      refine Sat.seqK fun zK88 zh88 zg88 => ?_
                      refine Sat.regionP hk [⟨some 75, Op.move (Operand.tmp 14), 79, none⟩, ⟨some 76, Op.fieldAddr 44 (Operand.tmp 6) 1, 0, none⟩, ⟨some 77, Op.load 28 (Operand.tmp 76), 28, none⟩, ⟨some 78, Op.move (Operand.tmp 13), 3, none⟩, ⟨some 79, Op.indexAddr 28 (Operand.tmp 77) (Operand.tmp 78), 0, none⟩, ⟨some 80, Op.load 79 (Operand.tmp 79), 79, none⟩, ⟨some 81, Op.call { callee := Callee.builtin Builtin.append, args := #[Operand.tmp 75, Operand.tmp 80], argTypes := #[79, 79] }, 79, none⟩, ⟨some 14, Op.assign (Operand.tmp 81), 79, none⟩] (by kernel_rfl) (by kernel_rfl) ?_
                      simp [-List.map_take, -List.map_drop, ← List.map_take, ← List.map_drop, Function.comp_def, zp5.st, zq5.st, c20, hg, hm4, hfb, hbt, hfl, c27, zp58.st, zq58.st, zp69.st, zq69.st, c66, hi1, hi2, t1, t2, hf1, hf2, hf3, zapp_len, hi3, hi4, hi3z, t3, t4, hfa, hfb', hmn1, hmn2]
                      refine zh88 _ ?_
                      refine Sat.regionP hk [⟨some 82, Op.move (Operand.tmp 15), 79, none⟩, ⟨some 83, Op.fieldAddr 44 (Operand.tmp 6) 2, 0, none⟩, ⟨some 84, Op.load 28 (Operand.tmp 83), 28, none⟩, ⟨some 85, Op.move (Operand.tmp 13), 3, none⟩, ⟨some 86, Op.indexAddr 28 (Operand.tmp 84) (Operand.tmp 85), 0, none⟩, ⟨some 87, Op.load 79 (Operand.tmp 86), 79, none⟩, ⟨some 88, Op.call { callee := Callee.builtin Builtin.append, args := #[Operand.tmp 82, Operand.tmp 87], argTypes := #[79, 79] }, 79, none⟩, ⟨some 15, Op.assign (Operand.tmp 88), 79, none⟩] (by kernel_rfl) (by kernel_rfl) ?_
                      simp [-List.map_take, -List.map_drop, ← List.map_take, ← List.map_drop, Function.comp_def, zp5.st, zq5.st, c20, hg, hm4, hfb, hbt, hfl, c27, zp58.st, zq58.st, zp69.st, zq69.st, c66, hi1, hi2, t1, t2, hf1, hf2, hf3, zapp_len, hi3, hi4, hi3z, t3, t4, hfa, hfb', hmn1, hmn2]
                      refine zh86 _ ?_
                      refine Sat.seqK fun zK89 zh89 zg89 => ?_
                      refine Sat.regionDP hk (by kernel_rfl) [⟨some 89, Op.fieldAddr 44 (Operand.tmp 12) 1, 0, none⟩, ⟨some 90, Op.load 28 (Operand.tmp 89), 28, none⟩, ⟨some 91, Op.move (Operand.tmp 14), 79, none⟩, ⟨some 92, Op.fieldAddr 30 (Operand.tmp 8) 2, 0, none⟩, ⟨some 93, Op.load 28 (Operand.tmp 92), 28, none⟩, ⟨some 94, Op.move (Operand.tmp 13), 3, none⟩, ⟨some 95, Op.indexAddr 28 (Operand.tmp 93) (Operand.tmp 94), 0, none⟩, ⟨some 96, Op.load 79 (Operand.tmp 95), 79, none⟩, ⟨some 97, Op.call { callee := Callee.builtin Builtin.append, args := #[Operand.tmp 91, Operand.tmp 96], argTypes := #[79, 79] }, 79, none⟩, ⟨some 98, Op.buildSlice 28 1 #[(0, Operand.tmp 97)], 28, none⟩, ⟨some 99, Op.call { callee := Callee.builtin Builtin.append, args := #[Operand.tmp 90, Operand.tmp 98], argTypes := #[28, 28] }, 28, none⟩, ⟨some 100, Op.fieldAddr 44 (Operand.tmp 12) 1, 0, none⟩, ⟨none, Op.store 28 (Operand.tmp 100) (Operand.tmp 99), 0, none⟩] (by kernel_rfl) (by kernel_rfl) (by decide +kernel) (fun an han => ?_)
                      simp [-List.map_take, -List.map_drop, ← List.map_take, ← List.map_drop, Function.comp_def, zp5.st, zq5.st, c20, hg, hm4, hfb, hbt, hfl, c27, zp58.st, zq58.st, zp69.st, zq69.st, c66, hi1, hi2, t1, t2, hf1, hf2, hf3, zapp_len, hi3, hi4, hi3z, t3, t4, hfa, hfb', hmn1, hmn2]
                      refine ⟨by subst han; kernel_rfl, ?_⟩
                      refine zh89 _ ?_
                      refine Sat.regionDP hk (by kernel_rfl) [⟨some 101, Op.fieldAddr 44 (Operand.tmp 12) 2, 0, none⟩, ⟨some 102, Op.load 28 (Operand.tmp 101), 28, none⟩, ⟨some 103, Op.move (Operand.tmp 15), 79, none⟩, ⟨some 104, Op.fieldAddr 30 (Operand.tmp 8) 3, 0, none⟩, ⟨some 105, Op.load 28 (Operand.tmp 104), 28, none⟩, ⟨some 106, Op.move (Operand.tmp 13), 3, none⟩, ⟨some 107, Op.indexAddr 28 (Operand.tmp 105) (Operand.tmp 106), 0, none⟩, ⟨some 108, Op.load 79 (Operand.tmp 107), 79, none⟩, ⟨some 109, Op.call { callee := Callee.builtin Builtin.append, args := #[Operand.tmp 103, Operand.tmp 108], argTypes := #[79, 79] }, 79, none⟩, ⟨some 110, Op.buildSlice 28 1 #[(0, Operand.tmp 109)], 28, none⟩, ⟨some 111, Op.call { callee := Callee.builtin Builtin.append, args := #[Operand.tmp 102, Operand.tmp 110], argTypes := #[28, 28] }, 28, none⟩, ⟨some 112, Op.fieldAddr 44 (Operand.tmp 12) 2, 0, none⟩, ⟨none, Op.store 28 (Operand.tmp 112) (Operand.tmp 111), 0, none⟩] (by kernel_rfl) (by kernel_rfl) (by decide +kernel) (fun an han => ?_)
                      simp [-List.map_take, -List.map_drop, ← List.map_take, ← List.map_drop, Function.comp_def, zp5.st, zq5.st, c20, hg, hm4, hfb, hbt, hfl, c27, zp58.st, zq58.st, zp69.st, zq69.st, c66, hi1, hi2, t1, t2, hf1, hf2, hf3, zapp_len, hi3, hi4, hi3z, t3, t4, hfa, hfb', hmn1, hmn2]
                      refine ⟨by subst han; kernel_rfl, ?_⟩
                      refine zh83 _ ?_
                      refine zh82 _ ?_
                      refine Sat.regionP hk [⟨some 113, Op.binOp BinOp.add 3 (Operand.tmp 65) (Operand.const (Value.int IntKind.i64 1)) 3, 3, none⟩, ⟨some 65, Op.move (Operand.tmp 113), 3, none⟩] (by kernel_rfl) (by kernel_rfl) ?_
                      simp [-List.map_take, -List.map_drop, ← List.map_take, ← List.map_drop, Function.comp_def, zp5.st, zq5.st, c20, hg, hm4, hfb, hbt, hfl, c27, zp58.st, zq58.st, zp69.st, zq69.st, c66, hi1, hi2, t1, t2, hf1, hf2, hf3, zapp_len, hi3, hi4, hi3z, t3, t4, hfa, hfb', hmn1, hmn2]
                      refine zn69 (some ⟨i + 1, vk + 1, vx + 1⟩) _ ?_ ?_ ?_ ?_
                      · first | omega | (dsimp only; omega)
                      · first | omega | (dsimp only; omega)
                      · exact ⟨by simp [-List.map_take, -List.map_drop, ← List.map_take, ← List.map_drop, Function.comp_def, FitL, zp5.st, zq5.st, c20, hg, hm4, hfb, hbt, hfl, c27, zp58.st, zq58.st, zp69.st, zq69.st, c66, hi1, hi2, t1, t2, hf1, hf2, hf3, zapp_len, hi3, hi4, hi3z, t3, t4, hfa, hfb', hmn1, hmn2, w64s i (by omega), take_succ_get hz1, take_succ_get hz2, eM, List.map_append], by simp [-List.map_take, -List.map_drop, ← List.map_take, ← List.map_drop, Function.comp_def, FitL, zp5.st, zq5.st, c20, hg, hm4, hfb, hbt, hfl, c27, zp58.st, zq58.st, zp69.st, zq69.st, c66, hi1, hi2, t1, t2, hf1, hf2, hf3, zapp_len, hi3, hi4, hi3z, t3, t4, hfa, hfb', hmn1, hmn2, w64s i (by omega), take_succ_get hz1, take_succ_get hz2, eM, List.map_append], by simp [-List.map_take, -List.map_drop, ← List.map_take, ← List.map_drop, Function.comp_def, FitL, zp5.st, zq5.st, c20, hg, hm4, hfb, hbt, hfl, c27, zp58.st, zq58.st, zp69.st, zq69.st, c66, hi1, hi2, t1, t2, hf1, hf2, hf3, zapp_len, hi3, hi4, hi3z, t3, t4, hfa, hfb', hmn1, hmn2, w64s i (by omega), take_succ_get hz1, take_succ_get hz2, eM, List.map_append]⟩
                      · exact ⟨by simp [-List.map_take, -List.map_drop, ← List.map_take, ← List.map_drop, Function.comp_def, FitL, zp5.st, zq5.st, c20, hg, hm4, hfb, hbt, hfl, c27, zp58.st, zq58.st, zp69.st, zq69.st, c66, hi1, hi2, t1, t2, hf1, hf2, hf3, zapp_len, hi3, hi4, hi3z, t3, t4, hfa, hfb', hmn1, hmn2, w64s i (by omega), take_succ_get hz1, take_succ_get hz2, eM, List.map_append], by simp [-List.map_take, -List.map_drop, ← List.map_take, ← List.map_drop, Function.comp_def, FitL, zp5.st, zq5.st, c20, hg, hm4, hfb, hbt, hfl, c27, zp58.st, zq58.st, zp69.st, zq69.st, c66, hi1, hi2, t1, t2, hf1, hf2, hf3, zapp_len, hi3, hi4, hi3z, t3, t4, hfa, hfb', hmn1, hmn2, w64s i (by omega), take_succ_get hz1, take_succ_get hz2, eM, List.map_append], by simp [-List.map_take, -List.map_drop, ← List.map_take, ← List.map_drop, Function.comp_def, FitL, zp5.st, zq5.st, c20, hg, hm4, hfb, hbt, hfl, c27, zp58.st, zq58.st, zp69.st, zq69.st, c66, hi1, hi2, t1, t2, hf1, hf2, hf3, zapp_len, hi3, hi4, hi3z, t3, t4, hfa, hfb', hmn1, hmn2, w64s i (by omega), take_succ_get hz1, take_succ_get hz2, eM, List.map_append]⟩
                    · exfalso; simp [zp5.st, zq5.st, c20, hg, hm4, hfb, hbt, hfl, c27, zp58.st, zq58.st, zp69.st, zq69.st, c66, hi1, hi2, t1, t2, hf1, hf2, hf3, zapp_len, hi3, hi4, hi3z, t3, t4, hfa, hfb', hmn1, hmn2] at c74
                  · skip
                    try simp at c66
                    refine Sat.exit ?_
                    refine zg81 _ _ (by simp) ?_
                    refine zx69 (some ⟨i, vk, vx⟩) _ ?_ ?_ ?_
                    · first | omega | (dsimp only; omega) | simp [c66]
                    · exact ⟨by simp [-List.map_take, -List.map_drop, ← List.map_take, ← List.map_drop, Function.comp_def, FitL, zp5.st, zq5.st, c20, hg, hm4, hfb, hbt, hfl, c27, zp58.st, zq58.st, zp69.st, zq69.st], by simp [-List.map_take, -List.map_drop, ← List.map_take, ← List.map_drop, Function.comp_def, FitL, zp5.st, zq5.st, c20, hg, hm4, hfb, hbt, hfl, c27, zp58.st, zq58.st, zp69.st, zq69.st], by simp [-List.map_take, -List.map_drop, ← List.map_take, ← List.map_drop, Function.comp_def, FitL, zp5.st, zq5.st, c20, hg, hm4, hfb, hbt, hfl, c27, zp58.st, zq58.st, zp69.st, zq69.st]⟩
                    · exact ⟨by simp [-List.map_take, -List.map_drop, ← List.map_take, ← List.map_drop, Function.comp_def, FitL, zp5.st, zq5.st, c20, hg, hm4, hfb, hbt, hfl, c27, zp58.st, zq58.st, zp69.st, zq69.st], by simp [-List.map_take, -List.map_drop, ← List.map_take, ← List.map_drop, Function.comp_def, FitL, zp5.st, zq5.st, c20, hg, hm4, hfb, hbt, hfl, c27, zp58.st, zq58.st, zp69.st, zq69.st], by simp [-List.map_take, -List.map_drop, ← List.map_take, ← List.map_drop, Function.comp_def, FitL, zp5.st, zq5.st, c20, hg, hm4, hfb, hbt, hfl, c27, zp58.st, zq58.st, zp69.st, zq69.st]⟩
              · rintro (_ | ⟨i, vk, vx⟩) hR4 zo69 zb69 zp69 zq69
                · skip
                  try dsimp only [Ds.app, Ds.st, List.cons_append, List.nil_append] at hR4 ⊢
                  have zl1 : zapp k bk = [] := List.length_eq_zero_iff.1 (by rw [zapp_len]; exact hR4)
                  have zl2 : zapp x bx = [] := List.length_eq_zero_iff.1 (by rw [zapp_len]; omega)
                  refine Sat.shB 768 ?_
                  simp
                  refine Sat.regionP hk [⟨some 114, Op.load 44 (Operand.tmp 12), 44, none⟩, ⟨none, Op.store 44 (Operand.tmp 6) (Operand.tmp 114), 0, none⟩] (by kernel_rfl) (by kernel_rfl) ?_
                  simp [-List.map_take, -List.map_drop, ← List.map_take, ← List.map_drop, Function.comp_def, zp5.st, zq5.st, c20, hg, hm4, hfb, hbt, hfl, c27, zp58.st, zq58.st, zp69.st, zq69.st]
                  refine zh49 _ ?_
                  refine zh48 _ ?_
                  refine Sat.regionP hk [⟨some 115, Op.binOp BinOp.add 3 (Operand.tmp 19) (Operand.const (Value.int IntKind.i64 1)) 3, 3, none⟩, ⟨some 19, Op.move (Operand.tmp 115), 3, none⟩] (by kernel_rfl) (by kernel_rfl) ?_
                  simp [-List.map_take, -List.map_drop, ← List.map_take, ← List.map_drop, Function.comp_def, zp5.st, zq5.st, c20, hg, hm4, hfb, hbt, hfl, c27, zp58.st, zq58.st, zp69.st, zq69.st]
                  refine zn5 (some ⟨j + 1, bt, zapp k bk, zapp x bx⟩) _ ?_ ?_ ?_ ?_
                  · exact Joined.next hb c27 hnd hn1 ht128 hbk hbx hkm hxm hP0.km hP0.xm (by have := hP0.kl; omega) (by have := hP0.xl; omega) (by omega) (by rw [Int.toNat_natCast]; exact htk) rfl rfl hP0.go
                  · first | omega | (dsimp only; omega)
                  · exact ⟨by simp [-List.map_take, -List.map_drop, ← List.map_take, ← List.map_drop, Function.comp_def, FitL, zp5.st, zq5.st, c20, hg, hm4, hfb, hbt, hfl, c27, zp58.st, zq58.st, zp69.st, zq69.st, w64s j (by omega), zl1, zl2], by simp [-List.map_take, -List.map_drop, ← List.map_take, ← List.map_drop, Function.comp_def, FitL, zp5.st, zq5.st, c20, hg, hm4, hfb, hbt, hfl, c27, zp58.st, zq58.st, zp69.st, zq69.st, w64s j (by omega), zl1, zl2], by simp [-List.map_take, -List.map_drop, ← List.map_take, ← List.map_drop, Function.comp_def, FitL, zp5.st, zq5.st, c20, hg, hm4, hfb, hbt, hfl, c27, zp58.st, zq58.st, zp69.st, zq69.st, w64s j (by omega), zl1, zl2]⟩
                  · exact ⟨by simp [-List.map_take, -List.map_drop, ← List.map_take, ← List.map_drop, Function.comp_def, FitL, zp5.st, zq5.st, c20, hg, hm4, hfb, hbt, hfl, c27, zp58.st, zq58.st, zp69.st, zq69.st, w64s j (by omega), zl1, zl2], by simp [-List.map_take, -List.map_drop, ← List.map_take, ← List.map_drop, Function.comp_def, FitL, zp5.st, zq5.st, c20, hg, hm4, hfb, hbt, hfl, c27, zp58.st, zq58.st, zp69.st, zq69.st, w64s j (by omega), zl1, zl2], by simp [-List.map_take, -List.map_drop, ← List.map_take, ← List.map_drop, Function.comp_def, FitL, zp5.st, zq5.st, c20, hg, hm4, hfb, hbt, hfl, c27, zp58.st, zq58.st, zp69.st, zq69.st, w64s j (by omega), zl1, zl2]⟩
                · skip
                  try dsimp only [Ds.app, Ds.st, List.cons_append, List.nil_append] at hR4 ⊢
                  have tk1 : (zapp k bk).take i = zapp k bk := List.take_of_length_le (by rw [zapp_len]; omega)
                  have tk2 : (zapp x bx).take i = zapp x bx := List.take_of_length_le (by rw [zapp_len]; omega)
                  refine Sat.frz 6336 (by simp) ?_
                  refine Sat.frz 7104 (by simp) ?_
                  refine Sat.plain ?_
                  simp
                  refine Sat.regionP hk [⟨some 114, Op.load 44 (Operand.tmp 12), 44, none⟩, ⟨none, Op.store 44 (Operand.tmp 6) (Operand.tmp 114), 0, none⟩] (by kernel_rfl) (by kernel_rfl) ?_
                  simp [-List.map_take, -List.map_drop, ← List.map_take, ← List.map_drop, Function.comp_def, zp5.st, zq5.st, c20, hg, hm4, hfb, hbt, hfl, c27, zp58.st, zq58.st, zp69.st, zq69.st]
                  refine zh49 _ ?_
                  refine zh48 _ ?_
                  refine Sat.regionP hk [⟨some 115, Op.binOp BinOp.add 3 (Operand.tmp 19) (Operand.const (Value.int IntKind.i64 1)) 3, 3, none⟩, ⟨some 19, Op.move (Operand.tmp 115), 3, none⟩] (by kernel_rfl) (by kernel_rfl) ?_
                  simp [-List.map_take, -List.map_drop, ← List.map_take, ← List.map_drop, Function.comp_def, zp5.st, zq5.st, c20, hg, hm4, hfb, hbt, hfl, c27, zp58.st, zq58.st, zp69.st, zq69.st]
                  refine zn5 (some ⟨j + 1, bt, zapp k bk, zapp x bx⟩) _ ?_ ?_ ?_ ?_
                  · exact Joined.next hb c27 hnd hn1 ht128 hbk hbx hkm hxm hP0.km hP0.xm (by have := hP0.kl; omega) (by have := hP0.xl; omega) (by omega) (by rw [Int.toNat_natCast]; exact htk) rfl rfl hP0.go
                  · first | omega | (dsimp only; omega)
                  · exact ⟨by simp [-List.map_take, -List.map_drop, ← List.map_take, ← List.map_drop, Function.comp_def, FitL, zp5.st, zq5.st, c20, hg, hm4, hfb, hbt, hfl, c27, zp58.st, zq58.st, zp69.st, zq69.st, w64s j (by omega), eM, tk1, tk2], by simp [-List.map_take, -List.map_drop, ← List.map_take, ← List.map_drop, Function.comp_def, FitL, zp5.st, zq5.st, c20, hg, hm4, hfb, hbt, hfl, c27, zp58.st, zq58.st, zp69.st, zq69.st, w64s j (by omega), eM, tk1, tk2], by simp [-List.map_take, -List.map_drop, ← List.map_take, ← List.map_drop, Function.comp_def, FitL, zp5.st, zq5.st, c20, hg, hm4, hfb, hbt, hfl, c27, zp58.st, zq58.st, zp69.st, zq69.st, w64s j (by omega), eM, tk1, tk2]⟩
                  · exact ⟨by simp [-List.map_take, -List.map_drop, ← List.map_take, ← List.map_drop, Function.comp_def, FitL, zp5.st, zq5.st, c20, hg, hm4, hfb, hbt, hfl, c27, zp58.st, zq58.st, zp69.st, zq69.st, w64s j (by omega), eM, tk1, tk2], by simp [-List.map_take, -List.map_drop, ← List.map_take, ← List.map_drop, Function.comp_def, FitL, zp5.st, zq5.st, c20, hg, hm4, hfb, hbt, hfl, c27, zp58.st, zq58.st, zp69.st, zq69.st, w64s j (by omega), eM, tk1, tk2], by simp [-List.map_take, -List.map_drop, ← List.map_take, ← List.map_drop, Function.comp_def, FitL, zp5.st, zq5.st, c20, hg, hm4, hfb, hbt, hfl, c27, zp58.st, zq58.st, zp69.st, zq69.st, w64s j (by omega), eM, tk1, tk2]⟩
      · skip
        try simp at c20
        refine Sat.exit ?_
        refine zg47 _ _ (by simp) ?_
        refine zx5 (some ⟨j, t, k, x⟩) _ ?_ ?_ ?_
        · exact ⟨by omega, hP0⟩
        · exact ⟨by simp [-List.map_take, -List.map_drop, ← List.map_take, ← List.map_drop, Function.comp_def, FitL, zp5.st, zq5.st], by simp [-List.map_take, -List.map_drop, ← List.map_take, ← List.map_drop, Function.comp_def, FitL, zp5.st, zq5.st], by simp [-List.map_take, -List.map_drop, ← List.map_take, ← List.map_drop, Function.comp_def, FitL, zp5.st, zq5.st]⟩
        · exact ⟨by simp [-List.map_take, -List.map_drop, ← List.map_take, ← List.map_drop, Function.comp_def, FitL, zp5.st, zq5.st], by simp [-List.map_take, -List.map_drop, ← List.map_take, ← List.map_drop, Function.comp_def, FitL, zp5.st, zq5.st], by simp [-List.map_take, -List.map_drop, ← List.map_take, ← List.map_drop, Function.comp_def, FitL, zp5.st, zq5.st]⟩
  · rintro (_ | ⟨j, t, k, x⟩) hR0 zo5 zb5 zp5 zq5
    · skip
      try dsimp only [Ds.app, Ds.st, List.cons_append, List.nil_append] at hR0 ⊢
      subst hR0
      refine Sat.seqK fun zK90 zh90 zg90 => ?_
      refine Sat.regionP hk [⟨some 116, Op.load 44 (Operand.tmp 6), 44, none⟩, ⟨none, Op.store 44 (Operand.tmp 4) (Operand.tmp 116), 0, none⟩, ⟨some 5, Op.assign (Operand.const (Value.int IntKind.i64 0)), 3, none⟩] (by kernel_rfl) (by kernel_rfl) ?_
      simp [-List.map_take, -List.map_drop, ← List.map_take, ← List.map_drop, Function.comp_def, zp5.st, zq5.st, joinOut, joinSh, joinGo]
      refine zh90 _ ?_
      refine Sat.ret ?_
      simp [-List.map_take, -List.map_drop, ← List.map_take, ← List.map_drop, Function.comp_def, zp5.st, zq5.st, joinOut, joinSh, joinGo]
    · skip
      try dsimp only [Ds.app, Ds.st, List.cons_append, List.nil_append] at hR0 ⊢
      refine Sat.seqK fun zK91 zh91 zg91 => ?_
      have hj : joinGo c [] [] [] l = ((t, k, x), 0) := by rw [hR0.2.go, hR0.1, List.drop_length]; rfl
      have hl0 : l ≠ [] := by rintro rfl; have := hR0.2.j0; have := hR0.1; simp at this; omega
      refine Sat.regionP hk [⟨some 116, Op.load 44 (Operand.tmp 6), 44, none⟩, ⟨none, Op.store 44 (Operand.tmp 4) (Operand.tmp 116), 0, none⟩, ⟨some 5, Op.assign (Operand.const (Value.int IntKind.i64 0)), 3, none⟩] (by kernel_rfl) (by kernel_rfl) ?_
      simp [-List.map_take, -List.map_drop, ← List.map_take, ← List.map_drop, Function.comp_def, zp5.st, zq5.st, hj, joinOut, joinSh, hl0]
      refine zh91 _ ?_
      refine Sat.ret ?_
      simp [-List.map_take, -List.map_drop, ← List.map_take, ← List.map_drop, Function.comp_def, zp5.st, zq5.st, hj, joinOut, joinSh, hl0]
end Go.Proofs.Ytmbmebfeoejlnaa.Ab
