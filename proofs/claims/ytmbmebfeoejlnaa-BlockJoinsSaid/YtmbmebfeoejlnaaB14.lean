/- Pages put together. -/
import Derived.Test.YtmbmebfeoejlnaaB13
import Derived.Test.YtmbmebfeoejlnaaA32
namespace Go.Proofs.Ytmbmebfeoejlnaa.Ab
set_option linter.unusedVariables false
set_option linter.unusedSimpArgs false
open Go.RowKit
@[simp] theorem dupd_nil {x : D} {f : D → D} : x.upd f [] = f x := by cases x <;> rfl
@[simp] theorem dupd_cons {e k j : Nat} {xs : List D} {p : List Nat} {f : D → D} : (D.sl false e k xs).upd f (j :: p) = .sl false e k (match xs[j]? with
    | some y => xs.set j (y.upd f p)
    | none => xs) := rfl
@[simp] theorem setC_sl {sh : Bool} {e k j : Nat} {xs : List D} {y : D} : D.setC j y (.sl sh e k xs) = .sl sh e k (xs.set j y) := rfl
@[simp] theorem up_mk {o : Obj} {f : D → D} {p : List Nat} : o.up f p = o.xsOf (o.d.upd f p) := rfl
@[simp] theorem xsOf_sl {o : Obj} {sh : Bool} {e k : Nat} {xs : List D} : o.xsOf (.sl sh e k xs) = xs := rfl
def zapp (k b : Cube) : Cube := (List.range b.length).map fun i => k.getD i [] ++ b.getD i []
theorem zapp_len {k b : Cube} : (zapp k b).length = b.length := by simp [zapp]
theorem zapp_get {k b : Cube} {i : Nat} {m : List (List Int)} (h : b[i]? = some m) : (zapp k b)[i]? = some (k.getD i [] ++ m) := by
  have hi := (List.getElem?_eq_some_iff.1 h).1
  have h2 := (List.getElem?_eq_some_iff.1 h).2
  simp [zapp, hi, List.getElem?_map, h2]
theorem set_step {α : Type} {z q : List α} {i : Nat} {y : α} (hz : z[i]? = some y) (hl : z.length = q.length) : (z.take i ++ q.drop i).set i y = z.take (i + 1) ++ q.drop (i + 1) := by
  have hi := (List.getElem?_eq_some_iff.1 hz).1
  have hlen : (z.take i).length = i := by simp; omega
  rw [List.set_append_right _ _ (by omega), hlen, Nat.sub_self, List.drop_eq_getElem_cons (show i < q.length by omega), List.set_cons_zero, take_succ_get hz, List.append_assoc]
  rfl
theorem get_step {α : Type} {z q : List α} {i : Nat} (hl : z.length = q.length) (hi : i < q.length) : (z.take i ++ q.drop i)[i]? = q[i]? := by
  have hlen : (z.take i).length = i := by simp; omega
  rw [List.getElem?_append_right (by omega), hlen, Nat.sub_self, List.getElem?_drop, Nat.add_zero]
def joinGo (c : Cfg) : List Int → Cube → Cube → List Blk → View × Int
  | t, k, x, [] => ((t, k, x), 0)
  | t, k, x, b :: l => if chk c b = 0 then (if b.2.1 = t.length ∧ b.1.take b.2.1.toNat = t then joinGo c b.1 (zapp k b.2.2.1) (zapp x b.2.2.2) l else (([], [], []), 8)) else (([], [], []), chk c b)
def joinSh (c : Cfg) (l : List Blk) : Bool := decide ((joinGo c [] [] [] l).2 = 0 ∧ l ≠ [])
def joinOut (c : Cfg) (l : List Blk) : Out := ⟨[(true, eView (joinSh c l) (joinGo c [] [] [] l).1), (false, [.lit (.int .i64 (joinGo c [] [] [] l).2)])], []⟩
theorem chk_ok {c : Cfg} {t : List Int} {f : Int} {k x : Cube} (h : chk c (t, f, k, x) = 0) : ∃ n : Nat, (n : Int) = t.length - f ∧ 0 ≤ f ∧ 1 ≤ n ∧ n ≤ 16 ∧ t.length ≤ 128 ∧ (k.length : Int) = c.2.2.2.2 ∧ (x.length : Int) = c.2.2.2.2 ∧ (∀ m ∈ k, m.length = n) ∧ (∀ m ∈ x, m.length = n) := by
  unfold chk at h
  split at h
  · cases h
  · rename_i hb
    split at h
    · cases h
    · split at h
      · rename_i hl
        rw [Bool.and_eq_true] at hl
        simp only [badShape, not_or] at hb
        obtain ⟨h1, h2, h3, h4, h5, h6⟩ := hb
        have h5' : (k.length : Int) = c.2.2.2.2 := Classical.not_not.1 h5
        have h6' : (x.length : Int) = c.2.2.2.2 := Classical.not_not.1 h6
        refine ⟨((t.length : Int) - f).toNat, by omega, by omega, by omega, by omega, by omega, h5', h6', fun m hm => ?_, fun m hm => ?_⟩
        · have := List.all_eq_true.1 hl.1 m hm
          rw [Bool.and_eq_true, decide_eq_true_eq] at this
          have := this.1; dsimp only at this; omega
        · have := List.all_eq_true.1 hl.2 m hm
          rw [Bool.and_eq_true, decide_eq_true_eq] at this
          have := this.1; dsimp only at this; omega
      · cases h
theorem join_bad {c : Cfg} {t : List Int} {k x : Cube} {l : List Blk} {j : Nat} {b : Blk} (hb : l[j]? = some b) (h : joinGo c [] [] [] l = joinGo c t k x (l.drop j)) (h1 : ¬ chk c b = 0) : joinGo c [] [] [] l = (([], [], []), chk c b) := by
  rw [h, List.drop_eq_getElem_cons (List.getElem?_eq_some_iff.1 hb).1, (List.getElem?_eq_some_iff.1 hb).2, joinGo, if_neg h1]
theorem join_none {c : Cfg} {t : List Int} {k x : Cube} {l : List Blk} {j : Nat} {b : Blk} (hb : l[j]? = some b) (h : joinGo c [] [] [] l = joinGo c t k x (l.drop j)) (h1 : chk c b = 0) (h2 : ¬ (b.2.1 = t.length ∧ b.1.take b.2.1.toNat = t)) : joinGo c [] [] [] l = (([], [], []), 8) := by
  rw [h, List.drop_eq_getElem_cons (List.getElem?_eq_some_iff.1 hb).1, (List.getElem?_eq_some_iff.1 hb).2, joinGo, if_pos h1, if_neg h2]
theorem join_on {c : Cfg} {t : List Int} {k x : Cube} {l : List Blk} {j : Nat} {b : Blk} (hb : l[j]? = some b) (h : joinGo c [] [] [] l = joinGo c t k x (l.drop j)) (h1 : chk c b = 0) (h2 : b.2.1 = t.length) (h3 : b.1.take b.2.1.toNat = t) : joinGo c [] [] [] l = joinGo c b.1 (zapp k b.2.2.1) (zapp x b.2.2.2) (l.drop (j + 1)) := by
  rw [h, List.drop_eq_getElem_cons (List.getElem?_eq_some_iff.1 hb).1, (List.getElem?_eq_some_iff.1 hb).2, joinGo, if_pos h1, if_pos ⟨h2, h3⟩]
theorem win_all {n : Nat} {k : Cube} (h : ∀ m ∈ k, m.length = n) : win 0 n k = k := by
  unfold win
  conv => rhs; rw [← List.map_id k]
  exact List.map_congr_left fun m hm => by rw [List.drop_zero, List.take_of_length_le (Nat.le_of_eq (h m hm))]; rfl
theorem zapp_rep {n : Nat} {b : Cube} : zapp (List.replicate n []) b = zapp [] b := by
  unfold zapp
  refine List.map_congr_left fun i hi => ?_
  simp [List.getD_eq_getElem?_getD, List.getElem?_replicate]
  split <;> rfl
theorem zapp_rows {n1 n2 : Nat} {k b : Cube} (h1 : ∀ m ∈ k, m.length = n1) (h2 : ∀ m ∈ b, m.length = n2) (hl : b.length ≤ k.length) : ∀ m ∈ zapp k b, m.length = n1 + n2 := by
  intro m hm
  simp only [zapp, List.mem_map, List.mem_range] at hm
  obtain ⟨i, hi, rfl⟩ := hm
  have h3 : k.getD i [] = k[i]'(by omega) := by simp [List.getD_eq_getElem?_getD, List.getElem?_eq_getElem (show i < k.length by omega)]
  have h4 : b.getD i [] = b[i] := by simp [List.getD_eq_getElem?_getD, List.getElem?_eq_getElem hi]
  rw [h3, h4, List.length_append, h1 _ (List.getElem_mem _), h2 _ (List.getElem_mem _)]
def fineAll (l : List Blk) : Prop := l.length < 2 ^ 40 ∧ ∀ b ∈ l, fine b
instance (l : List Blk) : Decidable (fineAll l) := by unfold fineAll; infer_instance
/-- what is put together so far -/
structure Joined (c : Cfg) (l : List Blk) (j : Nat) (t : List Int) (k x : Cube) : Prop where
  j1 : j ≤ l.length
  j0 : 1 ≤ j
  t1 : 1 ≤ t.length
  t2 : t.length ≤ 128
  kl : (k.length : Int) = c.2.2.2.2
  xl : (x.length : Int) = c.2.2.2.2
  km : ∀ m ∈ k, m.length = t.length
  xm : ∀ m ∈ x, m.length = t.length
  go : joinGo c [] [] [] l = joinGo c t k x (l.drop j)
theorem Joined.next {c : Cfg} {l : List Blk} {j n : Nat} {t bt : List Int} {k x bk bx k0 x0 : Cube} {bf : Int} (hb : l[j]? = some (bt, bf, bk, bx)) (hc : chk c (bt, bf, bk, bx) = 0)
    (hn : (n : Int) = bt.length - bf) (h1 : 1 ≤ n) (h2 : bt.length ≤ 128) (h3 : (bk.length : Int) = c.2.2.2.2) (h4 : (bx.length : Int) = c.2.2.2.2) (h5 : ∀ m ∈ bk, m.length = n) (h6 : ∀ m ∈ bx, m.length = n)
    (hk : ∀ m ∈ k, m.length = t.length) (hx : ∀ m ∈ x, m.length = t.length) (hkl : k.length = bk.length) (hxl : x.length = bx.length) (hf : bf = t.length) (ht : bt.take bf.toNat = t) (hk0 : zapp k bk = zapp k0 bk) (hx0 : zapp x bx = zapp x0 bx) (go : joinGo c [] [] [] l = joinGo c t k0 x0 (l.drop j)) : Joined c l (j + 1) bt (zapp k bk) (zapp x bx) :=
  ⟨(List.getElem?_eq_some_iff.1 hb).1, by omega, by omega, h2, by rw [zapp_len]; exact h3, by rw [zapp_len]; exact h4, by rw [show bt.length = t.length + n by omega]; exact zapp_rows hk h5 (by omega), by rw [show bt.length = t.length + n by omega]; exact zapp_rows hx h6 (by omega), by rw [hk0, hx0]; exact join_on hb go hc hf ht⟩
abbrev eM (m : List (List Int)) : D := .sl false 51 1 (m.map fun r => .sl true 81 1 (r.map fun x => .lit (.int .i32 x)))
def S19 : Spec := fun gs => sp2 true (tCfg) false (tBlksP) (fun c l => if fineAll l then some (joinOut c l) else none) gs
@[simp] theorem S19_eq (gs : List Arg) : S19 gs = sp2 true (tCfg) false (tBlksP) (fun c l => if fineAll l then some (joinOut c l) else none) gs := rfl
set_option maxHeartbeats 4000000 in
theorem k19 : Contract Try.prog 19 S19 := by
  refine Contract.intro2 (C := cx 116 [(17, S17), (60, S60), (61, S61), (62, S62)]) Try.func19 rfl rfl rfl (by show 2 ≤ 116; decide) fun c l out ho fr => ?_
  have hk := knowsX (N := 116) (l := [(17, S17), (60, S60), (61, S61), (62, S62)]) ⟨k17, k60, k61, k62, trivial⟩
  split at ho
  case isFalse => cases ho
  rename_i hn
  obtain rfl := Option.some.inj ho
  have hl40 := hn.1
  refine Sat.seqK fun zK1 zh1 zg1 => ?_
  refine Sat.regionP hk [⟨some 2, Op.box 23 (Operand.tmp 0), 0, none⟩, ⟨some 4, Op.alloc 40, 0, none⟩, ⟨some 5, Op.assign (Operand.const (Value.int IntKind.i64 0)), 36, none⟩] (by kernel_rfl) (by kernel_rfl) ?_
  simp [-List.map_take, -List.map_drop, ← List.map_take, ← List.map_drop, Function.comp_def]
  refine zh1 _ ?_
  refine Sat.seqK fun zK2 zh2 zg2 => ?_
  refine Sat.regionP hk [⟨some 6, Op.alloc 40, 0, none⟩] (by kernel_rfl) (by kernel_rfl) ?_
  simp [-List.map_take, -List.map_drop, ← List.map_take, ← List.map_drop, Function.comp_def]
  refine zh2 _ ?_
  refine Sat.seqK fun zK3 zh3 zg3 => ?_
  refine Sat.seqK fun zK4 zh4 zg4 => ?_
  refine Sat.regionP hk [⟨some 14, Op.move (Operand.tmp 1), 24, none⟩, ⟨some 15, Op.call { callee := Callee.builtin Builtin.len, args := #[Operand.tmp 14], argTypes := #[24] }, 3, none⟩, ⟨some 16, Op.move (Operand.const (Value.int IntKind.i64 0)), 3, none⟩] (by kernel_rfl) (by kernel_rfl) ?_
  simp [-List.map_take, -List.map_drop, ← List.map_take, ← List.map_drop, Function.comp_def]
  refine zh4 _ ?_
  refine Sat.loopK (E := ⟨_, _, _⟩) [2, 4, 6, 14, 15] [] [128, 256] ⟨by first | (simp [keepS]; done) | (simp [keepS]; rfl), by first | (simp [keepO]; done) | (simp [keepO]; rfl), by first | (simp [keepB]; done) | (simp [keepB]; rfl)⟩ (zh3) (fun (zq : Option (Nat × (List Int) × Cube × Cube × Nat × Nat × Nat × Nat × Nat)) => match zq with | none => (⟨[(16, num 0)], [], [(384, ⟨1, true, 40, [.d (.sl false 3 1 []), .d (.sl false 79 1 []), .d (.sl false 79 1 [])]⟩)]⟩ : Ds) | some ⟨j, t, k, x, vt, vk, sk, vx, sx⟩ => (⟨[(16, num j)], [(7168, ⟨vt, 0, .own, 3, 1, t.map fun x => .lit (.int .i64 x)⟩), (3200, ⟨vk, sk, .own, 79, 1, k.map eM⟩), (3392, ⟨vx, sx, .own, 79, 1, x.map eM⟩)], [(384, ⟨1, true, 40, [.ref 7168 vt [] 0 none, .ref 3200 vk [] 0 none, .ref 3392 vx [] 0 none]⟩)]⟩ : Ds)) (fun (zq : Option (Nat × (List Int) × Cube × Cube × Nat × Nat × Nat × Nat × Nat)) => match zq with | none => True | some ⟨j, t, k, x, vt, vk, sk, vx, sx⟩ => Joined c l j t k x) (fun (zq : Option (Nat × (List Int) × Cube × Cube × Nat × Nat × Nat × Nat × Nat)) => match zq with | none => l = [] | some ⟨j, t, k, x, vt, vk, sk, vx, sx⟩ => j = l.length ∧ Joined c l j t k x) (fun (zq : Option (Nat × (List Int) × Cube × Cube × Nat × Nat × Nat × Nat × Nat)) => match zq with | none => l.length | some ⟨j, t, k, x, vt, vk, sk, vx, sx⟩ => l.length - j) none ?_ ?_ ?_ ?_
  · trivial
  · exact ⟨by simp [FitL], by simp [FitL], by simp [FitL]⟩
  · rintro (_ | ⟨j, t, k, x, vt, vk, sk, vx, sx⟩) hP0 zo5 zb5 zp5 zq5 zK5 zn5 zx5 zg5
    · skip
      try dsimp only [Ds.app, Ds.st, List.cons_append, List.nil_append] at hP0 ⊢
      refine Sat.seqK fun zK6 zh6 zg6 => ?_
      refine Sat.regionP hk [⟨some 17, Op.binOp BinOp.lss 3 (Operand.tmp 16) (Operand.tmp 15) 3, 0, none⟩] (by kernel_rfl) (by kernel_rfl) ?_
      simp [-List.map_take, -List.map_drop, ← List.map_take, ← List.map_drop, Function.comp_def, zp5.st, zq5.st]
      refine zh6 _ ?_
      refine Sat.seqK fun zK7 zh7 zg7 => ?_
      refine Sat.cond rfl (fun c17 => ?_) (fun c17 => ?_)
      · skip
        try simp at c17
        obtain ⟨b, hb⟩ : ∃ z, l[0]? = some z := ⟨l[0], List.getElem?_eq_getElem (by omega)⟩
        obtain ⟨bt, bf, bk, bx⟩ := b
        have hfb := hn.2 _ (List.mem_of_getElem? hb)
        have hg := flat_get tBlk true l _ _ hb
        simp at hg
        have hm4 : min 4 (l.length * 4 - 0 * 4) = 4 := by omega
        have hbt : bt.length < 1099511627776 := hfb.1
        have hrow : okRow bt := hfb.1
        refine Sat.skip ?_
        refine zh7 _ ?_
        refine Sat.seqK fun zK8 zh8 zg8 => ?_
        refine Sat.blockK fun zK9 zh9 zx9 zg9 => ?_
        refine Sat.seqK fun zK10 zh10 zg10 => ?_
        refine Sat.regionP hk [⟨some 18, Op.indexAddr 24 (Operand.tmp 14) (Operand.tmp 16), 0, none⟩, ⟨some 19, Op.load 34 (Operand.tmp 18), 34, none⟩, ⟨some 8, Op.alloc 34, 0, none⟩, ⟨none, Op.store 34 (Operand.tmp 8) (Operand.tmp 19), 0, none⟩] (by kernel_rfl) (by kernel_rfl) ?_
        simp [-List.map_take, -List.map_drop, ← List.map_take, ← List.map_drop, Function.comp_def, zp5.st, zq5.st, c17, hg, hm4, hfb, hbt, hrow]
        refine zh10 _ ?_
        refine Sat.seqK fun zK11 zh11 zg11 => ?_
        refine Sat.seqK fun zK12 zh12 zg12 => ?_
        refine Sat.regionP hk [⟨some 20, Op.load 23 (Operand.tmp 2), 23, none⟩, ⟨some 21, Op.load 34 (Operand.tmp 8), 34, none⟩, ⟨some 22, Op.call { callee := Callee.value (Operand.func 17), args := #[Operand.tmp 20, Operand.tmp 21], argTypes := #[23, 34] }, 36, none⟩, ⟨some 9, Op.assign (Operand.tmp 22), 36, none⟩] (by kernel_rfl) (by kernel_rfl) ?_
        simp [-List.map_take, -List.map_drop, ← List.map_take, ← List.map_drop, Function.comp_def, zp5.st, zq5.st, c17, hg, hm4, hfb, hbt, hrow]
        refine zh12 _ ?_
        refine Sat.seqK fun zK13 zh13 zg13 => ?_
        refine Sat.regionP hk [⟨some 23, Op.move (Operand.tmp 9), 36, none⟩, ⟨some 24, Op.binOp BinOp.neq 36 (Operand.tmp 23) (Operand.const (Value.int IntKind.i64 0)) 36, 4, none⟩] (by kernel_rfl) (by kernel_rfl) ?_
        simp [-List.map_take, -List.map_drop, ← List.map_take, ← List.map_drop, Function.comp_def, zp5.st, zq5.st, c17, hg, hm4, hfb, hbt, hrow]
        refine zh13 _ ?_
        refine Sat.cond rfl (fun c24 => ?_) (fun c24 => ?_)
        · skip
          try simp at c24
          have hj := join_bad hb (show _ = joinGo c [] [] [] (l.drop 0) from rfl) c24
          refine Sat.seqK fun zK14 zh14 zg14 => ?_
          refine Sat.regionP hk [⟨some 25, Op.build 40 #[], 40, none⟩, ⟨some 26, Op.move (Operand.tmp 9), 36, none⟩, ⟨none, Op.store 40 (Operand.tmp 4) (Operand.tmp 25), 0, none⟩, ⟨some 5, Op.assign (Operand.tmp 26), 36, none⟩] (by kernel_rfl) (by kernel_rfl) ?_
          simp [-List.map_take, -List.map_drop, ← List.map_take, ← List.map_drop, Function.comp_def, zp5.st, zq5.st, c17, hg, hm4, hfb, hbt, hrow, hj, joinOut, joinSh, c24]
          refine zh14 _ ?_
          refine Sat.ret ?_
          refine zg11 _ _ (by simp) ?_
          refine zg9 _ _ (by simp) (by simp) ?_
          refine zg8 _ _ (by simp) ?_
          refine zg5 _ _ (by simp) (by simp) ?_
          refine zg3 _ _ (by simp) ?_
          simp [-List.map_take, -List.map_drop, ← List.map_take, ← List.map_drop, Function.comp_def, zp5.st, zq5.st, c17, hg, hm4, hfb, hbt, hrow, hj, joinOut, joinSh, c24]
        · skip
          try simp at c24
          obtain ⟨n, hnd, hf0, hn1, hn16, ht128, hbk, hbx, hkm, hxm⟩ := chk_ok c24
          have hw : IntKind.i64.wrap ((bt.length : Int) - bf) = (n : Int) := by rw [w64_id _ (by omega) (by omega)]; exact hnd.symm
          obtain ⟨fn, rfl⟩ := Int.eq_ofNat_of_zero_le hf0
          have hfl : fn ≤ bt.length := by omega
          have hwk : winOK n bk := ⟨hfb.2.2.1, fun m h => by rw [hkm m h]; exact Nat.le_refl _⟩
          have hwx : winOK n bx := ⟨hfb.2.2.2, fun m h => by rw [hxm m h]; exact Nat.le_refl _⟩
          have e1 := win_all hkm
          have e2 := win_all hxm
          have hkk : bk.length < 1099511627776 := hfb.2.2.1.1
          have hxx : bx.length < 1099511627776 := hfb.2.2.2.1
          have hbx' : bx.length = bk.length := by omega
          have hmk : (bk.length : Int) ≤ 140737488355328 := by omega
          have hmk2 : (bk.length : Int) * 24 ≤ 140737488355328 := by omega
          have hmt : min fn bt.length < 1099511627776 := by omega
          have hmL : bk.length ≤ maxL := by simp [maxL]; omega
          have hmL2 : (bk.length : Int) * 24 ≤ (maxL : Int) := by simp [maxL]; omega
          refine Sat.skip ?_
          refine zh11 _ ?_
          refine Sat.seqK fun zK15 zh15 zg15 => ?_
          refine Sat.seqK fun zK16 zh16 zg16 => ?_
          by_cases q8 : fn = 0
          · skip
            have hw0 : IntKind.i64.wrap (bt.length : Int) = (n : Int) := by rw [w64_id _ (by omega) (by omega)]; omega
            refine Sat.regionDP hk (by kernel_rfl) [⟨some 27, Op.fieldAddr 34 (Operand.tmp 8) 1, 0, none⟩, ⟨some 28, Op.load 3 (Operand.tmp 27), 3, none⟩, ⟨some 29, Op.fieldAddr 40 (Operand.tmp 6) 0, 0, none⟩, ⟨some 30, Op.load 27 (Operand.tmp 29), 27, none⟩, ⟨some 31, Op.call { callee := Callee.builtin Builtin.len, args := #[Operand.tmp 30], argTypes := #[27] }, 3, none⟩, ⟨some 32, Op.binOp BinOp.neq 3 (Operand.tmp 28) (Operand.tmp 31) 3, 4, none⟩, ⟨some 33, Op.move (Operand.tmp 32), 4, none⟩, ⟨some 34, Op.fieldAddr 34 (Operand.tmp 8) 0, 0, some (33, false)⟩, ⟨some 35, Op.load 27 (Operand.tmp 34), 27, some (33, false)⟩, ⟨some 36, Op.fieldAddr 34 (Operand.tmp 8) 1, 0, some (33, false)⟩, ⟨some 37, Op.load 3 (Operand.tmp 36), 3, some (33, false)⟩, ⟨some 38, Op.slice 27 (Operand.tmp 35) none (some (Operand.tmp 37)) none, 27, some (33, false)⟩, ⟨some 39, Op.fieldAddr 40 (Operand.tmp 6) 0, 0, some (33, false)⟩, ⟨some 40, Op.load 27 (Operand.tmp 39), 27, some (33, false)⟩, ⟨some 41, Op.call { callee := Callee.value (Operand.func 60), args := #[Operand.tmp 38, Operand.tmp 40], argTypes := #[27, 27] }, 4, some (33, false)⟩, ⟨some 42, Op.unOp UnOp.not 4 (Operand.tmp 41), 4, some (33, false)⟩, ⟨some 43, Op.pick (Operand.tmp 33) (Operand.const (Value.bool true)) (Operand.tmp 42), 4, none⟩] (by kernel_rfl) (by kernel_rfl) (by decide +kernel) (fun an han => ?_)
            simp [-List.map_take, -List.map_drop, ← List.map_take, ← List.map_drop, Function.comp_def, zp5.st, zq5.st, c17, hg, hm4, hfb, hbt, hrow, hw, hfl, hwk, hwx, e1, e2, ← hbk, hbx', zeros_one, hmk, hmk2, hmt, c24, hmL, hmL2, q8, hw0]
            refine ⟨by subst han; kernel_rfl, ?_⟩
            refine zh16 _ ?_
            refine Sat.cond rfl (fun c43 => ?_) (fun c43 => ?_)
            · exfalso; simp [zp5.st, zq5.st, c17, hg, hm4, hfb, hbt, hrow, hw, hfl, hwk, hwx, e1, e2, ← hbk, hbx', zeros_one, hmk, hmk2, hmt, c24, hmL, hmL2, q8, hw0] at c43
            · skip
              try simp at c43
              have q9 : fn = 0 := q8
              refine Sat.skip ?_
              refine zh15 _ ?_
              refine Sat.seqK fun zK17 zh17 zg17 => ?_
              refine Sat.seqK fun zK18 zh18 zg18 => ?_
              refine Sat.regionP hk [⟨some 45, Op.fieldAddr 40 (Operand.tmp 6) 0, 0, none⟩, ⟨some 46, Op.load 27 (Operand.tmp 45), 27, none⟩, ⟨some 47, Op.binOp BinOp.eql 27 (Operand.tmp 46) (Operand.const (Value.slice none 0 0)) 27, 4, none⟩] (by kernel_rfl) (by kernel_rfl) ?_
              simp [-List.map_take, -List.map_drop, ← List.map_take, ← List.map_drop, Function.comp_def, zp5.st, zq5.st, c17, hg, hm4, hfb, hbt, hrow, hw, hfl, hwk, hwx, e1, e2, ← hbk, hbx', zeros_one, hmk, hmk2, hmt, c24, hmL, hmL2, q8, hw0]
              refine zh18 _ ?_
              refine Sat.cond rfl (fun c47 => ?_) (fun c47 => ?_)
              · skip
                try simp at c47
                refine Sat.regionDP hk (by kernel_rfl) [⟨some 48, Op.fieldAddr 23 (Operand.tmp 2) 4, 0, none⟩, ⟨some 49, Op.load 3 (Operand.tmp 48), 3, none⟩, ⟨some 50, Op.makeSlice 28 (Operand.tmp 49) (Operand.tmp 49), 28, none⟩, ⟨some 51, Op.fieldAddr 23 (Operand.tmp 2) 4, 0, none⟩, ⟨some 52, Op.load 3 (Operand.tmp 51), 3, none⟩, ⟨some 53, Op.makeSlice 28 (Operand.tmp 52) (Operand.tmp 52), 28, none⟩, ⟨some 54, Op.build 32 #[(0, Operand.tmp 50), (1, Operand.tmp 53)], 32, none⟩, ⟨some 55, Op.fieldAddr 40 (Operand.tmp 6) 1, 0, none⟩, ⟨none, Op.store 32 (Operand.tmp 55) (Operand.tmp 54), 0, none⟩] (by kernel_rfl) (by kernel_rfl) (by decide +kernel) (fun an han => ?_)
                simp [-List.map_take, -List.map_drop, ← List.map_take, ← List.map_drop, Function.comp_def, zp5.st, zq5.st, c17, hg, hm4, hfb, hbt, hrow, hw, hfl, hwk, hwx, e1, e2, ← hbk, hbx', zeros_one, hmk, hmk2, hmt, c24, hmL, hmL2, q8, hw0]
                refine ⟨by subst han; kernel_rfl, ?_⟩
                refine zh17 _ ?_
                refine Sat.seqK fun zK19 zh19 zg19 => ?_
                refine Sat.regionP hk [⟨some 56, Op.fieldAddr 34 (Operand.tmp 8) 0, 0, none⟩, ⟨some 57, Op.load 27 (Operand.tmp 56), 27, none⟩, ⟨some 58, Op.call { callee := Callee.builtin Builtin.len, args := #[Operand.tmp 57], argTypes := #[27] }, 3, none⟩, ⟨some 59, Op.fieldAddr 34 (Operand.tmp 8) 1, 0, none⟩, ⟨some 60, Op.load 3 (Operand.tmp 59), 3, none⟩, ⟨some 61, Op.binOp BinOp.sub 3 (Operand.tmp 58) (Operand.tmp 60) 3, 3, none⟩, ⟨some 10, Op.assign (Operand.tmp 61), 3, none⟩] (by kernel_rfl) (by kernel_rfl) ?_
                simp [-List.map_take, -List.map_drop, ← List.map_take, ← List.map_drop, Function.comp_def, zp5.st, zq5.st, c17, hg, hm4, hfb, hbt, hrow, hw, hfl, hwk, hwx, e1, e2, ← hbk, hbx', zeros_one, hmk, hmk2, hmt, c24, hmL, hmL2, q8, hw0]
                refine zh19 _ ?_
                refine Sat.seqK fun zK20 zh20 zg20 => ?_
                refine Sat.regionDP hk (by kernel_rfl) [⟨some 62, Op.fieldAddr 34 (Operand.tmp 8) 2, 0, none⟩, ⟨some 63, Op.fieldAddr 32 (Operand.tmp 62) 0, 0, none⟩, ⟨some 64, Op.load 28 (Operand.tmp 63), 28, none⟩, ⟨some 65, Op.move (Operand.tmp 10), 3, none⟩, ⟨some 66, Op.call { callee := Callee.value (Operand.func 61), args := #[Operand.tmp 64, Operand.const (Value.int IntKind.i64 0), Operand.tmp 65], argTypes := #[28, 3, 3] }, 28, none⟩, ⟨some 67, Op.fieldAddr 34 (Operand.tmp 8) 2, 0, none⟩, ⟨some 68, Op.fieldAddr 32 (Operand.tmp 67) 1, 0, none⟩, ⟨some 69, Op.load 28 (Operand.tmp 68), 28, none⟩, ⟨some 70, Op.move (Operand.tmp 10), 3, none⟩, ⟨some 71, Op.call { callee := Callee.value (Operand.func 61), args := #[Operand.tmp 69, Operand.const (Value.int IntKind.i64 0), Operand.tmp 70], argTypes := #[28, 3, 3] }, 28, none⟩, ⟨some 11, Op.assign (Operand.tmp 66), 28, none⟩, ⟨some 12, Op.assign (Operand.tmp 71), 28, none⟩] (by kernel_rfl) (by kernel_rfl) (by decide +kernel) (fun an han => ?_)
                simp [-List.map_take, -List.map_drop, ← List.map_take, ← List.map_drop, Function.comp_def, zp5.st, zq5.st, c17, hg, hm4, hfb, hbt, hrow, hw, hfl, hwk, hwx, e1, e2, ← hbk, hbx', zeros_one, hmk, hmk2, hmt, c24, hmL, hmL2, q8, hw0]
                refine ⟨by subst han; kernel_rfl, ?_⟩
                refine zh20 _ ?_
                refine Sat.seqK fun zK21 zh21 zg21 => ?_
                refine Sat.seqK fun zK22 zh22 zg22 => ?_
                refine Sat.frz 4224 (by simp) ?_
                refine Sat.frz 4544 (by simp) ?_
                refine Sat.plain ?_
                simp
                refine Sat.regionP hk [⟨some 72, Op.fieldAddr 23 (Operand.tmp 2) 4, 0, none⟩, ⟨some 73, Op.load 3 (Operand.tmp 72), 3, none⟩, ⟨some 74, Op.move (Operand.const (Value.int IntKind.i64 0)), 3, none⟩] (by kernel_rfl) (by kernel_rfl) ?_
                simp [-List.map_take, -List.map_drop, ← List.map_take, ← List.map_drop, Function.comp_def, zp5.st, zq5.st, c17, hg, hm4, hfb, hbt, hrow, hw, hfl, hwk, hwx, e1, e2, ← hbk, hbx', zeros_one, hmk, hmk2, hmt, c24, hmL, hmL2, q8, hw0]
                refine zh22 _ ?_
                refine Sat.loopK (E := ⟨_, _, _⟩) [2, 4, 6, 8, 11, 12, 14, 15, 16, 73] [] [128, 256, 384, 512] ⟨by first | (simp [keepS, zp5.st, zq5.st, c17, hg, hm4, hfb, hbt, hrow, hw, hfl, hwk, hwx, e1, e2, ← hbk, hbx', zeros_one, hmk, hmk2, hmt, c24, hmL, hmL2, q8, hw0]; done) | (simp [keepS, zp5.st, zq5.st, c17, hg, hm4, hfb, hbt, hrow, hw, hfl, hwk, hwx, e1, e2, ← hbk, hbx', zeros_one, hmk, hmk2, hmt, c24, hmL, hmL2, q8, hw0]; rfl), by first | (simp [keepO, zp5.st, zq5.st, c17, hg, hm4, hfb, hbt, hrow, hw, hfl, hwk, hwx, e1, e2, ← hbk, hbx', zeros_one, hmk, hmk2, hmt, c24, hmL, hmL2, q8, hw0]; done) | (simp [keepO, zp5.st, zq5.st, c17, hg, hm4, hfb, hbt, hrow, hw, hfl, hwk, hwx, e1, e2, ← hbk, hbx', zeros_one, hmk, hmk2, hmt, c24, hmL, hmL2, q8, hw0]; rfl), by first | (simp [keepB, zp5.st, zq5.st, c17, hg, hm4, hfb, hbt, hrow, hw, hfl, hwk, hwx, e1, e2, ← hbk, hbx', zeros_one, hmk, hmk2, hmt, c24, hmL, hmL2, q8, hw0]; done) | (simp [keepB, zp5.st, zq5.st, c17, hg, hm4, hfb, hbt, hrow, hw, hfl, hwk, hwx, e1, e2, ← hbk, hbx', zeros_one, hmk, hmk2, hmt, c24, hmL, hmL2, q8, hw0]; rfl)⟩ (zh21) (fun (⟨i, q1, q2, s1, s2⟩ : Nat × Cube × Cube × Nat × Nat) => (⟨[(74, num i)], [(3200, ⟨(zo5 3200).v + 1, s1, .own, 79, 1, q1.map eM⟩), (3392, ⟨(zo5 3392).v + 1, s2, .own, 79, 1, q2.map eM⟩)], []⟩ : Ds)) (fun (⟨i, q1, q2, s1, s2⟩ : Nat × Cube × Cube × Nat × Nat) => i ≤ bk.length ∧ q1 = (zapp (List.replicate bk.length []) bk).take i ++ ((List.replicate bk.length []) : Cube).drop i ∧ q2 = (zapp (List.replicate bx.length []) bx).take i ++ ((List.replicate bx.length []) : Cube).drop i) (fun (⟨i, q1, q2, s1, s2⟩ : Nat × Cube × Cube × Nat × Nat) => q1 = zapp (List.replicate bk.length []) bk ∧ q2 = zapp (List.replicate bx.length []) bx) (fun (⟨i, q1, q2, s1, s2⟩ : Nat × Cube × Cube × Nat × Nat) => bk.length - i) (0, (List.replicate bk.length []), (List.replicate bx.length []), 0, 0) ?_ ?_ ?_ ?_
                · simp
                · exact ⟨by simp [FitL, zp5.st, zq5.st, c17, hg, hm4, hfb, hbt, hrow, hw, hfl, hwk, hwx, e1, e2, ← hbk, hbx', zeros_one, hmk, hmk2, hmt, c24, hmL, hmL2, q8, hw0, zeros_one], by simp [FitL, zp5.st, zq5.st, c17, hg, hm4, hfb, hbt, hrow, hw, hfl, hwk, hwx, e1, e2, ← hbk, hbx', zeros_one, hmk, hmk2, hmt, c24, hmL, hmL2, q8, hw0, zeros_one], by simp [FitL, zp5.st, zq5.st, c17, hg, hm4, hfb, hbt, hrow, hw, hfl, hwk, hwx, e1, e2, ← hbk, hbx', zeros_one, hmk, hmk2, hmt, c24, hmL, hmL2, q8, hw0, zeros_one]⟩
                · rintro ⟨i, q1, q2, s1, s2⟩ hP2 zo23 zb23 zp23 zq23 zK23 zn23 zx23 zg23
                  try dsimp only [Ds.app, Ds.st, List.cons_append, List.nil_append] at hP2 ⊢
                  have hkl : ((List.replicate bk.length []) : Cube).length = bk.length := by first | (simp; done) | (have := hP0.kl; omega)
                  have hxl : ((List.replicate bx.length []) : Cube).length = bx.length := by first | (simp; done) | (have := hP0.xl; omega)
                  refine Sat.seqK fun zK24 zh24 zg24 => ?_
                  refine Sat.regionP hk [⟨some 75, Op.binOp BinOp.lss 3 (Operand.tmp 74) (Operand.tmp 73) 3, 4, none⟩] (by kernel_rfl) (by kernel_rfl) ?_
                  simp [-List.map_take, -List.map_drop, ← List.map_take, ← List.map_drop, Function.comp_def, zp5.st, zq5.st, c17, hg, hm4, hfb, hbt, hrow, hw, hfl, hwk, hwx, e1, e2, ← hbk, hbx', zeros_one, hmk, hmk2, hmt, c24, hmL, hmL2, q8, hw0, zp23.st, zq23.st]
                  refine zh24 _ ?_
                  refine Sat.seqK fun zK25 zh25 zg25 => ?_
                  refine Sat.cond rfl (fun c75 => ?_) (fun c75 => ?_)
                  · skip
                    try simp at c75
                    obtain ⟨m1, hm1⟩ : ∃ z, bk[i]? = some z := ⟨bk[i], List.getElem?_eq_getElem c75⟩
                    obtain ⟨m2, hm2⟩ : ∃ z, bx[i]? = some z := ⟨bx[i]'(by omega), List.getElem?_eq_getElem (by omega)⟩
                    have hi2 : i < bx.length := by omega
                    obtain ⟨a1, ha1⟩ : ∃ z, ((List.replicate bk.length []) : Cube)[i]? = some z := ⟨_, List.getElem?_eq_getElem (by omega)⟩
                    obtain ⟨a2, ha2⟩ : ∃ z, ((List.replicate bx.length []) : Cube)[i]? = some z := ⟨_, List.getElem?_eq_getElem (by omega)⟩
                    have hz1 := zapp_get (k := (List.replicate bk.length [])) hm1
                    rw [List.getD_eq_getElem?_getD, ha1] at hz1
                    have hz2 := zapp_get (k := (List.replicate bx.length [])) hm2
                    rw [List.getD_eq_getElem?_getD, ha2] at hz2
                    have g1 : q1[i]? = some a1 := by rw [hP2.2.1, get_step (by rw [zapp_len]; exact hkl.symm) (by omega)]; exact ha1
                    have g2 : q2[i]? = some a2 := by rw [hP2.2.2, get_step (by rw [zapp_len]; exact hxl.symm) (by omega)]; exact ha2
                    have g1e := (List.getElem?_eq_some_iff.1 g1).2
                    have g2e := (List.getElem?_eq_some_iff.1 g2).2
                    have gl1 := (List.getElem?_eq_some_iff.1 g1).1
                    have gl2 := (List.getElem?_eq_some_iff.1 g2).1
                    have a1l : a1.length ≤ 128 := by have := List.length_eq_zero_iff.2 (show a1 = [] from (List.eq_of_mem_replicate (List.mem_of_getElem? ha1))); omega
                    have a2l : a2.length ≤ 128 := by have := List.length_eq_zero_iff.2 (show a2 = [] from (List.eq_of_mem_replicate (List.mem_of_getElem? ha2))); omega
                    have m1l := hkm _ (List.mem_of_getElem? hm1)
                    have m2l := hxm _ (List.mem_of_getElem? hm2)
                    have hf1 : fitsL Try.prog 51 1 (a1.length + m1.length) = true := by simp [fitsL, maxL]; omega
                    have hf2 : fitsL Try.prog 51 1 (a2.length + m2.length) = true := by simp [fitsL, maxL]; omega
                    have t1 := take1 hm1
                    have t2 := take1 hm2
                    have t3 := take1 g1
                    have t4 := take1 g2
                    refine Sat.skip ?_
                    refine zh25 _ ?_
                    refine Sat.seqK fun zK26 zh26 zg26 => ?_
                    refine Sat.blockK fun zK27 zh27 zx27 zg27 => ?_
                    refine Sat.seqK fun zK28 zh28 zg28 => ?_
                    refine Sat.regionP hk [⟨some 76, Op.move (Operand.tmp 74), 3, none⟩, ⟨some 13, Op.assign (Operand.tmp 76), 3, none⟩] (by kernel_rfl) (by kernel_rfl) ?_
                    simp [-List.map_take, -List.map_drop, ← List.map_take, ← List.map_drop, Function.comp_def, zp5.st, zq5.st, c17, hg, hm4, hfb, hbt, hrow, hw, hfl, hwk, hwx, e1, e2, ← hbk, hbx', zeros_one, hmk, hmk2, hmt, c24, hmL, hmL2, q8, hw0, zp23.st, zq23.st, c75, hi2, g1, g2, g1e, g2e, gl1, gl2, hf1, hf2, t1, t2, t3, t4, List.map_set]
                    refine zh28 _ ?_
                    refine Sat.regionDP hk (by kernel_rfl) [⟨some 77, Op.fieldAddr 40 (Operand.tmp 6) 1, 0, none⟩, ⟨some 78, Op.fieldAddr 32 (Operand.tmp 77) 0, 0, none⟩, ⟨some 79, Op.load 28 (Operand.tmp 78), 28, none⟩, ⟨some 80, Op.move (Operand.tmp 13), 3, none⟩, ⟨some 81, Op.fieldAddr 40 (Operand.tmp 6) 1, 0, none⟩, ⟨some 82, Op.fieldAddr 32 (Operand.tmp 81) 1, 0, none⟩, ⟨some 83, Op.load 28 (Operand.tmp 82), 28, none⟩, ⟨some 84, Op.move (Operand.tmp 13), 3, none⟩, ⟨some 85, Op.fieldAddr 40 (Operand.tmp 6) 1, 0, none⟩, ⟨some 86, Op.fieldAddr 32 (Operand.tmp 85) 0, 0, none⟩, ⟨some 87, Op.load 28 (Operand.tmp 86), 28, none⟩, ⟨some 88, Op.move (Operand.tmp 13), 3, none⟩, ⟨some 89, Op.indexAddr 28 (Operand.tmp 87) (Operand.tmp 88), 0, none⟩, ⟨some 90, Op.load 79 (Operand.tmp 89), 79, none⟩, ⟨some 91, Op.move (Operand.tmp 11), 28, none⟩, ⟨some 92, Op.move (Operand.tmp 13), 3, none⟩, ⟨some 93, Op.indexAddr 28 (Operand.tmp 91) (Operand.tmp 92), 0, none⟩, ⟨some 94, Op.load 79 (Operand.tmp 93), 79, none⟩, ⟨some 95, Op.call { callee := Callee.builtin Builtin.append, args := #[Operand.tmp 90, Operand.tmp 94], argTypes := #[79, 79] }, 79, none⟩, ⟨some 96, Op.fieldAddr 40 (Operand.tmp 6) 1, 0, none⟩, ⟨some 97, Op.fieldAddr 32 (Operand.tmp 96) 1, 0, none⟩, ⟨some 98, Op.load 28 (Operand.tmp 97), 28, none⟩, ⟨some 99, Op.move (Operand.tmp 13), 3, none⟩, ⟨some 100, Op.indexAddr 28 (Operand.tmp 98) (Operand.tmp 99), 0, none⟩, ⟨some 101, Op.load 79 (Operand.tmp 100), 79, none⟩, ⟨some 102, Op.move (Operand.tmp 12), 28, none⟩, ⟨some 103, Op.move (Operand.tmp 13), 3, none⟩, ⟨some 104, Op.indexAddr 28 (Operand.tmp 102) (Operand.tmp 103), 0, none⟩, ⟨some 105, Op.load 79 (Operand.tmp 104), 79, none⟩, ⟨some 106, Op.call { callee := Callee.builtin Builtin.append, args := #[Operand.tmp 101, Operand.tmp 105], argTypes := #[79, 79] }, 79, none⟩, ⟨some 107, Op.indexAddr 28 (Operand.tmp 79) (Operand.tmp 80), 0, none⟩, ⟨none, Op.store 79 (Operand.tmp 107) (Operand.tmp 95), 0, none⟩, ⟨some 108, Op.indexAddr 28 (Operand.tmp 83) (Operand.tmp 84), 0, none⟩, ⟨none, Op.store 79 (Operand.tmp 108) (Operand.tmp 106), 0, none⟩] (by kernel_rfl) (by kernel_rfl) (by decide +kernel) (fun an han => ?_)
                    simp [-List.map_take, -List.map_drop, ← List.map_take, ← List.map_drop, Function.comp_def, zp5.st, zq5.st, c17, hg, hm4, hfb, hbt, hrow, hw, hfl, hwk, hwx, e1, e2, ← hbk, hbx', zeros_one, hmk, hmk2, hmt, c24, hmL, hmL2, q8, hw0, zp23.st, zq23.st, c75, hi2, g1, g2, g1e, g2e, gl1, gl2, hf1, hf2, t1, t2, t3, t4, List.map_set]
                    refine ⟨by subst han; kernel_rfl, ?_⟩
                    refine zh27 _ ?_
                    refine zh26 _ ?_
                    refine Sat.regionP hk [⟨some 109, Op.binOp BinOp.add 3 (Operand.tmp 74) (Operand.const (Value.int IntKind.i64 1)) 3, 3, none⟩, ⟨some 74, Op.move (Operand.tmp 109), 3, none⟩] (by kernel_rfl) (by kernel_rfl) ?_
                    simp [-List.map_take, -List.map_drop, ← List.map_take, ← List.map_drop, Function.comp_def, zp5.st, zq5.st, c17, hg, hm4, hfb, hbt, hrow, hw, hfl, hwk, hwx, e1, e2, ← hbk, hbx', zeros_one, hmk, hmk2, hmt, c24, hmL, hmL2, q8, hw0, zp23.st, zq23.st, c75, hi2, g1, g2, g1e, g2e, gl1, gl2, hf1, hf2, t1, t2, t3, t4, List.map_set]
                    refine zn23 (i + 1, q1.set i (a1 ++ m1), q2.set i (a2 ++ m2), s1 + 1 + 1, s2 + 1 + 1) _ ?_ ?_ ?_ ?_
                    · exact ⟨by omega, by rw [hP2.2.1]; exact set_step hz1 (by rw [zapp_len]; exact hkl.symm), by rw [hP2.2.2]; exact set_step hz2 (by rw [zapp_len]; exact hxl.symm)⟩
                    · first | omega | (dsimp only; omega)
                    · exact ⟨by simp [-List.map_take, -List.map_drop, ← List.map_take, ← List.map_drop, Function.comp_def, FitL, zp5.st, zq5.st, c17, hg, hm4, hfb, hbt, hrow, hw, hfl, hwk, hwx, e1, e2, ← hbk, hbx', zeros_one, hmk, hmk2, hmt, c24, hmL, hmL2, q8, hw0, zp23.st, zq23.st, c75, hi2, g1, g2, g1e, g2e, gl1, gl2, hf1, hf2, t1, t2, t3, t4, List.map_set, w64s i (by omega), List.map_set, eM, List.map_append], by simp [-List.map_take, -List.map_drop, ← List.map_take, ← List.map_drop, Function.comp_def, FitL, zp5.st, zq5.st, c17, hg, hm4, hfb, hbt, hrow, hw, hfl, hwk, hwx, e1, e2, ← hbk, hbx', zeros_one, hmk, hmk2, hmt, c24, hmL, hmL2, q8, hw0, zp23.st, zq23.st, c75, hi2, g1, g2, g1e, g2e, gl1, gl2, hf1, hf2, t1, t2, t3, t4, List.map_set, w64s i (by omega), List.map_set, eM, List.map_append], by simp [-List.map_take, -List.map_drop, ← List.map_take, ← List.map_drop, Function.comp_def, FitL, zp5.st, zq5.st, c17, hg, hm4, hfb, hbt, hrow, hw, hfl, hwk, hwx, e1, e2, ← hbk, hbx', zeros_one, hmk, hmk2, hmt, c24, hmL, hmL2, q8, hw0, zp23.st, zq23.st, c75, hi2, g1, g2, g1e, g2e, gl1, gl2, hf1, hf2, t1, t2, t3, t4, List.map_set, w64s i (by omega), List.map_set, eM, List.map_append]⟩
                    · exact ⟨by simp [-List.map_take, -List.map_drop, ← List.map_take, ← List.map_drop, Function.comp_def, FitL, zp5.st, zq5.st, c17, hg, hm4, hfb, hbt, hrow, hw, hfl, hwk, hwx, e1, e2, ← hbk, hbx', zeros_one, hmk, hmk2, hmt, c24, hmL, hmL2, q8, hw0, zp23.st, zq23.st, c75, hi2, g1, g2, g1e, g2e, gl1, gl2, hf1, hf2, t1, t2, t3, t4, List.map_set, w64s i (by omega), List.map_set, eM, List.map_append], by simp [-List.map_take, -List.map_drop, ← List.map_take, ← List.map_drop, Function.comp_def, FitL, zp5.st, zq5.st, c17, hg, hm4, hfb, hbt, hrow, hw, hfl, hwk, hwx, e1, e2, ← hbk, hbx', zeros_one, hmk, hmk2, hmt, c24, hmL, hmL2, q8, hw0, zp23.st, zq23.st, c75, hi2, g1, g2, g1e, g2e, gl1, gl2, hf1, hf2, t1, t2, t3, t4, List.map_set, w64s i (by omega), List.map_set, eM, List.map_append], by simp [-List.map_take, -List.map_drop, ← List.map_take, ← List.map_drop, Function.comp_def, FitL, zp5.st, zq5.st, c17, hg, hm4, hfb, hbt, hrow, hw, hfl, hwk, hwx, e1, e2, ← hbk, hbx', zeros_one, hmk, hmk2, hmt, c24, hmL, hmL2, q8, hw0, zp23.st, zq23.st, c75, hi2, g1, g2, g1e, g2e, gl1, gl2, hf1, hf2, t1, t2, t3, t4, List.map_set, w64s i (by omega), List.map_set, eM, List.map_append]⟩
                  · skip
                    try simp at c75
                    refine Sat.exit ?_
                    refine zg25 _ _ (by simp) ?_
                    refine zx23 ⟨i, q1, q2, s1, s2⟩ _ ?_ ?_ ?_
                    · have e1 : i = bk.length := by omega
                      subst e1
                      exact ⟨by rw [hP2.2.1, List.take_of_length_le (by rw [zapp_len]; exact Nat.le_refl _), List.drop_of_length_le (by omega), List.append_nil], by rw [hP2.2.2, List.take_of_length_le (by rw [zapp_len]; omega), List.drop_of_length_le (by omega), List.append_nil]⟩
                    · exact ⟨by simp [-List.map_take, -List.map_drop, ← List.map_take, ← List.map_drop, Function.comp_def, FitL, zp5.st, zq5.st, c17, hg, hm4, hfb, hbt, hrow, hw, hfl, hwk, hwx, e1, e2, ← hbk, hbx', zeros_one, hmk, hmk2, hmt, c24, hmL, hmL2, q8, hw0, zp23.st, zq23.st], by simp [-List.map_take, -List.map_drop, ← List.map_take, ← List.map_drop, Function.comp_def, FitL, zp5.st, zq5.st, c17, hg, hm4, hfb, hbt, hrow, hw, hfl, hwk, hwx, e1, e2, ← hbk, hbx', zeros_one, hmk, hmk2, hmt, c24, hmL, hmL2, q8, hw0, zp23.st, zq23.st], by simp [-List.map_take, -List.map_drop, ← List.map_take, ← List.map_drop, Function.comp_def, FitL, zp5.st, zq5.st, c17, hg, hm4, hfb, hbt, hrow, hw, hfl, hwk, hwx, e1, e2, ← hbk, hbx', zeros_one, hmk, hmk2, hmt, c24, hmL, hmL2, q8, hw0, zp23.st, zq23.st]⟩
                    · exact ⟨by simp [-List.map_take, -List.map_drop, ← List.map_take, ← List.map_drop, Function.comp_def, FitL, zp5.st, zq5.st, c17, hg, hm4, hfb, hbt, hrow, hw, hfl, hwk, hwx, e1, e2, ← hbk, hbx', zeros_one, hmk, hmk2, hmt, c24, hmL, hmL2, q8, hw0, zp23.st, zq23.st], by simp [-List.map_take, -List.map_drop, ← List.map_take, ← List.map_drop, Function.comp_def, FitL, zp5.st, zq5.st, c17, hg, hm4, hfb, hbt, hrow, hw, hfl, hwk, hwx, e1, e2, ← hbk, hbx', zeros_one, hmk, hmk2, hmt, c24, hmL, hmL2, q8, hw0, zp23.st, zq23.st], by simp [-List.map_take, -List.map_drop, ← List.map_take, ← List.map_drop, Function.comp_def, FitL, zp5.st, zq5.st, c17, hg, hm4, hfb, hbt, hrow, hw, hfl, hwk, hwx, e1, e2, ← hbk, hbx', zeros_one, hmk, hmk2, hmt, c24, hmL, hmL2, q8, hw0, zp23.st, zq23.st]⟩
                · rintro ⟨i, q1, q2, s1, s2⟩ hR2 zo23 zb23 zp23 zq23
                  try dsimp only [Ds.app, Ds.st, List.cons_append, List.nil_append] at hR2 ⊢
                  obtain ⟨rfl, rfl⟩ := hR2
                  refine Sat.regionP hk [⟨some 110, Op.fieldAddr 34 (Operand.tmp 8) 0, 0, none⟩, ⟨some 111, Op.load 27 (Operand.tmp 110), 27, none⟩, ⟨some 112, Op.call { callee := Callee.value (Operand.func 62), args := #[Operand.tmp 111], argTypes := #[27] }, 27, none⟩, ⟨some 113, Op.fieldAddr 40 (Operand.tmp 6) 0, 0, none⟩, ⟨none, Op.store 27 (Operand.tmp 113) (Operand.tmp 112), 0, none⟩] (by kernel_rfl) (by kernel_rfl) ?_
                  simp [-List.map_take, -List.map_drop, ← List.map_take, ← List.map_drop, Function.comp_def, zp5.st, zq5.st, c17, hg, hm4, hfb, hbt, hrow, hw, hfl, hwk, hwx, e1, e2, ← hbk, hbx', zeros_one, hmk, hmk2, hmt, c24, hmL, hmL2, q8, hw0, zp23.st, zq23.st]
                  refine zh9 _ ?_
                  refine zh8 _ ?_
                  refine Sat.regionP hk [⟨some 114, Op.binOp BinOp.add 3 (Operand.tmp 16) (Operand.const (Value.int IntKind.i64 1)) 3, 3, none⟩, ⟨some 16, Op.move (Operand.tmp 114), 3, none⟩] (by kernel_rfl) (by kernel_rfl) ?_
                  simp [-List.map_take, -List.map_drop, ← List.map_take, ← List.map_drop, Function.comp_def, zp5.st, zq5.st, c17, hg, hm4, hfb, hbt, hrow, hw, hfl, hwk, hwx, e1, e2, ← hbk, hbx', zeros_one, hmk, hmk2, hmt, c24, hmL, hmL2, q8, hw0, zp23.st, zq23.st]
                  refine zn5 (some ⟨0 + 1, bt, zapp (List.replicate bk.length []) bk, zapp (List.replicate bx.length []) bx, (zo23 7168).v + 1, (zo5 3200).v + 1, s1, (zo5 3392).v + 1, s2⟩) _ ?_ ?_ ?_ ?_
                  · exact Joined.next hb c24 hnd hn1 ht128 hbk hbx hkm hxm (t := []) (fun m h => by rw [List.eq_of_mem_replicate h]; rfl) (fun m h => by rw [List.eq_of_mem_replicate h]; rfl) (by simp) (by simp) (by simp; omega) (by rw [q8]; rfl) zapp_rep zapp_rep rfl
                  · first | omega | (dsimp only; omega)
                  · exact ⟨by simp [-List.map_take, -List.map_drop, ← List.map_take, ← List.map_drop, Function.comp_def, FitL, zp5.st, zq5.st, c17, hg, hm4, hfb, hbt, hrow, hw, hfl, hwk, hwx, e1, e2, ← hbk, hbx', zeros_one, hmk, hmk2, hmt, c24, hmL, hmL2, q8, hw0, zp23.st, zq23.st, w64_id 1 (by decide) (by decide)], by simp [-List.map_take, -List.map_drop, ← List.map_take, ← List.map_drop, Function.comp_def, FitL, zp5.st, zq5.st, c17, hg, hm4, hfb, hbt, hrow, hw, hfl, hwk, hwx, e1, e2, ← hbk, hbx', zeros_one, hmk, hmk2, hmt, c24, hmL, hmL2, q8, hw0, zp23.st, zq23.st, w64_id 1 (by decide) (by decide)], by simp [-List.map_take, -List.map_drop, ← List.map_take, ← List.map_drop, Function.comp_def, FitL, zp5.st, zq5.st, c17, hg, hm4, hfb, hbt, hrow, hw, hfl, hwk, hwx, e1, e2, ← hbk, hbx', zeros_one, hmk, hmk2, hmt, c24, hmL, hmL2, q8, hw0, zp23.st, zq23.st, w64_id 1 (by decide) (by decide)]⟩
                  · exact ⟨by simp [-List.map_take, -List.map_drop, ← List.map_take, ← List.map_drop, Function.comp_def, FitL, zp5.st, zq5.st, c17, hg, hm4, hfb, hbt, hrow, hw, hfl, hwk, hwx, e1, e2, ← hbk, hbx', zeros_one, hmk, hmk2, hmt, c24, hmL, hmL2, q8, hw0, zp23.st, zq23.st, w64_id 1 (by decide) (by decide)], by simp [-List.map_take, -List.map_drop, ← List.map_take, ← List.map_drop, Function.comp_def, FitL, zp5.st, zq5.st, c17, hg, hm4, hfb, hbt, hrow, hw, hfl, hwk, hwx, e1, e2, ← hbk, hbx', zeros_one, hmk, hmk2, hmt, c24, hmL, hmL2, q8, hw0, zp23.st, zq23.st, w64_id 1 (by decide) (by decide)], by simp [-List.map_take, -List.map_drop, ← List.map_take, ← List.map_drop, Function.comp_def, FitL, zp5.st, zq5.st, c17, hg, hm4, hfb, hbt, hrow, hw, hfl, hwk, hwx, e1, e2, ← hbk, hbx', zeros_one, hmk, hmk2, hmt, c24, hmL, hmL2, q8, hw0, zp23.st, zq23.st, w64_id 1 (by decide) (by decide)]⟩
              · exfalso; simp [zp5.st, zq5.st, c17, hg, hm4, hfb, hbt, hrow, hw, hfl, hwk, hwx, e1, e2, ← hbk, hbx', zeros_one, hmk, hmk2, hmt, c24, hmL, hmL2, q8, hw0] at c47
          · skip
            refine Sat.regionDP hk (by kernel_rfl) [⟨some 27, Op.fieldAddr 34 (Operand.tmp 8) 1, 0, none⟩, ⟨some 28, Op.load 3 (Operand.tmp 27), 3, none⟩, ⟨some 29, Op.fieldAddr 40 (Operand.tmp 6) 0, 0, none⟩, ⟨some 30, Op.load 27 (Operand.tmp 29), 27, none⟩, ⟨some 31, Op.call { callee := Callee.builtin Builtin.len, args := #[Operand.tmp 30], argTypes := #[27] }, 3, none⟩, ⟨some 32, Op.binOp BinOp.neq 3 (Operand.tmp 28) (Operand.tmp 31) 3, 4, none⟩, ⟨some 33, Op.move (Operand.tmp 32), 4, none⟩, ⟨some 34, Op.fieldAddr 34 (Operand.tmp 8) 0, 0, some (33, false)⟩, ⟨some 35, Op.load 27 (Operand.tmp 34), 27, some (33, false)⟩, ⟨some 36, Op.fieldAddr 34 (Operand.tmp 8) 1, 0, some (33, false)⟩, ⟨some 37, Op.load 3 (Operand.tmp 36), 3, some (33, false)⟩, ⟨some 38, Op.slice 27 (Operand.tmp 35) none (some (Operand.tmp 37)) none, 27, some (33, false)⟩, ⟨some 39, Op.fieldAddr 40 (Operand.tmp 6) 0, 0, some (33, false)⟩, ⟨some 40, Op.load 27 (Operand.tmp 39), 27, some (33, false)⟩, ⟨some 41, Op.call { callee := Callee.value (Operand.func 60), args := #[Operand.tmp 38, Operand.tmp 40], argTypes := #[27, 27] }, 4, some (33, false)⟩, ⟨some 42, Op.unOp UnOp.not 4 (Operand.tmp 41), 4, some (33, false)⟩, ⟨some 43, Op.pick (Operand.tmp 33) (Operand.const (Value.bool true)) (Operand.tmp 42), 4, none⟩] (by kernel_rfl) (by kernel_rfl) (by decide +kernel) (fun an han => ?_)
            simp [-List.map_take, -List.map_drop, ← List.map_take, ← List.map_drop, Function.comp_def, zp5.st, zq5.st, c17, hg, hm4, hfb, hbt, hrow, hw, hfl, hwk, hwx, e1, e2, ← hbk, hbx', zeros_one, hmk, hmk2, hmt, c24, hmL, hmL2, q8]
            refine ⟨by subst han; kernel_rfl, ?_⟩
            refine zh16 _ ?_
            refine Sat.cond rfl (fun c43 => ?_) (fun c43 => ?_)
            · skip
              try simp at c43
              have hj := join_none hb (show _ = joinGo c [] [] [] (l.drop 0) from rfl) c24 (by intro e; have := e.1; simp at this; omega)
              refine Sat.seqK fun zK29 zh29 zg29 => ?_
              refine Sat.regionP hk [⟨some 44, Op.build 40 #[], 40, none⟩, ⟨none, Op.store 40 (Operand.tmp 4) (Operand.tmp 44), 0, none⟩, ⟨some 5, Op.assign (Operand.const (Value.int IntKind.i64 8)), 36, none⟩] (by kernel_rfl) (by kernel_rfl) ?_
              simp [-List.map_take, -List.map_drop, ← List.map_take, ← List.map_drop, Function.comp_def, zp5.st, zq5.st, c17, hg, hm4, hfb, hbt, hrow, hw, hfl, hwk, hwx, e1, e2, ← hbk, hbx', zeros_one, hmk, hmk2, hmt, c24, hmL, hmL2, q8, hj, joinOut, joinSh]
              refine zh29 _ ?_
              refine Sat.ret ?_
              refine zg15 _ _ (by simp) ?_
              refine zg9 _ _ (by simp) (by simp) ?_
              refine zg8 _ _ (by simp) ?_
              refine zg5 _ _ (by simp) (by simp) ?_
              refine zg3 _ _ (by simp) ?_
              simp [-List.map_take, -List.map_drop, ← List.map_take, ← List.map_drop, Function.comp_def, zp5.st, zq5.st, c17, hg, hm4, hfb, hbt, hrow, hw, hfl, hwk, hwx, e1, e2, ← hbk, hbx', zeros_one, hmk, hmk2, hmt, c24, hmL, hmL2, q8, hj, joinOut, joinSh]
            · exfalso; simp [zp5.st, zq5.st, c17, hg, hm4, hfb, hbt, hrow, hw, hfl, hwk, hwx, e1, e2, ← hbk, hbx', zeros_one, hmk, hmk2, hmt, c24, hmL, hmL2, q8] at c43
      · skip
        try simp at c17
        refine Sat.exit ?_
        refine zg7 _ _ (by simp) ?_
        refine zx5 none _ ?_ ?_ ?_
        · simpa using c17
        · exact ⟨by simp [-List.map_take, -List.map_drop, ← List.map_take, ← List.map_drop, Function.comp_def, FitL, zp5.st, zq5.st], by simp [-List.map_take, -List.map_drop, ← List.map_take, ← List.map_drop, Function.comp_def, FitL, zp5.st, zq5.st], by simp [-List.map_take, -List.map_drop, ← List.map_take, ← List.map_drop, Function.comp_def, FitL, zp5.st, zq5.st]⟩
        · exact ⟨by simp [-List.map_take, -List.map_drop, ← List.map_take, ← List.map_drop, Function.comp_def, FitL, zp5.st, zq5.st], by simp [-List.map_take, -List.map_drop, ← List.map_take, ← List.map_drop, Function.comp_def, FitL, zp5.st, zq5.st], by simp [-List.map_take, -List.map_drop, ← List.map_take, ← List.map_drop, Function.comp_def, FitL, zp5.st, zq5.st]⟩
    · skip
      try dsimp only [Ds.app, Ds.st, List.cons_append, List.nil_append] at hP0 ⊢
      have hj1 := hP0.j1
      have ht1 := hP0.t1
      have ht2 := hP0.t2
      refine Sat.seqK fun zK30 zh30 zg30 => ?_
      refine Sat.regionP hk [⟨some 17, Op.binOp BinOp.lss 3 (Operand.tmp 16) (Operand.tmp 15) 3, 0, none⟩] (by kernel_rfl) (by kernel_rfl) ?_
      simp [-List.map_take, -List.map_drop, ← List.map_take, ← List.map_drop, Function.comp_def, zp5.st, zq5.st]
      refine zh30 _ ?_
      refine Sat.seqK fun zK31 zh31 zg31 => ?_
      refine Sat.cond rfl (fun c17 => ?_) (fun c17 => ?_)
      · skip
        try simp at c17
        obtain ⟨b, hb⟩ : ∃ z, l[j]? = some z := ⟨l[j], List.getElem?_eq_getElem c17⟩
        obtain ⟨bt, bf, bk, bx⟩ := b
        have hfb := hn.2 _ (List.mem_of_getElem? hb)
        have hg := flat_get tBlk true l _ _ hb
        simp at hg
        have hm4 : min 4 (l.length * 4 - j * 4) = 4 := by omega
        have hbt : bt.length < 1099511627776 := hfb.1
        have hrow : okRow bt := hfb.1
        refine Sat.skip ?_
        refine zh31 _ ?_
        refine Sat.seqK fun zK32 zh32 zg32 => ?_
        refine Sat.blockK fun zK33 zh33 zx33 zg33 => ?_
        refine Sat.seqK fun zK34 zh34 zg34 => ?_
        refine Sat.regionP hk [⟨some 18, Op.indexAddr 24 (Operand.tmp 14) (Operand.tmp 16), 0, none⟩, ⟨some 19, Op.load 34 (Operand.tmp 18), 34, none⟩, ⟨some 8, Op.alloc 34, 0, none⟩, ⟨none, Op.store 34 (Operand.tmp 8) (Operand.tmp 19), 0, none⟩] (by kernel_rfl) (by kernel_rfl) ?_
        simp [-List.map_take, -List.map_drop, ← List.map_take, ← List.map_drop, Function.comp_def, zp5.st, zq5.st, c17, hg, hm4, hfb, hbt, hrow]
        refine zh34 _ ?_
        refine Sat.seqK fun zK35 zh35 zg35 => ?_
        refine Sat.seqK fun zK36 zh36 zg36 => ?_
        refine Sat.regionP hk [⟨some 20, Op.load 23 (Operand.tmp 2), 23, none⟩, ⟨some 21, Op.load 34 (Operand.tmp 8), 34, none⟩, ⟨some 22, Op.call { callee := Callee.value (Operand.func 17), args := #[Operand.tmp 20, Operand.tmp 21], argTypes := #[23, 34] }, 36, none⟩, ⟨some 9, Op.assign (Operand.tmp 22), 36, none⟩] (by kernel_rfl) (by kernel_rfl) ?_
        simp [-List.map_take, -List.map_drop, ← List.map_take, ← List.map_drop, Function.comp_def, zp5.st, zq5.st, c17, hg, hm4, hfb, hbt, hrow]
        refine zh36 _ ?_
        refine Sat.seqK fun zK37 zh37 zg37 => ?_
        refine Sat.regionP hk [⟨some 23, Op.move (Operand.tmp 9), 36, none⟩, ⟨some 24, Op.binOp BinOp.neq 36 (Operand.tmp 23) (Operand.const (Value.int IntKind.i64 0)) 36, 4, none⟩] (by kernel_rfl) (by kernel_rfl) ?_
        simp [-List.map_take, -List.map_drop, ← List.map_take, ← List.map_drop, Function.comp_def, zp5.st, zq5.st, c17, hg, hm4, hfb, hbt, hrow]
        refine zh37 _ ?_
        refine Sat.cond rfl (fun c24 => ?_) (fun c24 => ?_)
        · skip
          try simp at c24
          have hj := join_bad hb (hP0.go) c24
          refine Sat.seqK fun zK38 zh38 zg38 => ?_
          refine Sat.regionP hk [⟨some 25, Op.build 40 #[], 40, none⟩, ⟨some 26, Op.move (Operand.tmp 9), 36, none⟩, ⟨none, Op.store 40 (Operand.tmp 4) (Operand.tmp 25), 0, none⟩, ⟨some 5, Op.assign (Operand.tmp 26), 36, none⟩] (by kernel_rfl) (by kernel_rfl) ?_
          simp [-List.map_take, -List.map_drop, ← List.map_take, ← List.map_drop, Function.comp_def, zp5.st, zq5.st, c17, hg, hm4, hfb, hbt, hrow, hj, joinOut, joinSh, c24]
          refine zh38 _ ?_
          refine Sat.ret ?_
          refine zg35 _ _ (by simp) ?_
          refine zg33 _ _ (by simp) (by simp) ?_
          refine zg32 _ _ (by simp) ?_
          refine zg5 _ _ (by simp) (by simp) ?_
          refine zg3 _ _ (by simp) ?_
          simp [-List.map_take, -List.map_drop, ← List.map_take, ← List.map_drop, Function.comp_def, zp5.st, zq5.st, c17, hg, hm4, hfb, hbt, hrow, hj, joinOut, joinSh, c24]
        · skip
          try simp at c24
          obtain ⟨n, hnd, hf0, hn1, hn16, ht128, hbk, hbx, hkm, hxm⟩ := chk_ok c24
          have hw : IntKind.i64.wrap ((bt.length : Int) - bf) = (n : Int) := by rw [w64_id _ (by omega) (by omega)]; exact hnd.symm
          obtain ⟨fn, rfl⟩ := Int.eq_ofNat_of_zero_le hf0
          have hfl : fn ≤ bt.length := by omega
          have hwk : winOK n bk := ⟨hfb.2.2.1, fun m h => by rw [hkm m h]; exact Nat.le_refl _⟩
          have hwx : winOK n bx := ⟨hfb.2.2.2, fun m h => by rw [hxm m h]; exact Nat.le_refl _⟩
          have e1 := win_all hkm
          have e2 := win_all hxm
          have hkk : bk.length < 1099511627776 := hfb.2.2.1.1
          have hxx : bx.length < 1099511627776 := hfb.2.2.2.1
          have hbx' : bx.length = bk.length := by omega
          have hmk : (bk.length : Int) ≤ 140737488355328 := by omega
          have hmk2 : (bk.length : Int) * 24 ≤ 140737488355328 := by omega
          have hmt : min fn bt.length < 1099511627776 := by omega
          have hmL : bk.length ≤ maxL := by simp [maxL]; omega
          have hmL2 : (bk.length : Int) * 24 ≤ (maxL : Int) := by simp [maxL]; omega
          refine Sat.skip ?_
          refine zh35 _ ?_
          refine Sat.seqK fun zK39 zh39 zg39 => ?_
          refine Sat.seqK fun zK40 zh40 zg40 => ?_
          by_cases q8 : fn = t.length
          · skip
            have q8i : (fn : Int) = (t.length : Int) := by omega
            have hfl2 : t.length ≤ bt.length := by omega
            have ht40 : t.length < 1099511627776 := by omega
            have hw0 : IntKind.i64.wrap ((bt.length : Int) - (t.length : Int)) = (n : Int) := by rw [w64_id _ (by omega) (by omega)]; omega
            refine Sat.regionDP hk (by kernel_rfl) [⟨some 27, Op.fieldAddr 34 (Operand.tmp 8) 1, 0, none⟩, ⟨some 28, Op.load 3 (Operand.tmp 27), 3, none⟩, ⟨some 29, Op.fieldAddr 40 (Operand.tmp 6) 0, 0, none⟩, ⟨some 30, Op.load 27 (Operand.tmp 29), 27, none⟩, ⟨some 31, Op.call { callee := Callee.builtin Builtin.len, args := #[Operand.tmp 30], argTypes := #[27] }, 3, none⟩, ⟨some 32, Op.binOp BinOp.neq 3 (Operand.tmp 28) (Operand.tmp 31) 3, 4, none⟩, ⟨some 33, Op.move (Operand.tmp 32), 4, none⟩, ⟨some 34, Op.fieldAddr 34 (Operand.tmp 8) 0, 0, some (33, false)⟩, ⟨some 35, Op.load 27 (Operand.tmp 34), 27, some (33, false)⟩, ⟨some 36, Op.fieldAddr 34 (Operand.tmp 8) 1, 0, some (33, false)⟩, ⟨some 37, Op.load 3 (Operand.tmp 36), 3, some (33, false)⟩, ⟨some 38, Op.slice 27 (Operand.tmp 35) none (some (Operand.tmp 37)) none, 27, some (33, false)⟩, ⟨some 39, Op.fieldAddr 40 (Operand.tmp 6) 0, 0, some (33, false)⟩, ⟨some 40, Op.load 27 (Operand.tmp 39), 27, some (33, false)⟩, ⟨some 41, Op.call { callee := Callee.value (Operand.func 60), args := #[Operand.tmp 38, Operand.tmp 40], argTypes := #[27, 27] }, 4, some (33, false)⟩, ⟨some 42, Op.unOp UnOp.not 4 (Operand.tmp 41), 4, some (33, false)⟩, ⟨some 43, Op.pick (Operand.tmp 33) (Operand.const (Value.bool true)) (Operand.tmp 42), 4, none⟩] (by kernel_rfl) (by kernel_rfl) (by decide +kernel) (fun an han => ?_)
            simp [-List.map_take, -List.map_drop, ← List.map_take, ← List.map_drop, Function.comp_def, zp5.st, zq5.st, c17, hg, hm4, hfb, hbt, hrow, hw, hfl, hwk, hwx, e1, e2, ← hbk, hbx', zeros_one, hmk, hmk2, hmt, c24, hmL, hmL2, q8, q8i, hfl2, ht40, hw0]
            refine ⟨by subst han; kernel_rfl, ?_⟩
            refine zh40 _ ?_
            refine Sat.cond rfl (fun c43 => ?_) (fun c43 => ?_)
            · skip
              try simp at c43
              have hj := join_none hb (hP0.go) c24 (by intro e; exact c43 (by have := e.2; simp [q8] at this; exact this))
              refine Sat.seqK fun zK41 zh41 zg41 => ?_
              refine Sat.regionP hk [⟨some 44, Op.build 40 #[], 40, none⟩, ⟨none, Op.store 40 (Operand.tmp 4) (Operand.tmp 44), 0, none⟩, ⟨some 5, Op.assign (Operand.const (Value.int IntKind.i64 8)), 36, none⟩] (by kernel_rfl) (by kernel_rfl) ?_
              simp [-List.map_take, -List.map_drop, ← List.map_take, ← List.map_drop, Function.comp_def, zp5.st, zq5.st, c17, hg, hm4, hfb, hbt, hrow, hw, hfl, hwk, hwx, e1, e2, ← hbk, hbx', zeros_one, hmk, hmk2, hmt, c24, hmL, hmL2, q8, q8i, hfl2, ht40, hw0, hj, joinOut, joinSh]
              refine zh41 _ ?_
              refine Sat.ret ?_
              refine zg39 _ _ (by simp) ?_
              refine zg33 _ _ (by simp) (by simp) ?_
              refine zg32 _ _ (by simp) ?_
              refine zg5 _ _ (by simp) (by simp) ?_
              refine zg3 _ _ (by simp) ?_
              simp [-List.map_take, -List.map_drop, ← List.map_take, ← List.map_drop, Function.comp_def, zp5.st, zq5.st, c17, hg, hm4, hfb, hbt, hrow, hw, hfl, hwk, hwx, e1, e2, ← hbk, hbx', zeros_one, hmk, hmk2, hmt, c24, hmL, hmL2, q8, q8i, hfl2, ht40, hw0, hj, joinOut, joinSh]
            · skip
              try simp at c43
              refine Sat.skip ?_
              refine zh39 _ ?_
              refine Sat.seqK fun zK42 zh42 zg42 => ?_
              refine Sat.seqK fun zK43 zh43 zg43 => ?_
              obtain ⟨a, t', ht'⟩ : ∃ a t', t = a :: t' := by
                rcases t with _ | ⟨a, t'⟩
                · simp at ht1
                · exact ⟨a, t', rfl⟩
              have hmc : (t.map fun x => D.lit (.int .i64 x)) = .lit (.int .i64 a) :: (t'.map fun x => .lit (.int .i64 x)) := by rw [ht']; rfl
              refine Sat.regionP hk [⟨some 45, Op.fieldAddr 40 (Operand.tmp 6) 0, 0, none⟩, ⟨some 46, Op.load 27 (Operand.tmp 45), 27, none⟩, ⟨some 47, Op.binOp BinOp.eql 27 (Operand.tmp 46) (Operand.const (Value.slice none 0 0)) 27, 4, none⟩] (by kernel_rfl) (by kernel_rfl) ?_
              simp [-List.map_take, -List.map_drop, ← List.map_take, ← List.map_drop, Function.comp_def, zp5.st, zq5.st, c17, hg, hm4, hfb, hbt, hrow, hw, hfl, hwk, hwx, e1, e2, ← hbk, hbx', zeros_one, hmk, hmk2, hmt, c24, hmL, hmL2, q8, q8i, hfl2, ht40, hw0, hmc]
              refine zh43 _ ?_
              refine Sat.cond rfl (fun c47 => ?_) (fun c47 => ?_)
              · exfalso; simp [zp5.st, zq5.st, c17, hg, hm4, hfb, hbt, hrow, hw, hfl, hwk, hwx, e1, e2, ← hbk, hbx', zeros_one, hmk, hmk2, hmt, c24, hmL, hmL2, q8, q8i, hfl2, ht40, hw0, hmc] at c47
              · skip
                try simp at c47
                refine Sat.skip ?_
                refine zh42 _ ?_
                refine Sat.seqK fun zK44 zh44 zg44 => ?_
                refine Sat.regionP hk [⟨some 56, Op.fieldAddr 34 (Operand.tmp 8) 0, 0, none⟩, ⟨some 57, Op.load 27 (Operand.tmp 56), 27, none⟩, ⟨some 58, Op.call { callee := Callee.builtin Builtin.len, args := #[Operand.tmp 57], argTypes := #[27] }, 3, none⟩, ⟨some 59, Op.fieldAddr 34 (Operand.tmp 8) 1, 0, none⟩, ⟨some 60, Op.load 3 (Operand.tmp 59), 3, none⟩, ⟨some 61, Op.binOp BinOp.sub 3 (Operand.tmp 58) (Operand.tmp 60) 3, 3, none⟩, ⟨some 10, Op.assign (Operand.tmp 61), 3, none⟩] (by kernel_rfl) (by kernel_rfl) ?_
                simp [-List.map_take, -List.map_drop, ← List.map_take, ← List.map_drop, Function.comp_def, zp5.st, zq5.st, c17, hg, hm4, hfb, hbt, hrow, hw, hfl, hwk, hwx, e1, e2, ← hbk, hbx', zeros_one, hmk, hmk2, hmt, c24, hmL, hmL2, q8, q8i, hfl2, ht40, hw0]
                refine zh44 _ ?_
                refine Sat.seqK fun zK45 zh45 zg45 => ?_
                refine Sat.regionDP hk (by kernel_rfl) [⟨some 62, Op.fieldAddr 34 (Operand.tmp 8) 2, 0, none⟩, ⟨some 63, Op.fieldAddr 32 (Operand.tmp 62) 0, 0, none⟩, ⟨some 64, Op.load 28 (Operand.tmp 63), 28, none⟩, ⟨some 65, Op.move (Operand.tmp 10), 3, none⟩, ⟨some 66, Op.call { callee := Callee.value (Operand.func 61), args := #[Operand.tmp 64, Operand.const (Value.int IntKind.i64 0), Operand.tmp 65], argTypes := #[28, 3, 3] }, 28, none⟩, ⟨some 67, Op.fieldAddr 34 (Operand.tmp 8) 2, 0, none⟩, ⟨some 68, Op.fieldAddr 32 (Operand.tmp 67) 1, 0, none⟩, ⟨some 69, Op.load 28 (Operand.tmp 68), 28, none⟩, ⟨some 70, Op.move (Operand.tmp 10), 3, none⟩, ⟨some 71, Op.call { callee := Callee.value (Operand.func 61), args := #[Operand.tmp 69, Operand.const (Value.int IntKind.i64 0), Operand.tmp 70], argTypes := #[28, 3, 3] }, 28, none⟩, ⟨some 11, Op.assign (Operand.tmp 66), 28, none⟩, ⟨some 12, Op.assign (Operand.tmp 71), 28, none⟩] (by kernel_rfl) (by kernel_rfl) (by decide +kernel) (fun an han => ?_)
                simp [-List.map_take, -List.map_drop, ← List.map_take, ← List.map_drop, Function.comp_def, zp5.st, zq5.st, c17, hg, hm4, hfb, hbt, hrow, hw, hfl, hwk, hwx, e1, e2, ← hbk, hbx', zeros_one, hmk, hmk2, hmt, c24, hmL, hmL2, q8, q8i, hfl2, ht40, hw0]
                refine ⟨by subst han; kernel_rfl, ?_⟩
                refine zh45 _ ?_
                refine Sat.seqK fun zK46 zh46 zg46 => ?_
                refine Sat.seqK fun zK47 zh47 zg47 => ?_
                refine Sat.frz 4224 (by simp) ?_
                refine Sat.frz 4544 (by simp) ?_
                refine Sat.plain ?_
                simp
                refine Sat.regionP hk [⟨some 72, Op.fieldAddr 23 (Operand.tmp 2) 4, 0, none⟩, ⟨some 73, Op.load 3 (Operand.tmp 72), 3, none⟩, ⟨some 74, Op.move (Operand.const (Value.int IntKind.i64 0)), 3, none⟩] (by kernel_rfl) (by kernel_rfl) ?_
                simp [-List.map_take, -List.map_drop, ← List.map_take, ← List.map_drop, Function.comp_def, zp5.st, zq5.st, c17, hg, hm4, hfb, hbt, hrow, hw, hfl, hwk, hwx, e1, e2, ← hbk, hbx', zeros_one, hmk, hmk2, hmt, c24, hmL, hmL2, q8, q8i, hfl2, ht40, hw0]
                refine zh47 _ ?_
                refine Sat.loopK (E := ⟨_, _, _⟩) [2, 4, 6, 8, 11, 12, 14, 15, 16, 73] [7168] [128, 256, 384, 512] ⟨by first | (simp [keepS, zp5.st, zq5.st, c17, hg, hm4, hfb, hbt, hrow, hw, hfl, hwk, hwx, e1, e2, ← hbk, hbx', zeros_one, hmk, hmk2, hmt, c24, hmL, hmL2, q8, q8i, hfl2, ht40, hw0]; done) | (simp [keepS, zp5.st, zq5.st, c17, hg, hm4, hfb, hbt, hrow, hw, hfl, hwk, hwx, e1, e2, ← hbk, hbx', zeros_one, hmk, hmk2, hmt, c24, hmL, hmL2, q8, q8i, hfl2, ht40, hw0]; rfl), by first | (simp [keepO, zp5.st, zq5.st, c17, hg, hm4, hfb, hbt, hrow, hw, hfl, hwk, hwx, e1, e2, ← hbk, hbx', zeros_one, hmk, hmk2, hmt, c24, hmL, hmL2, q8, q8i, hfl2, ht40, hw0]; done) | (simp [keepO, zp5.st, zq5.st, c17, hg, hm4, hfb, hbt, hrow, hw, hfl, hwk, hwx, e1, e2, ← hbk, hbx', zeros_one, hmk, hmk2, hmt, c24, hmL, hmL2, q8, q8i, hfl2, ht40, hw0]; rfl), by first | (simp [keepB, zp5.st, zq5.st, c17, hg, hm4, hfb, hbt, hrow, hw, hfl, hwk, hwx, e1, e2, ← hbk, hbx', zeros_one, hmk, hmk2, hmt, c24, hmL, hmL2, q8, q8i, hfl2, ht40, hw0]; done) | (simp [keepB, zp5.st, zq5.st, c17, hg, hm4, hfb, hbt, hrow, hw, hfl, hwk, hwx, e1, e2, ← hbk, hbx', zeros_one, hmk, hmk2, hmt, c24, hmL, hmL2, q8, q8i, hfl2, ht40, hw0]; rfl)⟩ (zh46) (fun (⟨i, q1, q2, s1, s2⟩ : Nat × Cube × Cube × Nat × Nat) => (⟨[(74, num i)], [(3200, ⟨vk, s1, .own, 79, 1, q1.map eM⟩), (3392, ⟨vx, s2, .own, 79, 1, q2.map eM⟩)], []⟩ : Ds)) (fun (⟨i, q1, q2, s1, s2⟩ : Nat × Cube × Cube × Nat × Nat) => i ≤ bk.length ∧ q1 = (zapp k bk).take i ++ (k : Cube).drop i ∧ q2 = (zapp x bx).take i ++ (x : Cube).drop i) (fun (⟨i, q1, q2, s1, s2⟩ : Nat × Cube × Cube × Nat × Nat) => q1 = zapp k bk ∧ q2 = zapp x bx) (fun (⟨i, q1, q2, s1, s2⟩ : Nat × Cube × Cube × Nat × Nat) => bk.length - i) (0, k, x, sk, sx) ?_ ?_ ?_ ?_
                · simp
                · exact ⟨by simp [FitL, zp5.st, zq5.st, c17, hg, hm4, hfb, hbt, hrow, hw, hfl, hwk, hwx, e1, e2, ← hbk, hbx', zeros_one, hmk, hmk2, hmt, c24, hmL, hmL2, q8, q8i, hfl2, ht40, hw0, zeros_one], by simp [FitL, zp5.st, zq5.st, c17, hg, hm4, hfb, hbt, hrow, hw, hfl, hwk, hwx, e1, e2, ← hbk, hbx', zeros_one, hmk, hmk2, hmt, c24, hmL, hmL2, q8, q8i, hfl2, ht40, hw0, zeros_one], by simp [FitL, zp5.st, zq5.st, c17, hg, hm4, hfb, hbt, hrow, hw, hfl, hwk, hwx, e1, e2, ← hbk, hbx', zeros_one, hmk, hmk2, hmt, c24, hmL, hmL2, q8, q8i, hfl2, ht40, hw0, zeros_one]⟩
                · rintro ⟨i, q1, q2, s1, s2⟩ hP2 zo48 zb48 zp48 zq48 zK48 zn48 zx48 zg48
                  try dsimp only [Ds.app, Ds.st, List.cons_append, List.nil_append] at hP2 ⊢
                  have hkl : (k : Cube).length = bk.length := by first | (simp; done) | (have := hP0.kl; omega)
                  have hxl : (x : Cube).length = bx.length := by first | (simp; done) | (have := hP0.xl; omega)
                  refine Sat.seqK fun zK49 zh49 zg49 => ?_
                  refine Sat.regionP hk [⟨some 75, Op.binOp BinOp.lss 3 (Operand.tmp 74) (Operand.tmp 73) 3, 4, none⟩] (by kernel_rfl) (by kernel_rfl) ?_
                  simp [-List.map_take, -List.map_drop, ← List.map_take, ← List.map_drop, Function.comp_def, zp5.st, zq5.st, c17, hg, hm4, hfb, hbt, hrow, hw, hfl, hwk, hwx, e1, e2, ← hbk, hbx', zeros_one, hmk, hmk2, hmt, c24, hmL, hmL2, q8, q8i, hfl2, ht40, hw0, zp48.st, zq48.st]
                  refine zh49 _ ?_
                  refine Sat.seqK fun zK50 zh50 zg50 => ?_
                  refine Sat.cond rfl (fun c75 => ?_) (fun c75 => ?_)
                  · skip
                    try simp at c75
                    obtain ⟨m1, hm1⟩ : ∃ z, bk[i]? = some z := ⟨bk[i], List.getElem?_eq_getElem c75⟩
                    obtain ⟨m2, hm2⟩ : ∃ z, bx[i]? = some z := ⟨bx[i]'(by omega), List.getElem?_eq_getElem (by omega)⟩
                    have hi2 : i < bx.length := by omega
                    obtain ⟨a1, ha1⟩ : ∃ z, (k : Cube)[i]? = some z := ⟨_, List.getElem?_eq_getElem (by omega)⟩
                    obtain ⟨a2, ha2⟩ : ∃ z, (x : Cube)[i]? = some z := ⟨_, List.getElem?_eq_getElem (by omega)⟩
                    have hz1 := zapp_get (k := k) hm1
                    rw [List.getD_eq_getElem?_getD, ha1] at hz1
                    have hz2 := zapp_get (k := x) hm2
                    rw [List.getD_eq_getElem?_getD, ha2] at hz2
                    have g1 : q1[i]? = some a1 := by rw [hP2.2.1, get_step (by rw [zapp_len]; exact hkl.symm) (by omega)]; exact ha1
                    have g2 : q2[i]? = some a2 := by rw [hP2.2.2, get_step (by rw [zapp_len]; exact hxl.symm) (by omega)]; exact ha2
                    have g1e := (List.getElem?_eq_some_iff.1 g1).2
                    have g2e := (List.getElem?_eq_some_iff.1 g2).2
                    have gl1 := (List.getElem?_eq_some_iff.1 g1).1
                    have gl2 := (List.getElem?_eq_some_iff.1 g2).1
                    have a1l : a1.length ≤ 128 := by have := hP0.km _ (List.mem_of_getElem? ha1); omega
                    have a2l : a2.length ≤ 128 := by have := hP0.xm _ (List.mem_of_getElem? ha2); omega
                    have m1l := hkm _ (List.mem_of_getElem? hm1)
                    have m2l := hxm _ (List.mem_of_getElem? hm2)
                    have hf1 : fitsL Try.prog 51 1 (a1.length + m1.length) = true := by simp [fitsL, maxL]; omega
                    have hf2 : fitsL Try.prog 51 1 (a2.length + m2.length) = true := by simp [fitsL, maxL]; omega
                    have t1 := take1 hm1
                    have t2 := take1 hm2
                    have t3 := take1 g1
                    have t4 := take1 g2
                    refine Sat.skip ?_
                    refine zh50 _ ?_
                    refine Sat.seqK fun zK51 zh51 zg51 => ?_
                    refine Sat.blockK fun zK52 zh52 zx52 zg52 => ?_
                    refine Sat.seqK fun zK53 zh53 zg53 => ?_
                    refine Sat.regionP hk [⟨some 76, Op.move (Operand.tmp 74), 3, none⟩, ⟨some 13, Op.assign (Operand.tmp 76), 3, none⟩] (by kernel_rfl) (by kernel_rfl) ?_
                    simp [-List.map_take, -List.map_drop, ← List.map_take, ← List.map_drop, Function.comp_def, zp5.st, zq5.st, c17, hg, hm4, hfb, hbt, hrow, hw, hfl, hwk, hwx, e1, e2, ← hbk, hbx', zeros_one, hmk, hmk2, hmt, c24, hmL, hmL2, q8, q8i, hfl2, ht40, hw0, zp48.st, zq48.st, c75, hi2, g1, g2, g1e, g2e, gl1, gl2, hf1, hf2, t1, t2, t3, t4, List.map_set]
                    refine zh53 _ ?_
                    refine Sat.regionDP hk (by kernel_rfl) [⟨some 77, Op.fieldAddr 40 (Operand.tmp 6) 1, 0, none⟩, ⟨some 78, Op.fieldAddr 32 (Operand.tmp 77) 0, 0, none⟩, ⟨some 79, Op.load 28 (Operand.tmp 78), 28, none⟩, ⟨some 80, Op.move (Operand.tmp 13), 3, none⟩, ⟨some 81, Op.fieldAddr 40 (Operand.tmp 6) 1, 0, none⟩, ⟨some 82, Op.fieldAddr 32 (Operand.tmp 81) 1, 0, none⟩, ⟨some 83, Op.load 28 (Operand.tmp 82), 28, none⟩, ⟨some 84, Op.move (Operand.tmp 13), 3, none⟩, ⟨some 85, Op.fieldAddr 40 (Operand.tmp 6) 1, 0, none⟩, ⟨some 86, Op.fieldAddr 32 (Operand.tmp 85) 0, 0, none⟩, ⟨some 87, Op.load 28 (Operand.tmp 86), 28, none⟩, ⟨some 88, Op.move (Operand.tmp 13), 3, none⟩, ⟨some 89, Op.indexAddr 28 (Operand.tmp 87) (Operand.tmp 88), 0, none⟩, ⟨some 90, Op.load 79 (Operand.tmp 89), 79, none⟩, ⟨some 91, Op.move (Operand.tmp 11), 28, none⟩, ⟨some 92, Op.move (Operand.tmp 13), 3, none⟩, ⟨some 93, Op.indexAddr 28 (Operand.tmp 91) (Operand.tmp 92), 0, none⟩, ⟨some 94, Op.load 79 (Operand.tmp 93), 79, none⟩, ⟨some 95, Op.call { callee := Callee.builtin Builtin.append, args := #[Operand.tmp 90, Operand.tmp 94], argTypes := #[79, 79] }, 79, none⟩, ⟨some 96, Op.fieldAddr 40 (Operand.tmp 6) 1, 0, none⟩, ⟨some 97, Op.fieldAddr 32 (Operand.tmp 96) 1, 0, none⟩, ⟨some 98, Op.load 28 (Operand.tmp 97), 28, none⟩, ⟨some 99, Op.move (Operand.tmp 13), 3, none⟩, ⟨some 100, Op.indexAddr 28 (Operand.tmp 98) (Operand.tmp 99), 0, none⟩, ⟨some 101, Op.load 79 (Operand.tmp 100), 79, none⟩, ⟨some 102, Op.move (Operand.tmp 12), 28, none⟩, ⟨some 103, Op.move (Operand.tmp 13), 3, none⟩, ⟨some 104, Op.indexAddr 28 (Operand.tmp 102) (Operand.tmp 103), 0, none⟩, ⟨some 105, Op.load 79 (Operand.tmp 104), 79, none⟩, ⟨some 106, Op.call { callee := Callee.builtin Builtin.append, args := #[Operand.tmp 101, Operand.tmp 105], argTypes := #[79, 79] }, 79, none⟩, ⟨some 107, Op.indexAddr 28 (Operand.tmp 79) (Operand.tmp 80), 0, none⟩, ⟨none, Op.store 79 (Operand.tmp 107) (Operand.tmp 95), 0, none⟩, ⟨some 108, Op.indexAddr 28 (Operand.tmp 83) (Operand.tmp 84), 0, none⟩, ⟨none, Op.store 79 (Operand.tmp 108) (Operand.tmp 106), 0, none⟩] (by kernel_rfl) (by kernel_rfl) (by decide +kernel) (fun an han => ?_)
                    simp [-List.map_take, -List.map_drop, ← List.map_take, ← List.map_drop, Function.comp_def, zp5.st, zq5.st, c17, hg, hm4, hfb, hbt, hrow, hw, hfl, hwk, hwx, e1, e2, ← hbk, hbx', zeros_one, hmk, hmk2, hmt, c24, hmL, hmL2, q8, q8i, hfl2, ht40, hw0, zp48.st, zq48.st, c75, hi2, g1, g2, g1e, g2e, gl1, gl2, hf1, hf2, t1, t2, t3, t4, List.map_set]
                    refine ⟨by subst han; kernel_rfl, ?_⟩
                    refine zh52 _ ?_
                    refine zh51 _ ?_
                    refine Sat.regionP hk [⟨some 109, Op.binOp BinOp.add 3 (Operand.tmp 74) (Operand.const (Value.int IntKind.i64 1)) 3, 3, none⟩, ⟨some 74, Op.move (Operand.tmp 109), 3, none⟩] (by kernel_rfl) (by kernel_rfl) ?_
                    simp [-List.map_take, -List.map_drop, ← List.map_take, ← List.map_drop, Function.comp_def, zp5.st, zq5.st, c17, hg, hm4, hfb, hbt, hrow, hw, hfl, hwk, hwx, e1, e2, ← hbk, hbx', zeros_one, hmk, hmk2, hmt, c24, hmL, hmL2, q8, q8i, hfl2, ht40, hw0, zp48.st, zq48.st, c75, hi2, g1, g2, g1e, g2e, gl1, gl2, hf1, hf2, t1, t2, t3, t4, List.map_set]
                    refine zn48 (i + 1, q1.set i (a1 ++ m1), q2.set i (a2 ++ m2), s1 + 1 + 1, s2 + 1 + 1) _ ?_ ?_ ?_ ?_
                    · exact ⟨by omega, by rw [hP2.2.1]; exact set_step hz1 (by rw [zapp_len]; exact hkl.symm), by rw [hP2.2.2]; exact set_step hz2 (by rw [zapp_len]; exact hxl.symm)⟩
                    · first | omega | (dsimp only; omega)
                    · exact ⟨by simp [-List.map_take, -List.map_drop, ← List.map_take, ← List.map_drop, Function.comp_def, FitL, zp5.st, zq5.st, c17, hg, hm4, hfb, hbt, hrow, hw, hfl, hwk, hwx, e1, e2, ← hbk, hbx', zeros_one, hmk, hmk2, hmt, c24, hmL, hmL2, q8, q8i, hfl2, ht40, hw0, zp48.st, zq48.st, c75, hi2, g1, g2, g1e, g2e, gl1, gl2, hf1, hf2, t1, t2, t3, t4, List.map_set, w64s i (by omega), List.map_set, eM, List.map_append], by simp [-List.map_take, -List.map_drop, ← List.map_take, ← List.map_drop, Function.comp_def, FitL, zp5.st, zq5.st, c17, hg, hm4, hfb, hbt, hrow, hw, hfl, hwk, hwx, e1, e2, ← hbk, hbx', zeros_one, hmk, hmk2, hmt, c24, hmL, hmL2, q8, q8i, hfl2, ht40, hw0, zp48.st, zq48.st, c75, hi2, g1, g2, g1e, g2e, gl1, gl2, hf1, hf2, t1, t2, t3, t4, List.map_set, w64s i (by omega), List.map_set, eM, List.map_append], by simp [-List.map_take, -List.map_drop, ← List.map_take, ← List.map_drop, Function.comp_def, FitL, zp5.st, zq5.st, c17, hg, hm4, hfb, hbt, hrow, hw, hfl, hwk, hwx, e1, e2, ← hbk, hbx', zeros_one, hmk, hmk2, hmt, c24, hmL, hmL2, q8, q8i, hfl2, ht40, hw0, zp48.st, zq48.st, c75, hi2, g1, g2, g1e, g2e, gl1, gl2, hf1, hf2, t1, t2, t3, t4, List.map_set, w64s i (by omega), List.map_set, eM, List.map_append]⟩
                    · exact ⟨by simp [-List.map_take, -List.map_drop, ← List.map_take, ← List.map_drop, Function.comp_def, FitL, zp5.st, zq5.st, c17, hg, hm4, hfb, hbt, hrow, hw, hfl, hwk, hwx, e1, e2, ← hbk, hbx', zeros_one, hmk, hmk2, hmt, c24, hmL, hmL2, q8, q8i, hfl2, ht40, hw0, zp48.st, zq48.st, c75, hi2, g1, g2, g1e, g2e, gl1, gl2, hf1, hf2, t1, t2, t3, t4, List.map_set, w64s i (by omega), List.map_set, eM, List.map_append], by simp [-List.map_take, -List.map_drop, ← List.map_take, ← List.map_drop, Function.comp_def, FitL, zp5.st, zq5.st, c17, hg, hm4, hfb, hbt, hrow, hw, hfl, hwk, hwx, e1, e2, ← hbk, hbx', zeros_one, hmk, hmk2, hmt, c24, hmL, hmL2, q8, q8i, hfl2, ht40, hw0, zp48.st, zq48.st, c75, hi2, g1, g2, g1e, g2e, gl1, gl2, hf1, hf2, t1, t2, t3, t4, List.map_set, w64s i (by omega), List.map_set, eM, List.map_append], by simp [-List.map_take, -List.map_drop, ← List.map_take, ← List.map_drop, Function.comp_def, FitL, zp5.st, zq5.st, c17, hg, hm4, hfb, hbt, hrow, hw, hfl, hwk, hwx, e1, e2, ← hbk, hbx', zeros_one, hmk, hmk2, hmt, c24, hmL, hmL2, q8, q8i, hfl2, ht40, hw0, zp48.st, zq48.st, c75, hi2, g1, g2, g1e, g2e, gl1, gl2, hf1, hf2, t1, t2, t3, t4, List.map_set, w64s i (by omega), List.map_set, eM, List.map_append]⟩
                  · skip
                    try simp at c75
                    refine Sat.exit ?_
                    refine zg50 _ _ (by simp) ?_
                    refine zx48 ⟨i, q1, q2, s1, s2⟩ _ ?_ ?_ ?_
                    · have e1 : i = bk.length := by omega
                      subst e1
                      exact ⟨by rw [hP2.2.1, List.take_of_length_le (by rw [zapp_len]; exact Nat.le_refl _), List.drop_of_length_le (by omega), List.append_nil], by rw [hP2.2.2, List.take_of_length_le (by rw [zapp_len]; omega), List.drop_of_length_le (by omega), List.append_nil]⟩
                    · exact ⟨by simp [-List.map_take, -List.map_drop, ← List.map_take, ← List.map_drop, Function.comp_def, FitL, zp5.st, zq5.st, c17, hg, hm4, hfb, hbt, hrow, hw, hfl, hwk, hwx, e1, e2, ← hbk, hbx', zeros_one, hmk, hmk2, hmt, c24, hmL, hmL2, q8, q8i, hfl2, ht40, hw0, zp48.st, zq48.st], by simp [-List.map_take, -List.map_drop, ← List.map_take, ← List.map_drop, Function.comp_def, FitL, zp5.st, zq5.st, c17, hg, hm4, hfb, hbt, hrow, hw, hfl, hwk, hwx, e1, e2, ← hbk, hbx', zeros_one, hmk, hmk2, hmt, c24, hmL, hmL2, q8, q8i, hfl2, ht40, hw0, zp48.st, zq48.st], by simp [-List.map_take, -List.map_drop, ← List.map_take, ← List.map_drop, Function.comp_def, FitL, zp5.st, zq5.st, c17, hg, hm4, hfb, hbt, hrow, hw, hfl, hwk, hwx, e1, e2, ← hbk, hbx', zeros_one, hmk, hmk2, hmt, c24, hmL, hmL2, q8, q8i, hfl2, ht40, hw0, zp48.st, zq48.st]⟩
                    · exact ⟨by simp [-List.map_take, -List.map_drop, ← List.map_take, ← List.map_drop, Function.comp_def, FitL, zp5.st, zq5.st, c17, hg, hm4, hfb, hbt, hrow, hw, hfl, hwk, hwx, e1, e2, ← hbk, hbx', zeros_one, hmk, hmk2, hmt, c24, hmL, hmL2, q8, q8i, hfl2, ht40, hw0, zp48.st, zq48.st], by simp [-List.map_take, -List.map_drop, ← List.map_take, ← List.map_drop, Function.comp_def, FitL, zp5.st, zq5.st, c17, hg, hm4, hfb, hbt, hrow, hw, hfl, hwk, hwx, e1, e2, ← hbk, hbx', zeros_one, hmk, hmk2, hmt, c24, hmL, hmL2, q8, q8i, hfl2, ht40, hw0, zp48.st, zq48.st], by simp [-List.map_take, -List.map_drop, ← List.map_take, ← List.map_drop, Function.comp_def, FitL, zp5.st, zq5.st, c17, hg, hm4, hfb, hbt, hrow, hw, hfl, hwk, hwx, e1, e2, ← hbk, hbx', zeros_one, hmk, hmk2, hmt, c24, hmL, hmL2, q8, q8i, hfl2, ht40, hw0, zp48.st, zq48.st]⟩
                · rintro ⟨i, q1, q2, s1, s2⟩ hR2 zo48 zb48 zp48 zq48
                  try dsimp only [Ds.app, Ds.st, List.cons_append, List.nil_append] at hR2 ⊢
                  obtain ⟨rfl, rfl⟩ := hR2
                  refine Sat.regionP hk [⟨some 110, Op.fieldAddr 34 (Operand.tmp 8) 0, 0, none⟩, ⟨some 111, Op.load 27 (Operand.tmp 110), 27, none⟩, ⟨some 112, Op.call { callee := Callee.value (Operand.func 62), args := #[Operand.tmp 111], argTypes := #[27] }, 27, none⟩, ⟨some 113, Op.fieldAddr 40 (Operand.tmp 6) 0, 0, none⟩, ⟨none, Op.store 27 (Operand.tmp 113) (Operand.tmp 112), 0, none⟩] (by kernel_rfl) (by kernel_rfl) ?_
                  simp [-List.map_take, -List.map_drop, ← List.map_take, ← List.map_drop, Function.comp_def, zp5.st, zq5.st, c17, hg, hm4, hfb, hbt, hrow, hw, hfl, hwk, hwx, e1, e2, ← hbk, hbx', zeros_one, hmk, hmk2, hmt, c24, hmL, hmL2, q8, q8i, hfl2, ht40, hw0, zp48.st, zq48.st]
                  refine zh33 _ ?_
                  refine zh32 _ ?_
                  refine Sat.regionP hk [⟨some 114, Op.binOp BinOp.add 3 (Operand.tmp 16) (Operand.const (Value.int IntKind.i64 1)) 3, 3, none⟩, ⟨some 16, Op.move (Operand.tmp 114), 3, none⟩] (by kernel_rfl) (by kernel_rfl) ?_
                  simp [-List.map_take, -List.map_drop, ← List.map_take, ← List.map_drop, Function.comp_def, zp5.st, zq5.st, c17, hg, hm4, hfb, hbt, hrow, hw, hfl, hwk, hwx, e1, e2, ← hbk, hbx', zeros_one, hmk, hmk2, hmt, c24, hmL, hmL2, q8, q8i, hfl2, ht40, hw0, zp48.st, zq48.st]
                  refine zn5 (some ⟨j + 1, bt, zapp k bk, zapp x bx, vt + 1, vk, s1, vx, s2⟩) _ ?_ ?_ ?_ ?_
                  · exact Joined.next hb c24 hnd hn1 ht128 hbk hbx hkm hxm hP0.km hP0.xm (by have := hP0.kl; omega) (by have := hP0.xl; omega) (by omega) (by rw [Int.toNat_natCast, q8]; exact c43) rfl rfl hP0.go
                  · first | omega | (dsimp only; omega)
                  · exact ⟨by simp [-List.map_take, -List.map_drop, ← List.map_take, ← List.map_drop, Function.comp_def, FitL, zp5.st, zq5.st, c17, hg, hm4, hfb, hbt, hrow, hw, hfl, hwk, hwx, e1, e2, ← hbk, hbx', zeros_one, hmk, hmk2, hmt, c24, hmL, hmL2, q8, q8i, hfl2, ht40, hw0, zp48.st, zq48.st, w64s j (by omega)], by simp [-List.map_take, -List.map_drop, ← List.map_take, ← List.map_drop, Function.comp_def, FitL, zp5.st, zq5.st, c17, hg, hm4, hfb, hbt, hrow, hw, hfl, hwk, hwx, e1, e2, ← hbk, hbx', zeros_one, hmk, hmk2, hmt, c24, hmL, hmL2, q8, q8i, hfl2, ht40, hw0, zp48.st, zq48.st, w64s j (by omega)], by simp [-List.map_take, -List.map_drop, ← List.map_take, ← List.map_drop, Function.comp_def, FitL, zp5.st, zq5.st, c17, hg, hm4, hfb, hbt, hrow, hw, hfl, hwk, hwx, e1, e2, ← hbk, hbx', zeros_one, hmk, hmk2, hmt, c24, hmL, hmL2, q8, q8i, hfl2, ht40, hw0, zp48.st, zq48.st, w64s j (by omega)]⟩
                  · exact ⟨by simp [-List.map_take, -List.map_drop, ← List.map_take, ← List.map_drop, Function.comp_def, FitL, zp5.st, zq5.st, c17, hg, hm4, hfb, hbt, hrow, hw, hfl, hwk, hwx, e1, e2, ← hbk, hbx', zeros_one, hmk, hmk2, hmt, c24, hmL, hmL2, q8, q8i, hfl2, ht40, hw0, zp48.st, zq48.st, w64s j (by omega)], by simp [-List.map_take, -List.map_drop, ← List.map_take, ← List.map_drop, Function.comp_def, FitL, zp5.st, zq5.st, c17, hg, hm4, hfb, hbt, hrow, hw, hfl, hwk, hwx, e1, e2, ← hbk, hbx', zeros_one, hmk, hmk2, hmt, c24, hmL, hmL2, q8, q8i, hfl2, ht40, hw0, zp48.st, zq48.st, w64s j (by omega)], by simp [-List.map_take, -List.map_drop, ← List.map_take, ← List.map_drop, Function.comp_def, FitL, zp5.st, zq5.st, c17, hg, hm4, hfb, hbt, hrow, hw, hfl, hwk, hwx, e1, e2, ← hbk, hbx', zeros_one, hmk, hmk2, hmt, c24, hmL, hmL2, q8, q8i, hfl2, ht40, hw0, zp48.st, zq48.st, w64s j (by omega)]⟩
          · skip
            have q8i : ¬ (fn : Int) = (t.length : Int) := by omega
            refine Sat.regionDP hk (by kernel_rfl) [⟨some 27, Op.fieldAddr 34 (Operand.tmp 8) 1, 0, none⟩, ⟨some 28, Op.load 3 (Operand.tmp 27), 3, none⟩, ⟨some 29, Op.fieldAddr 40 (Operand.tmp 6) 0, 0, none⟩, ⟨some 30, Op.load 27 (Operand.tmp 29), 27, none⟩, ⟨some 31, Op.call { callee := Callee.builtin Builtin.len, args := #[Operand.tmp 30], argTypes := #[27] }, 3, none⟩, ⟨some 32, Op.binOp BinOp.neq 3 (Operand.tmp 28) (Operand.tmp 31) 3, 4, none⟩, ⟨some 33, Op.move (Operand.tmp 32), 4, none⟩, ⟨some 34, Op.fieldAddr 34 (Operand.tmp 8) 0, 0, some (33, false)⟩, ⟨some 35, Op.load 27 (Operand.tmp 34), 27, some (33, false)⟩, ⟨some 36, Op.fieldAddr 34 (Operand.tmp 8) 1, 0, some (33, false)⟩, ⟨some 37, Op.load 3 (Operand.tmp 36), 3, some (33, false)⟩, ⟨some 38, Op.slice 27 (Operand.tmp 35) none (some (Operand.tmp 37)) none, 27, some (33, false)⟩, ⟨some 39, Op.fieldAddr 40 (Operand.tmp 6) 0, 0, some (33, false)⟩, ⟨some 40, Op.load 27 (Operand.tmp 39), 27, some (33, false)⟩, ⟨some 41, Op.call { callee := Callee.value (Operand.func 60), args := #[Operand.tmp 38, Operand.tmp 40], argTypes := #[27, 27] }, 4, some (33, false)⟩, ⟨some 42, Op.unOp UnOp.not 4 (Operand.tmp 41), 4, some (33, false)⟩, ⟨some 43, Op.pick (Operand.tmp 33) (Operand.const (Value.bool true)) (Operand.tmp 42), 4, none⟩] (by kernel_rfl) (by kernel_rfl) (by decide +kernel) (fun an han => ?_)
            simp [-List.map_take, -List.map_drop, ← List.map_take, ← List.map_drop, Function.comp_def, zp5.st, zq5.st, c17, hg, hm4, hfb, hbt, hrow, hw, hfl, hwk, hwx, e1, e2, ← hbk, hbx', zeros_one, hmk, hmk2, hmt, c24, hmL, hmL2, q8, q8i]
            refine ⟨by subst han; kernel_rfl, ?_⟩
            refine zh40 _ ?_
            refine Sat.cond rfl (fun c43 => ?_) (fun c43 => ?_)
            · skip
              try simp at c43
              have hj := join_none hb (hP0.go) c24 (by intro e; have := e.1; simp at this; omega)
              refine Sat.seqK fun zK54 zh54 zg54 => ?_
              refine Sat.regionP hk [⟨some 44, Op.build 40 #[], 40, none⟩, ⟨none, Op.store 40 (Operand.tmp 4) (Operand.tmp 44), 0, none⟩, ⟨some 5, Op.assign (Operand.const (Value.int IntKind.i64 8)), 36, none⟩] (by kernel_rfl) (by kernel_rfl) ?_
              simp [-List.map_take, -List.map_drop, ← List.map_take, ← List.map_drop, Function.comp_def, zp5.st, zq5.st, c17, hg, hm4, hfb, hbt, hrow, hw, hfl, hwk, hwx, e1, e2, ← hbk, hbx', zeros_one, hmk, hmk2, hmt, c24, hmL, hmL2, q8, q8i, hj, joinOut, joinSh]
              refine zh54 _ ?_
              refine Sat.ret ?_
              refine zg39 _ _ (by simp) ?_
              refine zg33 _ _ (by simp) (by simp) ?_
              refine zg32 _ _ (by simp) ?_
              refine zg5 _ _ (by simp) (by simp) ?_
              refine zg3 _ _ (by simp) ?_
              simp [-List.map_take, -List.map_drop, ← List.map_take, ← List.map_drop, Function.comp_def, zp5.st, zq5.st, c17, hg, hm4, hfb, hbt, hrow, hw, hfl, hwk, hwx, e1, e2, ← hbk, hbx', zeros_one, hmk, hmk2, hmt, c24, hmL, hmL2, q8, q8i, hj, joinOut, joinSh]
            · exfalso; simp [zp5.st, zq5.st, c17, hg, hm4, hfb, hbt, hrow, hw, hfl, hwk, hwx, e1, e2, ← hbk, hbx', zeros_one, hmk, hmk2, hmt, c24, hmL, hmL2, q8, q8i] at c43
      · skip
        try simp at c17
        refine Sat.exit ?_
        refine zg31 _ _ (by simp) ?_
        refine zx5 (some ⟨j, t, k, x, vt, vk, sk, vx, sx⟩) _ ?_ ?_ ?_
        · exact ⟨by omega, hP0⟩
        · exact ⟨by simp [-List.map_take, -List.map_drop, ← List.map_take, ← List.map_drop, Function.comp_def, FitL, zp5.st, zq5.st], by simp [-List.map_take, -List.map_drop, ← List.map_take, ← List.map_drop, Function.comp_def, FitL, zp5.st, zq5.st], by simp [-List.map_take, -List.map_drop, ← List.map_take, ← List.map_drop, Function.comp_def, FitL, zp5.st, zq5.st]⟩
        · exact ⟨by simp [-List.map_take, -List.map_drop, ← List.map_take, ← List.map_drop, Function.comp_def, FitL, zp5.st, zq5.st], by simp [-List.map_take, -List.map_drop, ← List.map_take, ← List.map_drop, Function.comp_def, FitL, zp5.st, zq5.st], by simp [-List.map_take, -List.map_drop, ← List.map_take, ← List.map_drop, Function.comp_def, FitL, zp5.st, zq5.st]⟩
  · rintro (_ | ⟨j, t, k, x, vt, vk, sk, vx, sx⟩) hR0 zo5 zb5 zp5 zq5
    · skip
      try dsimp only [Ds.app, Ds.st, List.cons_append, List.nil_append] at hR0 ⊢
      subst hR0
      refine Sat.seqK fun zK55 zh55 zg55 => ?_
      refine Sat.regionP hk [⟨some 115, Op.load 40 (Operand.tmp 6), 40, none⟩, ⟨none, Op.store 40 (Operand.tmp 4) (Operand.tmp 115), 0, none⟩, ⟨some 5, Op.assign (Operand.const (Value.int IntKind.i64 0)), 36, none⟩] (by kernel_rfl) (by kernel_rfl) ?_
      simp [-List.map_take, -List.map_drop, ← List.map_take, ← List.map_drop, Function.comp_def, zp5.st, zq5.st, joinOut, joinSh, joinGo]
      refine zh55 _ ?_
      refine Sat.ret ?_
      simp [-List.map_take, -List.map_drop, ← List.map_take, ← List.map_drop, Function.comp_def, zp5.st, zq5.st, joinOut, joinSh, joinGo]
    · skip
      try dsimp only [Ds.app, Ds.st, List.cons_append, List.nil_append] at hR0 ⊢
      refine Sat.seqK fun zK56 zh56 zg56 => ?_
      refine Sat.frz 7168 (by simp) ?_
      refine Sat.frz 3200 (by simp) ?_
      refine Sat.frz 3392 (by simp) ?_
      refine Sat.plain ?_
      simp
      have hj : joinGo c [] [] [] l = ((t, k, x), 0) := by rw [hR0.2.go, hR0.1, List.drop_length]; rfl
      have hl0 : l ≠ [] := by rintro rfl; have := hR0.2.j0; have := hR0.1; simp at this; omega
      refine Sat.regionP hk [⟨some 115, Op.load 40 (Operand.tmp 6), 40, none⟩, ⟨none, Op.store 40 (Operand.tmp 4) (Operand.tmp 115), 0, none⟩, ⟨some 5, Op.assign (Operand.const (Value.int IntKind.i64 0)), 36, none⟩] (by kernel_rfl) (by kernel_rfl) ?_
      simp [-List.map_take, -List.map_drop, ← List.map_take, ← List.map_drop, Function.comp_def, zp5.st, zq5.st, hj, joinOut, joinSh, hl0]
      refine zh56 _ ?_
      refine Sat.ret ?_
      simp [-List.map_take, -List.map_drop, ← List.map_take, ← List.map_drop, Function.comp_def, zp5.st, zq5.st, hj, joinOut, joinSh, hl0]
end Go.Proofs.Ytmbmebfeoejlnaa.Ab
