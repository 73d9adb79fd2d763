/- The law BlockJoins: true for every input. -/
import Derived.Test.YtmbmebfeoejlnaaB7
import Derived.Test.YtmbmebfeoejlnaaB10
import Derived.Test.YtmbmebfeoejlnaaB15
import Derived.Test.YtmbmebfeoejlnaaB16
namespace Go.Proofs.Ytmbmebfeoejlnaa.Ab
set_option linter.unusedVariables false
set_option linter.unusedSimpArgs false
open Go.RowKit
def rowsOK (n : Nat) (k : Cube) : Prop := k.length ≤ 5 ∧ ∀ m ∈ k, m.length ≤ n ∧ ∀ r ∈ m, r.length ≤ 40
def smallV (v : View) : Prop := v.1.length ≤ 128 ∧ rowsOK v.1.length v.2.1 ∧ rowsOK v.1.length v.2.2
def smallB (b : Blk) : Prop := b.1.length ≤ 140 ∧ rowsOK 20 b.2.2.1 ∧ rowsOK 20 b.2.2.2
theorem cutCube_ok (n : Nat) (c : Cube) : rowsOK n (cutCube n c) := by
  refine ⟨by simp [cutCube]; omega, fun m hm => ?_⟩
  simp only [cutCube, List.mem_map] at hm
  obtain ⟨m', h1, rfl⟩ := hm
  refine ⟨by simp [cutRows]; omega, fun r hr => ?_⟩
  simp only [cutRows, List.mem_map] at hr
  obtain ⟨r', h2, rfl⟩ := hr
  simp; omega
theorem cutBlk_ok (b : Blk) : smallB (cutBlk b) := ⟨by simp [cutBlk]; omega, cutCube_ok _ _, cutCube_ok _ _⟩
theorem cutRow_same {n : Nat} {m : List (List Int)} (h : m.length ≤ n) (h2 : ∀ r ∈ m, r.length ≤ 40) : cutRows n m = m := by
  unfold cutRows
  rw [List.take_of_length_le h]
  conv => rhs; rw [← List.map_id m]
  exact List.map_congr_left fun r hr => List.take_of_length_le (h2 r hr)
theorem cutCube_same {n : Nat} {k : Cube} (h : rowsOK n k) : cutCube n k = k := by
  unfold cutCube
  rw [List.take_of_length_le h.1]
  conv => rhs; rw [← List.map_id k]
  exact List.map_congr_left fun m hm => cutRow_same (h.2 m hm).1 (h.2 m hm).2
theorem rowsOK.mono {n n' : Nat} {k : Cube} (h : rowsOK n k) (hn : n ≤ n') : rowsOK n' k := ⟨h.1, fun m hm => ⟨Nat.le_trans (h.2 m hm).1 hn, (h.2 m hm).2⟩⟩
theorem rowsOK.len {n : Nat} {k : Cube} (h : rowsOK n k) (hn : n ≤ 140) : lenOK k := ⟨by have := h.1; omega, fun m hm => ⟨by have := (h.2 m hm).1; omega, fun r hr => by have := (h.2 m hm).2 r hr; show r.length < 2 ^ 40; omega⟩⟩
theorem cutBlk_same {b : Blk} (h : smallB b) : cutBlk b = b := by
  obtain ⟨t, f, k, x⟩ := b
  unfold cutBlk
  rw [List.take_of_length_le h.1, cutCube_same h.2.1, cutCube_same h.2.2]
theorem cutView_same {v : View} (h : smallV v) : cutView v = v := by
  obtain ⟨t, k, x⟩ := v
  obtain ⟨h1, h2, h3⟩ := h
  have h1' : t.length ≤ 128 := h1
  unfold cutView
  rw [List.take_of_length_le (by show t.length ≤ 130; omega), cutCube_same (h2.mono (by show t.length ≤ 130; omega)), cutCube_same (h3.mono (by show t.length ≤ 130; omega))]
theorem smallV.fine {v : View} (h : smallV v) : fineV v := ⟨by have := h.1; omega, h.2.1.len (by have := h.1; omega), h.2.2.len (by have := h.1; omega)⟩
theorem smallB.fine {b : Blk} (h : smallB b) (hf : b.2.1 < 9223372036854775808) : fine b := ⟨by have := h.1; omega, hf, h.2.1.len (by omega), h.2.2.len (by omega)⟩
theorem zapp_ok {n1 n2 n : Nat} {k b : Cube} (hk : rowsOK n1 k) (hb : rowsOK 20 b) (hn : ∀ m ∈ b, m.length = n2) (h : n1 + n2 ≤ n) : rowsOK n (zapp k b) := by
  refine ⟨by rw [zapp_len]; exact hb.1, fun m hm => ?_⟩
  simp only [zapp, List.mem_map, List.mem_range] at hm
  obtain ⟨i, hi, rfl⟩ := hm
  have h4 : b.getD i [] = b[i] := by simp [List.getD_eq_getElem?_getD, List.getElem?_eq_getElem hi]
  have h5 := hn _ (List.getElem_mem hi)
  have h6 := hb.2 _ (List.getElem_mem hi)
  have h3 : (k.getD i []).length ≤ n1 ∧ ∀ r ∈ k.getD i [], r.length ≤ 40 := by
    by_cases hik : i < k.length
    · have : k.getD i [] = k[i] := by simp [List.getD_eq_getElem?_getD, List.getElem?_eq_getElem hik]
      rw [this]; exact hk.2 _ (List.getElem_mem hik)
    · have : k.getD i [] = [] := by simp [List.getD_eq_getElem?_getD, List.getElem?_eq_none (Nat.le_of_not_lt hik)]
      rw [this]; exact ⟨Nat.zero_le _, fun r hr => by simp at hr⟩
  rw [h4]
  refine ⟨by rw [List.length_append]; omega, fun r hr => ?_⟩
  rcases List.mem_append.1 hr with hr | hr
  · exact h3.2 r hr
  · exact h6.2 r hr
theorem joinGo_ok (c : Cfg) : ∀ (l : List Blk) (t : List Int) (k x : Cube), smallV (t, k, x) → (∀ b ∈ l, smallB b) → smallV (joinGo c t k x l).1
  | [], t, k, x, h, _ => h
  | b :: l, t, k, x, h, hl => by
    have e : smallV ([], [], []) := ⟨by simp, ⟨by simp, fun m hm => by simp at hm⟩, ⟨by simp, fun m hm => by simp at hm⟩⟩
    rw [joinGo]
    split
    · rename_i hc
      split
      · rename_i hq
        obtain ⟨bt, bf, bk, bx⟩ := b
        obtain ⟨n, hnd, hf0, hn1, hn16, ht128, hbk, hbx, hkm, hxm⟩ := chk_ok hc
        have hb := hl _ List.mem_cons_self
        have hq1 : bf = (t.length : Int) := hq.1
        refine joinGo_ok c l _ _ _ ⟨ht128, ?_, ?_⟩ (fun b hb => hl b (List.mem_cons_of_mem _ hb))
        · exact zapp_ok h.2.1 hb.2.1 hkm (by show t.length + n ≤ bt.length; omega)
        · exact zapp_ok h.2.2 hb.2.2 hxm (by show t.length + n ≤ bt.length; omega)
      · exact e
    · exact e
@[simp] theorem decBlks {b : Bool} (l : List Blk) (n : Nat) (h : l.length ≤ n) : decAll tBlk n (l.flatMap fun x => eBlk b x) = some l := by
  have h2 := decAll_enc tBlk b l n h
  simpa using h2
@[simp] theorem decBlks4 {b : Bool} (l : List Blk) : decAll tBlk (l.length * 4) (l.flatMap fun x => eBlk b x) = some l := decBlks l _ (by omega)
@[simp] theorem sh_blks {b : Bool} (l : List Blk) : List.map shareC (l.flatMap (eBlk b)) = l.flatMap fun x => [dTok true x.1, .lit (.int .i64 x.2.1), dCube true x.2.2.1, dCube true x.2.2.2] := by
  rw [List.map_flatMap]
  congr 1
  funext x
  simp
def S3 : Spec := fun gs => sp2 true (tCfg) false (tBlksP) (fun c l => if (∀ b ∈ l, b.2.1 < 9223372036854775808) then some (oBool true) else none) gs
@[simp] theorem S3_eq (gs : List Arg) : S3 gs = sp2 true (tCfg) false (tBlksP) (fun c l => if (∀ b ∈ l, b.2.1 < 9223372036854775808) then some (oBool true) else none) gs := rfl
set_option maxHeartbeats 4000000 in
theorem k3 : Contract Try.prog 3 S3 := by
  refine Contract.intro2 (C := cx 60 [(15, S15), (16, S16), (17, S17), (18, S18), (19, S19), (20, S20), (21, S21), (22, S22), (23, S23)]) Try.func3 rfl rfl rfl (by show 2 ≤ 60; decide) fun c l out ho fr => ?_
  have hk := knowsX (N := 60) (l := [(15, S15), (16, S16), (17, S17), (18, S18), (19, S19), (20, S20), (21, S21), (22, S22), (23, S23)]) ⟨k15, k16, k17, k18, k19, k20, k21, k22, k23, trivial⟩
  split at ho
  case isFalse => cases ho
  rename_i hn
  obtain rfl := Option.some.inj ho
  obtain ⟨w, hwd⟩ : ∃ w, w = (l.take 10).map cutBlk := ⟨_, rfl⟩
  have hwl : w.length ≤ 10 := by rw [hwd]; simp; omega
  have hw : ∀ b ∈ w, smallB b := fun b hb => by
    rw [hwd] at hb
    obtain ⟨b', _, rfl⟩ := List.mem_map.1 hb
    exact cutBlk_ok b'
  have hwf : ∀ b ∈ w, b.2.1 < 9223372036854775808 := fun b hb => by
    rw [hwd] at hb
    obtain ⟨b', h1, rfl⟩ := List.mem_map.1 hb
    exact hn b' (List.mem_of_mem_take h1)
  have hfa : fineAll w := ⟨by omega, fun b hb => (hw b hb).fine (hwf b hb)⟩
  have hsv := joinGo_ok c w [] [] [] ⟨by simp, ⟨by simp, fun m hm => by simp at hm⟩, ⟨by simp, fun m hm => by simp at hm⟩⟩ hw
  have hcv := cutView_same hsv
  have hfv := hsv.fine
  refine Sat.seqK fun zK1 zh1 zg1 => ?_
  refine Sat.regionP hk [⟨some 2, Op.box 23 (Operand.tmp 0), 0, none⟩, ⟨some 4, Op.assign (Operand.const (Value.bool false)), 4, none⟩] (by kernel_rfl) (by kernel_rfl) ?_
  simp [-List.map_take, -List.map_drop, ← List.map_take, ← List.map_drop, Function.comp_def, ← hwd]
  refine zh1 _ ?_
  refine Sat.seqK fun zK2 zh2 zg2 => ?_
  refine Sat.regionP hk [⟨some 13, Op.move (Operand.tmp 1), 24, none⟩, ⟨some 14, Op.call { callee := Callee.value (Operand.func 15), args := #[Operand.tmp 13, Operand.const (Value.int IntKind.i64 10)], argTypes := #[24, 3] }, 25, none⟩, ⟨some 5, Op.assign (Operand.tmp 14), 25, none⟩] (by kernel_rfl) (by kernel_rfl) ?_
  simp [-List.map_take, -List.map_drop, ← List.map_take, ← List.map_drop, Function.comp_def, ← hwd]
  refine zh2 _ ?_
  refine Sat.seqK fun zK3 zh3 zg3 => ?_
  refine Sat.frz 896 (by simp) ?_
  refine Sat.plain ?_
  simp
  refine Sat.regionP hk [⟨some 15, Op.buildSlice 24 0 #[], 24, none⟩, ⟨some 6, Op.assign (Operand.tmp 15), 24, none⟩] (by kernel_rfl) (by kernel_rfl) ?_
  simp [-List.map_take, -List.map_drop, ← List.map_take, ← List.map_drop, Function.comp_def, ← hwd]
  refine zh3 _ ?_
  refine Sat.seqK fun zK4 zh4 zg4 => ?_
  refine Sat.seqK fun zK5 zh5 zg5 => ?_
  refine Sat.regionP hk [⟨some 16, Op.move (Operand.tmp 5), 25, none⟩, ⟨some 17, Op.call { callee := Callee.builtin Builtin.len, args := #[Operand.tmp 16], argTypes := #[25] }, 3, none⟩, ⟨some 18, Op.move (Operand.const (Value.int IntKind.i64 0)), 3, none⟩] (by kernel_rfl) (by kernel_rfl) ?_
  simp [-List.map_take, -List.map_drop, ← List.map_take, ← List.map_drop, Function.comp_def, ← hwd]
  refine zh5 _ ?_
  refine Sat.loopK (E := ⟨_, _, _⟩) [2, 5, 16, 17] [] [128] ⟨by first | (simp [keepS, ← hwd]; done) | (simp [keepS, ← hwd]; rfl), by first | (simp [keepO, ← hwd]; done) | (simp [keepO, ← hwd]; rfl), by first | (simp [keepB, ← hwd]; done) | (simp [keepB, ← hwd]; rfl)⟩ (zh4) (fun (⟨j, v⟩ : Nat × Nat) => (⟨[(18, num j), (6, oref 960 v)], [(960, ⟨v, 0, .own, 34, 4, (w.take j).flatMap (eBlk false)⟩)], []⟩ : Ds)) (fun (⟨j, v⟩ : Nat × Nat) => j ≤ w.length) (fun (⟨j, v⟩ : Nat × Nat) => j = w.length) (fun (⟨j, v⟩ : Nat × Nat) => w.length - j) (0, 1) ?_ ?_ ?_ ?_
  · first | omega | (dsimp only; omega)
  · exact ⟨by simp [FitL, ← hwd], by simp [FitL, ← hwd], by simp [FitL, ← hwd]⟩
  · rintro ⟨j, v⟩ hP0 zo6 zb6 zp6 zq6 zK6 zn6 zx6 zg6
    try dsimp only [Ds.app, Ds.st, List.cons_append, List.nil_append] at hP0 ⊢
    refine Sat.seqK fun zK7 zh7 zg7 => ?_
    refine Sat.regionP hk [⟨some 19, Op.binOp BinOp.lss 3 (Operand.tmp 18) (Operand.tmp 17) 3, 0, none⟩] (by kernel_rfl) (by kernel_rfl) ?_
    simp [-List.map_take, -List.map_drop, ← List.map_take, ← List.map_drop, Function.comp_def, ← hwd, zp6.st, zq6.st]
    refine zh7 _ ?_
    refine Sat.seqK fun zK8 zh8 zg8 => ?_
    refine Sat.cond rfl (fun c19 => ?_) (fun c19 => ?_)
    · skip
      try simp at c19
      obtain ⟨b, hr⟩ : ∃ b, w[j]? = some b := ⟨w[j], List.getElem?_eq_getElem c19⟩
      have hs := hw b (List.mem_of_getElem? hr)
      have hcb := cutBlk_same hs
      have hfb := hs.fine (hwf b (List.mem_of_getElem? hr))
      obtain ⟨bt, bf, bk, bx⟩ := b
      have hg := flat_get tBlk true w j _ hr
      simp at hg
      have hm4 : min 4 (w.length * 4 - j * 4) = 4 := by omega
      have hf : fitsL Try.prog 34 4 (j * 4 + 4) = true := by simp [fitsL, maxL]; omega
      refine Sat.skip ?_
      refine zh8 _ ?_
      refine Sat.seqK fun zK9 zh9 zg9 => ?_
      refine Sat.blockK fun zK10 zh10 zx10 zg10 => ?_
      refine Sat.seqK fun zK11 zh11 zg11 => ?_
      refine Sat.regionP hk [⟨some 20, Op.indexAddr 25 (Operand.tmp 16) (Operand.tmp 18), 0, none⟩, ⟨some 21, Op.load 30 (Operand.tmp 20), 30, none⟩, ⟨some 8, Op.alloc 30, 0, none⟩, ⟨none, Op.store 30 (Operand.tmp 8) (Operand.tmp 21), 0, none⟩] (by kernel_rfl) (by kernel_rfl) ?_
      simp [-List.map_take, -List.map_drop, ← List.map_take, ← List.map_drop, Function.comp_def, ← hwd, zp6.st, zq6.st, hg, hm4, c19, hcb, hfb, hf, take_succ_get hr, Nat.min_eq_left (Nat.le_of_lt c19)]
      refine zh11 _ ?_
      refine Sat.seqK fun zK12 zh12 zg12 => ?_
      refine Sat.regionP hk [⟨some 22, Op.move (Operand.tmp 6), 24, none⟩, ⟨some 23, Op.load 30 (Operand.tmp 8), 30, none⟩, ⟨some 24, Op.call { callee := Callee.value (Operand.func 16), args := #[Operand.tmp 23], argTypes := #[30] }, 34, none⟩, ⟨some 25, Op.buildSlice 24 1 #[(0, Operand.tmp 24)], 24, none⟩, ⟨some 26, Op.call { callee := Callee.builtin Builtin.append, args := #[Operand.tmp 22, Operand.tmp 25], argTypes := #[24, 24] }, 24, none⟩, ⟨some 6, Op.assign (Operand.tmp 26), 24, none⟩] (by kernel_rfl) (by kernel_rfl) ?_
      simp [-List.map_take, -List.map_drop, ← List.map_take, ← List.map_drop, Function.comp_def, ← hwd, zp6.st, zq6.st, hg, hm4, c19, hcb, hfb, hf, take_succ_get hr, Nat.min_eq_left (Nat.le_of_lt c19)]
      refine zh12 _ ?_
      refine Sat.seqK fun zK13 zh13 zg13 => ?_
      refine Sat.regionDP hk (by kernel_rfl) [⟨some 27, Op.load 23 (Operand.tmp 2), 23, none⟩, ⟨some 28, Op.load 30 (Operand.tmp 8), 30, none⟩, ⟨some 29, Op.call { callee := Callee.value (Operand.func 16), args := #[Operand.tmp 28], argTypes := #[30] }, 34, none⟩, ⟨some 30, Op.call { callee := Callee.value (Operand.func 17), args := #[Operand.tmp 27, Operand.tmp 29], argTypes := #[23, 34] }, 36, none⟩, ⟨some 31, Op.load 23 (Operand.tmp 2), 23, none⟩, ⟨some 32, Op.load 30 (Operand.tmp 8), 30, none⟩, ⟨some 33, Op.call { callee := Callee.value (Operand.func 18), args := #[Operand.tmp 31, Operand.tmp 32], argTypes := #[23, 30] }, 3, none⟩, ⟨some 34, Op.binOp BinOp.neq 3 (Operand.tmp 30) (Operand.tmp 33) 3, 4, none⟩] (by kernel_rfl) (by kernel_rfl) (by decide +kernel) (fun an han => ?_)
      simp [-List.map_take, -List.map_drop, ← List.map_take, ← List.map_drop, Function.comp_def, ← hwd, zp6.st, zq6.st, hg, hm4, c19, hcb, hfb, hf, take_succ_get hr, Nat.min_eq_left (Nat.le_of_lt c19)]
      refine ⟨by subst han; kernel_rfl, ?_⟩
      refine zh13 _ ?_
      refine Sat.cond rfl (fun c34 => ?_) (fun c34 => ?_)
      · exfalso; simp [← hwd, zp6.st, zq6.st, hg, hm4, c19, hcb, hfb, hf, take_succ_get hr, Nat.min_eq_left (Nat.le_of_lt c19)] at c34
      · skip
        try simp at c34
        refine Sat.skip ?_
        refine zh10 _ ?_
        refine zh9 _ ?_
        refine Sat.regionP hk [⟨some 35, Op.binOp BinOp.add 3 (Operand.tmp 18) (Operand.const (Value.int IntKind.i64 1)) 3, 3, none⟩, ⟨some 18, Op.move (Operand.tmp 35), 3, none⟩] (by kernel_rfl) (by kernel_rfl) ?_
        simp [-List.map_take, -List.map_drop, ← List.map_take, ← List.map_drop, Function.comp_def, ← hwd, zp6.st, zq6.st, hg, hm4, c19, hcb, hfb, hf, take_succ_get hr, Nat.min_eq_left (Nat.le_of_lt c19)]
        refine zn6 (j + 1, v + 1) _ ?_ ?_ ?_ ?_
        · first | omega | (dsimp only; omega)
        · first | omega | (dsimp only; omega)
        · exact ⟨by simp [-List.map_take, -List.map_drop, ← List.map_take, ← List.map_drop, Function.comp_def, FitL, ← hwd, zp6.st, zq6.st, hg, hm4, c19, hcb, hfb, hf, take_succ_get hr, Nat.min_eq_left (Nat.le_of_lt c19), w64s j (by omega)], by simp [-List.map_take, -List.map_drop, ← List.map_take, ← List.map_drop, Function.comp_def, FitL, ← hwd, zp6.st, zq6.st, hg, hm4, c19, hcb, hfb, hf, take_succ_get hr, Nat.min_eq_left (Nat.le_of_lt c19), w64s j (by omega)], by simp [-List.map_take, -List.map_drop, ← List.map_take, ← List.map_drop, Function.comp_def, FitL, ← hwd, zp6.st, zq6.st, hg, hm4, c19, hcb, hfb, hf, take_succ_get hr, Nat.min_eq_left (Nat.le_of_lt c19), w64s j (by omega)]⟩
        · exact ⟨by simp [-List.map_take, -List.map_drop, ← List.map_take, ← List.map_drop, Function.comp_def, FitL, ← hwd, zp6.st, zq6.st, hg, hm4, c19, hcb, hfb, hf, take_succ_get hr, Nat.min_eq_left (Nat.le_of_lt c19), w64s j (by omega)], by simp [-List.map_take, -List.map_drop, ← List.map_take, ← List.map_drop, Function.comp_def, FitL, ← hwd, zp6.st, zq6.st, hg, hm4, c19, hcb, hfb, hf, take_succ_get hr, Nat.min_eq_left (Nat.le_of_lt c19), w64s j (by omega)], by simp [-List.map_take, -List.map_drop, ← List.map_take, ← List.map_drop, Function.comp_def, FitL, ← hwd, zp6.st, zq6.st, hg, hm4, c19, hcb, hfb, hf, take_succ_get hr, Nat.min_eq_left (Nat.le_of_lt c19), w64s j (by omega)]⟩
    · skip
      try simp at c19
      refine Sat.exit ?_
      refine zg8 _ _ (by simp) ?_
      refine zx6 ⟨j, v⟩ _ ?_ ?_ ?_
      · first | omega | (dsimp only; omega)
      · exact ⟨by simp [-List.map_take, -List.map_drop, ← List.map_take, ← List.map_drop, Function.comp_def, FitL, ← hwd, zp6.st, zq6.st], by simp [-List.map_take, -List.map_drop, ← List.map_take, ← List.map_drop, Function.comp_def, FitL, ← hwd, zp6.st, zq6.st], by simp [-List.map_take, -List.map_drop, ← List.map_take, ← List.map_drop, Function.comp_def, FitL, ← hwd, zp6.st, zq6.st]⟩
      · exact ⟨by simp [-List.map_take, -List.map_drop, ← List.map_take, ← List.map_drop, Function.comp_def, FitL, ← hwd, zp6.st, zq6.st], by simp [-List.map_take, -List.map_drop, ← List.map_take, ← List.map_drop, Function.comp_def, FitL, ← hwd, zp6.st, zq6.st], by simp [-List.map_take, -List.map_drop, ← List.map_take, ← List.map_drop, Function.comp_def, FitL, ← hwd, zp6.st, zq6.st]⟩
  · rintro ⟨j, v⟩ hR0 zo6 zb6 zp6 zq6
    try dsimp only [Ds.app, Ds.st, List.cons_append, List.nil_append] at hR0 ⊢
    subst hR0
    refine Sat.seqK fun zK14 zh14 zg14 => ?_
    cases hd : joinSh c w
    · skip
      refine Sat.regionP hk [⟨some 37, Op.load 23 (Operand.tmp 2), 23, none⟩, ⟨some 38, Op.move (Operand.tmp 6), 24, none⟩, ⟨some 39, Op.call { callee := Callee.value (Operand.func 19), args := #[Operand.tmp 37, Operand.tmp 38], argTypes := #[23, 24] }, 41, none⟩, ⟨some 36, Op.move (Operand.tmp 39), 41, none⟩, ⟨some 40, Op.extract (Operand.tmp 36) 0, 40, none⟩, ⟨some 41, Op.extract (Operand.tmp 36) 1, 36, none⟩, ⟨some 9, Op.alloc 40, 0, none⟩, ⟨none, Op.store 40 (Operand.tmp 9) (Operand.tmp 40), 0, none⟩, ⟨some 10, Op.assign (Operand.tmp 41), 36, none⟩] (by kernel_rfl) (by kernel_rfl) ?_
      simp [-List.map_take, -List.map_drop, ← List.map_take, ← List.map_drop, Function.comp_def, ← hwd, zp6.st, zq6.st, hd, joinOut, hfa]
      refine zh14 _ ?_
      refine Sat.seqK fun zK15 zh15 zg15 => ?_
      refine Sat.regionP hk [⟨some 43, Op.load 23 (Operand.tmp 2), 23, none⟩, ⟨some 44, Op.move (Operand.tmp 5), 25, none⟩, ⟨some 45, Op.call { callee := Callee.value (Operand.func 20), args := #[Operand.tmp 43, Operand.tmp 44], argTypes := #[23, 25] }, 45, none⟩, ⟨some 42, Op.move (Operand.tmp 45), 45, none⟩, ⟨some 46, Op.extract (Operand.tmp 42) 0, 44, none⟩, ⟨some 47, Op.extract (Operand.tmp 42) 1, 3, none⟩, ⟨some 11, Op.alloc 44, 0, none⟩, ⟨none, Op.store 44 (Operand.tmp 11) (Operand.tmp 46), 0, none⟩, ⟨some 12, Op.assign (Operand.tmp 47), 3, none⟩] (by kernel_rfl) (by kernel_rfl) ?_
      simp [-List.map_take, -List.map_drop, ← List.map_take, ← List.map_drop, Function.comp_def, ← hwd, zp6.st, zq6.st, hd, joinOut, hfa]
      refine zh15 _ ?_
      refine Sat.seqK fun zK16 zh16 zg16 => ?_
      refine Sat.regionDP hk (by kernel_rfl) [⟨some 48, Op.call { callee := Callee.value (Operand.func 21), args := #[], argTypes := #[] }, 4, none⟩, ⟨some 49, Op.move (Operand.tmp 48), 4, none⟩, ⟨some 50, Op.move (Operand.tmp 10), 36, some (49, true)⟩, ⟨some 51, Op.move (Operand.tmp 12), 3, some (49, true)⟩, ⟨some 52, Op.binOp BinOp.eql 3 (Operand.tmp 50) (Operand.tmp 51) 3, 4, some (49, true)⟩, ⟨some 53, Op.pick (Operand.tmp 49) (Operand.tmp 52) (Operand.const (Value.bool false)), 4, none⟩, ⟨some 54, Op.move (Operand.tmp 53), 4, none⟩, ⟨some 55, Op.load 40 (Operand.tmp 9), 40, some (54, true)⟩, ⟨some 56, Op.call { callee := Callee.value (Operand.func 23), args := #[Operand.tmp 55], argTypes := #[40] }, 44, some (54, true)⟩, ⟨some 57, Op.load 44 (Operand.tmp 11), 44, some (54, true)⟩, ⟨some 58, Op.call { callee := Callee.value (Operand.func 22), args := #[Operand.tmp 56, Operand.tmp 57], argTypes := #[44, 44] }, 4, some (54, true)⟩, ⟨some 59, Op.pick (Operand.tmp 54) (Operand.tmp 58) (Operand.const (Value.bool false)), 4, none⟩, ⟨some 4, Op.assign (Operand.tmp 59), 4, none⟩] (by kernel_rfl) (by kernel_rfl) (by decide +kernel) (fun an han => ?_)
      simp [-List.map_take, -List.map_drop, ← List.map_take, ← List.map_drop, Function.comp_def, ← hwd, zp6.st, zq6.st, hd, joinOut, hfa, hcv, hfv]
      refine ⟨by subst han; kernel_rfl, ?_⟩
      refine zh16 _ ?_
      refine Sat.ret ?_
      simp [-List.map_take, -List.map_drop, ← List.map_take, ← List.map_drop, Function.comp_def, ← hwd, zp6.st, zq6.st, hd, joinOut, hfa, hcv, hfv]
    · skip
      refine Sat.regionP hk [⟨some 37, Op.load 23 (Operand.tmp 2), 23, none⟩, ⟨some 38, Op.move (Operand.tmp 6), 24, none⟩, ⟨some 39, Op.call { callee := Callee.value (Operand.func 19), args := #[Operand.tmp 37, Operand.tmp 38], argTypes := #[23, 24] }, 41, none⟩, ⟨some 36, Op.move (Operand.tmp 39), 41, none⟩, ⟨some 40, Op.extract (Operand.tmp 36) 0, 40, none⟩, ⟨some 41, Op.extract (Operand.tmp 36) 1, 36, none⟩, ⟨some 9, Op.alloc 40, 0, none⟩, ⟨none, Op.store 40 (Operand.tmp 9) (Operand.tmp 40), 0, none⟩, ⟨some 10, Op.assign (Operand.tmp 41), 36, none⟩] (by kernel_rfl) (by kernel_rfl) ?_
      simp [-List.map_take, -List.map_drop, ← List.map_take, ← List.map_drop, Function.comp_def, ← hwd, zp6.st, zq6.st, hd, joinOut, hfa]
      refine zh14 _ ?_
      refine Sat.seqK fun zK17 zh17 zg17 => ?_
      refine Sat.regionP hk [⟨some 43, Op.load 23 (Operand.tmp 2), 23, none⟩, ⟨some 44, Op.move (Operand.tmp 5), 25, none⟩, ⟨some 45, Op.call { callee := Callee.value (Operand.func 20), args := #[Operand.tmp 43, Operand.tmp 44], argTypes := #[23, 25] }, 45, none⟩, ⟨some 42, Op.move (Operand.tmp 45), 45, none⟩, ⟨some 46, Op.extract (Operand.tmp 42) 0, 44, none⟩, ⟨some 47, Op.extract (Operand.tmp 42) 1, 3, none⟩, ⟨some 11, Op.alloc 44, 0, none⟩, ⟨none, Op.store 44 (Operand.tmp 11) (Operand.tmp 46), 0, none⟩, ⟨some 12, Op.assign (Operand.tmp 47), 3, none⟩] (by kernel_rfl) (by kernel_rfl) ?_
      simp [-List.map_take, -List.map_drop, ← List.map_take, ← List.map_drop, Function.comp_def, ← hwd, zp6.st, zq6.st, hd, joinOut, hfa]
      refine zh17 _ ?_
      refine Sat.seqK fun zK18 zh18 zg18 => ?_
      refine Sat.regionDP hk (by kernel_rfl) [⟨some 48, Op.call { callee := Callee.value (Operand.func 21), args := #[], argTypes := #[] }, 4, none⟩, ⟨some 49, Op.move (Operand.tmp 48), 4, none⟩, ⟨some 50, Op.move (Operand.tmp 10), 36, some (49, true)⟩, ⟨some 51, Op.move (Operand.tmp 12), 3, some (49, true)⟩, ⟨some 52, Op.binOp BinOp.eql 3 (Operand.tmp 50) (Operand.tmp 51) 3, 4, some (49, true)⟩, ⟨some 53, Op.pick (Operand.tmp 49) (Operand.tmp 52) (Operand.const (Value.bool false)), 4, none⟩, ⟨some 54, Op.move (Operand.tmp 53), 4, none⟩, ⟨some 55, Op.load 40 (Operand.tmp 9), 40, some (54, true)⟩, ⟨some 56, Op.call { callee := Callee.value (Operand.func 23), args := #[Operand.tmp 55], argTypes := #[40] }, 44, some (54, true)⟩, ⟨some 57, Op.load 44 (Operand.tmp 11), 44, some (54, true)⟩, ⟨some 58, Op.call { callee := Callee.value (Operand.func 22), args := #[Operand.tmp 56, Operand.tmp 57], argTypes := #[44, 44] }, 4, some (54, true)⟩, ⟨some 59, Op.pick (Operand.tmp 54) (Operand.tmp 58) (Operand.const (Value.bool false)), 4, none⟩, ⟨some 4, Op.assign (Operand.tmp 59), 4, none⟩] (by kernel_rfl) (by kernel_rfl) (by decide +kernel) (fun an han => ?_)
      simp [-List.map_take, -List.map_drop, ← List.map_take, ← List.map_drop, Function.comp_def, ← hwd, zp6.st, zq6.st, hd, joinOut, hfa, hcv, hfv]
      refine ⟨by subst han; kernel_rfl, ?_⟩
      refine zh18 _ ?_
      refine Sat.ret ?_
      simp [-List.map_take, -List.map_drop, ← List.map_take, ← List.map_drop, Function.comp_def, ← hwd, zp6.st, zq6.st, hd, joinOut, hfa, hcv, hfv]
end Go.Proofs.Ytmbmebfeoejlnaa.Ab
