/- Every operation that the abstract machine runs, the machine runs so; a region without a drawn order. -/
import Derived.Test.YtmbmebfeoejlnaaA18
namespace Go.Proofs.Ytmbmebfeoejlnaa.Ab
set_option linter.unusedVariables false
set_option linter.unusedSimpArgs false
open Go.RowKit
def Knows (C : Cx) : Prop := ∀ f sp, C.ct f = some sp → Contract C.P f sp
section
variable {C : Cx} {fr : Fr} {σ : St} {G : Gh} {a : Act} {w : World} {ws : List Wr} {o : Oper}

theorem run_append_make {P : Program} {t e t' ty : TypeId} {i : TypeInfo} {z : Value} {k k' : IntKind} {n : Int} (ht : P.underlying t = some (.slice e)) (ht' : P.underlying t' = some (.int k)) (hi : P.info? e = some i) (hz : i.zero = some z) (hsz : 0 < i.size) (h1 : 1 ≤ n) (h2 : n ≤ 140737488355328) (h3 : n * (i.bytes : Int) ≤ 140737488355328) :
    (Builtin.append_ #[t, t'] ty #[.slice none 0 0, .int k' n]).run P w =
      .ok (.slice (some ⟨w.heap.size, 0, none⟩) n.toNat (grownCap w n.toNat 0 e)) (w.drew.alloc (.cells (Builtin.zeroCells z.cells n.toNat ++ Builtin.zeroCells z.cells (grownCap w n.toNat 0 e - n.toNat)) e)) := by
  have hw : IntKind.i64.wrap n = n := by
    have hm : n % 18446744073709551616 = n := by omega
    unfold IntKind.wrap
    simp [IntKind.bits, IntKind.signed, hm]
    omega
  obtain ⟨m, rfl⟩ := Int.eq_ofNat_of_zero_le (show 0 ≤ n by omega)
  have h3' : m * i.bytes ≤ 140737488355328 := by have h := h3; rw [← Int.natCast_mul] at h; omega
  have hn : m ≠ 0 := by omega
  have hneg : ¬ ((m : Int) < 0) := by omega
  have hb1 : ¬ (281474976710656 < ((m : Int) * (i.bytes : Int))) := by omega
  have h63' : ¬ (9223372036854775807 < (m : Int)) := by omega
  have h48' : ¬ (281474976710656 < Builtin.nextslicecap m 0 * i.bytes) := by rw [nextslicecap_zero (by omega)]; omega
  have hmz : ¬ (m * i.size = 0) := by
    have := Nat.mul_pos (Nat.pos_of_ne_zero hn) hsz
    omega
  simp only [Int.toNat_natCast] at *
  simp [Builtin.append_, run_underlying ht, run_underlying ht', sizeOf, typeInfo, zeroValue, hi, hz, asInt, asIntOf, hw, hneg, hb1, hn, h63', h48', hmz, Question.forced, run_firstCells_none, newRow, grownCap]
theorem ok_appMake (hi : Inv fr C.N σ G a w) {x y : Operand} {lx ly : LV} {t t' : TypeId} (ho : o.op = .call { callee := .builtin .append, args := #[x, y], argTypes := #[t, t'] }) (hd : dstOk C.N o.dst = true)
    (sx : SOK σ.o σ.b G w (.l lx) (a.eval x)) (sy : SOK σ.o σ.b G w (.l ly) (a.eval y)) (h : (appMakeE C o t t' lx ly).run σ = some ws) : Told C fr C.N σ ws o G a w := by
  unfold appMakeE at h
  split at h
  · rename_i e0 k0 k n
    split at h
    · rename_i e he
      split at h
      · rename_i z hz
        obtain ⟨i, zv, h1, h2, h3, h4, rfl⟩ := tzero_some hz
        have hzl : (zipT C.P zv.cells.toList (tleafs C.P 8 e)).length = zv.cells.size := by rw [zipT_len]; simp
        rw [hzl] at h
        split at h
        · rename_i hc
          obtain ⟨hpos, htint, hn1, hn2, hby⟩ := hc
          simp only [E.run, Option.some.injEq] at h
          subst h
          unfold maxL at hn2 hby
          have hb : tby C.P e = i.bytes := by unfold tby; rw [h1]; rfl
          rw [hb] at hby
          obtain ⟨k', hk'⟩ := Option.isSome_iff_exists.1 htint
          have hut : C.P.underlying t' = some (.int k') := by
            unfold tint at hk'; split at hk'
            · rename_i h1; rw [h1]; rw [Option.some.inj hk']
            · cases hk'
          have e1 : a.eval x = .slice none 0 0 := sx.2
          have e2 : a.eval y = .int k n := Rep.lit_inv (F := G.F) sy.1
          have hrun := run_append_make (w := w) (ty := o.type) (k' := k) (tel_some he) hut h1 h2 (by omega) hn1 hn2 hby
          have hge := grownCap_ge w n.toNat 0 e
          have hcm : grownCap w n.toNat 0 e ≤ maxLen := grownCap_le_maxLen w n.toNat 0 e (by unfold maxLen; omega)
          generalize hcells : Builtin.zeroCells zv.cells n.toNat ++ Builtin.zeroCells zv.cells (grownCap w n.toNat 0 e - n.toNat) = cells at hrun
          have hcsz : cells.size = grownCap w n.toNat 0 e * zv.cells.size := by rw [← hcells]; simp [size_zeroCells, ← Nat.add_mul]; rw [Nat.add_sub_cancel' hge]
          have hi0 : Inv fr C.N σ { G with R := fun b => G.R b ∨ w.heap.size ≤ b ∧ b < w.drew.heap.size } a w.drew := hi.world (w' := w.drew) rfl rfl rfl (Nat.le_refl _) (fun _ _ _ => rfl)
          have q1 := hi0.alloc (.cells cells e)
          have hzc := zeros_cells (w := w.drew.alloc (.cells cells e)) (F := G.F) (P := C.P) (t := e) h4 hpos n.toNat n.toNat (Nat.le_refl _)
          have htake : (((Array.range (n.toNat * zv.cells.size)).map (zv.cells[· % zv.cells.size]!)).toList).take (n.toNat * zv.cells.size) = cells.toList.take (n.toNat * zv.cells.size) := by
            rw [← hcells, Array.toList_append, List.take_append_of_le_length (by simp [size_zeroCells])]
            rfl
          rw [htake] at hzc
          have hnew := row_own (R := fun b => (G.R b ∨ w.heap.size ≤ b ∧ b < w.drew.heap.size) ∨ b = w.heap.size) (F := G.F) (e := e) (k := zv.cells.size) (n := n.toNat) (c := grownCap w n.toNat 0 e) (g := w.heap.size) hpos (by rw [zeros_len, hzl]) hge (by unfold maxL; omega) hcm (alloc_new w.drew _) hcsz hzc (fun j b hb => hb.elim)
          have hobj := q1.newObj hnew (fun b hb => by
            rcases hb with ⟨j, hb⟩ | rfl
            · exact hb.elim
            · exact .inr rfl) (site o)
          intro next Q hn
          refine wp_value' (v := .slice (some ⟨w.heap.size, 0, none⟩) n.toNat (grownCap w n.toNat 0 e)) (w' := w.drew.alloc (.cells cells e)) (by simp [execOp, ho, resolve, invoke, builtin, e1, e2, hrun]) (hn _ _ _ (by
            rw [wrs_app]
            refine Inv.put (σ := σ.wr (.o (site o) ⟨(σ.o (site o)).v + 1, 0, .own, e, zv.cells.size, zeros (zipT C.P zv.cells.toList (tleafs C.P 8 e)) n.toNat⟩)) hobj hd ⟨.inr ⟨by simp [St.wr, upd], by simp [St.wr, upd]⟩, rfl, fun _ => ⟨_, _, _, _, _, rfl, .nil _ _, by simp [upd]; rfl⟩⟩))
        · simp [E.run] at h
      · simp [E.run] at h
    · simp [E.run] at h
  · simp [E.run] at h
theorem ok_cap (hi : Inv fr C.N σ G a w) (hd : dstOk C.N o.dst = true) {x : Operand} {av : AV} {ts : List Nat} (ho : o.op = .call { callee := .builtin .cap, args := #[x], argTypes := ts.toArray }) (sx : SOK σ.o σ.b G w av (a.eval x)) (h : (capE C o av ts).run σ = some ws) : Told C fr C.N σ ws o G a w := by
  unfold capE at h
  split at h
  · split at h
    · rename_i ht
      obtain rfl := Option.some.inj h
      obtain ⟨e', he⟩ := Option.isSome_iff_exists.1 ht
      have e1 : a.eval x = .slice none 0 0 := sx.2
      exact told_value hi hd (v := .int .i64 0) (by simp [execOp, ho, resolve, invoke, builtin, e1, Builtin.cap_, run_underlying (tel_some he)]; rfl) (lit_sok rfl)
    · simp [E.run] at h
  · simp [E.run] at h
theorem ok_builtin (hi : Inv fr C.N σ G a w) (hd : dstOk C.N o.dst = true) {b : Builtin} {args : Array Operand} {ts : Array TypeId} (ho : o.op = .call { callee := .builtin b, args := args, argTypes := ts })
    (h : (builtinE C o b args.toList ts.toList).run σ = some ws) : Told C fr C.N σ ws o G a w := by
  obtain ⟨args⟩ := args
  obtain ⟨ts⟩ := ts
  have h : (builtinE C o b args ts).run σ = some ws := h
  have h0 := h
  unfold builtinE at h
  split at h
  · rename_i x
    obtain ⟨ax, h1, sx⟩ := opd_ok hi h
    split at h1
    · exact ok_len hi ho hd h0
    · simp [E.run] at h1
  · obtain ⟨ax, h1, sx⟩ := opd_ok hi h
    exact ok_cap hi hd ho sx h1
  · exact ok_minmax hi (.inl rfl) ho hd h
  · exact ok_minmax hi (.inr rfl) ho hd h
  · rename_i x y
    obtain ⟨ax, h1, sx⟩ := opd_ok hi h
    clear h h0
    obtain ⟨ay, h, sy⟩ := opd_ok hi h1
    clear h1
    split at h
    · rename_i lx ly t t'
      split at h
      · rename_i ht
        subst ht
        split at h
        · rename_i e he
          exact ok_append hi ho hd he sx sy h
        · simp [E.run] at h
      · exact ok_appMake hi ho hd sx sy h
    · simp [E.run] at h
  · simp [E.run] at h
theorem ok_eff (hk : Knows C) (hi : Inv fr C.N σ G a w) (hd : dstOk C.N o.dst = true) (h : (eff C o).run σ = some ws) : Told C fr C.N σ ws o G a w := by
  cases ho : o.op with
  | move x => exact ok_move hi (.inl ho) hd h
  | assign x => exact ok_move hi (.inr ho) hd h
  | pick c x y => exact ok_pick hi ho hd h
  | alloc t => exact ok_alloc hi ho hd h
  | box t x => exact ok_box hi ho hd h
  | build t ps => exact ok_build hi ho hd h
  | buildSlice t n ps => exact ok_buildSlice hi ho hd h
  | load t x => exact ok_load hi ho hd h
  | store t x y => exact ok_store hi ho hd h
  | nilCheck x => exact ok_nilCheck hi ho hd h
  | binOp op t x y t' => exact ok_binOp hi ho hd h
  | unOp op t x => exact ok_unOp hi ho hd h
  | convert t t' x => exact ok_convert hi ho hd h
  | makeSlice t x y => exact ok_makeSlice hi ho hd h
  | slice t x lo hi' mx =>
    cases mx with
    | none => exact ok_slice hi ho hd h
    | some m => simp [eff, ho, E.run] at h
  | fieldAddr t x f => exact ok_fieldAddr hi ho hd h
  | field t x f => exact ok_field hi ho hd h
  | indexAddr t x y => exact ok_indexAddr hi ho hd h
  | index t x y => exact ok_index hi ho hd h
  | extract x n => exact ok_extract hi ho hd h
  | call c =>
    obtain ⟨callee, args, ts⟩ := c
    cases callee with
    | value f =>
      cases f with
      | func f =>
        simp only [eff, ho] at h
        split at h
        · rename_i sp hsp; exact ok_call hi (hk f sp hsp) hd ho h
        · simp [E.run] at h
      | tmp t => simp [eff, ho, E.run] at h
      | const v => simp [eff, ho, E.run] at h
      | global g => simp [eff, ho, E.run] at h
    | builtin b => exact ok_builtin hi hd ho (by simp only [eff, ho] at h; exact h)
    | invoke r m => simp [eff, ho, E.run] at h
  | _ => simp [eff, ho, E.run] at h
/-- an operation and its guard -/
theorem ok_step (hk : Knows C) {ops : Array Oper} (hi : Inv fr C.N σ G a w) (h : (stepE C ops o).run σ = some ws) {next : Act → World → Prop} {Q : Exit → Act → World → Prop} (hn : ∀ G' a' w', Inv fr C.N (σ.wrs ws) G' a' w' → next a' w') :
    if Region.wanted o (yielded ops a.tmps) then o.wp C.P a w next Q ∨ (o.asks C.P a w ∧ LetsOut Q) else next (a.put o.dst undef) w := by
  unfold stepE at h
  split at h
  · simp [E.run] at h
  · rename_i hd
    have hd : dstOk C.N o.dst = true := by simpa using hd
    have key : ∀ b : Bool, Region.wanted o (yielded ops a.tmps) = b → (if b then eff C o else .done (setS o.dst .und) : E).run σ = some ws → if Region.wanted o (yielded ops a.tmps) then o.wp C.P a w next Q ∨ (o.asks C.P a w ∧ LetsOut Q) else next (a.put o.dst undef) w := by
      intro b hb h
      cases b with
      | true => rw [hb]; exact .inl (ok_eff hk hi hd h next Q hn)
      | false =>
        rw [hb]
        obtain rfl := Option.some.inj h
        exact hn G _ w (hi.put hd rfl)
    unfold guardE at h
    split at h
    · rename_i hg
      exact key true (by unfold Region.wanted; rw [hg]) h
    · rename_i j want hg
      split at h
      · rename_i d hdst
        have hw : Region.wanted o (yielded ops a.tmps) = (yielded ops a.tmps j == some want) := by unfold Region.wanted; rw [hg]
        have hs := hi.slots d
        simp only [E.run] at h
        split at h
        · rename_i b hb
          rw [hb] at hs
          have hv : a.tmps.getD d undef = .bool b := Rep.lit_inv (F := G.F) hs.1
          have hy : yielded ops a.tmps j = some b := by
            unfold yielded
            rw [hdst]
            have : a.tmps[d]? = some (.bool b) := by
              cases hq : a.tmps[d]? with
              | none => simp [Array.getD_eq_getD_getElem?, hq, undef] at hv
              | some v => simp [Array.getD_eq_getD_getElem?, hq] at hv; rw [hv]
            simp [this]
          rw [hy] at hw
          exact key (b == want) (by rw [hw]; cases b <;> cases want <;> rfl) h
        · rename_i hb
          rw [hb] at hs
          have hv : a.tmps.getD d undef = undef := hs
          have hy : yielded ops a.tmps j = none := by
            unfold yielded
            rw [hdst]
            cases hq : a.tmps[d]? with
            | none => simp [hq]
            | some v => simp [Array.getD_eq_getD_getElem?, hq] at hv; simp [hq, hv, undef]
          rw [hy] at hw
          exact key false (by rw [hw]; rfl) h
        · simp [E.run] at h
      · simp [E.run] at h
theorem run_list (hk : Knows C) {ops : Array Oper} {Q : Exit → Act → World → Prop} : ∀ {l : List Oper} {σ σ' : St} {G : Gh} {a : Act} {w : World}, Inv fr C.N σ G a w → runOps C ops l σ = some σ' → (∀ G' a' w', Inv fr C.N σ' G' a' w' → Q .normal a' w') → wpList C.P ops Q l a w
  | [], σ, σ', G, a, w, hi, h, hq => by
    obtain rfl := Option.some.inj h
    exact hq G a w hi
  | o :: l, σ, σ', G, a, w, hi, h, hq => by
    simp only [runOps] at h
    split at h
    · rename_i ws hws
      exact ok_step hk hi hws (fun G' a' w' hI => run_list hk hI h hq)
    · cases h
def someP {α : Type} (p : α → Prop) : Option α → Prop
  | some x => p x
  | none => False
theorem Sat.region (hk : Knows C) {Q : Exit → St → Prop} {id : Nat} {ops : Array Oper} (h : someP (Q .normal) (runOps C ops ops.toList σ)) : Sat C fr C.N (.region id ops false) σ Q := by
  intro G a w hi
  refine wp_region_list ?_
  cases hr : runOps C ops ops.toList σ with
  | none => rw [hr] at h; exact h.elim
  | some σ' =>
    rw [hr] at h
    exact run_list hk hi hr (fun G' a' w' hI => ⟨σ', G', h, hI⟩)
end
end Go.Proofs.Ytmbmebfeoejlnaa.Ab
