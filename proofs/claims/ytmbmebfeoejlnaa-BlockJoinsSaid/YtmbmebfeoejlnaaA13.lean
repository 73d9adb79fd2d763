/- Each operation of the machine does what the abstract machine says: slices are made; a slice's element is written. -/
import Derived.Test.YtmbmebfeoejlnaaA12
namespace Go.Proofs.Ytmbmebfeoejlnaa.Ab
set_option linter.unusedVariables false
set_option linter.unusedSimpArgs false
open Go.RowKit
section
variable {C : Cx} {fr : Fr} {N : Nat} {σ σ1 : St} {G G1 : Gh} {a : Act} {w : World} {ws : List Wr} {o : Oper}

theorem fillD_ok {fz : Bool} {k : Nat} : ∀ {ps : List (Nat × Operand)} {cs : List D} {cells : Array Value} {used : List Nat} {c : List D → List Wr → E} {σ1 : St} {G1 : Gh} {T : Nat → Nat → Prop}, Inv fr N σ G a w → Inv fr N σ1 G1 a w → RelM fz used σ σ1 →
    Cells w G1.F cs cells.toList T → (∀ j b, T j b → G1.R b) → (fillD fz k cs ps used c).run σ = some ws →
    ∃ cs' cells' ws1 F' R' T', (c cs' ws1).run σ = some ws ∧ Inv fr N (σ1.wrs ws1) { G1 with F := F', R := R' } a w ∧ (∀ i ∈ used, (σ1.wrs ws1).o i = σ1.o i) ∧ Cells w F' cs' cells'.toList T' ∧ (∀ j b, T' j b → R' b) ∧
      Instr.fill (fun i => some (i * k, k)) cells (ps.map fun p => (p.1, a.eval p.2)) = some cells' ∧ cs'.length = cs.length ∧ (σ1.wrs ws1).b = σ1.b ∧ (σ1.wrs ws1).s = σ1.s
  | [], cs, cells, used, c, σ1, G1, T, hi0, hi, hr, hc, hT, h => ⟨cs, cells, [], G1.F, G1.R, T, h, hi, fun _ _ => rfl, hc, hT, rfl, rfl, rfl, rfl⟩
  | (i, x) :: ps, cs, cells, used, c, σ1, G1, T, hi0, hi, hr, hc, hT, h => by
    simp only [fillD] at h
    -- the operand is a slot's: it reads the same in every state of this operation
    have hop : ∃ av, (leafs av fun ls => if ls.length = k ∧ i * k + k ≤ cs.length then movesIn fz ls used fun ds ws used2 => fillD fz k (putAt cs (i * k) ds) ps used2 fun cs2 ws2 => c cs2 (ws ++ ws2) else .fail).run σ = some ws ∧ SOK σ1.o σ1.b G1 w av (a.eval x) := by
      cases x with
      | tmp t => exact ⟨σ1.s t, by rw [hr.s]; exact h, hi.slots t⟩
      | const v =>
        simp only [opd] at h
        split at h
        · rename_i hv; exact ⟨_, h, constD_ok (σ := σ1) v hv⟩
        · simp [E.run] at h
      | global g => simp [opd, E.run] at h
      | func f => simp [opd, E.run] at h
    obtain ⟨av, h, sx⟩ := hop
    have hle : ∃ ls, (if ls.length = k ∧ i * k + k ≤ cs.length then movesIn fz ls used fun ds ws used2 => fillD fz k (putAt cs (i * k) ds) ps used2 fun cs2 ws2 => c cs2 (ws ++ ws2) else .fail : E).run σ = some ws ∧ LsOK σ1.o G1 w ls (a.eval x).cells.toList := by
      unfold leafs at h
      split at h
      · rename_i l
        refine ⟨[l], h, ?_⟩
        rw [one_cells (LOK.one (show LOK σ1.o G1 w l (a.eval x) from sx))]
        refine ⟨rfl, fun n l' u' h1 h2 => ?_⟩
        cases n with
        | zero => simp at h1 h2; subst h1; subst h2; exact sx
        | succ n => simp at h1
      · rename_i ls
        obtain ⟨us, e, h1⟩ := sx
        rw [e]
        exact ⟨ls, h, h1⟩
      · simp [E.run] at h
    obtain ⟨ls, h, hls⟩ := hle
    split at h
    · rename_i hk
      obtain ⟨ds, ws1, used1, F1, R1, T1, h, hm, hc1, hT1, hlen⟩ := movesIn_ok hi hr hls h
      have hcl := hc.len
      have hll := hls.1
      simp only [Array.length_toList] at hcl hll
      obtain ⟨cells1, e1, e2⟩ := fill_cons (place := fun i => some (i * k, k)) (cells := cells) (i := i) (v := a.eval x) (rest := ps.map fun p => (p.1, a.eval p.2)) rfl (by omega) (by omega)
      have hput := (hc.mono hm.F).putAt (p := i * k) hc1 (by omega) (fun j j2 b h1 h2 => (hT1 j2 b h2).2 (hT j b h1))
      rw [← e1] at hput
      obtain ⟨cs', cells', ws2, F2, R2, T2, h, q1, q2, q3, q4, q5, q6, q7, q8⟩ := fillD_ok hi0 hm.inv hm.rel hput (fun j b hb => by
        split at hb
        · exact hm.R b (hT j b hb)
        · split at hb
          · exact (hT1 _ b hb).1
          · exact hm.R b (hT j b hb)) h
      refine ⟨cs', cells', ws1 ++ ws2, F2, R2, T2, h, by rw [wrs_app]; exact q1, fun i' hi' => by rw [wrs_app, q2 i' (hm.us i' hi'), hm.keep i' hi'], q3, q4, by rw [List.map_cons, e2]; exact q5, by rw [q6, putAt_len (by omega)], ?_, ?_⟩
      · rw [wrs_app, q7, hm.rel.b, hr.b]
      · rw [wrs_app, q8, hm.rel.s, hr.s]
    · simp [E.run] at h

theorem Inv.newObj_moves (hi : Inv fr N σ G a w) {e k : Nat} {xs : List D} {v : Value} {S : Nat → Prop} (R : Nat → Prop) (i : Nat) : Moves σ.o (σ.wr (.o i ⟨(σ.o i).v + 1, 0, .own, e, k, xs⟩)).o G { G with val := upd G.val i v, S := upd G.S i S, R := R } w w := by
  refine ⟨fun _ h => h, fun _ _ => rfl, fun i' => ?_⟩
  by_cases hii : i' = i
  · subst hii; exact Keeps.anew (by simp [St.wr, upd])
  · exact Keeps.same (by simp [St.wr, upd, hii]) (fun _ => by simp [upd, hii]) (fun _ _ _ h => h)
/-- a row made in a block of its own -/
theorem row_own {F : Nat → Prop} {e k n : Nat} {xs : List D} {cells : Array Value} {c : Nat} {T : Nat → Nat → Prop} {R : Nat → Prop} {g : Nat} (hk : 0 < k) (hl : xs.length = n * k) (hnc : n ≤ c) (hm : n ≤ maxL) (hcm : c ≤ maxLen) (hw : w.heap[g]? = some (.cells cells e (0, 0))) (hsz : cells.size = c * k)
    (hc : Cells w F xs (cells.toList.take (n * k)) T) (hT : ∀ j b, T j b → R b ∧ b ≠ g) : Own w F (.sl false e k xs) (.slice (some ⟨g, 0, none⟩) n c) (fun b => (∃ j, T j b) ∨ b = g) :=
  .row e k xs _ n c g cells _ T hk hl hnc hm hcm (.inr rfl) hw hsz rfl hc.own (fun j b hb => ⟨.inl ⟨j, hb⟩, (hT j b hb).2⟩) hc.dis
theorem zeros_len {z : List D} : ∀ n, (zeros z n).length = n * z.length
  | 0 => by simp [zeros]
  | n + 1 => by simp [zeros, zeros_len n, Nat.succ_mul]; omega
theorem zeros_get {z : List D} : ∀ (n j : Nat), j < n * z.length → (zeros z n)[j]? = z[j % z.length]?
  | 0, j, h => by simp at h
  | n + 1, j, h => by
    rw [zeros]
    by_cases hj : j < z.length
    · rw [List.getElem?_append_left hj, Nat.mod_eq_of_lt hj]
    · rw [List.getElem?_append_right (by omega), zeros_get n _ (by rw [Nat.succ_mul] at h; omega)]
      congr 1
      rw [← Nat.mod_eq_sub_mod (by omega)]
theorem zipT_len {P : Program} : ∀ {us : List Value} {ts : List Nat}, (zipT P us ts).length = us.length
  | [], ts => rfl
  | v :: vs, [] => by simp [zipT, zipT_len]
  | v :: vs, t :: ts => by simp [zipT, zipT_len]
theorem zipT_own {F : Nat → Prop} {P : Program} {us : List Value} {ts : List Nat} (h : ∀ u ∈ us, u.oneCell' = true) {j : Nat} {x : D} {u : Value} (hx : (zipT P us ts)[j]? = some x) (hu : us[j]? = some u) : Own w F x u (fun _ => False) := by
  have := (zero_lsOK (σ := ⟨fun _ => .dead, fun _ => default, fun _ => default⟩) (G := ⟨fun _ => default, fun _ _ => False, fun _ => 0, F, fun _ => False⟩) (w := w) (P := P) (ts := ts) h).2 j (.d x) u (by simp [hx]) hu
  exact own_d this.1 this.2
theorem zeros_cells {F : Nat → Prop} {P : Program} {t : Nat} {zv : Value} (h : ∀ u ∈ zv.cells.toList, u.oneCell' = true) (hpos : 0 < zv.cells.size) (n m : Nat) (hnm : n ≤ m) :
    Cells w F (zeros (zipT P zv.cells.toList (tleafs P 8 t)) n) ((((Array.range (m * zv.cells.size)).map (zv.cells[· % zv.cells.size]!)).toList).take (n * zv.cells.size)) (fun _ _ => False) := by
  have hzl : (zipT P zv.cells.toList (tleafs P 8 t)).length = zv.cells.size := by rw [zipT_len]; simp
  have hle : n * zv.cells.size ≤ m * zv.cells.size := Nat.mul_le_mul_right _ hnm
  refine ⟨by rw [zeros_len, hzl, List.length_take, Array.length_toList, Array.size_map, Array.size_range]; exact Nat.min_eq_left hle, fun j x u h1 h2 => ?_, fun _ _ _ h => h.elim⟩
  have hj : j < n * zv.cells.size := by have := (List.getElem?_eq_some_iff.1 h1).1; rw [zeros_len, hzl] at this; exact this
  rw [zeros_get _ _ (by rw [hzl]; exact hj), hzl] at h1
  have hjm : j % zv.cells.size < zv.cells.size := Nat.mod_lt _ hpos
  refine zipT_own h h1 ?_
  rw [List.getElem?_take, if_pos hj, Array.getElem?_toList, Array.getElem?_map] at h2
  have hr : (Array.range (m * zv.cells.size))[j]? = some j := by
    rw [Array.getElem?_eq_getElem (by rw [Array.size_range]; omega)]; simp
  rw [hr] at h2
  simp only [Option.map_some, Option.some.injEq] at h2
  rw [Array.getElem?_toList, ← h2]
  simp [hjm]
theorem ok_buildSlice (hi : Inv fr N σ G a w) {t : TypeId} {len : Nat} {parts : Array (Nat × Operand)} (ho : o.op = .buildSlice t len parts) (hd : dstOk N o.dst = true) (h : (eff C o).run σ = some ws) : Told C fr N σ ws o G a w := by
  simp only [eff, ho] at h
  split at h
  · rename_i e he
    split at h
    · rename_i z hz
      obtain ⟨i, zv, h1, h2, h3, h4, rfl⟩ := tzero_some hz
      have hzl : (zipT C.P zv.cells.toList (tleafs C.P 8 e)).length = zv.cells.size := by rw [zipT_len]; simp
      rw [hzl] at h
      split at h
      · rename_i hc
        obtain ⟨hpos, hsz, hsmall⟩ := hc
        -- the block is made last; its parts are moved in first
        have hzc := zeros_cells (w := w) (F := G.F) (P := C.P) (t := e) h4 hpos len len (Nat.le_refl _)
        generalize hcells0 : ((Array.range (len * zv.cells.size)).map (zv.cells[· % zv.cells.size]!)) = cells0 at hzc
        have hsz0 : cells0.size = len * zv.cells.size := by rw [← hcells0]; simp
        rw [List.take_of_length_le (by simp [hsz0])] at hzc
        obtain ⟨cs, cells, ws1, F1, R1, T1, h, q1, q2, q3, q4, q5, q6, q7, q8⟩ := fillD_ok (c := fun cs ws => .rdO (site o) fun ob => .done (ws ++ [.o (site o) ⟨ob.v + 1, 0, .own, e, zv.cells.size, cs⟩] ++ setS o.dst (.l (.ref (site o) (ob.v + 1) [] 0 none)))) hi hi ⟨fun _ _ => .inl rfl, rfl, rfl⟩ hzc (fun _ _ h => h.elim) h
        simp only [E.run, Option.some.injEq] at h
        subst h
        have hlc := q3.len
        rw [zeros_len, hzl] at q6
        have hcsz : cells.size = len * zv.cells.size := by simpa [q6] using hlc
        have hrun : (execOp a.eval o).run C.P w = .ok (.value (.slice (some ⟨w.heap.size, 0, none⟩) len len)) (w.alloc (.cells cells e)) := by
          have hb : (Instr.buildSlice t len (parts.map fun p => (p.1, a.eval p.2))).run C.P w = .ok (.slice (some ⟨w.heap.size, 0, none⟩) len len) (w.alloc (.cells cells e)) := by
            have hu := tel_some he
            by_cases hl0 : len * i.size = 0
            · have hlen0 : len = 0 := by
                rcases Nat.mul_eq_zero.1 hl0 with h | h
                · exact h
                · omega
              subst hlen0
              have hce : cells0 = #[] := Array.eq_empty_of_size_eq_zero (by rw [hsz0]; simp)
              rw [hce] at q5
              rw [h3] at q5
              have hr0 : Array.range 0 = #[] := rfl
              simp [Instr.buildSlice, run_underlying hu, sizeOf, typeInfo, zeroValue, h1, h2, newRow, q5, hr0]
            · refine run_buildSlice w t e len _ cells i zv hu h1 h2 (by rw [← h3]; omega) hl0 ?_
              rw [← h3, hcells0]
              simpa using q5
          simp [execOp, ho, hb]
        have hlenm : len ≤ 16777216 := by
          have : len * 1 ≤ len * zv.cells.size := Nat.mul_le_mul_left _ hpos
          omega
        have q1' := q1.alloc (.cells cells e)
        have hcw : Cells (w.alloc (.cells cells e)) F1 cs cells.toList T1 := ⟨q3.len, fun j x u h1 h2 => (q3.own j x u h1 h2).frame (fun _ h => h) (fun _ h => h) (fun b hb => alloc_old w _ b (hb.elim (fun h => (q1.rF b (q4 j b h)).2.2) (fun h => (q1.Fw b h).1))), q3.dis⟩
        have hnew := row_own (R := fun b => R1 b ∨ b = w.heap.size) (F := F1) (e := e) (k := zv.cells.size) (n := len) (c := len) (g := w.heap.size) hpos (by rw [q6]) (Nat.le_refl _) (by unfold maxL; omega) (by unfold maxLen; omega) (alloc_new w _) hcsz
          (by rw [List.take_of_length_le (by simp [hcsz])]; exact hcw) (fun j b hb => ⟨.inl (q4 j b hb), fun e => by have := (q1.rF b (q4 j b hb)).2.2; omega⟩)
        have hobj := q1'.newObj hnew (fun b hb => by
          rcases hb with ⟨j, hb⟩ | rfl
          · exact .inl (q4 j b hb)
          · exact .inr rfl) (site o)
        rw [q2 (site o) (by simp)] at hobj
        intro next Q hn
        refine wp_value' hrun (hn _ _ _ (by
          rw [wrs_app, wrs_app]
          refine Inv.put (σ := (σ.wrs ws1).wr (.o (site o) ⟨(σ.o (site o)).v + 1, 0, .own, e, zv.cells.size, cs⟩)) hobj hd ⟨.inr ⟨by simp [St.wr, upd], by simp [St.wr, upd]⟩, rfl, fun _ => ⟨_, _, _, _, _, rfl, .nil _ _, by simp [upd]; rfl⟩⟩))
      · simp [E.run] at h
    · simp [E.run] at h
  · simp [E.run] at h
theorem ok_makeSlice (hi : Inv fr N σ G a w) {t : TypeId} {x y : Operand} (ho : o.op = .makeSlice t x y) (hd : dstOk N o.dst = true) (h : (eff C o).run σ = some ws) : Told C fr N σ ws o G a w := by
  simp only [eff, ho] at h
  split at h
  · rename_i e he
    split at h
    · rename_i z hz
      obtain ⟨i, zv, h1, h2, h3, h4, rfl⟩ := tzero_some hz
      have hzl : (zipT C.P zv.cells.toList (tleafs C.P 8 e)).length = zv.cells.size := by rw [zipT_len]; simp
      rw [hzl] at h
      obtain ⟨ax, h, sx⟩ := opd_ok hi h
      obtain ⟨ay, h, sy⟩ := opd_ok hi h
      obtain ⟨h, _⟩ := litE_ok sx h
      obtain ⟨h, _⟩ := litE_ok sy h
      split at h
      · rename_i n m hx hy
        split at h
        · rename_i hc
          obtain ⟨hpos, hsz, hn0, hnm, hm, hby⟩ := hc
          simp only [E.run, Option.some.injEq] at h
          subst h
          unfold maxL at hm hby
          have hb : tby C.P e = i.bytes := by unfold tby; rw [h1]; rfl
          rw [hb] at hby
          generalize hcells : madeCells zv.cells (m.toNat * i.size) = cells
          have hrun : (execOp a.eval o).run C.P w = .ok (.value (.slice (some ⟨w.heap.size, 0, none⟩) n.toNat m.toNat)) (w.alloc (.cells cells e)) := by
            have := run_make (P := C.P) w t e i zv (tel_some he) h1 h2 .i64 .i64 n m hn0 hnm (by rw [Int.mul_comm]; omega) (by omega)
            rw [hcells] at this
            simp [execOp, ho, hx, hy, this]
          have hmm : m.toNat * i.size = m.toNat * zv.cells.size := by rw [h3]
          have hce : cells = (Array.range (m.toNat * zv.cells.size)).map (zv.cells[· % zv.cells.size]!) := by rw [← hcells, hmm]; rfl
          have hcsz : cells.size = m.toNat * zv.cells.size := by rw [hce]; simp
          have q1 := hi.alloc (.cells cells e)
          have hzc := zeros_cells (w := w.alloc (.cells cells e)) (F := G.F) (P := C.P) (t := e) h4 hpos n.toNat m.toNat (by omega)
          rw [← hce] at hzc
          have hnew := row_own (R := fun b => G.R b ∨ b = w.heap.size) (F := G.F) (e := e) (k := zv.cells.size) (n := n.toNat) (c := m.toNat) (g := w.heap.size) hpos (by rw [zeros_len, hzl]) (by omega) (by unfold maxL; omega) (by unfold maxLen; omega) (alloc_new w _) hcsz hzc (fun j b hb => hb.elim)
          have hobj := q1.newObj hnew (fun b hb => by
            rcases hb with ⟨j, hb⟩ | rfl
            · exact hb.elim
            · exact .inr rfl) (site o)
          intro next Q hn
          refine wp_value' hrun (hn _ _ _ (by
            rw [wrs_app]
            refine Inv.put (σ := σ.wr (.o (site o) ⟨(σ.o (site o)).v + 1, 0, .own, e, zv.cells.size, zeros (zipT C.P zv.cells.toList (tleafs C.P 8 e)) n.toNat⟩)) hobj hd ⟨.inr ⟨by simp [St.wr, upd], by simp [St.wr, upd]⟩, rfl, fun _ => ⟨_, _, _, _, _, rfl, .nil _ _, by simp [upd]; rfl⟩⟩))
        · simp [E.run] at h
      · simp [E.run] at h
    · simp [E.run] at h
  · simp [E.run] at h
end
end Go.Proofs.Ytmbmebfeoejlnaa.Ab
