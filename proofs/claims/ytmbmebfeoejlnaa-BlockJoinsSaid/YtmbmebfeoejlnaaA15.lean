/- Each operation of the machine does what the abstract machine says: stores. -/
import Derived.Test.YtmbmebfeoejlnaaA14
namespace Go.Proofs.Ytmbmebfeoejlnaa.Ab
set_option linter.unusedVariables false
set_option linter.unusedSimpArgs false
open Go.RowKit
section
variable {C : Cx} {fr : Fr} {N : Nat} {σ σ1 : St} {G G1 : Gh} {a : Act} {w : World} {ws : List Wr} {o : Oper}

theorem run_store_of {P : Program} {t : Nat} {x y : Operand} {ad : Addr} {w' : World} (ho : o.op = .store t x y) (hx : a.eval x = .pointer (some ad)) (hz : tsz P t ≠ 0) (hs : (a.eval y).cells.size = tsz P t) (hr : (storeCells ad (a.eval y).cells.toList).run P w = .ok () w') :
    (execOp a.eval o).run P w = .ok .skip w' := by
  simp [execOp, ho, hx, Instr.storeAt, Instr.sureAddr, storeVar, run_sizeOf' hz, hs, hr]
theorem frozen_row {g j e : Nat} {cur : Array Value} (h : w.heap[g]? = some (.cells cur e (0, 0))) : w.frozen? ⟨g, j, none⟩ = false := by simp [World.frozen?, h]
theorem run_store1 {P : Program} {g j e : Nat} {cur : Array Value} {u : Value} (h : w.heap[g]? = some (.cells cur e (0, 0))) (hj : j < cur.size) (hu : u.oneCell' = true) : (storeCells ⟨g, j, none⟩ [u]).run P w = .ok () (w.setCell ⟨g, j, none⟩ u) := by
  have hc : w.cell? ⟨g, j, none⟩ = some cur[j] := by rw [cell_of_row h]; exact Array.getElem?_eq_getElem hj
  have h2 := run_store P w ⟨g, j, none⟩ u .plain hu
  rw [hc, frozen_row h] at h2
  have e0 : (⟨g, j, none⟩ : Addr).add 0 = ⟨g, j, none⟩ := rfl
  simp only [Bool.false_eq_true, if_false] at h2
  simp [storeCells, e0, h2]
theorem Obj.up_setC {ob : Obj} {c : Nat} {y : D} {p : List Nat} : D.sl false ob.e ob.k (ob.up (D.setC c y) p) = ob.d.upd (D.setC c y) p := by
  cases p with
  | nil => rfl
  | cons j p => unfold Obj.up Obj.d; rw [D.upd]; rfl
/-- the row at a path: its block -/
theorem HeadAt.row (hi : Inv fr N σ G a w) {i : Nat} {p : List Nat} {e k g n m : Nat} {xs : List D} (hst : (σ.o i).st = .own) (hat : (σ.o i).d.at p = some (.sl false e k xs)) (hh : HeadAt w (σ.o i).d (G.val i) p (.slice (some ⟨g, 0, none⟩) n m)) :
    ∃ cur, w.heap[g]? = some (.cells cur e (0, 0)) ∧ xs.length ≤ cur.size ∧ G.S i g := by
  obtain ⟨T, ho, hT⟩ := hh.one (hi.objs i hst) hat
  obtain ⟨us, cur, T', _, hk, hn, hc, _, _, hS, hcell, hcur, _⟩ := ho.row_inv (g := 0) rfl
  exact ⟨cur, hcell, by rw [hn, hcur]; exact Nat.mul_le_mul_right k hc, hT g hS⟩
theorem HeadAt.upd {x : D} {v u : Value} {p : List Nat} (h : HeadAt w x v p u) : ∀ {r : List Nat} {f : D → D}, HeadAt w (x.upd f (p ++ r)) v p u := by
  induction h with
  | nil x v => intro r f; exact .nil _ _
  | cons e k xs g n c j p x u v' hx hu h ih =>
    intro r f
    rw [List.cons_append, D.upd, hx]
    exact .cons _ _ _ _ _ _ _ _ (x.upd f (p ++ r)) _ _ (List.getElem?_set_self (List.getElem?_eq_some_iff.1 hx).1) hu ih
theorem at_upd {p : List Nat} : ∀ {x z : D} {c e k : Nat} {xs : List D} {f : D → D}, x.at p = some (.sl false e k xs) → xs[c]? = some z → (x.upd f (p ++ [c])).at p = some (.sl false e k (xs.set c (f z))) := by
  induction p with
  | nil => intro x z c e k xs f h1 h2; rw [D.at] at h1; obtain rfl := Option.some.inj h1; rw [List.nil_append, D.upd, h2]; rfl
  | cons j p ih =>
    intro x z c e k xs f h1 h2
    cases x with
    | lit v => simp [D.at] at h1
    | hole => simp [D.at] at h1
    | sl sh e' k' ys =>
      cases sh with
      | true => simp [D.at] at h1
      | false =>
        rw [D.at] at h1
        cases hy : ys[j]? with
        | none => simp [hy] at h1
        | some y' =>
          simp only [hy] at h1
          rw [List.cons_append, D.upd, hy]
          rw [D.at, List.getElem?_set_self (List.getElem?_eq_some_iff.1 hy).1]
          exact ih h1 h2
theorem upd_upd {p : List Nat} : ∀ {x z y : D} {c e k : Nat} {xs : List D} {f : D → D}, x.at p = some (.sl false e k xs) → xs[c]? = some z → (x.upd f (p ++ [c])).upd (D.setC c y) p = x.upd (D.setC c y) p := by
  induction p with
  | nil => intro x z y c e k xs f h1 h2; rw [D.at] at h1; obtain rfl := Option.some.inj h1; simp [D.upd, h2, D.setC]
  | cons j p ih =>
    intro x z y c e k xs f h1 h2
    cases x with
    | lit v => simp [D.at] at h1
    | hole => simp [D.at] at h1
    | sl sh e' k' ys =>
      cases sh with
      | true => simp [D.at] at h1
      | false =>
        rw [D.at] at h1
        cases hy : ys[j]? with
        | none => simp [hy] at h1
        | some y' =>
          simp only [hy] at h1
          have hj := (List.getElem?_eq_some_iff.1 hy).1
          rw [List.cons_append, D.upd, hy, D.upd, D.upd, hy]
          simp only [List.getElem?_set_self hj]
          rw [ih h1 h2, List.set_set]
/-- the last step of a store into a row -/
theorem store_end {t : Nat} {x y : Operand} (ho : o.op = .store t x y) (hd : dstOk N o.dst = true) (hi1 : Inv fr N σ1 G1 a w) {i g c e k n m : Nat} {p : List Nat} {xs : List D} {D1 : D} {S1 T : Nat → Prop} {yD : D} (hst : (σ1.o i).st = .own)
    (hD : Own w G1.F D1 (G1.val i) S1) (hS1 : ∀ b, S1 b → G1.S i b) (hh : HeadAt w D1 (G1.val i) p (.slice (some ⟨g, 0, none⟩) n m)) (hat : D1.at p = some (.sl false e k xs)) (hc : c < xs.length)
    (hy : Own w G1.F yD (a.eval y) T) (hT : ∀ b, T b → (G1.S i b ∨ G1.R b) ∧ ¬ S1 b) (hx : a.eval x = .pointer (some ⟨g, c, none⟩)) (hz : tsz C.P t = 1)
    (hup : (D1.upd (D.setC c yD) p) = (σ1.o i).d.upd (D.setC c yD) p) :
    Told C fr N σ1 ([.o i { σ1.o i with s := (σ1.o i).s + 1, xs := (σ1.o i).up (D.setC c yD) p }] ++ setS o.dst .dead) o G1 a w := by
  obtain ⟨T0, ho1, hT0⟩ := hh.one hD hat
  obtain ⟨us, cur, T', _, hk, hn, hcc, _, _, hS, hcell, hcur, _⟩ := ho1.row_inv (g := 0) rfl
  dsimp only at hS hcell
  have hgS1 : S1 g := hT0 g hS
  have hgS : G1.S i g := hS1 g hgS1
  have hj : c < cur.size := by rw [hcur]; rw [hn] at hc; exact Nat.lt_of_lt_of_le hc (Nat.mul_le_mul_right k hcc)
  have hrun := run_store_of (P := C.P) (w' := w.setCell ⟨g, c, none⟩ (a.eval y)) ho hx (by rw [hz]; simp) (by rw [one_cells hy.one, hz]; rfl) (by rw [one_cells hy.one]; exact run_store1 hcell hj hy.one)
  have hput := Own.put hy (fun h => (hT g h).2 hgS1) (fun h => (hi1.sF i g hst hgS).1 h) hD hh hat hc (fun b hb => (hT b hb).2)
  rw [hup, ← Obj.up_setC] at hput
  have hmod := hi1.modObj hst (w' := w.setCell ⟨g, c, none⟩ (a.eval y)) rfl rfl rfl (by simp [World.setCell]) (fun b _ _ hb => heap_setCell_ne (by rintro rfl; exact hb hgS)) hput (fun b hb => hb.elim (fun h => .inl (hS1 b h)) (fun h => (hT b h).1))
  intro next Q hq
  refine wp_skip' hrun (hq _ _ _ (by rw [wrs_app]; exact Inv.put (σ := σ1.wr (.o i { σ1.o i with s := (σ1.o i).s + 1, xs := (σ1.o i).up (D.setC c yD) p })) hmod hd trivial))
theorem moved_store {t : Nat} {x y : Operand} (ho : o.op = .store t x y) (hd : dstOk N o.dst = true) (hi : Inv fr N σ G a w) {i v s c e k : Nat} {p : List Nat} {xs : List D} {l : LV} {fz : Bool} (hg : (σ.o i).good v p s) (hst : (σ.o i).st = .own) (hat : (σ.o i).d.at p = some (.sl false e k xs)) (hc : c < xs.length)
    (sx : SOK σ.o σ.b G w (.el i v p s c) (a.eval x)) (sy : LOK σ.o G w l (a.eval y)) (hz : tsz C.P t = 1)
    (h : (storeMove o fz i c p (σ.o i) l).run σ = some ws) : Told C fr N σ ws o G a w := by
  obtain ⟨yD, ws1, used1, F1, R1, T, h, hm, hoy, hT⟩ := moveIn_ok hi ⟨fun _ _ => .inl rfl, rfl, rfl⟩ sy h
  obtain rfl := Option.some.inj h
  have e1 := hm.keep i (by simp)
  have hst1 : ((σ.wrs ws1).o i).st = .own := by rw [e1]; exact hst
  obtain ⟨sh, e0, k0, xs0, g, n, m, b1, b2, b3⟩ := sx.2 hg
  rw [hat] at b1
  simp only [Option.some.injEq, D.sl.injEq] at b1
  obtain ⟨rfl, rfl, rfl, rfl⟩ := b1
  have hD := hm.inv.objs i hst1
  rw [e1] at hD
  have hend := store_end (C := C) (t := t) (x := x) (y := y) ho hd hm.inv hst1 hD (fun _ h => h) b2 hat hc hoy (fun b hb => ⟨.inr (hT b hb).1, fun h => hm.inv.rS i b hst1 h (hT b hb).1⟩) b3 hz (by rw [e1])
  rw [e1] at hend
  intro next Q hq
  refine hend next Q (fun G' a' w' hI => hq G' a' w' ?_)
  rw [List.append_assoc, wrs_app]
  exact hI
theorem same_store {t : Nat} {x y : Operand} (ho : o.op = .store t x y) (hd : dstOk N o.dst = true) (hi : Inv fr N σ G a w) {i v s s' c e k : Nat} {p : List Nat} {xs : List D} {m' : Option Nat} (hg : (σ.o i).good v p s) (hst : (σ.o i).st = .own) (hat : (σ.o i).d.at p = some (.sl false e k xs)) (hc : c < xs.length)
    (sx : SOK σ.o σ.b G w (.el i v p s c) (a.eval x)) (hol : LOK σ.o G w (.ref i v (p ++ [c]) s' m') (a.eval y)) (hs : (σ.o i).s = s') (hz1 : tsz C.P t = 1)
    (h : (storeSame o i c p (σ.o i) xs m').run σ = some ws) : Told C fr N σ ws o G a w := by
  unfold storeSame at h
  split at h
  · rename_i e2 k2 zs hxc
    obtain rfl := Option.some.inj h
    obtain ⟨sh, e0, k0, xs0, g, n, m, b1, b2, b3⟩ := sx.2 hg
    rw [hat] at b1
    simp only [Option.some.injEq, D.sl.injEq] at b1
    obtain ⟨rfl, rfl, rfl, rfl⟩ := b1
    have hat2 := at_snoc (y := .hole) hat hxc
    obtain ⟨sh3, e3, k3, xs3, u0, c1, c2, c3⟩ := hol.2.2 ⟨hg.1, hg.2.1, .inr hs⟩
    obtain ⟨T0, hT0, o1, o2⟩ := (hi.objs i hst).take c2 hat2
    exact store_end (C := C) (t := t) (x := x) (y := y) ho hd hi hst o2 (fun b hb => hb.1) (b2.upd (r := [c])) (at_upd hat hxc) (by rw [List.length_set]; exact hc) (o1.cut c3) (fun b hb => ⟨.inl (hT0 b hb), fun h => h.2 hb⟩) b3 hz1 (upd_upd hat hxc)
  · simp [E.run] at h
theorem ok_storeEl {t : Nat} {x y : Operand} (ho : o.op = .store t x y) (hd : dstOk N o.dst = true) (hi : Inv fr N σ G a w) {i v s c : Nat} {p : List Nat} {l : LV} (sx : SOK σ.o σ.b G w (.el i v p s c) (a.eval x)) (hol : LOK σ.o G w l (a.eval y)) (hz1 : tsz C.P t = 1)
    (h : (storeEl C o i v p s c l).run σ = some ws) : Told C fr N σ ws o G a w := by
  unfold storeEl at h
  obtain ⟨X, hg, hat, h⟩ := nodeE_ok hi h
  split at h
  · rename_i e k xs
    split at h
    · rename_i hc
      unfold storeIn at h
      split at h
      · rename_i i' v' p' s' m'
        split at h
        · rename_i hii
          split at h
          · rename_i hcc
            have hfin := h
            clear h
            obtain ⟨rfl, rfl, hs⟩ := hcc
            subst hii
            exact same_store ho hd hi hg hc.1 hat hc.2 sx hol hs hz1 hfin
          · simp [E.run] at h
        · exact moved_store ho hd hi hg hc.1 hat hc.2 sx hol hz1 h
      · exact moved_store ho hd hi hg hc.1 hat hc.2 sx hol hz1 h
    · simp [E.run] at h
  · simp [E.run] at h
theorem ok_storeFld {t : Nat} {x y : Operand} (ho : o.op = .store t x y) (hd : dstOk N o.dst = true) (hi : Inv fr N σ G a w) {j v off : Nat} {ls : List LV} (sx : SOK σ.o σ.b G w (.fld j v off) (a.eval x)) (hls : LsOK σ.o G w ls (a.eval y).cells.toList) (hl1 : ls.length = tsz C.P t) (hl0 : ls.length ≠ 0)
    (hc : (σ.b j).live = true ∧ (σ.b j).v = v ∧ off + ls.length ≤ (σ.b j).cs.length) : Told C fr N σ ([.b j { σ.b j with cs := putAt (σ.b j).cs off ls }] ++ setS o.dst .dead) o G a w := by
  obtain ⟨hlive, hv, hle⟩ := hc
  have hz : tsz C.P t ≠ 0 := by omega
  have hcs : (a.eval y).cells.size = tsz C.P t := by have := hls.1; simp only [Array.length_toList] at this; omega
  have e := SOK.fld_now sx ⟨hlive, hv⟩
  obtain ⟨us, hcell, hbl⟩ := hi.boxes j hlive
  have hul : us.size = (σ.b j).cs.length := by have := hbl.1; simpa using this
  have hst := run_storeCells_at (P := C.P) (G.blk j) off (σ.b j).t (a.eval y).cells.toList 0 us w hcell (by simp; omega) (hls.ones)
  have hrun := run_store_of (P := C.P) ho e hz hcs hst
  have hput := hbl.putAt hls hle
  rw [Nat.add_zero] at hrun
  have hset := hi.setBox hlive (cs := putAt (σ.b j).cs off ls) (us := (putAt us.toList off (a.eval y).cells.toList).toArray) (w' := w.setRow (G.blk j) (us.toList.take off ++ (a.eval y).cells.toList ++ us.toList.drop (off + (a.eval y).cells.toList.length)).toArray)
    rfl rfl rfl (setRow_size w _ _).symm (fun b hb => setRow_other w _ b _ hb) (setRow_heap w _ us _ _ _ hcell) (by simpa using hput)
  intro next Q hq
  refine wp_skip' hrun (hq _ _ _ (by rw [wrs_app]; exact Inv.put (σ := σ.wr (.b j { σ.b j with cs := putAt (σ.b j).cs off ls })) hset hd trivial))
theorem ok_store (hi : Inv fr N σ G a w) {t : TypeId} {x y : Operand} (ho : o.op = .store t x y) (hd : dstOk N o.dst = true) (h : (eff C o).run σ = some ws) : Told C fr N σ ws o G a w := by
  simp only [eff, ho] at h
  obtain ⟨ax, h1, sx⟩ := opd_ok hi h
  clear h
  obtain ⟨ay, h, sy⟩ := opdT_ok hi h1
  clear h1
  unfold storeE at h
  split at h
  · rename_i j v off
    obtain ⟨ls, h2, hls⟩ := leafs_ok sy h
    split at h2
    · simp [E.run] at h2
    · rename_i hlen
      simp only [E.run] at h2
      split at h2
      · rename_i hc
        obtain rfl := Option.some.inj h2
        exact ok_storeFld ho hd hi sx hls (Classical.byContradiction fun e => hlen (.inl e)) (fun e => hlen (.inr e)) hc
      · simp [E.run] at h2
  · rename_i i v p s c
    split at h
    · rename_i l
      split at h
      · rename_i hz; exact ok_storeEl ho hd hi sx sy hz h
      · simp [E.run] at h
    · simp [E.run] at h
  · simp [E.run] at h
end
end Go.Proofs.Ytmbmebfeoejlnaa.Ab
