/- Each operation of the machine does what the abstract machine says: memory that is read; variables. -/
import Derived.Test.YtmbmebfeoejlnaaA8
import Derived.Laws.CopyRow
import Derived.Laws.Cells
import Derived.Laws.MakeOwn
import Derived.Laws.OwnMore
namespace Go.Proofs.Ytmbmebfeoejlnaa.Ab
set_option linter.unusedVariables false
set_option linter.unusedSimpArgs false
open Go.RowKit
section
variable {C : Cx} {fr : Fr} {N : Nat} {σ : St} {G : Gh} {a : Act} {w : World} {ws : List Wr} {o : Oper}

theorem run_isAgg {P : Program} {t : Nat} (h : tkn P t = true) : (isAgg t).run P w = .ok (tagg P t) w := by
  obtain ⟨d, hd⟩ := Option.isSome_iff_exists.1 h
  unfold isAgg tagg
  cases d <;> simp [run_underlying hd, hd]
theorem run_sizeOf' {P : Program} {t : Nat} (h : tsz P t ≠ 0) : (sizeOf t).run P w = .ok (tsz P t) w := by
  obtain ⟨i, h1, h2⟩ := tsz_pos h
  simp [sizeOf, typeInfo, h1, h2]
/-- leaves that stand in memory one behind the other -/
theorem loaded_ok (hi : Inv fr N σ G a w) {t : TypeId} {x : Operand} (ho : o.op = .load t x) (hd : dstOk N o.dst = true) {ad : Addr} (hx : a.eval x = .pointer (some ad)) {ls : List LV} {us : List Value}
    (hl : LsOK σ.o G w ls us) (hc : ∀ (j : Nat) (u : Value), us[j]? = some u → w.cell? (ad.add j) = some u) (hk : tkn C.P t = true) (hz : tsz C.P t ≠ 0) (h : (loaded C.P o t ls).run σ = some ws) : Told C fr N σ ws o G a w := by
  unfold loaded at h
  by_cases hg : tagg C.P t = true
  · rw [if_pos hg] at h
    split at h
    · rename_i hlen
      obtain rfl := Option.some.inj h
      have hlen' : us.length = tsz C.P t := by rw [hl.1]; exact hlen
      have hr := run_loadCells_list (P := C.P) (w := w) ad us hc
      rw [hlen'] at hr
      exact told_value hi hd (v := .agg us.toArray) (by simp [execOp, ho, hx, Instr.loadAt, Instr.sureAddr, loadVar, run_isAgg hk, hg, run_sizeOf' hz, hr]) ⟨us.toArray, rfl, by simpa using hl⟩
    · simp [E.run] at h
  · rw [if_neg hg] at h
    split at h
    · rename_i l
      obtain rfl := Option.some.inj h
      have h1 : us.length = 1 := by rw [hl.1]; rfl
      obtain ⟨u, rfl⟩ := List.length_eq_one_iff.1 h1
      have hu := hc 0 u rfl
      rw [show ad.add 0 = ad from rfl] at hu
      have hg' : tagg C.P t = false := by simpa using hg
      exact told_value hi hd (v := u) (by simp [execOp, ho, hx, Instr.loadAt, Instr.sureAddr, loadVar, run_isAgg hk, hg', load, Sem.run, hu]) (hl.2 0 l u rfl rfl)
    · simp [E.run] at h
theorem LsOK.sub {O : Nat → Obj} {ls : List LV} {us : List Value} (h : LsOK O G w ls us) (m n : Nat) : LsOK O G w ((ls.drop m).take n) ((us.drop m).take n) := by
  refine ⟨by simp [h.1], fun i l u h1 h2 => ?_⟩
  rw [List.getElem?_take] at h1 h2
  split at h1
  · rename_i hin
    rw [if_pos hin] at h2
    rw [List.getElem?_drop] at h1 h2
    exact h.2 _ l u h1 h2
  · cases h1
theorem sub_get {α : Type} {us : List α} {m n j : Nat} {u : α} (h : ((us.drop m).take n)[j]? = some u) : us[m + j]? = some u := by
  rw [List.getElem?_take] at h
  split at h
  · rw [List.getElem?_drop] at h; exact h
  · cases h
theorem shareL_map : ∀ (xs : List D), shareL xs = xs.map shareC
  | [] => rfl
  | x :: xs => by rw [shareL, shareL_map xs]; rfl
theorem shareC_rep {F : Nat → Prop} {x : D} {u : Value} (h : Rep w F x u) : Rep w F (shareC x) u := by
  induction h with
  | lit v h => rw [shareC]; exact .lit v h; rintro _ _ _ _ e; cases e
  | hole v h => rw [shareC]; exact .hole v h; rintro _ _ _ _ e; cases e
  | nil sh e k => rw [shareC]; exact .nil true e k
  | row sh e k xs us n c A hk hn hl hc hm hA hx ih =>
    rw [shareC, shareL_map]
    exact .row true e k _ us n c A hk (by simpa using hn) (by simpa using hl) hc hm hA (fun j x u h1 h2 => by
      rw [List.getElem?_map] at h1
      obtain ⟨y, hy, rfl⟩ := Option.map_eq_some_iff.1 h1
      exact ih j y u hy h2)
theorem shareC_nil {x : D} {u : Value} : NilOK (shareC x) u := by cases x <;> simp [shareC, NilOK]
theorem lsOK_d {O : Nat → Obj} {xs : List D} {us : List Value} (hl : us.length = xs.length) (h : ∀ (n : Nat) (x : D) (u : Value), xs[n]? = some x → us[n]? = some u → Rep w G.F x u) : LsOK O G w (xs.map fun x => .d (shareC x)) us := by
  refine ⟨by simp [hl], fun n l u h1 h2 => ?_⟩
  rw [List.getElem?_map] at h1
  obtain ⟨x, hx, rfl⟩ := Option.map_eq_some_iff.1 h1
  exact ⟨shareC_rep (h n x u hx h2), shareC_nil⟩
/-- an owned row's cells -/
theorem HeadAt.cells (hi : Inv fr N σ G a w) {i v s g n m e k : Nat} {p : List Nat} {sh : Bool} {xs : List D} (hs : (σ.o i).st ≠ .dead) (hat : (σ.o i).d.at p = some (.sl sh e k xs))
    (hh : HeadAt w (σ.o i).d (G.val i) p (.slice (some ⟨g, 0, none⟩) n m)) {c : Nat} {x : D} (hx : xs[c]? = some x) : ∃ u, w.cell? ⟨g, c, none⟩ = some u ∧ Rep w (All σ G) x u ∧ ((σ.o i).st = .fz → Rep w G.F x u) := by
  have h1 := ((hi.objRep hs).at' hh hat).get (List.getElem?_eq_some_iff.1 hx).1
  obtain ⟨ad, he, _, hc⟩ := h1
  obtain rfl := Option.some.inj he
  obtain ⟨u, hu, hr⟩ := hc c x hx
  rw [blk_add, Nat.zero_add] at hu
  refine ⟨u, hu, hr, fun hf => ?_⟩
  obtain ⟨ad, he, _, hc⟩ := ((hi.fzs i hf).at' hh hat).get (List.getElem?_eq_some_iff.1 hx).1
  obtain rfl := Option.some.inj he
  obtain ⟨u2, hu2, hr2⟩ := hc c x hx
  rw [blk_add, Nat.zero_add, hu] at hu2
  obtain rfl := Option.some.inj hu2
  exact hr2
theorem at_snoc {p : List Nat} : ∀ {x y z : D} {c e k : Nat} {xs : List D}, x.at p = some (.sl false e k xs) → xs[c]? = some z → x.at (p ++ [c]) = some z := by
  induction p with
  | nil => intro x y z c e k xs h1 h2; rw [D.at] at h1; obtain rfl := Option.some.inj h1; simp [D.at, h2]
  | cons j p ih =>
    intro x y z c e k xs h1 h2
    cases x with
    | lit v => simp [D.at] at h1
    | hole => simp [D.at] at h1
    | sl sh e' k' ys =>
      cases sh with
      | true => simp [D.at] at h1
      | false =>
        rw [List.cons_append, D.at]
        rw [D.at] at h1
        cases hy : ys[j]? with
        | none => simp [hy] at h1
        | some y' => simp only [hy] at h1 ⊢; exact ih (y := y) h1 h2
theorem HeadAt.snoc {x : D} {v u : Value} {p : List Nat} (h : HeadAt w x v p u) : ∀ {g n m e k c : Nat} {xs : List D} {z : D} {u' : Value}, u = .slice (some ⟨g, 0, none⟩) n m → x.at p = some (.sl false e k xs) → xs[c]? = some z → w.cell? ⟨g, c, none⟩ = some u' → HeadAt w x v (p ++ [c]) u' := by
  induction h with
  | nil x v => intro g n m e k c xs z u' e1 h1 h2 h3; subst e1; rw [D.at] at h1; obtain rfl := Option.some.inj h1; exact .cons _ _ _ _ _ _ _ _ _ _ _ h2 h3 (.nil _ _)
  | cons e0 k0 xs0 g0 n0 c0 j p x u v' hx hu h ih =>
    intro g n m e k c xs z u' e1 h1 h2 h3
    rw [D.at, hx] at h1
    exact .cons _ _ _ _ _ _ _ _ _ _ _ hx hu (ih e1 h1 h2 h3)
theorem toLV_ok (hi : Inv fr N σ G a w) {i v s g n m e k c : Nat} {p : List Nat} {xs : List D} {x : D} {u : Value} {l : LV} (hg : (σ.o i).good v p s) (hst : (σ.o i).st = .own) (hat : (σ.o i).d.at p = some (.sl false e k xs))
    (hh : HeadAt w (σ.o i).d (G.val i) p (.slice (some ⟨g, 0, none⟩) n m)) (hx : xs[c]? = some x) (hu : w.cell? ⟨g, c, none⟩ = some u) (hl : toLV i v p (σ.o i).s c x = some l) : LOK σ.o G w l u := by
  have hat2 := at_snoc (y := x) hat hx
  have hh2 := hh.snoc rfl hat hx hu
  obtain ⟨T, ho, hT⟩ := hh2.one (hi.objs i hst) hat2
  unfold toLV at hl
  split at hl
  · obtain rfl := Option.some.inj hl
    cases ho with
    | lit _ _ h1 => exact ⟨Rep.lit _ h1, trivial⟩
  · obtain rfl := Option.some.inj hl
    cases ho with
    | shared _ _ _ _ _ h => exact ⟨h, trivial⟩
  · obtain rfl := Option.some.inj hl
    refine ⟨.inr ⟨hg.1.symm, Nat.le_refl _⟩, ho.one, fun _ => ⟨_, _, _, _, u, hat2, hh2, rfl⟩⟩
  · cases hl
theorem toLVs_get {i v s : Nat} {p : List Nat} : ∀ {xs : List D} {c : Nat} {ls : List LV}, toLVs i v p s c xs = some ls → ls.length = xs.length ∧ ∀ (n : Nat) (l : LV), ls[n]? = some l → ∃ x, xs[n]? = some x ∧ toLV i v p s (c + n) x = some l
  | [], c, ls, h => by simp only [toLVs, Option.some.injEq] at h; subst h; exact ⟨rfl, fun n l h => by simp at h⟩
  | x :: xs, c, ls, h => by
    simp only [toLVs] at h
    split at h
    · rename_i l0 ls0 h1 h2
      obtain rfl := Option.some.inj h
      obtain ⟨hlen, hget⟩ := toLVs_get h2
      refine ⟨by simp [hlen], fun n l hn => ?_⟩
      cases n with
      | zero => simp only [List.getElem?_cons_zero, Option.some.injEq] at hn; subst hn; exact ⟨x, rfl, h1⟩
      | succ n =>
        rw [List.getElem?_cons_succ] at hn
        obtain ⟨y, hy, h3⟩ := hget n l hn
        exact ⟨y, by rw [List.getElem?_cons_succ]; exact hy, by rw [show c + (n + 1) = c + 1 + n from by omega]; exact h3⟩
    · cases h

theorem ok_load (hi : Inv fr N σ G a w) {t : TypeId} {x : Operand} (ho : o.op = .load t x) (hd : dstOk N o.dst = true) (h : (eff C o).run σ = some ws) : Told C fr N σ ws o G a w := by
  rw [eff, ho] at h
  obtain ⟨av, h, hs⟩ := opd_ok hi h
  simp only [loadE] at h
  split at h
  · simp [E.run] at h
  · rename_i hkz
    have hk : tkn C.P t = true := by
      cases hq : tkn C.P t with
      | true => rfl
      | false => exact absurd (.inl hq) hkz
    have hz : tsz C.P t ≠ 0 := fun e => hkz (.inr e)
    split at h
    · rename_i j v off
      simp only [E.run] at h
      split at h
      · rename_i hl
        have e := SOK.fld_now hs hl
        obtain ⟨us, hc, hls⟩ := hi.boxes j hl.1
        refine loaded_ok hi ho hd e (hls.sub off _) (fun q u hu => ?_) hk hz h
        rw [blk_add, cell_of_row hc, ← Array.getElem?_toList]
        exact sub_get hu
      · simp [E.run] at h
    · rename_i xs
      obtain ⟨ad, e, hf, hc⟩ := hs
      generalize hn : (if tagg C.P t = true then tsz C.P t else 1) = n at h
      have hex : ∀ (ys : List D) (b : Nat), (∀ (q : Nat) (x : D), ys[q]? = some x → ∃ y, w.cell? (ad.add (b + q)) = some y ∧ Rep w G.F x y) → ∃ us : List Value, us.length = ys.length ∧ (∀ (q : Nat) (x : D) (u : Value), ys[q]? = some x → us[q]? = some u → Rep w G.F x u) ∧
          ∀ (q : Nat) (u : Value), us[q]? = some u → w.cell? (ad.add (b + q)) = some u := by
        intro ys
        induction ys with
        | nil => intro b _; exact ⟨[], rfl, fun q x u h => by simp at h, fun q u h => by simp at h⟩
        | cons y ys ih =>
          intro b hy
          obtain ⟨u, hu, hr⟩ := hy 0 y rfl
          obtain ⟨us, h1, h2, h3⟩ := ih (b + 1) (fun q x hx => by
            obtain ⟨z, hz1, hz2⟩ := hy (q + 1) x hx
            exact ⟨z, by rw [show b + 1 + q = b + (q + 1) from by omega]; exact hz1, hz2⟩)
          refine ⟨u :: us, by simp [h1], fun q x v hx hv => ?_, fun q v hv => ?_⟩
          · cases q with
            | zero => simp at hx hv; subst hx; subst hv; exact hr
            | succ q => exact h2 q x v hx hv
          · cases q with
            | zero => simp at hv; subst hv; exact hu
            | succ q => rw [show b + (q + 1) = b + 1 + q from by omega]; exact h3 q v hv
      obtain ⟨us, h1, h2, h3⟩ := hex (xs.take n) 0 (fun q x hx => by
        rw [List.getElem?_take] at hx
        split at hx
        · rw [Nat.zero_add]; exact hc q x hx
        · cases hx)
      exact loaded_ok hi ho hd e (lsOK_d h1 h2) (fun q u hu => by have := h3 q u hu; rwa [Nat.zero_add] at this) hk hz h
    · rename_i i v p s c
      obtain ⟨y, hg, hat, h⟩ := nodeE_ok hi h
      split at h
      · rename_i sh e k xs
        obtain ⟨hp, hs⟩ := hs
        obtain ⟨sh', e', k', xs', g, n, m, h1, h2, h3⟩ := hs hg
        rw [hat] at h1
        simp only [Option.some.injEq, D.sl.injEq] at h1
        obtain ⟨rfl, rfl, rfl, rfl⟩ := h1
        -- the cells' values
        have hex : ∀ (b l : Nat), ∃ us : List Value, us.length = ((xs.drop b).take l).length ∧ ∀ (q : Nat) (u : Value), us[q]? = some u → w.cell? ⟨g, b + q, none⟩ = some u := by
          intro b l
          refine ⟨(List.range ((xs.drop b).take l).length).map (fun q => (w.cell? ⟨g, b + q, none⟩).getD undef), by simp, fun q u hu => ?_⟩
          rw [List.getElem?_map] at hu
          obtain ⟨q', hq, rfl⟩ := Option.map_eq_some_iff.1 hu
          obtain ⟨hq1, hq2⟩ := List.getElem?_eq_some_iff.1 hq
          simp only [List.getElem_range] at hq2
          subst hq2
          simp only [List.length_range, List.length_take, List.length_drop] at hq1
          have hx : xs[b + q]? = some xs[b + q] := List.getElem?_eq_getElem (by omega)
          obtain ⟨u, hu, _⟩ := h2.cells (v := v) (s := s) hi hg.2.1 hat hx
          rw [hu]; rfl
        have hload : ∀ q u, w.cell? ⟨g, q, none⟩ = some u → w.cell? ((⟨g, c, none⟩ : Addr).add (q - c)) = some u ∨ q < c := fun q u hu => by
          by_cases hq : q < c
          · exact .inr hq
          · left; rw [blk_add, show c + (q - c) = q from by omega]; exact hu
        split at h
        · rename_i hf
          obtain ⟨us, hu1, hu2⟩ := hex c (if tagg C.P t = true then tsz C.P t else 1)
          refine loaded_ok hi ho hd h3 (lsOK_d (by simpa using hu1) (fun q x u hx hu => ?_)) (fun q u hu => by rw [blk_add]; exact hu2 q u hu) hk hz h
          have hx' : xs[c + q]? = some x := sub_get hx
          obtain ⟨u', hu', _, hr⟩ := h2.cells (v := v) (s := s) hi hg.2.1 hat hx'
          rw [hu2 q u hu] at hu'
          obtain rfl := Option.some.inj hu'
          exact hr hf
        · rename_i hnf
          split at h
          · simp [E.run] at h
          rename_i hsh
          split at h
          · rename_i ls hls
            have hst : (σ.o i).st = .own := by
              have := hg.2.1
              cases hq : (σ.o i).st <;> simp_all
            obtain ⟨hlen, hget⟩ := toLVs_get hls
            obtain ⟨us, hu1, hu2⟩ := hex c (if tagg C.P t = true then tsz C.P t else 1)
            refine loaded_ok hi ho hd h3 ⟨by rw [hu1, hlen], fun q l u hl hu => ?_⟩ (fun q u hu => by rw [blk_add]; exact hu2 q u hu) hk hz h
            obtain ⟨x, hx, hlv⟩ := hget q l hl
            have hx' : xs[c + q]? = some x := sub_get hx
            cases sh with
            | true => exact absurd rfl hsh
            | false => exact toLV_ok hi hg hst hat h2 hx' (hu2 q u hu) hlv
          · simp [E.run] at h
      · simp [E.run] at h
    · simp [E.run] at h
theorem ok_field (hi : Inv fr N σ G a w) {t : TypeId} {f : Nat} {x : Operand} (ho : o.op = .field t x f) (hd : dstOk N o.dst = true) (h : (eff C o).run σ = some ws) : Told C fr N σ ws o G a w := by
  rw [eff, ho] at h
  obtain ⟨av, h, hs⟩ := opd_ok hi h
  split at h
  · rename_i ls off ft hf
    obtain ⟨fs, fl, hu, hfl, rfl, rfl⟩ := tfld_some hf
    obtain ⟨us, e, hls⟩ := hs
    split at h
    · simp [E.run] at h
    · rename_i hkz
      have hk : tkn C.P fl.type = true := by
        cases hq : tkn C.P fl.type with
        | true => rfl
        | false => exact absurd (.inl hq) hkz
      have hz : tsz C.P fl.type ≠ 0 := fun e => hkz (.inr e)
      have hsub := hls.sub fl.offset (if tagg C.P fl.type = true then tsz C.P fl.type else 1)
      unfold loaded at h
      by_cases hg : tagg C.P fl.type = true
      · rw [if_pos hg, if_pos hg] at h
        rw [if_pos hg] at hsub
        split at h
        · obtain rfl := Option.some.inj h
          refine told_value hi hd (v := .agg (us.extract fl.offset (fl.offset + tsz C.P fl.type))) (by simp [execOp, ho, e, Instr.field, run_underlying hu, hfl, asAgg, part, run_isAgg hk, hg, run_sizeOf' hz]) ⟨_, rfl, ?_⟩
          rw [Array.toList_extract, List.extract_eq_take_drop, Nat.add_sub_cancel_left]
          exact hsub
        · simp [E.run] at h
      · rw [if_neg hg, if_neg hg] at h
        rw [if_neg hg] at hsub
        have hg' : tagg C.P fl.type = false := by simpa using hg
        split at h
        · rename_i l hl1
          obtain rfl := Option.some.inj h
          rw [hl1] at hsub
          have h1 : ((us.toList.drop fl.offset).take 1).length = 1 := by rw [hsub.1]; rfl
          obtain ⟨u, hu1⟩ := List.length_eq_one_iff.1 h1
          have hu0 : us[fl.offset]? = some u := by
            have : ((us.toList.drop fl.offset).take 1)[0]? = some u := by rw [hu1]; rfl
            have := sub_get this
            rwa [Nat.add_zero, Array.getElem?_toList] at this
          exact told_value hi hd (v := u) (by simp [execOp, ho, e, Instr.field, run_underlying hu, hfl, asAgg, part, run_isAgg hk, hg', hu0]) (hsub.2 0 l u rfl (by rw [hu1]; rfl))
        · simp [E.run] at h
  · simp [E.run] at h
end
end Go.Proofs.Ytmbmebfeoejlnaa.Ab
