/- Each operation of the machine does what the abstract machine says: variables are made and written; structs are built. -/
import Derived.Test.YtmbmebfeoejlnaaA10
import Derived.Laws.Tables
namespace Go.Proofs.Ytmbmebfeoejlnaa.Ab
set_option linter.unusedVariables false
set_option linter.unusedSimpArgs false
open Go.RowKit

theorem putAt_get {α : Type} {xs ys : List α} {p : Nat} (h : p + ys.length ≤ xs.length) (i : Nat) : (putAt xs p ys)[i]? = if i < p then xs[i]? else if i < p + ys.length then ys[i - p]? else xs[i]? := by
  unfold putAt
  by_cases h1 : i < p
  · rw [if_pos h1, List.append_assoc, List.getElem?_append_left (by simp; omega), List.getElem?_take, if_pos h1]
  · rw [if_neg h1]
    by_cases h2 : i < p + ys.length
    · rw [if_pos h2, List.getElem?_append_left (by simp; omega), List.getElem?_append_right (by simp; omega), List.length_take, Nat.min_eq_left (by omega)]
    · rw [if_neg h2, List.getElem?_append_right (by simp; omega), List.getElem?_drop]
      congr 1
      simp
      omega
theorem putAt_len {α : Type} {xs ys : List α} {p : Nat} (h : p + ys.length ≤ xs.length) : (putAt xs p ys).length = xs.length := by
  unfold putAt; simp; omega
theorem putAt_nil {α : Type} {xs : List α} {p : Nat} : putAt xs p [] = xs := by
  unfold putAt; simp
theorem putAt_cons {α : Type} {xs ys : List α} {p : Nat} {y : α} (h : p + (ys.length + 1) ≤ xs.length) : putAt (xs.set p y) (p + 1) ys = putAt xs p (y :: ys) := by
  apply List.ext_getElem?
  intro i
  rw [putAt_get (by simp; omega), putAt_get (by simp; omega)]
  simp only [List.length_cons]
  by_cases h1 : i < p
  · rw [if_pos (by omega), if_pos h1, List.getElem?_set_ne (by omega)]
  · by_cases h2 : i = p
    · subst h2
      rw [if_pos (by omega), if_neg h1, if_pos (by omega), List.getElem?_set_self (by omega)]
      simp
    · rw [if_neg (by omega), if_neg h1]
      by_cases h3 : i < p + (ys.length + 1)
      · rw [if_pos (by omega), if_pos h3, show i - p = (i - (p + 1)) + 1 from by omega, List.getElem?_cons_succ]
      · rw [if_neg (by omega), if_neg h3, List.getElem?_set_ne (by omega)]
theorem foldl_put : ∀ (vs : List Value) (off j0 : Nat) (cells : Array Value), off + j0 + vs.length ≤ cells.size →
    ((vs.zipIdx j0).foldl (fun cs (p : Value × Nat) => cs.setIfInBounds (off + p.2) p.1) cells).toList = putAt cells.toList (off + j0) vs
  | [], off, j0, cells, h => by rw [putAt_nil]; rfl
  | v :: vs, off, j0, cells, h => by
    simp only [List.zipIdx_cons, List.foldl_cons]
    simp only [List.length_cons] at h
    rw [foldl_put vs off (j0 + 1) _ (by simp; omega), Array.toList_setIfInBounds, ← Nat.add_assoc, putAt_cons (by simp; omega)]
theorem fill_cons {place : Nat → Option (Nat × Nat)} {cells : Array Value} {i off size : Nat} {v : Value} {rest : List (Nat × Value)} (hp : place i = some (off, size)) (hv : v.cells.size = size) (h : off + size ≤ cells.size) :
    ∃ cells' : Array Value, cells'.toList = putAt cells.toList off v.cells.toList ∧ Instr.fill place cells ((i, v) :: rest) = Instr.fill place cells' rest := by
  refine ⟨v.cells.zipIdx.foldl (fun cs (p : Value × Nat) => cs.setIfInBounds (off + p.2) p.1) cells, ?_, ?_⟩
  · have := foldl_put v.cells.toList off 0 cells (by simp; omega)
    rw [Nat.add_zero] at this
    rw [← this, ← Array.foldl_toList, Array.toList_zipIdx]
  · rw [Instr.fill]
    simp only [hp]
    rw [if_neg (by simp [hv]; omega)]

section
variable {C : Cx} {fr : Fr} {N : Nat} {σ : St} {G : Gh} {a : Act} {w : World} {ws : List Wr} {o : Oper}
theorem LOK.one {O : Nat → Obj} {l : LV} {u : Value} (h : LOK O G w l u) : u.oneCell' = true := by
  cases l with
  | d x => exact Rep.one (F := G.F) h.1
  | ref => exact h.2.1
theorem one_cells {u : Value} (h : u.oneCell' = true) : u.cells = #[u] := by cases u <;> first | rfl | cases h
theorem leafs_ok {x : AV} {u : Value} {k : List LV → E} (hx : SOK σ.o σ.b G w x u) (h : (leafs x k).run σ = some ws) : ∃ ls, (k ls).run σ = some ws ∧ LsOK σ.o G w ls u.cells.toList := by
  unfold leafs at h
  split at h
  · rename_i l
    refine ⟨[l], h, ?_⟩
    rw [one_cells (LOK.one (show LOK σ.o G w l u from hx))]
    refine ⟨rfl, fun n l' u' h1 h2 => ?_⟩
    cases n with
    | zero => simp at h1 h2; subst h1; subst h2; exact hx
    | succ n => simp at h1
  · rename_i ls
    obtain ⟨us, rfl, h1⟩ := hx
    exact ⟨ls, h, h1⟩
  · simp [E.run] at h
theorem LsOK.ones {O : Nat → Obj} {ls : List LV} {us : List Value} (h : LsOK O G w ls us) : ∀ u ∈ us, u.oneCell' = true := by
  intro u hu
  obtain ⟨n, hn⟩ := List.getElem?_of_mem hu
  have : n < ls.length := by rw [← h.1]; exact (List.getElem?_eq_some_iff.1 hn).1
  exact (h.2 n ls[n] u (List.getElem?_eq_getElem this) hn).one
theorem LsOK.putAt {O : Nat → Obj} {ls ls2 : List LV} {us us2 : List Value} {p : Nat} (h : LsOK O G w ls us) (h2 : LsOK O G w ls2 us2) (hp : p + ls2.length ≤ ls.length) : LsOK O G w (putAt ls p ls2) (putAt us p us2) := by
  have hl := h.1; have hl2 := h2.1
  refine ⟨by rw [putAt_len hp, putAt_len (by omega), hl], fun n l u h3 h4 => ?_⟩
  rw [putAt_get hp] at h3
  rw [putAt_get (by omega), hl2] at h4
  split at h3
  · rename_i q; rw [if_pos q] at h4; exact h.2 n l u h3 h4
  · rename_i q; rw [if_neg q] at h4
    split at h3
    · rename_i q2; rw [if_pos q2] at h4; exact h2.2 _ l u h3 h4
    · rename_i q2; rw [if_neg q2] at h4; exact h.2 n l u h3 h4
theorem tzero_some {P : Program} {t : Nat} {z : List D} (h : tzero P t = some z) : ∃ i zv, P.info? t = some i ∧ i.zero = some zv ∧ zv.cells.size = i.size ∧ (∀ u ∈ zv.cells.toList, u.oneCell' = true) ∧ z = zipT P zv.cells.toList (tleafs P 8 t) := by
  unfold tzero at h
  split at h
  · rename_i i hi
    split at h
    · rename_i zv hz
      split at h
      · rename_i hc
        obtain rfl := Option.some.inj h
        refine ⟨i, zv, hi, hz, hc.1, fun u hu => ?_, rfl⟩
        exact (Array.all_eq_true_iff_forall_mem.1 hc.2) u (by simpa using hu)
      · cases h
    · cases h
  · cases h
theorem zero_lsOK {P : Program} : ∀ {us : List Value} {ts : List Nat}, (∀ u ∈ us, u.oneCell' = true) → LsOK σ.o G w ((zipT P us ts).map .d) us
  | [], ts, h => ⟨rfl, fun n l u h1 => by simp [zipT] at h1⟩
  | v :: vs, ts, h => by
    have hv := h v (by simp)
    have key : ∀ (x : D) (ts' : List Nat), LOK σ.o G w (.d x) v → LsOK σ.o G w ((x :: zipT P vs ts').map .d) (v :: vs) := fun x ts' hx => by
      have ih := zero_lsOK (P := P) (us := vs) (ts := ts') (fun u hu => h u (by simp [hu]))
      refine ⟨by simp [← ih.1], fun n l u h1 h2 => ?_⟩
      cases n with
      | zero => simp at h1 h2; subst h1; subst h2; exact hx
      | succ n => exact ih.2 n l u (by simpa using h1) (by simpa using h2)
    cases ts with
    | nil => exact key _ [] (constD_ok v hv)
    | cons t ts => exact key _ ts (constT_ok P t v hv)

theorem Inv.world_moves (hi : Inv fr N σ G a w) {w' : World} (R : Nat → Prop) (hw : ∀ b, b < w.heap.size → ¬ G.R b → w'.heap[b]? = w.heap[b]?) : Moves σ.o σ.o G { G with R := R } w w' := by
  have hF : ∀ b, G.F b → w'.heap[b]? = w.heap[b]? := fun b hb => hw b (hi.Fw b hb).1 (fun hr => (hi.rF b hr).1 hb)
  have hS : ∀ i b, (σ.o i).st = .own → G.S i b → w'.heap[b]? = w.heap[b]? := fun i b h1 h2 => hw b (hi.sF i b h1 h2).2.2 (hi.rS i b h1 h2)
  exact ⟨fun _ h => h, hF, fun i => Keeps.same rfl (fun _ => rfl) (fun p u0 hs h => hi.head hs (fun b hb => hb.elim (hF b) fun h => hS i b h.1 h.2) h)⟩
theorem alloc_old (w : World) (ob : Go.Obj) (b : Nat) (h : b < w.heap.size) : (w.alloc ob).heap[b]? = w.heap[b]? := Below.heap_alloc w ob b h
theorem alloc_new (w : World) (ob : Go.Obj) : (w.alloc ob).heap[w.heap.size]? = some ob := by
  show (w.heap.push ob)[w.heap.size]? = _; simp
theorem alloc_size (w : World) (ob : Go.Obj) : (w.alloc ob).heap.size = w.heap.size + 1 := by
  show (w.heap.push ob).size = _; simp
theorem Inv.alloc (hi : Inv fr N σ G a w) (ob : Go.Obj) : Inv fr N σ { G with R := fun b => G.R b ∨ b = w.heap.size } a (w.alloc ob) :=
  (hi.world (w' := w.alloc ob) rfl rfl rfl (by rw [alloc_size]; omega) (fun b h _ => alloc_old w ob b h)).less (fun b hb => hb.imp id fun h => by rw [alloc_size]; omega)
theorem Inv.alloc_moves (hi : Inv fr N σ G a w) (ob : Go.Obj) : Moves σ.o σ.o G { G with R := fun b => G.R b ∨ b = w.heap.size } w (w.alloc ob) := hi.world_moves _ (fun b h _ => alloc_old w ob b h)
theorem wp_value' {o : Oper} {v : Value} {w' : World} {next : Act → World → Prop} {Q : Exit → Act → World → Prop} (hr : (execOp a.eval o).run C.P w = .ok (.value v) w') (h : next (a.put o.dst v) w') : o.wp C.P a w next Q := by
  unfold Oper.wp; rw [hr]; exact h
theorem wp_skip' {o : Oper} {w' : World} {next : Act → World → Prop} {Q : Exit → Act → World → Prop} (hr : (execOp a.eval o).run C.P w = .ok .skip w') (h : next (a.put o.dst undef) w') : o.wp C.P a w next Q := by
  unfold Oper.wp; rw [hr]; exact h
theorem wrs_app (ws1 ws2 : List Wr) : σ.wrs (ws1 ++ ws2) = (σ.wrs ws1).wrs ws2 := by simp [St.wrs]
/-- a new variable -/
theorem newBox_ok (hi : Inv fr N σ G a w) {t : Nat} {cs : List LV} {us : Array Value} (hd : dstOk N o.dst = true) (hl : LsOK σ.o G w cs us.toList)
    (hr : (execOp a.eval o).run C.P w = .ok (.value (.pointer (some ⟨w.heap.size, 0, none⟩))) (w.alloc (.cells us t))) (j : Nat) :
    Told C fr N σ ([.b j ⟨(σ.b j).v + 1, true, t, cs⟩] ++ setS o.dst (.fld j ((σ.b j).v + 1) 0)) o G a w := by
  intro next Q hn
  have h1 := (hi.alloc (.cells us t)).newBox (t := t) (cs := cs) (us := us) (g := w.heap.size) (.inr rfl) (alloc_new w _) (hl.move (hi.alloc_moves _)) j
  have h2 := Inv.put (σ := σ.wr (.b j ⟨(σ.b j).v + 1, true, t, cs⟩)) (x := .fld j ((σ.b j).v + 1) 0) (v := .pointer (some ⟨w.heap.size, 0, none⟩)) h1 hd ⟨by simp [St.wr, upd], fun _ _ => by simp [upd]⟩
  exact wp_value' hr (hn _ _ _ (by rw [wrs_app]; exact h2))
theorem ok_alloc (hi : Inv fr N σ G a w) {t : TypeId} (ho : o.op = .alloc t) (hd : dstOk N o.dst = true) (h : (eff C o).run σ = some ws) : Told C fr N σ ws o G a w := by
  simp only [eff, ho] at h
  split at h
  · rename_i z hz
    obtain ⟨i, zv, h1, h2, h3, h4, rfl⟩ := tzero_some hz
    obtain rfl := Option.some.inj h
    exact newBox_ok hi hd (zero_lsOK h4) (by simp [execOp, ho, Instr.alloc, zeroValue, typeInfo, h1, h2, newVar, newRow]) _
  · simp [E.run] at h
theorem ok_box (hi : Inv fr N σ G a w) {t : TypeId} {x : Operand} (ho : o.op = .box t x) (hd : dstOk N o.dst = true) (h : (eff C o).run σ = some ws) : Told C fr N σ ws o G a w := by
  rw [eff, ho] at h
  obtain ⟨ax, h, sx⟩ := opd_ok hi h
  obtain ⟨ls, h, hls⟩ := leafs_ok sx h
  split at h
  · obtain rfl := Option.some.inj h
    exact newBox_ok hi hd hls (by simp [execOp, ho, Instr.box, newVar, newRow]) _
  · simp [E.run] at h

theorem fillL_ok (hi : Inv fr N σ G a w) {t : Nat} {g : Nat → Option (Nat × Nat)} (hg : tpl C.P t = some g) {k : List LV → E} : ∀ {ps : List (Nat × Operand)} {cs : List LV} {cells : Array Value}, LsOK σ.o G w cs cells.toList → (fillL C.P t cs ps k).run σ = some ws →
    ∃ cs' cells', (k cs').run σ = some ws ∧ LsOK σ.o G w cs' cells'.toList ∧ Instr.fill g cells (ps.map fun p => (p.1, a.eval p.2)) = some cells'
  | [], cs, cells, hl, h => ⟨cs, cells, h, hl, rfl⟩
  | (f, x) :: ps, cs, cells, hl, h => by
    simp only [fillL] at h
    obtain ⟨ax, h, sx⟩ := opd_ok hi h
    obtain ⟨ls, h, hls⟩ := leafs_ok sx h
    split at h
    · rename_i off n hp
      have hp' : g f = some (off, n) := by
        unfold tplace at hp
        rw [hg] at hp
        exact hp
      split at h
      · rename_i hc
        have hlen := hls.1
        have hlen2 := hl.1
        simp only [Array.length_toList] at hlen hlen2
        obtain ⟨cells1, e1, e2⟩ := fill_cons (place := g) (cells := cells) (i := f) (v := a.eval x) (rest := ps.map fun p => (p.1, a.eval p.2)) hp' (by omega) (by omega)
        obtain ⟨cs', cells', h1, h2, h3⟩ := fillL_ok hi hg (cells := cells1) (by rw [e1]; exact hl.putAt hls (by omega)) h
        exact ⟨cs', cells', h1, h2, by rw [List.map_cons, e2]; exact h3⟩
      · simp [E.run] at h
    · simp [E.run] at h
theorem run_build' {P : Program} {t : Nat} {g : Nat → Option (Nat × Nat)} (hg : tpl P t = some g) {i : TypeInfo} {zv : Value} (hi : P.info? t = some i) (hz : i.zero = some zv) {parts : Array (Nat × Value)} {cells : Array Value}
    (hf : Instr.fill g zv.cells parts.toList = some cells) : (Instr.build t parts).run P w = .ok (.agg cells) w := by
  refine run_build w t parts cells ?_
  unfold tpl at hg
  unfold Program.built
  split at hg
  · rename_i fs hu
    obtain ⟨l, hl, rfl⟩ := Option.map_eq_some_iff.1 hg
    simp only [hi, hu, hz, hl]
    simpa using hf
  · rename_i n e hu
    obtain ⟨ie, hie, rfl⟩ := Option.map_eq_some_iff.1 hg
    simp only [hi, hu, hz, hie]
    exact hf
  · cases hg
theorem ok_build (hi : Inv fr N σ G a w) {t : TypeId} {parts : Array (Nat × Operand)} (ho : o.op = .build t parts) (hd : dstOk N o.dst = true) (h : (eff C o).run σ = some ws) : Told C fr N σ ws o G a w := by
  simp only [eff, ho] at h
  split at h
  · rename_i htp
    obtain ⟨g, hg⟩ := Option.isSome_iff_exists.1 htp
    split at h
    · rename_i z hz
      obtain ⟨i, zv, h1, h2, h3, h4, rfl⟩ := tzero_some hz
      obtain ⟨cs', cells', h, hls, hf⟩ := fillL_ok hi hg (zero_lsOK h4) h
      obtain rfl := Option.some.inj h
      refine told_value hi hd (v := .agg cells') ?_ ⟨cells', rfl, hls⟩
      have hb := run_build' (w := w) hg h1 h2 (parts := parts.map fun p => (p.1, a.eval p.2)) (by simpa using hf)
      simp [execOp, ho, hb]
    · simp [E.run] at h
  · simp [E.run] at h
end
end Go.Proofs.Ytmbmebfeoejlnaa.Ab
