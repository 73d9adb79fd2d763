/- How 'stands for' (Inv) goes on: slots, worlds, objects, boxes. -/
import Derived.Test.YtmbmebfeoejlnaaA5
namespace Go.Proofs.Ytmbmebfeoejlnaa.Ab
set_option linter.unusedVariables false
set_option linter.unusedSimpArgs false
open Go.RowKit

theorem HeadAt.frame {w w' : World} {F : Nat → Prop} {x : D} {v u : Value} {p : List Nat} (h : HeadAt w x v p u) (hw : ∀ b, F b → w'.heap[b]? = w.heap[b]?) : Rep w F x v → HeadAt w' x v p u := by
  induction h with
  | nil x v => intro _; exact .nil x v
  | cons e k xs g n c j p x u v' hx hu h ih =>
    intro hr
    have hj : j < xs.length := (List.getElem?_eq_some_iff.1 hx).1
    obtain ⟨ad, he, hf, hc⟩ := hr.get hj
    obtain rfl := Option.some.inj he
    obtain ⟨u2, hu2, hr2⟩ := hc j x hx
    have e2 : (Addr.add ⟨g, 0, none⟩ j) = ⟨g, j, none⟩ := by unfold Addr.add; split <;> simp_all
    rw [e2, hu] at hu2
    obtain rfl := Option.some.inj hu2
    exact .cons e k xs g n c j p x u v' hx (by rw [cell_of_heap (w := w) (hw g hf)]; exact hu) (ih hr2)

theorem HeadAt.nil_inv {w : World} {x : D} {v u : Value} {p : List Nat} (h : HeadAt w x v p u) (hp : p = []) : u = v := by
  cases h with
  | nil => rfl
  | cons => cases hp
/-- references go on -/
def Keeps (O O' : Nat → Obj) (G G' : Gh) (w w' : World) (i : Nat) : Prop :=
  ((O i).v < (O' i).v ∨ (O' i).v = (O i).v ∧ (O i).s ≤ (O' i).s) ∧
  ∀ v p s, (O i).past v s → (O' i).good v p s → (O i).good v p s ∧ ∀ sh e k xs u0, (O i).d.at p = some (.sl sh e k xs) → HeadAt w (O i).d (G.val i) p u0 →
    ∃ sh' e' k' xs', (O' i).d.at p = some (.sl sh' e' k' xs') ∧ HeadAt w' (O' i).d (G'.val i) p u0
theorem Obj.past.on {o o' : Obj} {v s : Nat} (h : o.past v s) (h' : o.v < o'.v ∨ o'.v = o.v ∧ o.s ≤ o'.s) : o'.past v s := by
  unfold Obj.past at *; omega
section
variable {O O' : Nat → Obj} {B B' : Nat → Box} {G G' : Gh} {w w' : World}
structure Moves (O O' : Nat → Obj) (G G' : Gh) (w w' : World) : Prop where
  F : ∀ b, G.F b → G'.F b
  h : ∀ b, G.F b → w'.heap[b]? = w.heap[b]?
  r : ∀ i, Keeps O O' G G' w w' i
theorem LOK.move (hm : Moves O O' G G' w w') {l : LV} {u : Value} (h : LOK O G w l u) : LOK O' G' w' l u := by
  cases l with
  | d x => exact ⟨Rep.frame h.1 hm.F hm.h, h.2⟩
  | ref i v p s m =>
    obtain ⟨h1, h0, h2⟩ := h
    obtain ⟨k1, k2⟩ := hm.r i
    refine ⟨h1.on k1, h0, fun hg => ?_⟩
    obtain ⟨hg0, hk⟩ := k2 v p s h1 hg
    obtain ⟨sh, e, k, xs, u0, ha, hh, hc⟩ := h2 hg0
    obtain ⟨sh', e', k', xs', ha', hh'⟩ := hk sh e k xs u0 ha hh
    exact ⟨sh', e', k', xs', u0, ha', hh', hc⟩
theorem LsOK.move (hm : Moves O O' G G' w w') {ls : List LV} {us : List Value} (h : LsOK O G w ls us) : LsOK O' G' w' ls us := ⟨h.1, fun n l u h1 h2 => (h.2 n l u h1 h2).move hm⟩
theorem VOK.move (hm : Moves O O' G G' w w') {x : Bool × List LV} {u : Value} (h : VOK O G w x u) : VOK O' G' w' x u := by
  obtain ⟨b, ls⟩ := x
  cases b with
  | true => obtain ⟨us, e, h⟩ := h; exact ⟨us, e, h.move hm⟩
  | false =>
    cases ls with
    | nil => exact h
    | cons l ls => cases ls with
      | nil => exact LOK.move hm h
      | cons _ _ => exact h
def BoxOn (B B' : Nat → Box) (G G' : Gh) : Prop := ∀ j, (B j).v ≤ (B' j).v ∧ ((B' j).live = true → (B' j).v = (B j).v → (B j).live = true ∧ G'.blk j = G.blk j)
theorem SOK.move (hm : Moves O O' G G' w w') (hb : BoxOn B B' G G') {x : AV} {u : Value} (h : SOK O B G w x u) : SOK O' B' G' w' x u := by
  cases x with
  | l x => exact LOK.move hm h
  | agg ls => obtain ⟨us, e, h⟩ := h; exact ⟨us, e, h.move hm⟩
  | tup vs => obtain ⟨us, e, hs, h⟩ := h; exact ⟨us, e, hs, fun n x y h1 h2 => (h n x y h1 h2).move hm⟩
  | fld j v off =>
    obtain ⟨h1, h2⟩ := h
    obtain ⟨b1, b2⟩ := hb j
    refine ⟨Nat.le_trans h1 b1, fun hl hv => ?_⟩
    have e : (B' j).v = (B j).v := by omega
    obtain ⟨hl0, hbk⟩ := b2 hl e
    rw [hbk]; exact h2 hl0 (by omega)
  | el i v p s c =>
    obtain ⟨h1, h2⟩ := h
    obtain ⟨k1, k2⟩ := hm.r i
    refine ⟨h1.on k1, fun hg => ?_⟩
    obtain ⟨hg0, hk⟩ := k2 v p s h1 hg
    obtain ⟨sh, e, k, xs, g, n, m, ha, hh, hc⟩ := h2 hg0
    obtain ⟨sh', e', k', xs', ha', hh'⟩ := hk sh e k xs _ ha hh
    exact ⟨sh', e', k', xs', g, n, m, ha', hh', hc⟩
  | adr xs =>
    obtain ⟨ad, e, hf, h⟩ := h
    refine ⟨ad, e, hm.F _ hf, fun n x hx => ?_⟩
    obtain ⟨y, hy, hr⟩ := h n x hx
    exact ⟨y, by rw [cell_of_heap (w := w) (by rw [add_block]; exact hm.h _ hf)]; exact hy, hr.frame hm.F hm.h⟩
  | ub => exact h
  | und => exact h
  | dead => trivial
end
theorem BoxOn.rfl' {B : Nat → Box} {G G' : Gh} (h : ∀ j, (B j).live = true → G'.blk j = G.blk j) : BoxOn B B G G' := fun j => ⟨Nat.le_refl _, fun hl _ => ⟨hl, h j hl⟩⟩
/-- an object that stays as it is -/
theorem Keeps.same {O O' : Nat → Obj} {G G' : Gh} {w w' : World} {i : Nat} (ho : O' i = O i) (hv : (O i).st ≠ .dead → G'.val i = G.val i)
    (hh : ∀ p u0, (O i).st ≠ .dead → HeadAt w (O i).d (G.val i) p u0 → HeadAt w' (O i).d (G.val i) p u0) : Keeps O O' G G' w w' i := by
  refine ⟨.inr (by rw [ho]; exact ⟨rfl, Nat.le_refl _⟩), fun v p s _ hg => ?_⟩
  rw [ho] at hg ⊢
  exact ⟨hg, fun sh e k xs u0 ha h => ⟨sh, e, k, xs, ha, by rw [hv hg.2.1]; exact hh p u0 hg.2.1 h⟩⟩
/-- an object that is another one now -/
theorem Keeps.anew {O O' : Nat → Obj} {G G' : Gh} {w w' : World} {i : Nat} (h : (O i).v < (O' i).v) : Keeps O O' G G' w w' i :=
  ⟨.inl h, fun v p s hp hg => by have := hg.1; unfold Obj.past at hp; omega⟩
theorem Keeps.gone {O O' : Nat → Obj} {G G' : Gh} {w w' : World} {i : Nat} (h1 : (O' i).v = (O i).v) (h2 : (O' i).s = (O i).s) (h : (O' i).st = .dead) : Keeps O O' G G' w w' i :=
  ⟨.inr ⟨h1, by omega⟩, fun v p s _ hg => absurd h hg.2.1⟩

section
variable {fr : Fr} {N : Nat} {σ : St} {G : Gh} {a : Act} {w : World}
theorem Inv.head (hi : Inv fr N σ G a w) {w' : World} {i : Nat} {p : List Nat} {u0 : Value} (hs : (σ.o i).st ≠ .dead) (hw : ∀ b, (G.F b ∨ (σ.o i).st = .own ∧ G.S i b) → w'.heap[b]? = w.heap[b]?)
    (h : HeadAt w (σ.o i).d (G.val i) p u0) : HeadAt w' (σ.o i).d (G.val i) p u0 := by
  cases hst : (σ.o i).st with
  | dead => exact absurd hst hs
  | own => exact h.frame (F := fun b => G.F b ∨ G.S i b) (fun b hb => hw b (hb.imp id fun h => ⟨hst, h⟩)) (hi.objs i hst).rep
  | fz => exact h.frame (F := G.F) (fun b hb => hw b (.inl hb)) (hi.fzs i hst)

/-- a slot is written -/
theorem Inv.put (hi : Inv fr N σ G a w) {d : Option Nat} {x : AV} {v : Value} (hd : dstOk N d = true) (h : SOK σ.o σ.b G w x v) : Inv fr N (σ.wrs (setS d x)) G (a.put d v) w := by
  cases d with
  | none => exact hi
  | some t =>
    have ht : t < a.tmps.size := by rw [hi.size]; simpa [dstOk] using hd
    refine ⟨by simp [Act.put, hi.size], hi.defers, fun t' => ?_, hi.objs, hi.fzs, hi.boxes, hi.sF, hi.sS, hi.bF, hi.bS, hi.bB, hi.rF, hi.rS, hi.rB, hi.Fw, hi.frame⟩
    show SOK σ.o σ.b G w (upd σ.s t x t') ((a.tmps.setIfInBounds t v).getD t' undef)
    by_cases e : t' = t
    · subst e
      have e1 : (a.tmps.setIfInBounds t' v).getD t' undef = v := by simp [Array.getD_eq_getD_getElem?, ht]
      rw [e1]; simp only [upd, if_true]; exact h
    · have e1 : (a.tmps.setIfInBounds t v).getD t' undef = a.tmps.getD t' undef := by
        simp [Array.getD_eq_getD_getElem?, Array.getElem?_setIfInBounds, Ne.symm e]
      rw [e1]; simp only [upd, if_neg e]; exact hi.slots t'

/-- the world goes on: what isn't taken out stays -/
theorem Inv.world (hi : Inv fr N σ G a w) {w' : World} (hos : w'.os = w.os) (htp : w'.tape = w.tape) (hou : w'.output = w.output) (hsz : w.heap.size ≤ w'.heap.size)
    (hw : ∀ b, b < w.heap.size → ¬ G.R b → w'.heap[b]? = w.heap[b]?) : Inv fr N σ { G with R := fun b => G.R b ∨ w.heap.size ≤ b ∧ b < w'.heap.size } a w' := by
  have hF : ∀ b, G.F b → w'.heap[b]? = w.heap[b]? := fun b hb => hw b (hi.Fw b hb).1 (fun hr => (hi.rF b hr).1 hb)
  have hS : ∀ i b, (σ.o i).st = .own → G.S i b → w'.heap[b]? = w.heap[b]? := fun i b h1 h2 => hw b (hi.sF i b h1 h2).2.2 (hi.rS i b h1 h2)
  have hm : Moves σ.o σ.o G { G with R := fun b => G.R b ∨ w.heap.size ≤ b ∧ b < w'.heap.size } w w' := ⟨fun _ h => h, hF, fun i => Keeps.same rfl (fun _ => rfl) (fun p u0 hs h => hi.head hs (fun b hb => hb.elim (hF b) fun h => hS i b h.1 h.2) h)⟩
  refine ⟨hi.size, hi.defers, fun t => (hi.slots t).move hm (.rfl' fun _ _ => rfl), fun i h => (hi.objs i h).frame (fun _ h => h) (fun _ h => h) (fun b hb => hb.elim (hS i b h) (hF b)),
    fun i h => (hi.fzs i h).frame (fun _ h => h) hF, fun j h => ?_, fun i b h1 h2 => ⟨(hi.sF i b h1 h2).1, (hi.sF i b h1 h2).2.1, Nat.lt_of_lt_of_le (hi.sF i b h1 h2).2.2 hsz⟩, hi.sS,
    fun j h => ⟨(hi.bF j h).1, (hi.bF j h).2.1, Nat.lt_of_lt_of_le (hi.bF j h).2.2 hsz⟩, hi.bS, hi.bB, ?_, ?_, ?_, fun b hb => ⟨Nat.lt_of_lt_of_le (hi.Fw b hb).1 hsz, (hi.Fw b hb).2⟩, ?_⟩
  · obtain ⟨us, h1, h2⟩ := hi.boxes j h
    exact ⟨us, by rw [hw _ (hi.bF j h).2.2 (hi.rB j h)]; exact h1, h2.move hm⟩
  · rintro b (hb | hb)
    · exact ⟨(hi.rF b hb).1, (hi.rF b hb).2.1, Nat.lt_of_lt_of_le (hi.rF b hb).2.2 hsz⟩
    · exact ⟨fun hf => by have := (hi.Fw b hf).1; omega, by have := hi.frame.size; omega, hb.2⟩
  · rintro i b h1 h2 (hb | hb)
    · exact hi.rS i b h1 h2 hb
    · have := (hi.sF i b h1 h2).2.2; omega
  · rintro j h (hb | hb)
    · exact hi.rB j h hb
    · have := (hi.bF j h).2.2; dsimp only at hb; omega
  · have hf := hi.frame
    refine ⟨hos.trans hf.os, htp.trans hf.tape, hou.trans hf.output, Nat.le_trans hf.size hsz, fun b h1 h2 => ?_, hf.pb⟩
    rw [hw b (Nat.lt_of_lt_of_le h1 hf.size) (fun hr => by have := (hi.rF b hr).2.1; omega)]
    exact hf.block b h1 h2
/-- what was taken out may be forgotten -/
theorem Inv.less (hi : Inv fr N σ G a w) {R : Nat → Prop} (h : ∀ b, R b → G.R b) : Inv fr N σ { G with R := R } a w := by
  have hm : Moves σ.o σ.o G { G with R := R } w w := ⟨fun _ h => h, fun _ _ => rfl, fun i => Keeps.same rfl (fun _ => rfl) (fun _ _ _ h => h)⟩
  exact ⟨hi.size, hi.defers, fun t => (hi.slots t).move hm (.rfl' fun _ _ => rfl), hi.objs, hi.fzs, fun j h => by
    obtain ⟨us, h1, h2⟩ := hi.boxes j h; exact ⟨us, h1, h2.move hm⟩, hi.sF, hi.sS, hi.bF, hi.bS, hi.bB, fun b hb => hi.rF b (h b hb), fun i b h1 h2 h3 => hi.rS i b h1 h2 (h b h3), fun j h1 h2 => hi.rB j h1 (h _ h2), hi.Fw, hi.frame⟩

/-- a new object at i: whatever was there is forgotten -/
theorem Inv.newObj (hi : Inv fr N σ G a w) {e k : Nat} {xs : List D} {v : Value} {S : Nat → Prop} (ho : Own w G.F (.sl false e k xs) v S) (hS : ∀ b, S b → G.R b) (i : Nat) :
    Inv fr N (σ.wr (.o i ⟨(σ.o i).v + 1, 0, .own, e, k, xs⟩)) { G with val := upd G.val i v, S := upd G.S i S, R := fun b => G.R b ∧ ¬ S b } a w := by
  have hm : Moves σ.o (upd σ.o i ⟨(σ.o i).v + 1, 0, .own, e, k, xs⟩) G { G with val := upd G.val i v, S := upd G.S i S, R := fun b => G.R b ∧ ¬ S b } w w := by
    refine ⟨fun _ h => h, fun _ _ => rfl, fun i' => ?_⟩
    by_cases hii : i' = i
    · subst hii; exact Keeps.anew (by simp [upd])
    · exact Keeps.same (by simp [upd, hii]) (fun _ => by simp [upd, hii]) (fun _ _ _ h => h)
  refine ⟨hi.size, hi.defers, fun t => (hi.slots t).move hm (.rfl' fun _ _ => rfl), fun i' h => ?_, fun i' h => ?_, fun j h => by
    obtain ⟨us, h1, h2⟩ := hi.boxes j h; exact ⟨us, h1, h2.move hm⟩, fun i' b h1 h2 => ?_, fun i' i2 b h1 h2 h3 h4 => ?_, hi.bF, fun j i' h1 h2 h3 => ?_, hi.bB, fun b hb => hi.rF b hb.1, fun i' b h1 h2 h3 => ?_, fun j h1 h2 => hi.rB j h1 h2.1, hi.Fw, hi.frame⟩
  all_goals (try simp only [St.wr, upd] at *)
  · by_cases hii : i' = i
    · subst hii; simp only [if_true] at *; exact ho
    · simp only [hii, if_false] at *; exact hi.objs i' h
  · by_cases hii : i' = i
    · subst hii; simp at h
    · simp only [hii, if_false] at *; exact hi.fzs i' h
  · by_cases hii : i' = i
    · subst hii; simp only [if_true] at *; exact hi.rF b (hS b h2)
    · simp only [hii, if_false] at *; exact hi.sF i' b h1 h2
  · by_cases hii : i' = i <;> by_cases hi2 : i2 = i
    · rw [hii, hi2]
    · simp only [hii, hi2, if_true, if_false] at *; exact absurd (hS b h3) (hi.rS i2 b h2 h4)
    · simp only [hii, hi2, if_true, if_false] at *; exact absurd (hS b h4) (hi.rS i' b h1 h3)
    · simp only [hii, hi2, if_false] at *; exact hi.sS i' i2 b h1 h2 h3 h4
  · by_cases hii : i' = i
    · subst hii; simp only [if_true] at *; exact hi.rB j h1 (hS _ h3)
    · simp only [hii, if_false] at *; exact hi.bS j i' h1 h2 h3
  · by_cases hii : i' = i
    · subst hii; simp only [if_true] at *; exact h3.2 h2
    · simp only [hii, if_false] at *; exact hi.rS i' b h1 h2 h3.1

/-- an object is used up: what it was is nobody's now -/
theorem Inv.kill (hi : Inv fr N σ G a w) {i : Nat} (hs : (σ.o i).st = .own) :
    Inv fr N (σ.wr (.o i { σ.o i with st := .dead })) { G with R := fun b => G.R b ∨ G.S i b } a w := by
  have hm : Moves σ.o (upd σ.o i { σ.o i with st := .dead }) G { G with R := fun b => G.R b ∨ G.S i b } w w := by
    refine ⟨fun _ h => h, fun _ _ => rfl, fun i' => ?_⟩
    by_cases hii : i' = i
    · subst hii; exact Keeps.gone (by simp [upd]) (by simp [upd]) (by simp [upd])
    · exact Keeps.same (by simp [upd, hii]) (fun _ => rfl) (fun _ _ _ h => h)
  have hne : ∀ i', ((σ.wr (.o i { σ.o i with st := .dead })).o i').st = .own → i' ≠ i ∧ (σ.wr (.o i { σ.o i with st := .dead })).o i' = σ.o i' := by
    intro i' h
    by_cases hii : i' = i
    · subst hii; simp [St.wr, upd] at h
    · exact ⟨hii, by simp [St.wr, upd, hii]⟩
  refine ⟨hi.size, hi.defers, fun t => (hi.slots t).move hm (.rfl' fun _ _ => rfl), fun i' h => ?_, fun i' h => ?_, fun j h => by
    obtain ⟨us, h1, h2⟩ := hi.boxes j h; exact ⟨us, h1, h2.move hm⟩, fun i' b h1 h2 => ?_, fun i' i2 b h1 h2 h3 h4 => ?_, hi.bF, fun j i' h1 h2 h3 => ?_, hi.bB, fun b hb => ?_, fun i' b h1 h2 h3 => ?_, fun j h1 h2 => ?_, hi.Fw, hi.frame⟩
  · obtain ⟨_, e⟩ := hne i' h; rw [e] at h ⊢; exact hi.objs i' h
  · by_cases hii : i' = i
    · subst hii; simp [St.wr, upd] at h
    · simp only [St.wr, upd, hii, if_false] at h ⊢; exact hi.fzs i' h
  · obtain ⟨_, e⟩ := hne i' h1; rw [e] at h1; exact hi.sF i' b h1 h2
  · obtain ⟨_, e⟩ := hne i' h1; obtain ⟨_, e2⟩ := hne i2 h2; rw [e] at h1; rw [e2] at h2; exact hi.sS i' i2 b h1 h2 h3 h4
  · obtain ⟨_, e⟩ := hne i' h2; rw [e] at h2; exact hi.bS j i' h1 h2 h3
  · exact hb.elim (hi.rF b) (hi.sF i b hs)
  · obtain ⟨n, e⟩ := hne i' h1; rw [e] at h1
    exact h3.elim (hi.rS i' b h1 h2) (fun h => n (hi.sS i' i b h1 hs h2 h))
  · exact h2.elim (hi.rB j h1) (hi.bS j i h1 hs)

/-- an object is shared from now on -/
theorem Inv.freeze (hi : Inv fr N σ G a w) {i : Nat} (hs : (σ.o i).st = .own) :
    Inv fr N (σ.wr (.o i { σ.o i with st := .fz })) { G with F := fun b => G.F b ∨ G.S i b } a w := by
  have hm : Moves σ.o (upd σ.o i { σ.o i with st := .fz }) G { G with F := fun b => G.F b ∨ G.S i b } w w := by
    refine ⟨fun _ h => .inl h, fun _ _ => rfl, fun i' => ?_⟩
    by_cases hii : i' = i
    · subst hii
      refine ⟨.inr (by simp [upd]), fun v p s _ hg => ?_⟩
      simp only [upd, if_true] at hg ⊢
      exact ⟨⟨hg.1, by rw [hs]; simp, hg.2.2⟩, fun sh e k xs u0 h1 h2 => ⟨sh, e, k, xs, h1, h2⟩⟩
    · exact Keeps.same (by simp [upd, hii]) (fun _ => rfl) (fun _ _ _ h => h)
  have hne : ∀ i', ((σ.wr (.o i { σ.o i with st := .fz })).o i').st = .own → i' ≠ i ∧ (σ.wr (.o i { σ.o i with st := .fz })).o i' = σ.o i' := by
    intro i' h
    by_cases hii : i' = i
    · subst hii; simp [St.wr, upd] at h
    · exact ⟨hii, by simp [St.wr, upd, hii]⟩
  refine ⟨hi.size, hi.defers, fun t => (hi.slots t).move hm (.rfl' fun _ _ => rfl), fun i' h => ?_, fun i' h => ?_, fun j h => by
    obtain ⟨us, h1, h2⟩ := hi.boxes j h; exact ⟨us, h1, h2.move hm⟩, fun i' b h1 h2 => ?_, fun i' i2 b h1 h2 h3 h4 => ?_, fun j h => ⟨?_, (hi.bF j h).2⟩, fun j i' h1 h2 h3 => ?_, hi.bB, fun b hb => ⟨?_, (hi.rF b hb).2⟩, fun i' b h1 h2 h3 => ?_, hi.rB, fun b hb => ?_, hi.frame⟩
  · obtain ⟨_, e⟩ := hne i' h; rw [e] at h ⊢; exact (hi.objs i' h).frame (fun _ h => h) (fun _ h => .inl h) (fun _ _ => rfl)
  · by_cases hii : i' = i
    · subst hii; simp only [St.wr, upd, if_true]; exact (hi.objs i' hs).rep
    · simp only [St.wr, upd, hii, if_false] at h ⊢; exact (hi.fzs i' h).frame (fun _ h => .inl h) (fun _ _ => rfl)
  · obtain ⟨n, e⟩ := hne i' h1; rw [e] at h1
    exact ⟨fun h => h.elim (hi.sF i' b h1 h2).1 (fun h => n (hi.sS i' i b h1 hs h2 h)), (hi.sF i' b h1 h2).2⟩
  · obtain ⟨_, e⟩ := hne i' h1; obtain ⟨_, e2⟩ := hne i2 h2; rw [e] at h1; rw [e2] at h2; exact hi.sS i' i2 b h1 h2 h3 h4
  · exact fun h' => h'.elim (hi.bF j h).1 (hi.bS j i h hs)
  · obtain ⟨_, e⟩ := hne i' h2; rw [e] at h2; exact hi.bS j i' h1 h2 h3
  · exact fun h' => h'.elim (hi.rF b hb).1 (fun h => hi.rS i b hs h hb)
  · obtain ⟨_, e⟩ := hne i' h1; rw [e] at h1; exact hi.rS i' b h1 h2 h3
  · rcases hb with hb | hb
    · exact hi.Fw b hb
    · exact ⟨(hi.sF i b hs hb).2.2, fun h => by have := hi.frame.pb b h; have := (hi.sF i b hs hb).2.1; omega⟩
/-- an object is changed in place: its row's head stays, what hung below it is asked for anew -/
theorem Inv.modObj (hi : Inv fr N σ G a w) {i : Nat} (hs : (σ.o i).st = .own) {xs : List D} {S' : Nat → Prop} {w' : World} (hos : w'.os = w.os) (htp : w'.tape = w.tape) (hou : w'.output = w.output) (hsz : w.heap.size = w'.heap.size)
    (hw : ∀ b, b < w.heap.size → ¬ G.R b → ¬ G.S i b → w'.heap[b]? = w.heap[b]?) (ho : Own w' G.F (.sl false (σ.o i).e (σ.o i).k xs) (G.val i) S') (hS : ∀ b, S' b → G.S i b ∨ G.R b) :
    Inv fr N (σ.wr (.o i { σ.o i with s := (σ.o i).s + 1, xs := xs })) { G with S := upd G.S i S', R := fun b => (G.R b ∨ G.S i b) ∧ ¬ S' b } a w' := by
  have hF : ∀ b, G.F b → w'.heap[b]? = w.heap[b]? := fun b hb => hw b (hi.Fw b hb).1 (fun hr => (hi.rF b hr).1 hb) (fun h => (hi.sF i b hs h).1 hb)
  have hS2 : ∀ i' b, i' ≠ i → (σ.o i').st = .own → G.S i' b → w'.heap[b]? = w.heap[b]? := fun i' b n h1 h2 => hw b (hi.sF i' b h1 h2).2.2 (hi.rS i' b h1 h2) (fun h => n (hi.sS i' i b h1 hs h2 h))
  have hm : Moves σ.o (upd σ.o i { σ.o i with s := (σ.o i).s + 1, xs := xs }) G { G with S := upd G.S i S', R := fun b => (G.R b ∨ G.S i b) ∧ ¬ S' b } w w' := by
    refine ⟨fun _ h => h, hF, fun i' => ?_⟩
    by_cases hii : i' = i
    · subst hii
      refine ⟨.inr (by simp [upd]), fun v p s hp hg => ?_⟩
      simp only [upd, if_true] at hg ⊢
      have hp0 : p = [] := by
        rcases hg.2.2 with h | h
        · exact h
        · have := hg.1; unfold Obj.past at hp; dsimp only at h this; omega
      subst hp0
      refine ⟨⟨hg.1, by rw [hs]; simp, .inl rfl⟩, fun sh e k ys u0 h1 h2 => ?_⟩
      rw [h2.nil_inv rfl]
      exact ⟨_, _, _, _, rfl, .nil _ _⟩
    · exact Keeps.same (by simp [upd, hii]) (fun _ => rfl) (fun p u0 hd h => hi.head hd (fun b hb => hb.elim (hF b) fun h => hS2 i' b hii h.1 h.2) h)
  refine ⟨hi.size, hi.defers, fun t => (hi.slots t).move hm (.rfl' fun _ _ => rfl), fun i' h => ?_, fun i' h => ?_, fun j h => ?_, fun i' b h1 h2 => ?_, fun i' i2 b h1 h2 h3 h4 => ?_, fun j h => ⟨(hi.bF j h).1, (hi.bF j h).2.1, by rw [← hsz]; exact (hi.bF j h).2.2⟩, fun j i' h1 h2 h3 => ?_, hi.bB, fun b hb => ?_, fun i' b h1 h2 h3 => ?_, fun j h1 h2 => ?_, fun b hb => by rw [← hsz]; exact hi.Fw b hb, ?_⟩
  all_goals (try simp only [St.wr, upd] at *)
  · by_cases hii : i' = i
    · subst hii; simp only [if_true] at *; exact ho
    · rw [if_neg hii] at h ⊢; simp only [if_neg hii]; exact (hi.objs i' h).frame (fun _ h => h) (fun _ h => h) (fun b hb => hb.elim (hS2 i' b hii h) (hF b))
  · by_cases hii : i' = i
    · subst hii; simp [hs] at h
    · simp only [hii, if_false] at *; exact (hi.fzs i' h).frame (fun _ h => h) hF
  · obtain ⟨us, h1, h2⟩ := hi.boxes j h
    exact ⟨us, by rw [hw _ (hi.bF j h).2.2 (hi.rB j h) (hi.bS j i h hs)]; exact h1, h2.move hm⟩
  · rw [← hsz]
    by_cases hii : i' = i
    · subst hii; simp only [if_true] at *; exact (hS b h2).elim (hi.sF i' b hs) (hi.rF b)
    · simp only [hii, if_false] at *; exact hi.sF i' b h1 h2
  · by_cases hii : i' = i <;> by_cases hi2 : i2 = i
    · rw [hii, hi2]
    · rw [if_neg hi2] at h2 h4; rw [if_pos hii] at h3; exact (hS b h3).elim (fun h => absurd (hi.sS i i2 b hs h2 h h4) (Ne.symm hi2)) (fun h => absurd h (hi.rS i2 b h2 h4))
    · rw [if_neg hii] at h1 h3; rw [if_pos hi2] at h4; exact (hS b h4).elim (fun h => absurd (hi.sS i' i b h1 hs h3 h) hii) (fun h => absurd h (hi.rS i' b h1 h3))
    · simp only [hii, hi2, if_false] at *; exact hi.sS i' i2 b h1 h2 h3 h4
  · by_cases hii : i' = i
    · subst hii; simp only [if_true] at *; exact (hS _ h3).elim (hi.bS j i' h1 hs) (hi.rB j h1)
    · simp only [hii, if_false] at *; exact hi.bS j i' h1 h2 h3
  · rw [← hsz]; exact hb.1.elim (hi.rF b) (hi.sF i b hs)
  · by_cases hii : i' = i
    · subst hii; simp only [if_true] at *; exact h3.2 h2
    · rw [if_neg hii] at h1 h2; exact h3.1.elim (hi.rS i' b h1 h2) (fun h => hii (hi.sS i' i b h1 hs h2 h))
  · exact h2.1.elim (hi.rB j h1) (hi.bS j i h1 hs)
  · have hf := hi.frame
    refine ⟨hos.trans hf.os, htp.trans hf.tape, hou.trans hf.output, by rw [← hsz]; exact hf.size, fun b h1 h2 => ?_, hf.pb⟩
    rw [hw b (Nat.lt_of_lt_of_le h1 hf.size) (fun hr => by have := (hi.rF b hr).2.1; omega) (fun hr => by have := (hi.sF i b hs hr).2.1; omega)]
    exact hf.block b h1 h2

/-- a new box at j -/
theorem Inv.newBox (hi : Inv fr N σ G a w) {t g : Nat} {cs : List LV} {us : Array Value} (hg : G.R g) (hc : w.heap[g]? = some (.cells us t (0, 0))) (hl : LsOK σ.o G w cs us.toList) (j : Nat) :
    Inv fr N (σ.wr (.b j ⟨(σ.b j).v + 1, true, t, cs⟩)) { G with blk := upd G.blk j g, R := fun b => G.R b ∧ b ≠ g } a w := by
  have hm : Moves σ.o σ.o G { G with blk := upd G.blk j g, R := fun b => G.R b ∧ b ≠ g } w w := ⟨fun _ h => h, fun _ _ => rfl, fun i => Keeps.same rfl (fun _ => rfl) (fun _ _ _ h => h)⟩
  have hb : BoxOn σ.b (upd σ.b j ⟨(σ.b j).v + 1, true, t, cs⟩) G { G with blk := upd G.blk j g, R := fun b => G.R b ∧ b ≠ g } := by
    intro j'
    by_cases hj : j' = j
    · subst hj; exact ⟨by simp [upd], fun _ h => by simp [upd] at h⟩
    · exact ⟨by simp [upd, hj], fun h _ => ⟨by simpa [upd, hj] using h, by simp [upd, hj]⟩⟩
  refine ⟨hi.size, hi.defers, fun t => (hi.slots t).move hm hb, hi.objs, hi.fzs, fun j' h => ?_, hi.sF, hi.sS, fun j' h => ?_, fun j' i h1 h2 h3 => ?_, ⟨fun j1 j2 h1 h2 h3 => ?_, fun j' x hx => ?_⟩, fun b hb => hi.rF b hb.1, fun i b h1 h2 h3 => hi.rS i b h1 h2 h3.1, fun j' h1 h2 => ?_, hi.Fw, hi.frame⟩
  all_goals (try simp only [St.wr, upd] at *)
  · by_cases hj : j' = j
    · subst hj; simp only [if_true] at *; exact ⟨us, hc, hl.move hm⟩
    · simp only [hj, if_false] at *; obtain ⟨us, h1, h2⟩ := hi.boxes j' h; exact ⟨us, h1, h2.move hm⟩
  · by_cases hj : j' = j
    · subst hj; simp only [if_true] at *; exact ⟨(hi.rF g hg).1, .inl (hi.rF g hg).2.1, (hi.rF g hg).2.2⟩
    · simp only [hj, if_false] at *; exact hi.bF j' h
  · by_cases hj : j' = j
    · subst hj; simp only [if_true] at *; exact hi.rS i g h2 h3 hg
    · simp only [hj, if_false] at *; exact hi.bS j' i h1 h2 h3
  · by_cases hj : j1 = j <;> by_cases hj2 : j2 = j
    · rw [hj, hj2]
    · simp only [hj, hj2, if_true, if_false] at *; exact absurd (h3 ▸ hg) (hi.rB j2 h2)
    · simp only [hj, hj2, if_true, if_false] at *; exact absurd (h3 ▸ hg) (hi.rB j1 h1)
    · simp only [hj, hj2, if_false] at *; exact hi.bB.1 j1 j2 h1 h2 h3
  · have h0 := hi.bB.2 j' x hx
    by_cases hj : j' = j
    · subst hj; simp only [if_true]; exact ⟨by omega, fun h => by omega⟩
    · simpa only [hj, if_false] using h0
  · by_cases hj : j' = j
    · subst hj; simp only [if_true] at *; exact h2.2 rfl
    · simp only [hj, if_false] at *; exact hi.rB j' h1 h2.1

/-- a box's cells are written -/
theorem Inv.setBox (hi : Inv fr N σ G a w) {j : Nat} (hj : (σ.b j).live = true) {cs : List LV} {us : Array Value} {w' : World} (hos : w'.os = w.os) (htp : w'.tape = w.tape) (hou : w'.output = w.output) (hsz : w.heap.size = w'.heap.size)
    (hw : ∀ b, b ≠ G.blk j → w'.heap[b]? = w.heap[b]?) (hc : w'.heap[G.blk j]? = some (.cells us (σ.b j).t (0, 0))) (hl : LsOK σ.o G w cs us.toList) :
    Inv fr N (σ.wr (.b j { σ.b j with cs := cs })) G a w' := by
  have hF : ∀ b, G.F b → w'.heap[b]? = w.heap[b]? := fun b hb => hw b (by rintro rfl; exact (hi.bF j hj).1 hb)
  have hS : ∀ i b, (σ.o i).st = .own → G.S i b → w'.heap[b]? = w.heap[b]? := fun i b h1 h2 => hw b (by rintro rfl; exact hi.bS j i hj h1 h2)
  have hm : Moves σ.o σ.o G G w w' := ⟨fun _ h => h, hF, fun i => Keeps.same rfl (fun _ => rfl) (fun p u0 hd h => hi.head hd (fun b hb => hb.elim (hF b) fun h => hS i b h.1 h.2) h)⟩
  have hb : BoxOn σ.b (upd σ.b j { σ.b j with cs := cs }) G G := by
    intro j'
    by_cases hjj : j' = j
    · subst hjj; exact ⟨by simp [upd], fun _ _ => ⟨hj, rfl⟩⟩
    · exact ⟨by simp [upd, hjj], fun h _ => ⟨by simpa [upd, hjj] using h, rfl⟩⟩
  have hlive : ∀ j', ((upd σ.b j { σ.b j with cs := cs }) j').live = true → (σ.b j').live = true := fun j' h => by
    by_cases hjj : j' = j
    · subst hjj; exact hj
    · simpa [upd, hjj] using h
  refine ⟨hi.size, hi.defers, fun t => (hi.slots t).move hm hb, fun i h => (hi.objs i h).frame (fun _ h => h) (fun _ h => h) (fun b hb => hb.elim (hS i b h) (hF b)), fun i h => (hi.fzs i h).frame (fun _ h => h) hF, fun j' h => ?_,
    fun i b h1 h2 => by rw [← hsz]; exact hi.sF i b h1 h2, hi.sS, fun j' h => by rw [← hsz]; exact hi.bF j' (hlive j' h), fun j' i h1 h2 => hi.bS j' i (hlive j' h1) h2, ⟨fun j1 j2 h1 h2 h3 => hi.bB.1 j1 j2 (hlive j1 h1) (hlive j2 h2) h3, fun j' x hx => by
      by_cases hjj : j' = j
      · subst hjj; simpa [St.wr, upd] using hi.bB.2 j' x hx
      · simpa [St.wr, upd, hjj] using hi.bB.2 j' x hx⟩,
    fun b hb => by rw [← hsz]; exact hi.rF b hb, hi.rS, fun j' h1 => hi.rB j' (hlive j' h1), fun b hb => by rw [← hsz]; exact hi.Fw b hb, ?_⟩
  · simp only [St.wr, upd] at *
    by_cases hjj : j' = j
    · subst hjj; simp only [if_true] at *; exact ⟨us, hc, hl.move hm⟩
    · rw [if_neg hjj] at h ⊢
      obtain ⟨us', h1, h2⟩ := hi.boxes j' h
      exact ⟨us', by rw [hw _ (fun e => hjj (hi.bB.1 j' j h hj e))]; exact h1, h2.move hm⟩
  · have hf := hi.frame
    refine ⟨hos.trans hf.os, htp.trans hf.tape, hou.trans hf.output, by rw [← hsz]; exact hf.size, fun b h1 h2 => ?_, hf.pb⟩
    rw [hw b (by rintro rfl; exact (hi.bF j hj).2.1.elim (fun h => by omega) h2)]
    exact hf.block b h1 h2
end
end Go.Proofs.Ytmbmebfeoejlnaa.Ab
