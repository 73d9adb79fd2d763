/- Each operation of the machine does what the abstract machine says: plain ones. -/
import Derived.Test.YtmbmebfeoejlnaaA6
namespace Go.Proofs.Ytmbmebfeoejlnaa.Ab
set_option linter.unusedVariables false
set_option linter.unusedSimpArgs false
open Go.RowKit

theorem Rep.at' {w : World} {F : Nat → Prop} {x : D} {v u : Value} {p : List Nat} (h : HeadAt w x v p u) : ∀ {y : D}, Rep w F x v → x.at p = some y → Rep w F y u := by
  induction h with
  | nil x v => intro y hr hy; rw [D.at] at hy; obtain rfl := Option.some.inj hy; exact hr
  | cons e k xs g n c j p x u v' hx hu h ih =>
    intro y hr hy
    rw [D.at, hx] at hy
    obtain ⟨ad, he, hf, hc⟩ := hr.get (List.getElem?_eq_some_iff.1 hx).1
    obtain rfl := Option.some.inj he
    obtain ⟨u2, hu2, hr2⟩ := hc j x hx
    have e2 : (Addr.add ⟨g, 0, none⟩ j) = ⟨g, j, none⟩ := by unfold Addr.add; split <;> simp_all
    rw [e2, hu] at hu2
    obtain rfl := Option.some.inj hu2
    exact ih hr2 hy
theorem Rep.cut {w : World} {F : Nat → Prop} {sh : Bool} {e k : Nat} {xs : List D} {u0 u : Value} {m : Option Nat} (h : Rep w F (.sl sh e k xs) u0) (hc : CutV u0 m u) : Rep w F (cutD (.sl sh e k xs) m) u := by
  cases m with
  | none => rw [show u = u0 from hc]; exact h
  | some m =>
    obtain ⟨A, n, c, rfl, hm, rfl⟩ := hc
    cases h with
    | nil =>
      have : m = 0 := by omega
      subst this
      simp only [cutD, List.take_nil]
      exact .nil _ _ _
    | row _ _ _ _ us n c A hk hn hl hcc hmx hA hx =>
      refine .row _ _ _ _ (us.take (m * k)) _ _ _ hk ?_ (by simp [hl]) (by omega) (by omega) (fun h0 => ?_) (fun j x u h1 h2 => hx j x u ?_ ?_)
      · rw [List.length_take, hn]; exact Nat.min_eq_left (Nat.mul_le_mul_right k hm)
      · obtain ⟨ad, e, hf, hcell⟩ := hA (by omega)
        exact ⟨ad, e, hf, fun j u hu => hcell j u (by rw [List.getElem?_take] at hu; split at hu <;> simp_all)⟩
      · rw [List.getElem?_take] at h1; split at h1 <;> simp_all
      · rw [List.getElem?_take] at h2; split at h2 <;> simp_all

/-- all that may be read -/
def All (σ : St) (G : Gh) : Nat → Prop := fun b => G.F b ∨ ∃ i, (σ.o i).st = .own ∧ G.S i b
section
variable {C : Cx} {fr : Fr} {N : Nat} {σ : St} {G : Gh} {a : Act} {w : World} {ws : List Wr}
theorem Inv.all (hi : Inv fr N σ G a w) {b : Nat} (h : All σ G b) : b < w.heap.size ∧ ¬ fr.qb b := by
  rcases h with h | ⟨i, h1, h2⟩
  · exact hi.Fw b h
  · exact ⟨(hi.sF i b h1 h2).2.2, fun h => by have := hi.frame.pb b h; have := (hi.sF i b h1 h2).2.1; omega⟩
theorem Inv.objRep (hi : Inv fr N σ G a w) {i : Nat} (h : (σ.o i).st ≠ .dead) : Rep w (All σ G) (σ.o i).d (G.val i) := by
  cases hs : (σ.o i).st with
  | dead => exact absurd hs h
  | own => exact (hi.objs i hs).rep.frame (fun b hb => hb.imp id fun h => ⟨i, hs, h⟩) (fun _ _ => rfl)
  | fz => exact (hi.fzs i hs).frame (fun b hb => .inl hb) (fun _ _ => rfl)

theorem constD_rep {F : Nat → Prop} (v : Value) (h : v.oneCell' = true) : Rep w F (constD v) v := by
  unfold constD
  split
  · exact .nil _ _ _
  · exact .lit _ h
theorem constD_ok (v : Value) (h : v.oneCell' = true) : LOK σ.o G w (.d (constD v)) v := by
  refine ⟨constD_rep v h, ?_⟩
  unfold constD
  split <;> first | rfl | trivial
theorem constT_rep {F : Nat → Prop} (P : Program) (t : Nat) (v : Value) (h : v.oneCell' = true) : Rep w F (constT P t v) v := by
  unfold constT
  split
  · split <;> exact .nil _ _ _
  · exact .lit _ h
theorem constT_ok (P : Program) (t : Nat) (v : Value) (h : v.oneCell' = true) : LOK σ.o G w (.d (constT P t v)) v := by
  refine ⟨constT_rep P t v h, ?_⟩
  unfold constT
  split
  · split <;> rfl
  · trivial
theorem opdT_ok (hi : Inv fr N σ G a w) {P : Program} {t : Nat} {x : Operand} {k : AV → E} (h : (opdT P t x k).run σ = some ws) : ∃ av, (k av).run σ = some ws ∧ SOK σ.o σ.b G w av (a.eval x) := by
  cases x with
  | tmp t => exact ⟨_, h, hi.slots t⟩
  | const v =>
    simp only [opdT] at h
    split at h
    · rename_i hv; exact ⟨_, h, constT_ok (σ := σ) P t v hv⟩
    · simp [E.run] at h
  | global g => simp [opdT, E.run] at h
  | func f => simp [opdT, E.run] at h
theorem opd_ok (hi : Inv fr N σ G a w) {x : Operand} {k : AV → E} (h : (opd x k).run σ = some ws) : ∃ av, (k av).run σ = some ws ∧ SOK σ.o σ.b G w av (a.eval x) := by
  cases x with
  | tmp t => exact ⟨_, h, hi.slots t⟩
  | const v =>
    simp only [opd] at h
    split at h
    · rename_i hv; exact ⟨_, h, constD_ok (σ := σ) v hv⟩
    · simp [E.run] at h
  | global g => simp [opd, E.run] at h
  | func f => simp [opd, E.run] at h
theorem litE_ok {x : AV} {u : Value} {k : Value → E} (hx : SOK σ.o σ.b G w x u) (h : (litE x k).run σ = some ws) : (k u).run σ = some ws ∧ u.oneCell' = true := by
  unfold litE at h
  split at h
  · have e := Rep.lit_inv (F := G.F) hx.1
    have h1 := Rep.one (F := G.F) hx.1
    subst e; exact ⟨h, h1⟩
  · simp [E.run] at h
theorem CutV.one {u0 u : Value} {m : Option Nat} (h : CutV u0 m u) (h0 : u0.oneCell' = true) : u.oneCell' = true := by
  cases m with
  | none => rw [show u = u0 from h]; exact h0
  | some m => obtain ⟨_, _, _, _, _, rfl⟩ := h; rfl
/-- a leaf's data -/
theorem lvD_ok (hi : Inv fr N σ G a w) {l : LV} {u : Value} {k : D → E} (hl : LOK σ.o G w l u) (h : (lvD l k).run σ = some ws) : ∃ x, (k x).run σ = some ws ∧ Rep w (All σ G) x u := by
  cases l with
  | d x => exact ⟨x, h, Rep.frame (F := G.F) hl.1 (fun b hb => .inl hb) (fun _ _ => rfl)⟩
  | ref i v p s m =>
    simp only [lvD, E.run] at h
    split at h
    · rename_i hg
      split at h
      · rename_i sh e kk xs hat
        refine ⟨_, h, ?_⟩
        obtain ⟨sh', e', k', xs', u0, h1, h2, h3⟩ := hl.2.2 hg
        rw [hat] at h1
        simp only [Option.some.injEq, D.sl.injEq] at h1
        obtain ⟨rfl, rfl, rfl, rfl⟩ := h1
        exact ((hi.objRep hg.2.1).at' h2 hat).cut h3
      · simp [E.run] at h
    · simp [E.run] at h
theorem nodeE_ok (hi : Inv fr N σ G a w) {i v s : Nat} {p : List Nat} {k : Obj → D → E} (h : (nodeE i v p s k).run σ = some ws) :
    ∃ x, (σ.o i).good v p s ∧ (σ.o i).d.at p = some x ∧ (k (σ.o i) x).run σ = some ws := by
  simp only [nodeE, E.run] at h
  split at h
  · rename_i hg
    split at h
    · rename_i x hat; exact ⟨x, hg, hat, h⟩
    · simp [E.run] at h
  · simp [E.run] at h

/-- an operation that only tells a value -/
theorem wp_value {o : Oper} {v : Value} {next : Act → World → Prop} {Q : Exit → Act → World → Prop} (hr : (execOp a.eval o).run C.P w = .ok (.value v) w) (h : next (a.put o.dst v) w) : o.wp C.P a w next Q := by
  unfold Oper.wp; rw [hr]; exact h
def Told (C : Cx) (fr : Fr) (N : Nat) (σ : St) (ws : List Wr) (o : Oper) (G : Gh) (a : Act) (w : World) : Prop :=
  ∀ (next : Act → World → Prop) (Q : Exit → Act → World → Prop), (∀ G' a' w', Inv fr N (σ.wrs ws) G' a' w' → next a' w') → o.wp C.P a w next Q
theorem told_value (hi : Inv fr N σ G a w) {o : Oper} {v : Value} {x : AV} (hd : dstOk N o.dst = true) (hr : (execOp a.eval o).run C.P w = .ok (.value v) w) (hx : SOK σ.o σ.b G w x v) : Told C fr N σ (setS o.dst x) o G a w :=
  fun _ _ hn => wp_value hr (hn G _ w (hi.put hd hx))

theorem ok_move (hi : Inv fr N σ G a w) {o : Oper} {x : Operand} (ho : o.op = .move x ∨ o.op = .assign x) (hd : dstOk N o.dst = true) (h : (eff C o).run σ = some ws) : Told C fr N σ ws o G a w := by
  have h' : (opdT C.P o.type x fun a => .done (setS o.dst a)).run σ = some ws := by
    rcases ho with ho | ho <;> (rw [eff, ho] at h; exact h)
  obtain ⟨av, hk, hs⟩ := opdT_ok hi h'
  obtain rfl := Option.some.inj hk
  exact told_value hi hd (by rcases ho with ho | ho <;> simp [execOp, ho]) hs

end
end Go.Proofs.Ytmbmebfeoejlnaa.Ab
