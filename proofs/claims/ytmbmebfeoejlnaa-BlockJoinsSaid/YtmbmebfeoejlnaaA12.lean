/- Each operation of the machine does what the abstract machine says: rows are made out of parts that are moved in. -/
import Derived.Test.YtmbmebfeoejlnaaA11
import Derived.Great.BuildSlice
namespace Go.Proofs.Ytmbmebfeoejlnaa.Ab
set_option linter.unusedVariables false
set_option linter.unusedSimpArgs false
open Go.RowKit
section
variable {C : Cx} {fr : Fr} {N : Nat} {σ σ1 : St} {G G1 : Gh} {a : Act} {w : World} {ws : List Wr} {o : Oper}

theorem Own.cut {F : Nat → Prop} {e k : Nat} {xs : List D} {u0 u : Value} {m : Option Nat} {S : Nat → Prop} (h : Own w F (.sl false e k xs) u0 S) (hc : CutV u0 m u) : Own w F (cutD (.sl false e k xs) m) u S := by
  cases m with
  | none => rw [show u = u0 from hc]; exact h
  | some m =>
    obtain ⟨A, n, c, rfl, hm, rfl⟩ := hc
    cases h with
    | nil =>
      obtain rfl : m = 0 := by omega
      simp only [cutD, List.take_nil]
      exact .nil _ _ _
    | row _ _ _ us n c g cur _ T hk hn hcc hmx hcm hgS hcell hcur hus hx hT hd =>
      refine .row e k _ (us.take (m * k)) m c g cur S T hk ?_ (by omega) (by omega) hcm hgS hcell hcur ?_ (fun j x u h1 h2 => hx j x u ?_ ?_) hT hd
      · rw [List.length_take, hn]; exact Nat.min_eq_left (Nat.mul_le_mul_right k hm)
      · rw [← hus, List.take_take]
        congr 1
        exact (Nat.min_eq_left (Nat.mul_le_mul_right k hm)).symm
      · rw [List.getElem?_take] at h1; split at h1 <;> simp_all
      · rw [List.getElem?_take] at h2; split at h2 <;> simp_all
theorem own_d {F : Nat → Prop} {x : D} {u : Value} (h : Rep w F x u) (hn : NilOK x u) : Own w F x u (fun _ => False) := by
  cases x with
  | lit v => rw [Rep.lit_inv h]; exact .lit _ _ (by have := h.one; rwa [Rep.lit_inv h] at this)
  | hole => exact .hole _ _ h.one
  | sl sh e k xs =>
    cases sh with
    | true => exact .shared _ _ _ _ _ h
    | false =>
      obtain rfl := (show u = .slice none 0 0 from hn)
      have : xs = [] := by
        obtain ⟨A, n, c, e1, _, e3, _⟩ := h.slice
        injection e1 with _ q _
        subst q
        simpa using e3
      subst this
      exact .nil _ _ _
theorem Inv.kill_moves (hi : Inv fr N σ G a w) {i : Nat} : Moves σ.o (σ.wr (.o i { σ.o i with st := .dead })).o G { G with R := fun b => G.R b ∨ G.S i b } w w := by
  refine ⟨fun _ h => h, fun _ _ => rfl, fun i' => ?_⟩
  by_cases hii : i' = i
  · subst hii; exact Keeps.gone (by simp [St.wr, upd]) (by simp [St.wr, upd]) (by simp [St.wr, upd])
  · exact Keeps.same (by simp [St.wr, upd, hii]) (fun _ => rfl) (fun _ _ _ h => h)
theorem Moves.refl (O : Nat → Obj) (G : Gh) (w : World) : Moves O O G G w w := ⟨fun _ h => h, fun _ _ => rfl, fun _ => Keeps.same rfl (fun _ => rfl) (fun _ _ _ h => h)⟩
theorem Moves.trans {O O1 O2 : Nat → Obj} {G1' G2 : Gh} {w1 w2 : World} (h1 : Moves O O1 G G1' w w1) (h2 : Moves O1 O2 G1' G2 w1 w2) : Moves O O2 G G2 w w2 := by
  refine ⟨fun b h => h2.F b (h1.F b h), fun b h => (h2.h b (h1.F b h)).trans (h1.h b h), fun i => ?_⟩
  obtain ⟨p1, q1⟩ := h1.r i
  obtain ⟨p2, q2⟩ := h2.r i
  refine ⟨by omega, fun v p s hp hg => ?_⟩
  obtain ⟨g1, r1⟩ := q2 v p s (hp.on p1) hg
  obtain ⟨g0, r0⟩ := q1 v p s hp g1
  refine ⟨g0, fun sh e k xs u0 hat hh => ?_⟩
  obtain ⟨sh1, e1, k1, xs1, hat1, hh1⟩ := r0 sh e k xs u0 hat hh
  exact r1 sh1 e1 k1 xs1 u0 hat1 hh1
theorem Inv.freezeAll (hi : Inv fr N σ G a w) {i : Nat} (h : (σ.o i).st ≠ .dead) : ∃ F' : Nat → Prop, Inv fr N (σ.wr (.o i { σ.o i with st := .fz })) { G with F := F' } a w ∧ (∀ b, G.F b → F' b) ∧ Moves σ.o (σ.wr (.o i { σ.o i with st := .fz })).o G { G with F := F' } w w := by
  cases hs : (σ.o i).st with
  | dead => exact absurd hs h
  | own =>
    refine ⟨_, hi.freeze hs, fun _ h => .inl h, fun _ h => .inl h, fun _ _ => rfl, fun i' => ?_⟩
    by_cases hii : i' = i
    · subst hii
      refine ⟨.inr (by simp [St.wr, upd]), fun v p s _ hg => ?_⟩
      simp only [St.wr, upd, if_true] at hg ⊢
      exact ⟨⟨hg.1, by rw [hs]; simp, hg.2.2⟩, fun sh e k xs u0 h1 h2 => ⟨sh, e, k, xs, h1, h2⟩⟩
    · exact Keeps.same (by simp [St.wr, upd, hii]) (fun _ => rfl) (fun _ _ _ h => h)
  | fz =>
    have e : σ.wr (.o i { σ.o i with st := .fz }) = σ := by
      have : ({ σ.o i with st := .fz } : Obj) = σ.o i := by rw [← hs]
      rw [this]
      show St.mk _ _ _ = σ
      have e2 : upd σ.o i (σ.o i) = σ.o := by funext j; unfold upd; split <;> simp_all
      rw [e2]
    rw [e]
    exact ⟨G.F, hi, fun _ h => h, Moves.refl _ _ _⟩

structure RelM (fz : Bool) (used : List Nat) (σ σ1 : St) : Prop where
  o : ∀ i, i ∉ used → σ1.o i = σ.o i ∨ (fz = true ∧ (σ.o i).st = .own ∧ σ1.o i = { σ.o i with st := .fz })
  b : σ1.b = σ.b
  s : σ1.s = σ.s
/-- what a move leaves -/
structure Moved (fr : Fr) (N : Nat) (a : Act) (w : World) (fz : Bool) (used used1 : List Nat) (σ σ1 : St) (G1 : Gh) (ws1 : List Wr) (F' R' : Nat → Prop) : Prop where
  inv : Inv fr N (σ1.wrs ws1) { G1 with F := F', R := R' } a w
  rel : RelM fz used1 σ (σ1.wrs ws1)
  F : ∀ b, G1.F b → F' b
  R : ∀ b, G1.R b → R' b
  mv : Moves σ1.o (σ1.wrs ws1).o G1 { G1 with F := F', R := R' } w w
  us : ∀ i, i ∈ used → i ∈ used1
  keep : ∀ i, i ∈ used → (σ1.wrs ws1).o i = σ1.o i
theorem moveIn_ok {fz : Bool} {l : LV} {u : Value} {used : List Nat} {k : D → List Wr → List Nat → E} (hi : Inv fr N σ1 G1 a w) (hr : RelM fz used σ σ1) (hl : LOK σ1.o G1 w l u) (h : (moveIn fz l used k).run σ = some ws) :
    ∃ x ws1 used1 F' R' T, (k x ws1 used1).run σ = some ws ∧ Moved fr N a w fz used used1 σ σ1 G1 ws1 F' R' ∧ Own w F' x u T ∧ (∀ b, T b → R' b ∧ ¬ G1.R b) := by
  cases l with
  | d x => exact ⟨x, [], used, G1.F, G1.R, _, h, ⟨hi, hr, fun _ h => h, fun _ h => h, Moves.refl _ _ _, fun _ h => h, fun _ _ => rfl⟩, own_d hl.1 hl.2, fun _ h => h.elim⟩
  | ref i v p s m =>
    simp only [moveIn, E.run] at h
    split at h
    · rename_i hg
      obtain ⟨g1, g2, g3, g4⟩ := hg
      have hd : (σ1.o i).d = (σ.o i).d ∧ (σ1.o i).v = (σ.o i).v ∧ (σ1.o i).s = (σ.o i).s ∧ (σ1.o i).st ≠ .dead := by
        rcases hr.o i g4 with e | ⟨_, _, e⟩
        · rw [e]; exact ⟨rfl, rfl, rfl, g2⟩
        · rw [e]; exact ⟨rfl, rfl, rfl, by simp⟩
      have hgood : (σ1.o i).good v p s := ⟨by rw [hd.2.1]; exact g1, hd.2.2.2, by rw [hd.2.2.1]; exact g3⟩
      obtain ⟨sh0, e0, k0, xs0, u0, a1, a2, a3⟩ := hl.2.2 hgood
      rw [hd.1] at a1 a2
      split at h
      · rename_i sh e kk xs hat
        rw [hat] at a1
        obtain ⟨rfl, rfl, rfl, rfl⟩ : sh = sh0 ∧ e = e0 ∧ kk = k0 ∧ xs = xs0 := by simpa using a1
        split at h
        · rename_i hst
          have e1 : σ1.o i = σ.o i := by
            rcases hr.o i g4 with e | ⟨_, e2, _⟩
            · exact e
            · rw [hst] at e2; cases e2
          have hrep := hi.fzs i (by rw [e1]; exact hst)
          rw [hd.1] at hrep
          exact ⟨_, _, _, G1.F, G1.R, _, h, ⟨hi, hr, fun _ h => h, fun _ h => h, Moves.refl _ _ _, fun _ h => h, fun _ _ => rfl⟩, own_d (shareC_rep ((hrep.at' a2 hat).cut a3)) shareC_nil, fun _ h => h.elim⟩
        · rename_i hnf
          have hown : (σ.o i).st = .own := by cases hq : (σ.o i).st <;> simp_all
          split at h
          · rename_i hfz
            have e1 : ({ σ1.o i with st := .fz } : Obj) = { σ.o i with st := .fz } := by
              rcases hr.o i g4 with e | ⟨_, _, e⟩ <;> rw [e]
            obtain ⟨F', h1, h2, h3⟩ := hi.freezeAll (i := i) hd.2.2.2
            rw [e1] at h1 h3
            have hrep := h1.fzs i (by simp [St.wr, upd])
            simp only [St.wr, upd, if_true] at hrep
            have hrep : Rep w F' (σ.o i).d (G1.val i) := hrep
            refine ⟨_, _, _, F', G1.R, _, h, ⟨h1, ⟨fun i' hi' => ?_, hr.b, hr.s⟩, h2, fun _ h => h, h3, fun _ h => h, fun i' hi' => ?_⟩, own_d (shareC_rep ((hrep.at' a2 hat).cut a3)) shareC_nil, fun _ h => h.elim⟩
            · by_cases hii : i' = i
              · subst hii; exact .inr ⟨hfz, hown, by simp [St.wrs, St.wr, upd]⟩
              · rcases hr.o i' hi' with e | e
                · exact .inl (by simp [St.wrs, St.wr, upd, hii, e])
                · exact .inr ⟨e.1, e.2.1, by simp [St.wrs, St.wr, upd, hii, e.2.2]⟩
            · have : i' ≠ i := fun e => g4 (e ▸ hi')
              simp [St.wrs, St.wr, upd, this]
          · rename_i hfz
            split at h
            · rename_i hp
              subst hp
              have e1 : σ1.o i = σ.o i := by
                rcases hr.o i g4 with e | ⟨e2, _, _⟩
                · exact e
                · exact absurd e2 hfz
              have hown1 : (σ1.o i).st = .own := by rw [e1]; exact hown
              have hk := hi.kill hown1
              have hkm := hi.kill_moves (i := i)
              rw [e1] at hk hkm
              have hat' : (σ.o i).d = .sl sh e kk xs := by rw [D.at] at hat; exact Option.some.inj hat
              have hsh : sh = false := by
                have := hat'; unfold Obj.d at this; injection this with q; exact q.symm
              subst hsh
              have ho := hi.objs i hown1
              rw [hd.1, hat'] at ho
              rw [a2.nil_inv rfl] at a3
              refine ⟨_, _, _, G1.F, _, G1.S i, h, ⟨hk, ⟨fun i' hi' => ?_, hr.b, hr.s⟩, fun _ h => h, fun _ h => .inl h, hkm, fun _ h => List.mem_cons_of_mem _ h, fun i' hi' => ?_⟩, ho.cut a3, fun b hb => ⟨.inr hb, hi.rS i b hown1 hb⟩⟩
              · have hii : i' ≠ i := fun e => hi' (e ▸ List.mem_cons_self)
                rcases hr.o i' (fun h => hi' (List.mem_cons_of_mem _ h)) with e | e
                · exact .inl (by simp [St.wrs, St.wr, upd, hii, e])
                · exact .inr ⟨e.1, e.2.1, by simp [St.wrs, St.wr, upd, hii, e.2.2]⟩
              · have : i' ≠ i := fun e => g4 (e ▸ hi')
                simp [St.wrs, St.wr, upd, this]
            · simp [E.run] at h
      · simp [E.run] at h
    · simp [E.run] at h

/-- owned data, cell by cell -/
structure Cells (w : World) (F : Nat → Prop) (ds : List D) (us : List Value) (T : Nat → Nat → Prop) : Prop where
  len : us.length = ds.length
  own : ∀ (j : Nat) (x : D) (u : Value), ds[j]? = some x → us[j]? = some u → Own w F x u (T j)
  dis : ∀ i j b, T i b → T j b → i = j
theorem Cells.mono {F F' : Nat → Prop} {ds : List D} {us : List Value} {T : Nat → Nat → Prop} (h : Cells w F ds us T) (hF : ∀ b, F b → F' b) : Cells w F' ds us T :=
  ⟨h.len, fun j x u h1 h2 => (h.own j x u h1 h2).frame (fun _ h => h) hF (fun _ _ => rfl), h.dis⟩
theorem Cells.putAt {F : Nat → Prop} {ds ds2 : List D} {us us2 : List Value} {T T2 : Nat → Nat → Prop} {p : Nat} (h : Cells w F ds us T) (h2 : Cells w F ds2 us2 T2) (hp : p + ds2.length ≤ ds.length) (hd : ∀ i j b, T i b → T2 j b → False) :
    Cells w F (putAt ds p ds2) (putAt us p us2) (fun j b => if j < p then T j b else if j < p + ds2.length then T2 (j - p) b else T j b) := by
  have hl := h.len; have hl2 := h2.len
  refine ⟨by rw [putAt_len hp, putAt_len (by omega), hl], fun n x u h3 h4 => ?_, fun i j b h3 h4 => ?_⟩
  · rw [putAt_get hp] at h3
    rw [putAt_get (by omega), hl2] at h4
    by_cases q : n < p
    · simp only [q, if_true] at h3 h4 ⊢; exact h.own n x u h3 h4
    · by_cases q2 : n < p + ds2.length
      · simp only [q, q2, if_true, if_false] at h3 h4 ⊢; exact h2.own _ x u h3 h4
      · simp only [q, q2, if_false] at h3 h4 ⊢; exact h.own n x u h3 h4
  · by_cases q : i < p <;> by_cases q2 : j < p
    · rw [if_pos q] at h3; rw [if_pos q2] at h4; exact h.dis i j b h3 h4
    · rw [if_pos q] at h3; rw [if_neg q2] at h4
      split at h4
      · exact (hd i _ b h3 h4).elim
      · exact h.dis i j b h3 h4
    · rw [if_neg q] at h3; rw [if_pos q2] at h4
      split at h3
      · exact (hd j _ b h4 h3).elim
      · exact h.dis i j b h3 h4
    · rw [if_neg q] at h3; rw [if_neg q2] at h4
      split at h3 <;> split at h4
      · have := h2.dis _ _ b h3 h4; omega
      · exact (hd j _ b h4 h3).elim
      · exact (hd i _ b h3 h4).elim
      · exact h.dis i j b h3 h4
theorem movesIn_ok {fz : Bool} : ∀ {ls : List LV} {us : List Value} {used : List Nat} {k : List D → List Wr → List Nat → E} {σ1 : St} {G1 : Gh}, Inv fr N σ1 G1 a w → RelM fz used σ σ1 → LsOK σ1.o G1 w ls us → (movesIn fz ls used k).run σ = some ws →
    ∃ xs ws1 used1 F' R' T, (k xs ws1 used1).run σ = some ws ∧ Moved fr N a w fz used used1 σ σ1 G1 ws1 F' R' ∧ Cells w F' xs us T ∧ (∀ j b, T j b → R' b ∧ ¬ G1.R b) ∧ xs.length = ls.length
  | [], us, used, k, σ1, G1, hi, hr, hl, h => by
    have : us = [] := List.eq_nil_of_length_eq_zero hl.1
    subst this
    exact ⟨[], [], used, G1.F, G1.R, fun _ _ => False, h, ⟨hi, hr, fun _ h => h, fun _ h => h, Moves.refl _ _ _, fun _ h => h, fun _ _ => rfl⟩, ⟨rfl, fun j x u h1 => by simp at h1, fun _ _ _ h => h.elim⟩, fun _ _ h => h.elim, rfl⟩
  | l :: ls, us, used, k, σ1, G1, hi, hr, hl, h => by
    cases us with
    | nil => have := hl.1; simp at this
    | cons u us =>
      simp only [movesIn] at h
      obtain ⟨x, ws1, used1, F1, R1, T1, h, hm, hox, hT⟩ := moveIn_ok hi hr (hl.2 0 l u rfl rfl) h
      have hl2 : LsOK (σ1.wrs ws1).o { G1 with F := F1, R := R1 } w ls us := LsOK.move hm.mv ⟨by have := hl.1; simpa using this, fun n l' u' h1 h2 => hl.2 (n + 1) l' u' (by simpa using h1) (by simpa using h2)⟩
      obtain ⟨xs, ws2, used2, F2, R2, T2, h, hm2, hc, hT2, hlen⟩ := movesIn_ok hm.inv hm.rel hl2 h
      refine ⟨x :: xs, ws1 ++ ws2, used2, F2, R2, fun j b => match j with | 0 => T1 b | j + 1 => T2 j b, h, ⟨by rw [wrs_app]; exact hm2.inv, by rw [wrs_app]; exact hm2.rel, fun b h => hm2.F b (hm.F b h), fun b h => hm2.R b (hm.R b h), by rw [wrs_app]; exact hm.mv.trans hm2.mv, fun i h => hm2.us i (hm.us i h), fun i h => by rw [wrs_app, hm2.keep i (hm.us i h), hm.keep i h]⟩, ⟨by simp [hc.len], fun j y v h1 h2 => ?_, fun i j b h1 h2 => ?_⟩, fun j b hb => ?_, by simp [hlen]⟩
      · cases j with
        | zero => simp at h1 h2; subst h1; subst h2; exact hox.frame (fun _ h => h) (fun b h => hm2.F b h) (fun _ _ => rfl)
        | succ j => exact hc.own j y v (by simpa using h1) (by simpa using h2)
      · cases i with
        | zero => cases j with
          | zero => rfl
          | succ j => exact absurd (hT b h1).1 (hT2 j b h2).2
        | succ i => cases j with
          | zero => exact absurd (hT b h2).1 (hT2 i b h1).2
          | succ j => rw [hc.dis i j b h1 h2]
      · cases j with
        | zero => exact ⟨hm2.R b (hT b hb).1, (hT b hb).2⟩
        | succ j => exact ⟨(hT2 j b hb).1, fun h => (hT2 j b hb).2 (hm.R b h)⟩
end
end Go.Proofs.Ytmbmebfeoejlnaa.Ab
