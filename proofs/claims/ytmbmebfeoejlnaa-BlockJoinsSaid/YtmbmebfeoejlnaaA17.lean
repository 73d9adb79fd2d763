/- Calls by contract. -/
import Derived.Test.YtmbmebfeoejlnaaA16
import Derived.Conc.MuLone
namespace Go.Proofs.Ytmbmebfeoejlnaa.Ab
set_option linter.unusedVariables false
set_option linter.unusedSimpArgs false
open Go.RowKit
section
variable {C : Cx} {fr : Fr} {N : Nat} {σ σ1 : St} {G G1 : Gh} {a : Act} {w : World} {ws : List Wr} {o : Oper}

/-- objects that are frozen one by one -/
theorem freezeE_ok : ∀ {ls : List LV} {k : List Wr → E} {σ1 : St} {G1 : Gh}, Inv fr N σ1 G1 a w → (∀ i, σ1.o i = σ.o i ∨ σ1.o i = { σ.o i with st := .fz }) → σ1.b = σ.b → σ1.s = σ.s → (freezeE ls k).run σ = some ws →
    ∃ fw F', (k fw).run σ = some ws ∧ Inv fr N (σ1.wrs fw) { G1 with F := F' } a w ∧ Moves σ1.o (σ1.wrs fw).o G1 { G1 with F := F' } w w ∧ (∀ b, G1.F b → F' b) ∧ (∀ l, l ∈ ls → ∀ i v p s m, l = .ref i v p s m → (σ1.wrs fw).o i = { σ.o i with st := .fz }) ∧
      (∀ i, (σ1.wrs fw).o i = σ.o i ∨ (σ1.wrs fw).o i = { σ.o i with st := .fz }) ∧ (σ1.wrs fw).b = σ.b ∧ (σ1.wrs fw).s = σ.s ∧ (∀ i, (σ1.o i = { σ.o i with st := .fz }) → (σ1.wrs fw).o i = { σ.o i with st := .fz })
  | [], k, σ1, G1, hi, ho, hb, hs, h => ⟨[], G1.F, h, hi, Moves.refl _ _ _, fun _ h => h, fun l hl => by simp at hl, ho, hb, hs, fun _ h => h⟩
  | .d x :: ls, k, σ1, G1, hi, ho, hb, hs, h => by
    obtain ⟨fw, F', h1, h2, h3, h4, h5, h6⟩ := freezeE_ok (ls := ls) hi ho hb hs h
    refine ⟨fw, F', h1, h2, h3, h4, fun l hl i v p s m e => ?_, h6⟩
    rcases List.mem_cons.1 hl with rfl | hl
    · cases e
    · exact h5 l hl i v p s m e
  | .ref i v p s m :: ls, k, σ1, G1, hi, ho, hb, hs, h => by
    simp only [freezeE, E.run] at h
    split at h
    · simp [E.run] at h
    · rename_i hd
      have hd1 : (σ1.o i).st ≠ .dead := by rcases ho i with e | e <;> rw [e] <;> simp [hd]
      have e1 : ({ σ1.o i with st := .fz } : Obj) = { σ.o i with st := .fz } := by rcases ho i with e | e <;> rw [e]
      obtain ⟨F1, q1, q2, q3⟩ := hi.freezeAll hd1
      rw [e1] at q1 q3
      obtain ⟨fw, F', h1, h2, h3, h4, h5, h6, h7, h8, h9⟩ := freezeE_ok (ls := ls) (k := fun ws => k (.o i { σ.o i with st := .fz } :: ws)) q1 (fun i' => by
        by_cases hii : i' = i
        · subst hii; right; simp [St.wr, upd]
        · simp only [St.wr, upd, hii, if_false]; exact ho i') hb hs h
      have hself : (σ1.wrs (.o i { σ.o i with st := .fz } :: fw)).o i = { σ.o i with st := .fz } := h9 i (by simp [St.wr, upd])
      refine ⟨_, F', h1, h2, q3.trans h3, fun b hb => h4 b (q2 b hb), fun l hl i' v' p' s' m' e => ?_, h6, h7, h8, fun i' e => ?_⟩
      · rcases List.mem_cons.1 hl with rfl | hl
        · injection e with e; subst e; exact hself
        · exact h5 l hl i' v' p' s' m' e
      · by_cases hii : i' = i
        · subst hii; exact hself
        · exact h9 i' (by simp only [St.wr, upd, hii, if_false]; exact e)

/-- a call's results become objects -/
theorem leafRes_ok {id : Nat} {x : D} {u : Value} {T : Nat → Prop} {k : LV → List Wr → E} (hi : Inv fr N σ1 G1 a w) (hv : ∀ i, (σ1.o i).v = (σ.o i).v ∨ i < id) (ho : Own w G1.F x u T) (hT : ∀ b, T b → G1.R b) (h : (leafRes id x k).run σ = some ws) :
    ∃ l ws1 G2, (k l ws1).run σ = some ws ∧ Inv fr N (σ1.wrs ws1) G2 a w ∧ Moves σ1.o (σ1.wrs ws1).o G1 G2 w w ∧ LOK (σ1.wrs ws1).o G2 w l u ∧ (∀ i, ((σ1.wrs ws1).o i).v = (σ1.o i).v ∨ i < id + 1) ∧ G2.F = G1.F ∧ G2.blk = G1.blk ∧ (∀ b, G1.R b → ¬ T b → G2.R b) := by
  have hplain : ∀ (y : D), x = y → (∀ e k xs, y ≠ .sl false e k xs) → y ≠ .hole → (k (.d y) []).run σ = some ws → ∃ l ws1 G2, (k l ws1).run σ = some ws ∧ Inv fr N (σ1.wrs ws1) G2 a w ∧ Moves σ1.o (σ1.wrs ws1).o G1 G2 w w ∧ LOK (σ1.wrs ws1).o G2 w l u ∧ (∀ i, ((σ1.wrs ws1).o i).v = (σ1.o i).v ∨ i < id + 1) ∧ G2.F = G1.F ∧ G2.blk = G1.blk ∧ (∀ b, G1.R b → ¬ T b → G2.R b) := by
    intro y e hn hh h
    subst e
    refine ⟨_, [], G1, h, hi, Moves.refl _ _ _, ?_, fun _ => .inl rfl, rfl, rfl, fun b h _ => h⟩
    cases ho with
    | lit v _ h1 => exact ⟨.lit _ h1, trivial⟩
    | hole => exact absurd rfl hh
    | nil e k => exact absurd rfl (hn e k [])
    | shared _ _ _ _ _ hr => exact ⟨hr, trivial⟩
    | row e k xs => exact absurd rfl (hn e k xs)
  unfold leafRes at h
  split at h
  · rename_i e kk xs
    have hv' : (σ1.o id).v = (σ.o id).v := (hv id).resolve_right (by omega)
    have hobj := hi.newObj ho hT id
    rw [hv'] at hobj
    have hmv := hi.newObj_moves (e := e) (k := kk) (xs := xs) (v := u) (S := T) (fun b => G1.R b ∧ ¬ T b) id
    rw [hv'] at hmv
    refine ⟨_, _, _, h, hobj, hmv, ⟨.inr ⟨by simp [St.wrs, St.wr, upd], by simp [St.wrs, St.wr, upd]⟩, ho.one, fun _ => ⟨_, _, _, _, _, rfl, .nil _ _, by simp [upd]; rfl⟩⟩, fun i => ?_, rfl, rfl, fun b h1 h2 => ⟨h1, h2⟩⟩
    by_cases hii : i = id
    · subst hii; right; omega
    · left; simp [St.wrs, St.wr, upd, hii]
  · simp [E.run] at h
  · rename_i h1 h2
    exact hplain x rfl (fun e k xs e1 => h1 e k xs e1) (fun e => h2 e) h
theorem leafsRes_ok : ∀ {xs : List D} {us : List Value} {id : Nat} {T : Nat → Nat → Prop} {k : Nat → List LV → List Wr → E} {σ1 : St} {G1 : Gh}, Inv fr N σ1 G1 a w → (∀ i, (σ1.o i).v = (σ.o i).v ∨ i < id) → LeavesOwn w G1.F xs us T → (∀ j b, T j b → G1.R b) → (∀ j j' b, T j b → T j' b → j = j') →
    (leafsRes id xs k).run σ = some ws → ∃ id2 ls ws1 G2, (k id2 ls ws1).run σ = some ws ∧ Inv fr N (σ1.wrs ws1) G2 a w ∧ Moves σ1.o (σ1.wrs ws1).o G1 G2 w w ∧ LsOK (σ1.wrs ws1).o G2 w ls us ∧ (∀ i, ((σ1.wrs ws1).o i).v = (σ.o i).v ∨ i < id2) ∧ G2.F = G1.F ∧ G2.blk = G1.blk ∧ (∀ b, G1.R b → (∀ j, ¬ T j b) → G2.R b)
  | [], us, id, T, k, σ1, G1, hi, hv, hl, hT, hd, h => by
    have : us = [] := List.eq_nil_of_length_eq_zero hl.1
    subst this
    exact ⟨id, [], [], G1, h, hi, Moves.refl _ _ _, ⟨rfl, fun n l u h1 => by simp at h1⟩, hv, rfl, rfl, fun b h _ => h⟩
  | x :: xs, us, id, T, k, σ1, G1, hi, hv, hl, hT, hd, h => by
    cases us with
    | nil => have := hl.1; simp at this
    | cons u us =>
      simp only [leafsRes] at h
      obtain ⟨l, ws1, G2, h, hi2, hm2, hl2, hv2, hF2, hb2, hR2⟩ := leafRes_ok hi hv (hl.2 0 x u rfl rfl) (hT 0) h
      obtain ⟨id3, ls, ws3, G3, h, hi3, hm3, hl3, hv3, hF3, hb3, hR3⟩ := leafsRes_ok (T := fun j => T (j + 1)) hi2 (fun i => by
        rcases hv2 i with e | e
        · rcases hv i with e2 | e2
          · left; rw [e, e2]
          · right; omega
        · right; exact e) ⟨by have := hl.1; simpa using this, fun j y v h1 h2 => by rw [hF2]; exact hl.2 (j + 1) y v (by simpa using h1) (by simpa using h2)⟩
        (fun j b hb => hR2 b (hT (j + 1) b hb) (fun h0 => by have := hd 0 (j + 1) b h0 hb; omega)) (fun j j' b h1 h2 => by have := hd _ _ b h1 h2; omega) h
      refine ⟨id3, l :: ls, ws1 ++ ws3, G3, h, by rw [wrs_app]; exact hi3, by rw [wrs_app]; exact hm2.trans hm3, ⟨by simp [hl3.1], fun n l' u' h1 h2 => ?_⟩, fun i => by rw [wrs_app]; exact hv3 i, hF3.trans hF2, hb3.trans hb2, fun b h1 h2 => hR3 b (hR2 b h1 (h2 0)) (fun j => h2 (j + 1))⟩
      rw [wrs_app]
      cases n with
      | zero => simp at h1 h2; subst h1; subst h2; exact LOK.move hm3 hl2
      | succ n => exact hl3.2 n l' u' (by simpa using h1) (by simpa using h2)
theorem valsRes_ok : ∀ {rs : List (Bool × List D)} {us : List Value} {id : Nat} {T : Nat → Nat → Nat → Prop} {k : List (Bool × List LV) → List Wr → E} {σ1 : St} {G1 : Gh}, Inv fr N σ1 G1 a w → (∀ i, (σ1.o i).v = (σ.o i).v ∨ i < id) → us.length = rs.length →
    (∀ (n : Nat) (r : Bool × List D) (u : Value), rs[n]? = some r → us[n]? = some u → ResOne w G1.F (T n) r u) → (∀ i j b, T i j b → G1.R b) → (∀ i j i' j' b, T i j b → T i' j' b → i = i' ∧ j = j') →
    (valsRes id rs k).run σ = some ws → ∃ vs ws1 G2, (k vs ws1).run σ = some ws ∧ Inv fr N (σ1.wrs ws1) G2 a w ∧ vs.length = rs.length ∧ (∀ (n : Nat) (x : Bool × List LV) (y : Value), vs[n]? = some x → us[n]? = some y → VOK (σ1.wrs ws1).o G2 w x y) ∧ Moves σ1.o (σ1.wrs ws1).o G1 G2 w w
  | [], us, id, T, k, σ1, G1, hi, hv, hlen, hr, hT, hd, h => ⟨[], [], G1, h, hi, rfl, fun n x y h1 => by simp at h1, Moves.refl _ _ _⟩
  | (b, xs) :: rs, us, id, T, k, σ1, G1, hi, hv, hlen, hr, hT, hd, h => by
    cases us with
    | nil => simp at hlen
    | cons u us =>
      simp only [valsRes] at h
      have hlv : LeavesOwn w G1.F xs u.cells.toList (T 0) := by
        have h0 := hr 0 (b, xs) u rfl rfl
        cases b with
        | true => obtain ⟨us', rfl, h⟩ := h0; exact h
        | false => cases xs with
          | nil => exact h0.elim
          | cons x xs => cases xs with
            | nil =>
              have h0 : Own w G1.F x u (T 0 0) := h0
              rw [one_cells h0.one]
              refine ⟨rfl, fun j y v h1 h2 => ?_⟩
              cases j with
              | zero => simp at h1 h2; subst h1; subst h2; exact h0
              | succ j => simp at h1
            | cons _ _ => exact h0.elim
      obtain ⟨id2, ls, ws1, G2, h, hi2, hm2, hl2, hv2, hF2, hb2, hR2⟩ := leafsRes_ok (σ := σ) hi hv hlv (hT 0) (fun j j' b h1 h2 => (hd 0 j 0 j' b h1 h2).2) h
      obtain ⟨vs, ws3, G3, h, hi3, hl3, hv3, hb3⟩ := valsRes_ok (us := us) (T := fun i => T (i + 1)) hi2 hv2 (by simpa using hlen) (fun n r v h1 h2 => by rw [hF2]; exact hr (n + 1) r v (by simpa using h1) (by simpa using h2))
        (fun i j b hb => hR2 b (hT (i + 1) j b hb) (fun j' h0 => by have := (hd 0 j' (i + 1) j b h0 hb).1; omega)) (fun i j i' j' b h1 h2 => by have := hd _ _ _ _ b h1 h2; omega) h
      refine ⟨(b, ls) :: vs, ws1 ++ ws3, G3, h, by rw [wrs_app]; exact hi3, by simp [hl3], fun n x y h1 h2 => ?_, by rw [wrs_app]; exact hm2.trans hb3⟩
      rw [wrs_app]
      cases n with
      | succ n => exact hv3 n x y (by simpa using h1) (by simpa using h2)
      | zero =>
        simp at h1 h2; subst h1; subst h2
        have hls := LsOK.move hb3 hl2
        have h0 := hr 0 (b, xs) u rfl rfl
        cases b with
        | true => obtain ⟨us', rfl, _⟩ := h0; exact ⟨us', rfl, hls⟩
        | false => cases xs with
          | nil => exact h0.elim
          | cons x xs => cases xs with
            | nil =>
              have h0 : Own w G1.F x u (T 0 0) := h0
              rw [one_cells h0.one] at hls
              cases ls with
              | nil => have := hls.1; simp at this
              | cons l ls => cases ls with
                | nil => exact hls.2 0 l u rfl rfl
                | cons _ _ => have := hls.1; simp at this
            | cons _ _ => exact h0.elim
/-- the variable that a call was handed to change -/
theorem setBox_any (hi : Inv fr N σ1 G1 a w) {j : Nat} (hj : (σ1.b j).live = true) {cs : List LV} {us us0 : Array Value} {w' : World} (hos : w'.os = w.os) (htp : w'.tape = w.tape) (hou : w'.output = w.output) (hsz : w.heap.size ≤ w'.heap.size)
    (h0 : w.heap[G1.blk j]? = some (.cells us0 (σ1.b j).t (0, 0))) (hw : ∀ b, b < w.heap.size → b ≠ G1.blk j → w'.heap[b]? = w.heap[b]?) (hc : w'.heap[G1.blk j]? = some (.cells us (σ1.b j).t (0, 0))) (hl : LsOK σ1.o G1 w cs us.toList) :
    Inv fr N (σ1.wr (.b j { σ1.b j with cs := cs })) { G1 with R := fun b => G1.R b ∨ w.heap.size ≤ b ∧ b < w'.heap.size } a w' ∧ Moves σ1.o σ1.o G1 { G1 with R := fun b => G1.R b ∨ w.heap.size ≤ b ∧ b < w'.heap.size } w w' := by
  -- first the world without the change of the box
  let w1 : World := w'.setRow (G1.blk j) us0
  have hs1 : w1.heap.size = w'.heap.size := setRow_size w' _ _
  have hin := hi.world (w' := w1) hos htp hou (by rw [hs1]; exact hsz) (fun b h1 h2 => by
    by_cases hb : b = G1.blk j
    · subst hb; rw [show w1.heap[G1.blk j]? = _ from setRow_heap w' _ us us0 _ _ hc]; exact h0.symm
    · rw [show w1.heap[b]? = _ from setRow_other w' _ b us0 hb]; exact hw b h1 hb)
  have hmv := hi.world_moves (w' := w1) (fun b => G1.R b ∨ w.heap.size ≤ b ∧ b < w1.heap.size) (fun b h1 h2 => by
    by_cases hb : b = G1.blk j
    · subst hb; rw [show w1.heap[G1.blk j]? = _ from setRow_heap w' _ us us0 _ _ hc]; exact h0.symm
    · rw [show w1.heap[b]? = _ from setRow_other w' _ b us0 hb]; exact hw b h1 hb)
  rw [hs1] at hin hmv
  refine ⟨hin.setBox hj (us := us) (w' := w') rfl rfl rfl hs1 (fun b hb => (setRow_other w' _ b us0 hb).symm) hc (hl.move hmv), ?_⟩
  have hF : ∀ b, G1.F b → w'.heap[b]? = w.heap[b]? := fun b hb => hw b (hi.Fw b hb).1 (by rintro rfl; exact (hi.bF j hj).1 hb)
  refine ⟨fun _ h => h, hF, fun i => Keeps.same rfl (fun _ => rfl) (fun p u0 hs h => hi.head hs (fun b hb => ?_) h)⟩
  rcases hb with hb | ⟨h1, h2⟩
  · exact hF b hb
  · exact hw b (hi.sF i b h1 h2).2.2 (by rintro rfl; exact hi.bS j i hj h1 h2)
theorem lsOK_lits {O : Nat → Obj} {xs : List D} {us : List Value} (h : us.map D.lit = xs) (ho : ∀ u ∈ us, u.oneCell' = true) : LsOK O G w (xs.map .d) us := by
  subst h
  refine ⟨by simp, fun n l u h1 h2 => ?_⟩
  simp only [List.map_map, List.getElem?_map] at h1
  rw [h2] at h1
  simp at h1
  subst h1
  exact ⟨.lit _ (ho u (List.mem_of_getElem? h2)), trivial⟩
end
end Go.Proofs.Ytmbmebfeoejlnaa.Ab
