/- Owned data: a part is taken out, put in, cut, appended to. -/
import Derived.Test.YtmbmebfeoejlnaaA1
namespace Go.Proofs.Ytmbmebfeoejlnaa.Ab
set_option linter.unusedVariables false
set_option linter.unusedSimpArgs false
open Go.RowKit

def D.at : D → List Nat → Option D
  | x, [] => some x
  | .sl false _ _ xs, j :: p => match xs[j]? with
    | some y => y.at p
    | none => none
  | _, _ :: _ => none
def D.upd (f : D → D) : D → List Nat → D
  | x, [] => f x
  | .sl false e k xs, j :: p => .sl false e k (match xs[j]? with
    | some y => xs.set j (y.upd f p)
    | none => xs)
  | x, _ :: _ => x
def D.setC (j : Nat) (y : D) : D → D
  | .sl sh e k xs => .sl sh e k (xs.set j y)
  | x => x

/-- The value u stands at path p inside what v leads to. -/
inductive HeadAt (w : World) : D → Value → List Nat → Value → Prop
  | nil (x : D) (v : Value) : HeadAt w x v [] v
  | cons (e k : Nat) (xs : List D) (g n c j : Nat) (p : List Nat) (x : D) (u v' : Value) (hx : xs[j]? = some x) (hu : w.cell? ⟨g, j, none⟩ = some u) (h : HeadAt w x u p v') :
      HeadAt w (.sl false e k xs) (.slice (some ⟨g, 0, none⟩) n c) (j :: p) v'

/-- Of an owned row: its cells. -/
theorem Own.row_inv {w : World} {F : Nat → Prop} {sh : Bool} {e k : Nat} {xs : List D} {g n c : Nat} {a : Addr} {S : Nat → Prop} (h : Own w F (.sl sh e k xs) (.slice (some a) n c) S) (hs : sh = false) :
    ∃ (us : List Value) (cur : Array Value) (T : Nat → Nat → Prop), a = ⟨a.block, 0, none⟩ ∧ 0 < k ∧ xs.length = n * k ∧ n ≤ c ∧ n ≤ maxL ∧ c ≤ maxLen ∧ S a.block ∧ w.heap[a.block]? = some (.cells cur e (0, 0)) ∧ cur.size = c * k ∧
      cur.toList.take (n * k) = us ∧ (∀ (j : Nat) (x : D) (u : Value), xs[j]? = some x → us[j]? = some u → Own w F x u (T j)) ∧ (∀ j b, T j b → S b ∧ b ≠ a.block) ∧ (∀ i j b, T i b → T j b → i = j) ∧
      us.length = xs.length := by
  cases h with
  | shared => cases hs
  | row _ _ _ us _ _ g cur _ T hk hn hc hm hcm hgS hcell hcur hus hx hT hd =>
    refine ⟨us, cur, T, rfl, hk, hn, hc, hm, hcm, hgS, hcell, hcur, hus, hx, hT, hd, ?_⟩
    rw [← hus, List.length_take, Array.length_toList, hcur, hn]
    exact Nat.min_eq_left (Nat.mul_le_mul_right k hc)

theorem cell_of_row {w : World} {g : Nat} {cur : Array Value} {e j : Nat} (h : w.heap[g]? = some (.cells cur e (0, 0))) : w.cell? ⟨g, j, none⟩ = cur[j]? := by simp [World.cell?, h]
theorem take_get {l us : List Value} {m j : Nat} {u : Value} (h : l.take m = us) (hj : us[j]? = some u) : l[j]? = some u ∧ j < m := by
  subst h
  have h1 : j < m := by have := (List.getElem?_eq_some_iff.1 hj).1; rw [List.length_take] at this; omega
  rw [List.getElem?_take, if_pos h1] at hj
  exact ⟨hj, h1⟩

theorem Own.head {w : World} {F : Nat → Prop} {p : List Nat} : ∀ {x y : D} {v : Value} {S : Nat → Prop}, Own w F x v S → x.at p = some y →
    ∃ u T, HeadAt w x v p u ∧ Own w F y u T ∧ ∀ b, T b → S b := by
  induction p with
  | nil => intro x y v S h hy; rw [D.at] at hy; obtain rfl := Option.some.inj hy; exact ⟨v, S, .nil _ _, h, fun _ h => h⟩
  | cons j p ih =>
    intro x y v S h hy
    cases x with
    | lit v => simp [D.at] at hy
    | hole => simp [D.at] at hy
    | sl sh e k xs =>
      cases sh with
      | true => simp [D.at] at hy
      | false =>
        rw [D.at] at hy
        cases hx : xs[j]? with
        | none => simp [hx] at hy
        | some x1 =>
          simp only [hx] at hy
          cases h with
          | nil => simp at hx
          | row _ _ _ us n c g cur _ T hk hn hc hm hcm hgS hcell hcur hus hx2 hT hd =>
            have hlen : us.length = xs.length := by
              rw [← hus, List.length_take, Array.length_toList, hcur, hn]; exact Nat.min_eq_left (Nat.mul_le_mul_right k hc)
            have hj : j < us.length := by rw [hlen]; exact (List.getElem?_eq_some_iff.1 hx).1
            have hu := List.getElem?_eq_getElem hj
            obtain ⟨u, T2, hh, ho, hs⟩ := ih (hx2 j x1 _ hx hu) hy
            refine ⟨u, T2, .cons e k xs g n c j p x1 us[j] u hx ?_ hh, ho, fun b hb => (hT j b (hs b hb)).1⟩
            rw [cell_of_row hcell, ← Array.getElem?_toList]
            exact (take_get hus hu).1

theorem HeadAt.one {w : World} {F : Nat → Prop} {p : List Nat} : ∀ {x y : D} {v u : Value} {S : Nat → Prop}, HeadAt w x v p u → Own w F x v S → x.at p = some y → ∃ T, Own w F y u T ∧ ∀ b, T b → S b := by
  intro x y v u S h ho hy
  obtain ⟨u', T, hh, ho', hs⟩ := ho.head hy
  have : u = u' := by
    clear ho ho' hs hy
    induction h with
    | nil => cases hh; rfl
    | cons e k xs g n c j p x u1 v' hx hu h ih =>
      cases hh with
      | cons _ _ _ _ _ _ _ _ x2 u2 _ hx2 hu2 h2 =>
        rw [hx] at hx2; obtain rfl := Option.some.inj hx2
        rw [hu] at hu2; obtain rfl := Option.some.inj hu2
        exact ih h2
  subst this
  exact ⟨T, ho', hs⟩

/-- A part is taken out. -/
theorem Own.take {w : World} {F : Nat → Prop} {p : List Nat} : ∀ {x y : D} {v u : Value} {S : Nat → Prop}, Own w F x v S → HeadAt w x v p u → x.at p = some y →
    ∃ T : Nat → Prop, (∀ b, T b → S b) ∧ Own w F y u T ∧ Own w F (x.upd (fun _ => .hole) p) v (fun b => S b ∧ ¬ T b) := by
  induction p with
  | nil =>
    intro x y v u S h hh hy
    rw [D.at] at hy; obtain rfl := Option.some.inj hy
    cases hh
    exact ⟨S, fun _ h => h, h, .hole _ _ h.one⟩
  | cons j p ih =>
    intro x y v u S h hh hy
    cases hh with
    | cons e k xs g n c _ _ x1 u1 _ hx hu hh =>
      rw [D.at, hx] at hy
      obtain ⟨us, cur, T, _, hk, hn, hc, hm, hcm, hgS, hcell, hcur, hus, hx2, hT, hd, hlen⟩ := h.row_inv (g := g) rfl
      dsimp only at hgS hcell hT
      have hj : j < us.length := by rw [hlen]; exact (List.getElem?_eq_some_iff.1 hx).1
      have huj := List.getElem?_eq_getElem hj
      have hu2 : u1 = us[j] := by
        rw [cell_of_row hcell, ← Array.getElem?_toList, (take_get hus huj).1] at hu
        exact (Option.some.inj hu).symm
      obtain ⟨T1, hT1, ho1, ho2⟩ := ih (by rw [hu2]; exact hx2 j x1 _ hx huj) hh hy
      refine ⟨T1, fun b hb => (hT j b (hT1 b hb)).1, ho1, ?_⟩
      rw [D.upd, hx]
      refine .row e k _ us n c g cur _ (fun i b => T i b ∧ ¬ T1 b) hk (by rw [List.length_set]; exact hn) hc hm hcm ⟨hgS, fun hb => (hT j g (hT1 g hb)).2 rfl⟩ hcell hcur hus ?_
        (fun i b hb => ⟨⟨(hT i b hb.1).1, hb.2⟩, (hT i b hb.1).2⟩) (fun i i2 b h1 h2 => hd i i2 b h1.1 h2.1)
      intro i x' u' h1 h2
      by_cases hij : i = j
      · subst hij
        rw [List.getElem?_set_self (by rw [← hlen]; exact hj)] at h1
        obtain rfl := Option.some.inj h1
        rw [huj] at h2; obtain rfl := Option.some.inj h2
        rw [← hu2]
        exact ho2
      · rw [List.getElem?_set_ne (Ne.symm hij)] at h1
        exact (hx2 i x' u' h1 h2).mono (fun b hb => ⟨hb, fun h => hij (hd i j b hb (hT1 b h))⟩)

/-- The block of an owned part is the whole's. -/
theorem HeadAt.block {w : World} {F : Nat → Prop} {x : D} {v : Value} {p : List Nat} {a : Addr} {n c e k : Nat} {ys : List D} {S : Nat → Prop} (h : HeadAt w x v p (.slice (some a) n c)) (ho : Own w F x v S)
    (hy : x.at p = some (.sl false e k ys)) : S a.block := by
  obtain ⟨T, ho', hs⟩ := h.one ho hy
  obtain ⟨_, _, _, _, _, _, _, _, _, hgS, _⟩ := ho'.row_inv (g := 0) rfl
  exact hs _ hgS

theorem heap_setCell_ne {w : World} {g j : Nat} {u : Value} {b : Nat} (h : b ≠ g) : (w.setCell ⟨g, j, none⟩ u).heap[b]? = w.heap[b]? := Below.heap_setCell w _ u b h
theorem heap_setCell_eq {w : World} {g j e : Nat} {u : Value} {cur : Array Value} (h : w.heap[g]? = some (.cells cur e (0, 0))) :
    (w.setCell ⟨g, j, none⟩ u).heap[g]? = some (.cells (cur.setIfInBounds j u) e (0, 0)) := by
  simp [World.setCell, Array.getElem?_modify, h]

/-- A cell of an owned part is written. -/
theorem Own.put {w : World} {F : Nat → Prop} {q : List Nat} {g j : Nat} {y : D} {u : Value} {T : Nat → Prop} (hy : Own w F y u T) (hTg : ¬ T g) (hFg : ¬ F g) : ∀ {x : D} {v : Value} {S : Nat → Prop} {e k n c : Nat} {xs : List D},
    Own w F x v S → HeadAt w x v q (.slice (some ⟨g, 0, none⟩) n c) → x.at q = some (.sl false e k xs) → j < xs.length → (∀ b, T b → ¬ S b) →
    Own (w.setCell ⟨g, j, none⟩ u) F (x.upd (D.setC j y) q) v (fun b => S b ∨ T b) := by
  induction q with
  | nil =>
    intro x v S e k n c xs h hh hat hj hTS
    rw [D.at] at hat; obtain rfl := Option.some.inj hat
    cases hh
    obtain ⟨us, cur, T1, _, hk, hn, hc, hm, hcm, hgS, hcell, hcur, hus, hx2, hT1, hd, hlen⟩ := h.row_inv (g := g) rfl
    dsimp only at hgS hcell hT1
    have hjn : j < n * k := by omega
    have hjc : j < cur.size := by rw [hcur]; exact Nat.lt_of_lt_of_le hjn (Nat.mul_le_mul_right k hc)
    rw [D.upd, D.setC]
    refine .row e k _ (us.set j u) n c g (cur.setIfInBounds j u) _ (fun i b => if i = j then T b else T1 i b) hk (by rw [List.length_set]; exact hn) hc hm hcm (.inl hgS) (heap_setCell_eq hcell) (by simpa using hcur) ?_ ?_ ?_ ?_
    · rw [← hus, Array.toList_setIfInBounds, List.take_set]
    · intro i x' u' h1 h2
      by_cases hij : i = j
      · subst hij
        rw [List.getElem?_set_self hj] at h1
        rw [List.getElem?_set_self (by rw [hlen]; exact hj)] at h2
        obtain rfl := Option.some.inj h1
        obtain rfl := Option.some.inj h2
        simp only [if_true]
        exact hy.frame (fun _ h => h) (fun _ h => h) (fun b hb => heap_setCell_ne (by rintro rfl; exact hb.elim hTg hFg))
      · rw [List.getElem?_set_ne (Ne.symm hij)] at h1 h2
        simp only [hij, if_false]
        exact (hx2 i x' u' h1 h2).frame (fun _ h => h) (fun _ h => h) (fun b hb => heap_setCell_ne (by
          rintro rfl
          exact hb.elim (fun h => (hT1 i b h).2 rfl) hFg))
    · intro i b hb
      by_cases hij : i = j
      · simp only [hij, if_true] at hb
        exact ⟨.inr hb, by rintro rfl; exact hTg hb⟩
      · simp only [hij, if_false] at hb
        exact ⟨.inl (hT1 i b hb).1, (hT1 i b hb).2⟩
    · intro i i2 b h1 h2
      by_cases hi : i = j <;> by_cases hi2 : i2 = j
      · rw [hi, hi2]
      · simp only [hi, if_true, hi2, if_false] at h1 h2
        exact absurd (hT1 i2 b h2).1 (hTS b h1)
      · simp only [hi, if_false, hi2, if_true] at h1 h2
        exact absurd (hT1 i b h1).1 (hTS b h2)
      · simp only [hi, if_false, hi2] at h1 h2
        exact hd i i2 b h1 h2
  | cons i q ih =>
    intro x v S e k n c xs h hh hat hj hTS
    cases hh with
    | cons e0 k0 xs0 g0 n0 c0 _ _ x1 u1 _ hx hu hh =>
      rw [D.at, hx] at hat
      obtain ⟨us, cur, T1, _, hk, hn, hc, hm, hcm, hgS, hcell, hcur, hus, hx2, hT1, hd, hlen⟩ := h.row_inv (g := g0) rfl
      dsimp only at hgS hcell hT1
      have hi : i < us.length := by rw [hlen]; exact (List.getElem?_eq_some_iff.1 hx).1
      have hui := List.getElem?_eq_getElem hi
      have hu2 : u1 = us[i] := by
        rw [cell_of_row hcell, ← Array.getElem?_toList, (take_get hus hui).1] at hu
        exact (Option.some.inj hu).symm
      have ho1 : Own w F x1 u1 (T1 i) := by rw [hu2]; exact hx2 i x1 _ hx hui
      have hgi : T1 i g := hh.block ho1 hat
      have hne : g0 ≠ g := fun h => (hT1 i g hgi).2 h.symm
      have h1 := ih ho1 hh hat hj (fun b hb hS => hTS b hb (hT1 i b hS).1)
      rw [D.upd, hx]
      refine .row e0 k0 _ us n0 c0 g0 cur _ (fun i2 b => if i2 = i then T1 i b ∨ T b else T1 i2 b) hk (by rw [List.length_set]; exact hn) hc hm hcm (.inl hgS) (by rw [heap_setCell_ne hne]; exact hcell) hcur hus ?_ ?_ ?_
      · intro i2 x' u' h2 h3
        by_cases hij : i2 = i
        · subst hij
          rw [List.getElem?_set_self (by rw [← hlen]; exact hi)] at h2
          obtain rfl := Option.some.inj h2
          rw [hui] at h3; obtain rfl := Option.some.inj h3
          simp only [if_true]
          rw [← hu2]
          exact h1
        · rw [List.getElem?_set_ne (Ne.symm hij)] at h2
          simp only [hij, if_false]
          exact (hx2 i2 x' u' h2 h3).frame (fun _ h => h) (fun _ h => h) (fun b hb => heap_setCell_ne (by
            rintro rfl
            exact hb.elim (fun h => hij (hd i2 i b h hgi)) hFg))
      · intro i2 b hb
        by_cases hij : i2 = i
        · simp only [hij, if_true] at hb
          rcases hb with hb | hb
          · exact ⟨.inl (hT1 i b hb).1, (hT1 i b hb).2⟩
          · exact ⟨.inr hb, by rintro rfl; exact hTS b hb hgS⟩
        · simp only [hij, if_false] at hb
          exact ⟨.inl (hT1 i2 b hb).1, (hT1 i2 b hb).2⟩
      · intro i2 i3 b h2 h3
        by_cases hi2 : i2 = i <;> by_cases hi3 : i3 = i
        · rw [hi2, hi3]
        · simp only [hi2, if_true, hi3, if_false] at h2 h3
          rcases h2 with h2 | h2
          · exact absurd (hd i i3 b h2 h3).symm hi3
          · exact absurd (hT1 i3 b h3).1 (hTS b h2)
        · simp only [hi2, if_false, hi3, if_true] at h2 h3
          rcases h3 with h3 | h3
          · exact absurd (hd i2 i b h2 h3) hi2
          · exact absurd (hT1 i2 b h2).1 (hTS b h3)
        · simp only [hi2, if_false, hi3] at h2 h3
          exact hd i2 i3 b h2 h3
end Go.Proofs.Ytmbmebfeoejlnaa.Ab
