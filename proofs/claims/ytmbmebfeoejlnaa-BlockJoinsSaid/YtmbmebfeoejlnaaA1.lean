/- Pure data (D), what it means that a machine's value holds such data in a world's memory: read (Rep) or owned (Own), and how that stays. -/
import Derived.Laws.AppendOwn
import Derived.Maps.AppendAt
import Derived.Below
import Derived.Deep.Heap
namespace Go.Proofs.Ytmbmebfeoejlnaa.Ab
set_option linter.unusedVariables false
set_option linter.unusedSimpArgs false

/-- Pure data: a literal of one cell; a slice (its elements' type e, k cells an element; sh: it is shared, never written); a place whose value was taken out. -/
inductive D where
  | lit (v : Value)
  | sl (sh : Bool) (e k : Nat) (xs : List D)
  | hole
  deriving Inhabited

def maxL : Nat := 140737488355328

/-- v holds x, and all blocks that it leads to are in F. -/
inductive Rep (w : World) (F : Nat → Prop) : D → Value → Prop
  | lit (v : Value) (h : v.oneCell' = true) : Rep w F (.lit v) v
  | hole (v : Value) (h : v.oneCell' = true) : Rep w F .hole v
  | nil (sh : Bool) (e k : Nat) : Rep w F (.sl sh e k []) (.slice none 0 0)
  | row (sh : Bool) (e k : Nat) (xs : List D) (us : List Value) (n c : Nat) (A : Option Addr) (hk : 0 < k) (hn : xs.length = n * k) (hl : us.length = xs.length)
      (hc : n ≤ c) (hm : n ≤ maxL) (hA : 0 < n → ∃ ad, A = some ad ∧ F ad.block ∧ ∀ (j : Nat) (u : Value), us[j]? = some u → w.cell? (ad.add j) = some u)
      (hx : ∀ (j : Nat) (x : D) (u : Value), xs[j]? = some x → us[j]? = some u → Rep w F x u) : Rep w F (.sl sh e k xs) (.slice A n c)

/-- v holds x; the slices of x that aren't shared are nobody else's: their blocks are in S, each at one place alone; what is shared is in F. -/
inductive Own (w : World) (F : Nat → Prop) : D → Value → (Nat → Prop) → Prop
  | lit (v : Value) (S : Nat → Prop) (h : v.oneCell' = true) : Own w F (.lit v) v S
  | hole (v : Value) (S : Nat → Prop) (h : v.oneCell' = true) : Own w F .hole v S
  | nil (e k : Nat) (S : Nat → Prop) : Own w F (.sl false e k []) (.slice none 0 0) S
  | shared (e k : Nat) (xs : List D) (v : Value) (S : Nat → Prop) (h : Rep w F (.sl true e k xs) v) : Own w F (.sl true e k xs) v S
  | row (e k : Nat) (xs : List D) (us : List Value) (n c g : Nat) (cur : Array Value) (S : Nat → Prop) (T : Nat → Nat → Prop) (hk : 0 < k) (hn : xs.length = n * k)
      (hc : n ≤ c) (hm : n ≤ maxL) (hcm : c ≤ maxLen) (hS : S g) (hw : w.heap[g]? = some (.cells cur e (0, 0))) (hcur : cur.size = c * k)
      (hus : cur.toList.take (n * k) = us) (hx : ∀ (j : Nat) (x : D) (u : Value), xs[j]? = some x → us[j]? = some u → Own w F x u (T j)) (hT : ∀ j b, T j b → S b ∧ b ≠ g)
      (hd : ∀ i j b, T i b → T j b → i = j) : Own w F (.sl false e k xs) (.slice (some ⟨g, 0, none⟩) n c) S

theorem cell_of_heap {w w' : World} {a : Addr} (h : w'.heap[a.block]? = w.heap[a.block]?) : w'.cell? a = w.cell? a := by simp [World.cell?, h]
theorem add_block (a : Addr) (n : Nat) : (a.add n).block = a.block := by unfold Addr.add; split <;> rfl

theorem Rep.one {w : World} {F : Nat → Prop} {x : D} {v : Value} (h : Rep w F x v) : v.oneCell' = true := by
  cases h <;> first | assumption | rfl
theorem Own.one {w : World} {F : Nat → Prop} {x : D} {v : Value} {S : Nat → Prop} (h : Own w F x v S) : v.oneCell' = true := by
  cases h <;> first | assumption | rfl | (rename_i h; exact h.one)

theorem Rep.lit_inv {w : World} {F : Nat → Prop} {v u : Value} (h : Rep w F (.lit v) u) : u = v := by cases h; rfl
/-- What is read stays, where its blocks stay, in a greater set of blocks. -/
theorem Rep.frame {w w' : World} {F F' : Nat → Prop} {x : D} {v : Value} (h : Rep w F x v) (hF : ∀ b, F b → F' b) (hw : ∀ b, F b → w'.heap[b]? = w.heap[b]?) : Rep w' F' x v := by
  induction h with
  | lit v h => exact .lit v h
  | hole v h => exact .hole v h
  | nil sh e k => exact .nil sh e k
  | row sh e k xs us n c A hk hn hl hc hm hA hx ih =>
    refine .row sh e k xs us n c A hk hn hl hc hm (fun h0 => ?_) ih
    obtain ⟨ad, he, hf, hcell⟩ := hA h0
    exact ⟨ad, he, hF _ hf, fun j u hu => by rw [cell_of_heap (w := w) (by rw [add_block]; exact hw _ hf)]; exact hcell j u hu⟩
theorem Own.frame {w w' : World} {F F' : Nat → Prop} {x : D} {v : Value} {S S' : Nat → Prop} (h : Own w F x v S) (hS : ∀ b, S b → S' b) (hF : ∀ b, F b → F' b)
    (hw : ∀ b, S b ∨ F b → w'.heap[b]? = w.heap[b]?) : Own w' F' x v S' := by
  induction h generalizing S' with
  | lit v S h => exact .lit v _ h
  | hole v S h => exact .hole v _ h
  | nil e k S => exact .nil e k _
  | shared e k xs v S h => exact .shared e k xs v _ (h.frame hF (fun b hb => hw b (.inr hb)))
  | row e k xs us n c g cur S T hk hn hc hm hcm hgS hcell hcur hus hx hT hd ih =>
    exact .row e k xs us n c g cur S' T hk hn hc hm hcm (hS _ hgS) (by rw [hw g (.inl hgS)]; exact hcell) hcur hus
      (fun j x u h1 h2 => ih j x u h1 h2 (fun b hb => hb) (fun b hb => hw b (hb.imp (fun h => (hT j b h).1) id)))
      (fun j b hb => ⟨hS _ (hT j b hb).1, (hT j b hb).2⟩) hd
theorem Own.mono {w : World} {F : Nat → Prop} {x : D} {v : Value} {S S' : Nat → Prop} (h : Own w F x v S) (hS : ∀ b, S b → S' b) : Own w F x v S' :=
  h.frame hS (fun _ h => h) (fun _ _ => rfl)

/-- What is owned can be read. -/
theorem Own.rep {w : World} {F : Nat → Prop} {x : D} {v : Value} {S : Nat → Prop} (h : Own w F x v S) : Rep w (fun b => F b ∨ S b) x v := by
  induction h with
  | lit v S h => exact .lit v h
  | hole v S h => exact .hole v h
  | nil e k S => exact .nil false e k
  | shared e k xs v S h => exact h.frame (fun _ h => .inl h) (fun _ _ => rfl)
  | row e k xs us n c g cur S T hk hn hc hm hcm hgS hcell hcur hus hx hT hd ih =>
    have hlen : us.length = xs.length := by
      rw [← hus, List.length_take, Array.length_toList, hcur, hn]
      exact Nat.min_eq_left (Nat.mul_le_mul_right k hc)
    refine .row false e k xs us n c _ hk hn hlen hc hm (fun _ => ⟨_, rfl, .inr hgS, fun j u hu => ?_⟩) (fun j x u h1 h2 => (ih j x u h1 h2).frame (fun b hb => hb.imp id (fun h => (hT j b h).1)) (fun _ _ => rfl))
    rw [← hus] at hu
    have hj : j < n * k := by
      have := (List.getElem?_eq_some_iff.1 hu).1
      rw [List.length_take] at this
      omega
    rw [List.getElem?_take, if_pos hj, Array.getElem?_toList] at hu
    unfold Addr.add
    by_cases h0 : j = 0
    · subst h0; simp [World.cell?, hcell, hu]
    · simp [World.cell?, hcell, hu, h0]

/-- A slice that is read: one of its cells. -/
theorem Rep.get {w : World} {F : Nat → Prop} {sh : Bool} {e k : Nat} {xs : List D} {A : Option Addr} {n c : Nat} (h : Rep w F (.sl sh e k xs) (.slice A n c)) {j : Nat} (hj : j < xs.length) :
    ∃ ad, A = some ad ∧ F ad.block ∧ ∀ i x, xs[i]? = some x → ∃ u, w.cell? (ad.add i) = some u ∧ Rep w F x u := by
  cases h with
  | nil => simp at hj
  | row _ _ _ _ us _ _ _ hk hn hl hc hm hA hx =>
    have h0 : 0 < n := by
      rcases Nat.eq_zero_or_pos n with h | h
      · subst h; omega
      · exact h
    obtain ⟨ad, he, hf, hcell⟩ := hA h0
    refine ⟨ad, he, hf, fun i x hi => ?_⟩
    have hi' : i < us.length := by rw [hl]; exact (List.getElem?_eq_some_iff.1 hi).1
    exact ⟨us[i], hcell i _ (List.getElem?_eq_getElem hi'), hx i x _ hi (List.getElem?_eq_getElem hi')⟩
theorem Rep.slice {w : World} {F : Nat → Prop} {sh : Bool} {e k : Nat} {xs : List D} {v : Value} (h : Rep w F (.sl sh e k xs) v) :
    ∃ A n c, v = .slice A n c ∧ n = xs.length / k ∧ xs.length = n * k ∧ n ≤ c ∧ n ≤ maxL := by
  cases h with
  | nil => exact ⟨none, 0, 0, rfl, by simp, by simp, Nat.le_refl _, Nat.zero_le _⟩
  | row _ _ _ _ us n c A hk hn hl hc hm hA hx => exact ⟨A, n, c, rfl, by rw [hn, Nat.mul_div_cancel _ hk], hn, hc, hm⟩
theorem Rep.share {w : World} {F : Nat → Prop} {sh sh' : Bool} {e k : Nat} {xs : List D} {v : Value} (h : Rep w F (.sl sh e k xs) v) : Rep w F (.sl sh' e k xs) v := by
  cases h with
  | nil => exact .nil sh' e k
  | row _ _ _ _ us n c A hk hn hl hc hm hA hx => exact .row sh' e k xs us n c A hk hn hl hc hm hA hx

end Go.Proofs.Ytmbmebfeoejlnaa.Ab
