/- What comes in, read as data; a law's row out of its contract. -/
import Derived.Test.YtmbmebfeoejlnaaA32
import Derived.Handed
import Derived.SizedLaws
import Derived.ChangeShapes
import Derived.DataElems
import Derived.ChangeOld
namespace Go.Proofs.Ytmbmebfeoejlnaa.Ab
set_option linter.unusedVariables false
set_option linter.unusedSimpArgs false
open Go.RowKit
/-- what was there before -/
def Old (W : World) (b : Nat) : Prop := b < W.heap.size
def okW (l : List Nat) : Prop := ∀ n ∈ l, n ≤ reachBytes
/-- cells of a type, read -/
structure Rd {α : Type} (T : Ty α) (t : TypeId) (good : α → Prop) : Prop where
  rd : ∀ {H : Type} (enc : TypeId × Value → H) (W : World) (fuel : Nat) (cs : List Value) (d : DataW H) (ps : List MemPlace), DataW.trod enc Try.prog W 0 (fun _ => true) true fuel t cs = some (d, ps) → okW (d.weights Try.prog t) →
    ∃ x : α, good x ∧ cs.length = T.n ∧ ∀ (j : Nat) (y : D) (u : Value), (T.enc true x)[j]? = some y → cs[j]? = some u → Rep W (Old W) y u
theorem Rd.int {k : IntKind} {t : TypeId} (ht : Try.prog.underlying t = some (.int k)) : Rd (tInt k) t (fun n => (Lit.int k n).wf = true) := by
  refine ⟨fun enc W fuel cs d ps h _ => ?_⟩
  obtain ⟨n, rfl, _, hw⟩ := DataW.trod_int ht h
  refine ⟨n, hw, rfl, fun j y u h1 h2 => ?_⟩
  cases j with
  | zero => simp at h1 h2; subst h1; subst h2; exact .lit _ rfl
  | succ j => simp at h1
theorem Rd.bool {t : TypeId} (ht : Try.prog.underlying t = some .bool) : Rd tBool t (fun _ => True) := by
  refine ⟨fun enc W fuel cs d ps h _ => ?_⟩
  obtain ⟨n, rfl, _⟩ := DataW.trod_bool ht h
  refine ⟨n, trivial, rfl, fun j y u h1 h2 => ?_⟩
  cases j with
  | zero => simp at h1 h2; subst h1; subst h2; exact .lit _ rfl
  | succ j => simp at h1
theorem weights_all {H : Type} {e : TypeId} : ∀ {l : List (DataW H)} {i : Nat} {d : DataW H}, l[i]? = some d → ∀ n ∈ d.weights Try.prog e, n ∈ DataW.weightsAll Try.prog e l
  | x :: l, 0, d, h, n, hn => by simp at h; subst h; simp only [DataW.weightsAll, List.mem_append]; exact .inl hn
  | x :: l, i + 1, d, h, n, hn => by simp at h; simp only [DataW.weightsAll, List.mem_append]; exact .inr (weights_all h n hn)
  | [], i, d, h, n, hn => by simp at h
theorem choose_list {α : Type} {n : Nat} {P : Nat → α → Prop} (h : ∀ i, i < n → ∃ x, P i x) : ∃ xs : List α, xs.length = n ∧ ∀ (i : Nat) (x : α), xs[i]? = some x → P i x := by
  induction n with
  | zero => exact ⟨[], rfl, fun i x h => by simp at h⟩
  | succ n ih =>
    obtain ⟨xs, h1, h2⟩ := ih fun i hi => h i (by omega)
    obtain ⟨x, hx⟩ := h n (by omega)
    refine ⟨xs ++ [x], by simp [h1], fun i y hy => ?_⟩
    by_cases hi : i < n
    · rw [List.getElem?_append_left (by omega)] at hy; exact h2 i y hy
    · rw [List.getElem?_append_right (by omega)] at hy
      have : i - xs.length = 0 := by
        have := (List.getElem?_eq_some_iff.1 hy).1
        simp at this; omega
      rw [this] at hy
      simp at hy
      subst hy
      have : i = n := by omega
      subst this; exact hx
theorem flatMap_get {α : Type} (T : Ty α) (b : Bool) (xs : List α) (j : Nat) : (xs.flatMap (T.enc b))[j]? = (xs[j / T.n]?).bind fun x => (T.enc b x)[j % T.n]? := by
  have hp := T.pos
  induction xs generalizing j with
  | nil => simp
  | cons x xs ih =>
    rw [List.flatMap_cons]
    by_cases h : j < T.n
    · rw [List.getElem?_append_left (by rw [T.len]; exact h), Nat.div_eq_of_lt h, Nat.mod_eq_of_lt h]; rfl
    · rw [List.getElem?_append_right (by rw [T.len]; omega), T.len, ih]
      have h1 : j / T.n = (j - T.n) / T.n + 1 := by
        rw [Nat.div_eq_sub_div hp (by omega)]
      have h2 : (j - T.n) % T.n = j % T.n := by
        rw [Nat.mod_eq_sub_mod (show j ≥ T.n by omega)]
      rw [h1, h2, List.getElem?_cons_succ]
theorem Rd.slice {α : Type} {T : Ty α} {t e : TypeId} {good : α → Prop} (ht : Try.prog.underlying t = some (.slice e)) (hc : Try.prog.cellsOf e = T.n) (hb : 0 < Try.prog.bytesOf e) (h : Rd T e good) : Rd (tSl e T) t (fun xs => xs.length ≤ maxL ∧ ∀ x ∈ xs, good x) := by
  refine ⟨fun enc W fuel cs d ps hd hw => ?_⟩
  have hp := T.pos
  rcases DataW.trod_slice ht hd with ⟨rfl, _⟩ | ⟨a, len, cap, elems, rest, n, _, rfl, hx, _, hl, hm, hlen, hel, _, _⟩
  · refine ⟨[], ⟨Nat.zero_le _, fun x hx => by simp at hx⟩, rfl, fun j y u h1 h2 => ?_⟩
    cases j with
    | zero => simp at h1 h2; subst h1; subst h2; exact .nil _ _ _
    | succ j => simp at h1
  · obtain ⟨rfl, _⟩ := Prod.mk.inj hx
    have hw1 : (elems.length + rest.length) * Try.prog.bytesOf e ≤ reachBytes := hw _ (by simp [DataW.weights, ht])
    have hw2 : ∀ i (y : DataW _ × List MemPlace), elems[i]? = some y → okW (y.1.weights Try.prog e) := fun i y hy n hn => hw n (by
      simp only [DataW.weights, ht, List.mem_cons, List.mem_append]
      exact .inr (.inl (weights_all (i := i) (by rw [List.getElem?_map, hy]; rfl) n hn)))
    have hmL : len ≤ maxL := by
      have h1 : elems.length + rest.length ≤ (elems.length + rest.length) * Try.prog.bytesOf e := Nat.le_mul_of_pos_right _ hb
      have h2 : reachBytes ≤ maxL := by decide
      omega
    have each : ∀ i, i < len → ∃ x : α, good x ∧ 0 < len ∧ a.block < W.heap.size ∧ ∀ (r : Nat) (y : D), (T.enc true x)[r]? = some y → ∃ u, W.cell? (a.add (i * T.n + r)) = some u ∧ Rep W (Old W) y u := by
      intro i hi
      obtain ⟨y, hy⟩ : ∃ y, elems[i]? = some y := ⟨elems[i]'(by omega), List.getElem?_eq_getElem (by omega)⟩
      have h1 := hel i hi
      rw [hy, Option.bind_eq_some_iff] at h1
      obtain ⟨cs', h2, h3⟩ := h1
      obtain ⟨y1, y2⟩ := y
      obtain ⟨x, hg, hlen', hr⟩ := h.rd enc W n cs' y1 y2 h3 (hw2 i _ hy)
      obtain ⟨_, h5, h6⟩ := World.cells?_some h2
      rw [hc] at h2 h5 h6
      refine ⟨x, hg, by omega, ?_, fun r y hry => ?_⟩
      · have := World.cells?_block h2 hp
        have e1 : (a.add (i * T.n)).block = a.block := add_block _ _
        rw [e1] at this; exact this
      · have hrn : r < T.n := by have := (List.getElem?_eq_some_iff.1 hry).1; rw [T.len] at this; exact this
        have h7 := h6 r hrn
        rw [Addr.add_add] at h7
        obtain ⟨u, hu⟩ : ∃ u, cs'[r]? = some u := ⟨cs'[r]'(by omega), List.getElem?_eq_getElem (by omega)⟩
        rw [hu] at h7
        exact ⟨u, h7, hr r y u hry hu⟩
    obtain ⟨xs, hxl, hxs⟩ := choose_list each
    refine ⟨xs, ⟨by omega, fun x hx => ?_⟩, rfl, fun j y u h1 h2 => ?_⟩
    · obtain ⟨i, hi⟩ := List.getElem?_of_mem hx
      exact (hxs i x hi).1
    · cases j with
      | succ j => simp at h1
      | zero =>
        simp only [tSl_enc, List.getElem?_cons_zero, Option.some.injEq] at h1
        simp at h2; subst h1; subst h2
        have hfl := flatMap_len T true xs
        have hcell : ∀ j, j < (xs.flatMap (T.enc true)).length → ∃ u, W.cell? (a.add j) = some u ∧ ∀ y, (xs.flatMap (T.enc true))[j]? = some y → Rep W (Old W) y u := by
          intro j hj
          obtain ⟨y, hy⟩ : ∃ y, (xs.flatMap (T.enc true))[j]? = some y := ⟨_, List.getElem?_eq_getElem hj⟩
          have hy' := hy
          rw [flatMap_get, Option.bind_eq_some_iff] at hy'
          obtain ⟨x, hx1, hx2⟩ := hy'
          obtain ⟨_, _, _, q⟩ := hxs _ x hx1
          obtain ⟨u, q1, q2⟩ := q _ y hx2
          refine ⟨u, ?_, fun y' hy' => ?_⟩
          · rw [Nat.mul_comm, Nat.div_add_mod] at q1; exact q1
          · rw [hy] at hy'; obtain rfl := Option.some.inj hy'; exact q2
        obtain ⟨us, hul, hus⟩ := choose_list hcell
        refine .row true e T.n _ us len cap (some a) hp (by rw [hfl, hxl]) hul hl hmL (fun h0 => ⟨a, rfl, ?_, fun j u hu => (hus j u hu).1⟩) (fun j y u q1 q2 => (hus j u q2).2 y q1)
        obtain ⟨x, hx⟩ : ∃ x, xs[0]? = some x := ⟨xs[0]'(by omega), List.getElem?_eq_getElem (by omega)⟩
        exact (hxs 0 x hx).2.2.1
/-- a struct's fields, from one on -/
structure Fld {α : Type} (T : Ty α) (fs : List Field) (off : Nat) (good : α → Prop) : Prop where
  rd : ∀ {H : Type} (enc : TypeId × Value → H) (W : World) (n : Nat) (cs : List Value) (xs : List (DataW H × List MemPlace)), xs.length = fs.length →
    (∀ (i : Nat) (f : Field), fs[i]? = some f → DataW.trod enc Try.prog W 0 (fun _ => true) true n f.type ((cs.drop f.offset).take (Try.prog.cellsOf f.type)) = xs[i]?) → okW (DataW.weightsEach Try.prog (fs.map (·.type)) (xs.map (·.1))) →
    ∃ x : α, good x ∧ ∀ (j : Nat) (y : D) (u : Value), (T.enc true x)[j]? = some y → (cs.drop off)[j]? = some u → Rep W (Old W) y u
theorem Fld.one {α : Type} {T : Ty α} {f : Field} {off : Nat} {good : α → Prop} (ho : f.offset = off) (h : Rd T f.type good) : Fld T [f] off good := by
  refine ⟨fun enc W n cs xs hl hf hw => ?_⟩
  obtain ⟨x0, hx0⟩ : ∃ x, xs[0]? = some x := ⟨xs[0]'(by rw [hl]; simp), List.getElem?_eq_getElem (by rw [hl]; simp)⟩
  have h1 := hf 0 f rfl
  rw [hx0] at h1
  obtain ⟨d, ps⟩ := x0
  obtain ⟨x, hg, hlen, hr⟩ := h.rd enc W n _ d ps h1 (fun n hn => hw n (DataW.weights_mem_each (j := 0) rfl (by rw [List.getElem?_map, hx0]; rfl) n hn))
  refine ⟨x, hg, fun j y u q1 q2 => hr j y u q1 ?_⟩
  have hj : j < T.n := by have := (List.getElem?_eq_some_iff.1 q1).1; rw [T.len] at this; exact this
  have hle : ((cs.drop f.offset).take (Try.prog.cellsOf f.type)).length ≤ Try.prog.cellsOf f.type := List.length_take_le _ _
  rw [List.getElem?_take, if_pos (by omega), ho]; exact q2
def gPair {α β : Type} (g : α → Prop) (g' : β → Prop) (x : α × β) : Prop := g x.1 ∧ g' x.2
theorem Fld.cons {α β : Type} {T : Ty α} {U : Ty β} {f : Field} {fs : List Field} {off : Nat} {good : α → Prop} {good' : β → Prop} (ho : f.offset = off) (h : Rd T f.type good) (hs : Fld U fs (off + T.n) good') : Fld (tPair T U) (f :: fs) off (gPair good good') := by
  refine ⟨fun enc W n cs xs hl hf hw => ?_⟩
  cases xs with
  | nil => simp at hl
  | cons x0 xs =>
    have h1 := hf 0 f rfl
    rw [List.getElem?_cons_zero] at h1
    obtain ⟨d, ps⟩ := x0
    obtain ⟨x, hg, hlen, hr⟩ := h.rd enc W n _ d ps h1 (fun n hn => hw n (DataW.weights_mem_each (j := 0) rfl rfl n hn))
    obtain ⟨y, hg', hr'⟩ := hs.rd enc W n cs xs (by simpa using hl) (fun i f' hf' => by
      have := hf (i + 1) f' (by simpa using hf')
      rw [List.getElem?_cons_succ] at this; exact this) (fun n hn => hw n (by
        simp only [List.map_cons, DataW.weightsEach, List.mem_append]
        exact .inr hn))
    refine ⟨(x, y), ⟨hg, hg'⟩, fun j z u q1 q2 => ?_⟩
    simp only [tPair_enc] at q1
    by_cases hj : j < T.n
    · rw [List.getElem?_append_left (by rw [T.len]; exact hj)] at q1
      refine hr j z u q1 ?_
      have hle : ((cs.drop f.offset).take (Try.prog.cellsOf f.type)).length ≤ Try.prog.cellsOf f.type := List.length_take_le _ _
      rw [List.getElem?_take, if_pos (by omega), ho]; exact q2
    · rw [List.getElem?_append_right (by rw [T.len]; omega), T.len] at q1
      refine hr' (j - T.n) z u q1 ?_
      rw [List.getElem?_drop] at q2 ⊢
      rw [show off + T.n + (j - T.n) = off + j by omega]; exact q2
theorem Rd.struct {α : Type} {T : Ty α} {t : TypeId} {fs : Array Field} {good : α → Prop} (ht : Try.prog.underlying t = some (.struct fs)) (hc : Try.prog.cellsOf t = T.n) (h : Fld T fs.toList 0 good) : Rd T t good := by
  refine ⟨fun enc W fuel cs d ps hd hw => ?_⟩
  obtain ⟨xs, n, _, hx, hl, hlen, hf⟩ := DataW.trod_struct ht hd
  obtain ⟨rfl, _⟩ := Prod.mk.inj hx
  obtain ⟨x, hg, hr⟩ := h.rd enc W n cs xs (by simpa using hlen) (fun i f hf' => hf i f (by simpa using hf')) (by
    intro n hn
    refine hw n ?_
    simp only [DataW.weights, ht]
    exact hn)
  exact ⟨x, hg, by rw [hl, hc], fun j y u h1 h2 => hr j y u h1 (by simpa using h2)⟩
theorem argD_enc {α : Type} (ag : Bool) (T : Ty α) (x : α) (h : ag = false → T.n = 1) : argD ag T (.val ag (T.enc true x)) = some x := by
  show (if ag = ag ∧ (ag = false → (T.enc true x).length = 1) then T.dec (T.enc true x) else none) = some x
  rw [if_pos ⟨rfl, fun e => by rw [T.len]; exact h e⟩, T.de]
theorem sp1_enc {α : Type} {a0 : Bool} {T0 : Ty α} {f : α → Option Out} (x0 : α) (h0 : a0 = false → T0.n = 1) : sp1 a0 T0 f [.val a0 (T0.enc true x0)] = f x0 := by
  simp only [sp1, argD_enc _ _ x0 h0, Option.bind_some]
theorem sp2_enc {α β : Type} {a0 : Bool} {T0 : Ty α} {a1 : Bool} {T1 : Ty β} {f : α → β → Option Out} (x0 : α) (x1 : β) (h0 : a0 = false → T0.n = 1) (h1 : a1 = false → T1.n = 1) : sp2 a0 T0 a1 T1 f [.val a0 (T0.enc true x0), .val a1 (T1.enc true x1)] = f x0 x1 := by
  simp only [sp2, argD_enc _ _ x0 h0, argD_enc _ _ x1 h1, Option.bind_some]
theorem sp3_enc {α β γ : Type} {a0 : Bool} {T0 : Ty α} {a1 : Bool} {T1 : Ty β} {a2 : Bool} {T2 : Ty γ} {f : α → β → γ → Option Out} (x0 : α) (x1 : β) (x2 : γ) (h0 : a0 = false → T0.n = 1) (h1 : a1 = false → T1.n = 1) (h2 : a2 = false → T2.n = 1) : sp3 a0 T0 a1 T1 a2 T2 f [.val a0 (T0.enc true x0), .val a1 (T1.enc true x1), .val a2 (T2.enc true x2)] = f x0 x1 x2 := by
  simp only [sp3, argD_enc _ _ x0 h0, argD_enc _ _ x1 h1, argD_enc _ _ x2 h2, Option.bind_some]
theorem sp4_enc {α β γ δ : Type} {a0 : Bool} {T0 : Ty α} {a1 : Bool} {T1 : Ty β} {a2 : Bool} {T2 : Ty γ} {a3 : Bool} {T3 : Ty δ} {f : α → β → γ → δ → Option Out} (x0 : α) (x1 : β) (x2 : γ) (x3 : δ) (h0 : a0 = false → T0.n = 1) (h1 : a1 = false → T1.n = 1) (h2 : a2 = false → T2.n = 1) (h3 : a3 = false → T3.n = 1) : sp4 a0 T0 a1 T1 a2 T2 a3 T3 f [.val a0 (T0.enc true x0), .val a1 (T1.enc true x1), .val a2 (T2.enc true x2), .val a3 (T3.enc true x3)] = f x0 x1 x2 x3 := by
  simp only [sp4, argD_enc _ _ x0 h0, argD_enc _ _ x1 h1, argD_enc _ _ x2 h2, argD_enc _ _ x3 h3, Option.bind_some]
theorem sp5_enc {α β γ δ ε : Type} {a0 : Bool} {T0 : Ty α} {a1 : Bool} {T1 : Ty β} {a2 : Bool} {T2 : Ty γ} {a3 : Bool} {T3 : Ty δ} {a4 : Bool} {T4 : Ty ε} {f : α → β → γ → δ → ε → Option Out} (x0 : α) (x1 : β) (x2 : γ) (x3 : δ) (x4 : ε) (h0 : a0 = false → T0.n = 1) (h1 : a1 = false → T1.n = 1) (h2 : a2 = false → T2.n = 1) (h3 : a3 = false → T3.n = 1) (h4 : a4 = false → T4.n = 1) : sp5 a0 T0 a1 T1 a2 T2 a3 T3 a4 T4 f [.val a0 (T0.enc true x0), .val a1 (T1.enc true x1), .val a2 (T2.enc true x2), .val a3 (T3.enc true x3), .val a4 (T4.enc true x4)] = f x0 x1 x2 x3 x4 := by
  simp only [sp5, argD_enc _ _ x0 h0, argD_enc _ _ x1 h1, argD_enc _ _ x2 h2, argD_enc _ _ x3 h3, argD_enc _ _ x4 h4, Option.bind_some]
section
variable {H : Type} {enc : TypeId × Value → H} {W : World} {t : TypeId} {v : Value} {d : DataW H} {p : List MemPlace}
theorem arg_agg {α : Type} {T : Ty α} {good : α → Prop} (h : Rd T t good) (hv : ∃ cs, v = .agg cs) (hd : DataW.Trod enc Try.prog W 0 (fun _ => true) true t v d p) (hw : okW (d.weights Try.prog t)) :
    ∃ x : α, good x ∧ ArgRep W (Old W) (.val true (T.enc true x)) v := by
  obtain ⟨cs, rfl⟩ := hv
  obtain ⟨fuel, hd⟩ := hd
  obtain ⟨x, hg, hl, hr⟩ := h.rd enc W fuel _ d p hd hw
  exact ⟨x, hg, cs, rfl, by rw [T.len]; simpa [Value.cells] using hl, fun j y u h1 h2 => hr j y u h1 (by simpa [Value.cells] using h2)⟩
theorem arg_one {α : Type} {T : Ty α} {good : α → Prop} (h : Rd T t good) (hn : T.n = 1) (hs : ∀ x, ∀ y ∈ T.enc true x, NilOK y v) (hv : v.cells = #[v]) (hd : DataW.Trod enc Try.prog W 0 (fun _ => true) true t v d p) (hw : okW (d.weights Try.prog t)) :
    ∃ x : α, good x ∧ ArgRep W (Old W) (.val false (T.enc true x)) v := by
  obtain ⟨fuel, hd⟩ := hd
  obtain ⟨x, hg, hl, hr⟩ := h.rd enc W fuel _ d p hd hw
  have hlen : (T.enc true x).length = 1 := by rw [T.len, hn]
  obtain ⟨y, hy⟩ := List.length_eq_one_iff.1 hlen
  exact ⟨x, hg, y, hy, hr 0 y v (by rw [hy]; rfl) (by rw [hv]; rfl), hs x y (by rw [hy]; simp)⟩
/-- behind a law's call: true, and what was there stays -/
theorem law_end {P : Program} {f : Nat} {sp : Spec} {gs : List Arg} {vs : List Value} (hc : Contract P f sp) (hsp : sp gs = some ⟨[(false, [.lit (.bool true)])], []⟩) (hlen : vs.length = gs.length)
    (hrep : ∀ (n : Nat) (g : Arg) (v : Value), gs[n]? = some g → vs[n]? = some v → ArgRep W (Old W) g v) (hp : ∀ (n : Nat) (g : Arg), gs[n]? = some g → isPtr g = false) :
    Calls P f vs.toArray W fun e w' => e = .returned (.bool true) ∧ Below W.heap.size W w' := by
  refine (hc.holds W (Old W) gs vs _ hsp (fun b hb => hb) hlen hrep (fun n n' g g' h1 _ h3 => by rw [hp n g h1] at h3; cases h3)).mono ?_
  rintro e w' ⟨v, F', T, rfl, hq⟩
  have hres := hq.res
  have hv : v = .bool true := by
    have h1 : Own w' F' (.lit (.bool true)) v (T 0 0) := hres
    cases h1; rfl
  subst hv
  refine ⟨rfl, hq.os, hq.tape, hq.output, hq.size, fun b hb => hq.block b hb ?_⟩
  rintro ⟨n, g, v, h1, h2, h3, h4⟩
  rw [hp n g h1] at h3; cases h3
end
theorem okWide_agg {P : Program} {w : World} {r : Reach} {base : Nat} {t : TypeId} {v : Value} {fs : Array Field} (ht : P.underlying t = some (.struct fs)) (h : Value.okWide P w r base t v) : ∃ cs, v = .agg cs := by
  unfold Value.okWide at h
  rw [ht] at h
  obtain ⟨cs, e, _⟩ := h
  exact ⟨cs, e⟩
end Go.Proofs.Ytmbmebfeoejlnaa.Ab
