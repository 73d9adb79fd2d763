/- States by description: what is live; loops and joins. -/
import Derived.Test.YtmbmebfeoejlnaaA28
namespace Go.Proofs.Ytmbmebfeoejlnaa.Ab
set_option linter.unusedVariables false
set_option linter.unusedSimpArgs false
open Go.RowKit
structure Ds where
  S : List (Nat × AV)
  O : List (Nat × Obj)
  B : List (Nat × Box)
def ovr {α : Type} : List (Nat × α) → (Nat → α) → Nat → α
  | [], f => f
  | (n, x) :: l, f => fun t => if t = n then x else ovr l f t
attribute [simp] ovr
def Ds.st (d : Ds) (o : Nat → Obj) (b : Nat → Box) : St := ⟨slots d.S, ovr d.O o, ovr d.B b⟩
def Ds.Fit (d : Ds) (σ : St) : Prop := (∀ p ∈ d.S, σ.s p.1 = p.2) ∧ (∀ p ∈ d.O, σ.o p.1 = p.2) ∧ ∀ p ∈ d.B, σ.b p.1 = p.2
def keepS (σ : St) (l : List Nat) : List (Nat × AV) := l.map fun t => (t, σ.s t)
def keepO (σ : St) (l : List Nat) : List (Nat × Obj) := l.map fun t => (t, σ.o t)
def keepB (σ : St) (l : List Nat) : List (Nat × Box) := l.map fun t => (t, σ.b t)
def DeadO (o : Nat → Obj) : Prop := ∀ i, (o i).st = .dead
def DeadB (b : Nat → Box) : Prop := ∀ j, (b j).live = false
theorem DeadO.st {o : Nat → Obj} (h : DeadO o) (i : Nat) : (o i).st = .dead := h i
theorem DeadB.st {b : Nat → Box} (h : DeadB b) (i : Nat) : (b i).live = false := h i
theorem ovr_or {α : Type} {l : List (Nat × α)} {f g : Nat → α} (h : ∀ p ∈ l, g p.1 = p.2) : ∀ t, ovr l f t = g t ∨ ovr l f t = f t := by
  induction l with
  | nil => intro t; exact .inr rfl
  | cons p l ih =>
    intro t
    obtain ⟨n, x⟩ := p
    simp only [ovr]
    by_cases e : t = n
    · rw [if_pos e]; subst e; exact .inl (h (t, x) (by simp)).symm
    · rw [if_neg e]; exact ih (fun p hp => h p (by simp [hp])) t
section
variable {C : Cx} {fr : Fr} {N : Nat} {σ : St} {Q : Exit → St → Prop} {c : Code} {G : Gh} {a : Act} {w : World}
theorem LOK.less {O O' : Nat → Obj} (h : ∀ i, O' i = O i ∨ O' i = { O i with st := .dead }) {l : LV} {u : Value} (hl : LOK O G w l u) : LOK O' G w l u := by
  cases l with
  | d x => exact hl
  | ref i v p s m =>
    obtain ⟨h1, h2, h3⟩ := hl
    rcases h i with e | e
    · exact ⟨by rw [e]; exact h1, h2, by rw [e]; exact h3⟩
    · refine ⟨by rw [e]; exact h1, h2, fun hg => ?_⟩
      rw [e] at hg
      exact absurd rfl hg.2.1
theorem LsOK.less {O O' : Nat → Obj} (h : ∀ i, O' i = O i ∨ O' i = { O i with st := .dead }) {ls : List LV} {us : List Value} (hl : LsOK O G w ls us) : LsOK O' G w ls us := ⟨hl.1, fun n l u h1 h2 => (hl.2 n l u h1 h2).less h⟩
theorem SOK.less {O O' : Nat → Obj} {B B' : Nat → Box} (h : ∀ i, O' i = O i ∨ O' i = { O i with st := .dead }) (hb : ∀ j, B' j = B j ∨ B' j = { B j with live := false }) {x : AV} {u : Value} (hs : SOK O B G w x u) : SOK O' B' G w x u := by
  cases x with
  | l l => exact LOK.less h hs
  | agg ls => obtain ⟨us, e, h1⟩ := hs; exact ⟨us, e, h1.less h⟩
  | tup vs =>
    obtain ⟨us, e, h1, h2⟩ := hs
    refine ⟨us, e, h1, fun n x y h3 h4 => ?_⟩
    have := h2 n x y h3 h4
    obtain ⟨b, ls⟩ := x
    cases b with
    | true => obtain ⟨us, e, h5⟩ := this; exact ⟨us, e, h5.less h⟩
    | false =>
      match ls, this with
      | [l], h5 => exact LOK.less h h5
  | fld j v off =>
    obtain ⟨h1, h2⟩ := hs
    rcases hb j with e | e
    · exact ⟨by rw [e]; exact h1, by rw [e]; exact h2⟩
    · exact ⟨by rw [e]; exact h1, by rw [e]; intro h; cases h⟩
  | el i v p s c =>
    obtain ⟨h1, h2⟩ := hs
    rcases h i with e | e
    · exact ⟨by rw [e]; exact h1, by rw [e]; exact h2⟩
    · refine ⟨by rw [e]; exact h1, fun hg => ?_⟩
      rw [e] at hg
      exact absurd rfl hg.2.1
  | adr xs => exact hs
  | ub => exact hs
  | und => exact hs
  | dead => trivial
theorem Inv.lesser (hi : Inv fr N σ G a w) {σ' : St} (hs : ∀ t, σ'.s t = σ.s t ∨ σ'.s t = .dead) (h : ∀ i, σ'.o i = σ.o i ∨ σ'.o i = { σ.o i with st := .dead }) (hb : ∀ j, σ'.b j = σ.b j ∨ σ'.b j = { σ.b j with live := false }) : Inv fr N σ' G a w := by
  have ho : ∀ i, (σ'.o i).st = .own → σ'.o i = σ.o i ∧ (σ.o i).st = .own := fun i hi' => by
    rcases h i with e | e
    · exact ⟨e, by rw [← e]; exact hi'⟩
    · rw [e] at hi'; cases hi'
  have hz : ∀ i, (σ'.o i).st = .fz → σ'.o i = σ.o i ∧ (σ.o i).st = .fz := fun i hi' => by
    rcases h i with e | e
    · exact ⟨e, by rw [← e]; exact hi'⟩
    · rw [e] at hi'; cases hi'
  have hl : ∀ j, (σ'.b j).live = true → σ'.b j = σ.b j ∧ (σ.b j).live = true := fun j hj => by
    rcases hb j with e | e
    · exact ⟨e, by rw [← e]; exact hj⟩
    · rw [e] at hj; cases hj
  refine ⟨hi.size, hi.defers, fun t => ?_, fun i h1 => ?_, fun i h1 => ?_, fun j h1 => ?_, fun i b h1 => hi.sF i b (ho i h1).2, fun i i' b h1 h2 => hi.sS i i' b (ho i h1).2 (ho i' h2).2, fun j h1 => hi.bF j (hl j h1).2, fun j i h1 h2 => hi.bS j i (hl j h1).2 (ho i h2).2,
    ⟨fun j j' h1 h2 => hi.bB.1 j j' (hl j h1).2 (hl j' h2).2, fun j x hx => ?_⟩, hi.rF, fun i b h1 => hi.rS i b (ho i h1).2, fun j h1 => hi.rB j (hl j h1).2, hi.Fw, hi.frame⟩
  · rcases hs t with e | e
    · rw [e]; exact (hi.slots t).less h hb
    · rw [e]; trivial
  · obtain ⟨e, h2⟩ := ho i h1
    rw [e]; exact hi.objs i h2
  · obtain ⟨e, h2⟩ := hz i h1
    rw [e]; exact hi.fzs i h2
  · obtain ⟨e, h2⟩ := hl j h1
    rw [e]
    obtain ⟨us, h3, h4⟩ := hi.boxes j h2
    exact ⟨us, h3, h4.less h⟩
  · rcases hb j with e | e
    · rw [e]; exact hi.bB.2 j x hx
    · rw [e]; exact hi.bB.2 j x hx
/-- nil is an object without elements -/
theorem Sat.nilK (t i e k : Nat) (ht : σ.s t = .l (.d (.sl false e k []))) (hd : (σ.o i).st = .dead) (h : Sat C fr N c ⟨upd σ.s t (.l (.ref i ((σ.o i).v + 1) [] 0 none)), upd σ.o i ⟨(σ.o i).v + 1, 0, .own, e, k, []⟩, σ.b⟩ Q) : Sat C fr N c σ Q := Sat.nil t i e k ht hd h
theorem Sat.fit (d : Ds) (h : d.Fit σ) (k : ∀ o b, DeadO o → DeadB b → Sat C fr N c (d.st o b) Q) : Sat C fr N c σ Q := by
  intro G a w hi
  refine k (fun i => { σ.o i with st := .dead }) (fun j => { σ.b j with live := false }) (fun _ => rfl) (fun _ => rfl) G a w (hi.lesser (fun t => ?_) (fun i => ovr_or h.2.1 i) (fun j => ovr_or h.2.2 j))
  rcases slots_get (l := d.S) (t := t) with e | e
  · exact .inr e
  · exact .inl (h.1 _ e).symm
theorem Sat.loopD {ι : Type} (D : ι → Ds) (P : ι → Prop) (μ : ι → Nat) (i0 : ι) (h0 : P i0) (hf : (D i0).Fit σ)
    (round : ∀ i, P i → ∀ o b, DeadO o → DeadB b → Sat C fr N c ((D i).st o b) (thenQ (fun s' => ∃ i', P i' ∧ (D i').Fit s' ∧ μ i' < μ i) Q)) : Sat C fr N (.loop c) σ Q := by
  intro G a w hi
  refine wp_loop_ghost (fun n a w => ∃ i s g, P i ∧ μ i = n ∧ (D i).Fit s ∧ Inv fr N s g a w) (μ i0) ⟨i0, σ, G, h0, rfl, hf, hi⟩ ?_
  rintro n a w ⟨i, s, g, hP, rfl, hfit, hi⟩
  refine wp_mono (Sat.fit (D i) hfit (round i hP) g a w hi) ?_
  rintro e a' w' ⟨s', g', q, i'⟩
  cases e with
  | normal => obtain ⟨j, q1, q2, q3⟩ := q; exact ⟨μ j, q3, j, s', g', q1, rfl, q2, i'⟩
  | exit id => exact ⟨s', g', q, i'⟩
  | goto l => exact ⟨s', g', q, i'⟩
  | ret => exact ⟨s', g', q, i'⟩
  | panic ch => exact ⟨s', g', q, i'⟩
  | outgrown => exact ⟨s', g', q, i'⟩
/-! the rules with what follows behind a name -/
theorem Sat.seqK {x y : Code} (h : ∀ K : Exit → St → Prop, (∀ s, Sat C fr N y s Q → K .normal s) → (∀ e s, e ≠ .normal → Q e s → K e s) → Sat C fr N x σ K) : Sat C fr N (.seq x y) σ Q := by
  refine Sat.seq (h _ (fun s hs => hs) (fun e s he hq => ?_))
  cases e with
  | normal => exact absurd rfl he
  | exit => exact hq
  | goto l => exact hq
  | ret => exact hq
  | panic ch => exact hq
  | outgrown => exact hq
theorem Sat.blockK {id : Nat} (h : ∀ K : Exit → St → Prop, (∀ s, Q .normal s → K .normal s) → (∀ s, Q .normal s → K (.exit id) s) → (∀ e s, e ≠ .normal → e ≠ .exit id → Q e s → K e s) → Sat C fr N c σ K) : Sat C fr N (.block id c) σ Q := by
  refine Sat.block (h _ (fun s hs => hs) (fun s hs => by simp only [blockQ, if_true]; exact hs) (fun e s he hx hq => ?_))
  cases e with
  | normal => exact absurd rfl he
  | exit id' =>
    simp only [blockQ]
    rw [if_neg (fun e => hx (by rw [e]))]
    exact hq
  | goto l => exact hq
  | ret => exact hq
  | panic ch => exact hq
  | outgrown => exact hq
def FitL {α : Type} (f : Nat → α) : List (Nat × α) → Prop
  | [] => True
  | (n, x) :: l => f n = x ∧ FitL f l
theorem FitL.all {α : Type} {f : Nat → α} : ∀ {l : List (Nat × α)}, FitL f l → ∀ p ∈ l, f p.1 = p.2
  | [], _, p, hp => by simp at hp
  | (n, x) :: l, h, p, hp => by
    rcases List.mem_cons.1 hp with rfl | hp
    · exact h.1
    · exact FitL.all h.2 p hp
theorem FitL.app {α : Type} {f : Nat → α} : ∀ {l l' : List (Nat × α)}, FitL f l → FitL f l' → FitL f (l ++ l')
  | [], _, _, h => h
  | (n, x) :: l, l', h, h' => ⟨h.1, FitL.app h.2 h'⟩
theorem FitL.keep {α : Type} {f : Nat → α} : ∀ {l : List Nat} {U : List (Nat × α)}, (l.map fun t => (t, f t)) = U → FitL f U
  | [], U, h => by subst h; trivial
  | t :: l, U, h => by subst h; exact ⟨rfl, FitL.keep rfl⟩
structure Ds.Fits (d : Ds) (s : St) : Prop where
  S : FitL s.s d.S
  O : FitL s.o d.O
  B : FitL s.b d.B
theorem Ds.Fits.fit {d : Ds} {s : St} (h : d.Fits s) : d.Fit s := ⟨h.S.all, h.O.all, h.B.all⟩
def Ds.app (d e : Ds) : Ds := ⟨d.S ++ e.S, d.O ++ e.O, d.B ++ e.B⟩
theorem Ds.Fits.app {d e : Ds} {s : St} (h : d.Fits s) (h' : e.Fits s) : (d.app e).Fits s := ⟨h.S.app h'.S, h.O.app h'.O, h.B.app h'.B⟩
/-- what is kept of a state -/
structure Kept (σ : St) (ls lo lb : List Nat) (e : Ds) : Prop where
  S : keepS σ ls = e.S
  O : keepO σ lo = e.O
  B : keepB σ lb = e.B
theorem Kept.fits {ls lo lb : List Nat} {e : Ds} (h : Kept σ ls lo lb e) : e.Fits σ := ⟨FitL.keep h.S, FitL.keep h.O, FitL.keep h.B⟩
/-- A loop in its block: D tells what turns, E what is kept. -/
theorem Sat.loopK {ι : Type} {id : Nat} {E : Ds} (ls lo lb : List Nat) (hE : Kept σ ls lo lb E) {y : Code} {Q' : Exit → St → Prop} (hy : ∀ s, Sat C fr N y s Q' → Q .normal s) (D : ι → Ds) (P R : ι → Prop) (μ : ι → Nat) (i0 : ι) (h0 : P i0) (hf : (D i0).Fits σ)
    (round : ∀ i, P i → ∀ o b, DeadO o → DeadB b → ∀ K : Exit → St → Prop, (∀ i' s', P i' → μ i' < μ i → (D i').Fits s' → E.Fits s' → K .normal s') → (∀ i' s', R i' → (D i').Fits s' → E.Fits s' → K (.exit id) s') →
      (∀ e s, e ≠ .normal → e ≠ .exit id → Q e s → K e s) → Sat C fr N c (((D i).app E).st o b) K)
    (fin : ∀ i, R i → ∀ o b, DeadO o → DeadB b → Sat C fr N y (((D i).app E).st o b) Q') : Sat C fr N (.block id (.loop c)) σ Q := by
  refine Sat.blockK fun K h1 h2 h3 => ?_
  refine Sat.loopD (fun i => (D i).app E) P μ i0 h0 (hf.app hE.fits).fit fun i hP o b ho hb => ?_
  refine round i hP o b ho hb _ (fun i' s' q1 q2 q3 q4 => ⟨i', q1, (q3.app q4).fit, q2⟩) (fun i' s' q1 q2 q3 => h2 _ (hy _ (Sat.fit _ (q2.app q3).fit fun o b ho hb => fin i' q1 o b ho hb))) (fun e s q1 q2 q3 => ?_)
  have := h3 e s q1 q2 q3
  cases e with
  | normal => exact absurd rfl q1
  | exit => exact this
  | goto l => exact this
  | ret => exact this
  | panic ch => exact this
  | outgrown => exact this
theorem Sat.joinK {ι : Type} {E : Ds} (ls lo lb : List Nat) (hE : Kept σ ls lo lb E) {y : Code} {Q' : Exit → St → Prop} (hy : ∀ s, Sat C fr N y s Q' → Q .normal s) (D : ι → Ds) (R : ι → Prop)
    (h : ∀ K : Exit → St → Prop, (∀ i s, R i → (D i).Fits s → E.Fits s → K .normal s) → (∀ e s, e ≠ .normal → Q e s → K e s) → Sat C fr N c σ K)
    (fin : ∀ i, R i → ∀ o b, DeadO o → DeadB b → Sat C fr N y (((D i).app E).st o b) Q') : Sat C fr N c σ Q := by
  have key : Sat C fr N c σ (thenQ (fun s => ∃ i, R i ∧ ((D i).app E).Fits s) Q) := by
    refine h _ (fun i s q1 q2 q3 => ⟨i, q1, q2.app q3⟩) (fun e s he hq => ?_)
    cases e with
    | normal => exact absurd rfl he
    | exit => exact hq
    | goto l => exact hq
    | ret => exact hq
    | panic ch => exact hq
    | outgrown => exact hq
  refine key.mono fun e s hq => ?_
  cases e with
  | normal => obtain ⟨i, q1, q2⟩ := hq; exact hy _ (Sat.fit _ q2.fit fun o b ho hb => fin i q1 o b ho hb)
  | exit id' => exact hq
  | goto l => exact hq
  | ret => exact hq
  | panic ch => exact hq
  | outgrown => exact hq
end
@[simp] theorem beqI (a b : Int) : (a == b) = decide (a = b) := by by_cases h : a = b <;> simp [h]
@[simp] theorem bneI (a b : Int) : (a != b) = !decide (a = b) := by by_cases h : a = b <;> simp [h]
theorem w64_id (x : Int) (h : -9223372036854775808 ≤ x) (h2 : x < 9223372036854775808) : IntKind.i64.wrap x = x := by
  unfold IntKind.wrap
  simp only [IntKind.bits, IntKind.signed]
  simp
  omega
theorem w64s (j : Nat) (h : j < 9223372036854775807) : IntKind.i64.wrap ((j : Int) + 1) = (j : Int) + 1 := w64_id _ (by omega) (by omega)
end Go.Proofs.Ytmbmebfeoejlnaa.Ab
