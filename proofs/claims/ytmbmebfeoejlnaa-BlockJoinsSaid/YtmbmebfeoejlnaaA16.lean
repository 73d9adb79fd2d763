/- Contracts of functions, and calls by contract. -/
import Derived.Test.YtmbmebfeoejlnaaA15
namespace Go.Proofs.Ytmbmebfeoejlnaa.Ab
set_option linter.unusedVariables false
set_option linter.unusedSimpArgs false
open Go.RowKit

def ArgRep (w : World) (F : Nat → Prop) : Arg → Value → Prop
  | .val true xs, v => ∃ us : Array Value, v = .agg us ∧ us.size = xs.length ∧ ∀ (j : Nat) (x : D) (u : Value), xs[j]? = some x → us[j]? = some u → Rep w F x u
  | .val false xs, v => ∃ x, xs = [x] ∧ Rep w F x v ∧ NilOK x v
  | .ptr xs, v => ∃ g us t, v = .pointer (some ⟨g, 0, none⟩) ∧ w.heap[g]? = some (.cells us t (0, 0)) ∧ ¬ F g ∧ us.toList.map D.lit = xs ∧ ∀ u ∈ us.toList, u.oneCell' = true
/-- the block that a pointer leads to -/
def ptrBlk : Value → Nat → Prop
  | .pointer (some ad), b => b = ad.block
  | _, _ => False
def isPtr : Arg → Bool
  | .ptr _ => true
  | _ => false
/-- the blocks that a call may change -/
def Pbs (gs : List Arg) (vs : List Value) (b : Nat) : Prop := ∃ (n : Nat) (g : Arg) (v : Value), gs[n]? = some g ∧ vs[n]? = some v ∧ isPtr g = true ∧ ptrBlk v b
/-- a result's leaves -/
def LeavesOwn (w : World) (F : Nat → Prop) (xs : List D) (us : List Value) (T : Nat → Nat → Prop) : Prop := us.length = xs.length ∧ ∀ (j : Nat) (x : D) (u : Value), xs[j]? = some x → us[j]? = some u → Own w F x u (T j)
def ResOne (w : World) (F : Nat → Prop) (T : Nat → Nat → Prop) : Bool × List D → Value → Prop
  | (true, xs), v => ∃ us : Array Value, v = .agg us ∧ LeavesOwn w F xs us.toList T
  | (false, [x]), v => Own w F x v (T 0)
  | (false, _), _ => False
def ResAll (w : World) (F : Nat → Prop) (rs : List (Bool × List D)) (v : Value) (T : Nat → Nat → Nat → Prop) : Prop :=
  match rs with
  | [r] => ResOne w F (T 0) r v
  | rs => ∃ us : Array Value, v = .tuple us ∧ us.size = rs.length ∧ ∀ (n : Nat) (r : Bool × List D) (u : Value), rs[n]? = some r → us[n]? = some u → ResOne w F (T n) r u
/-- behind a call -/
structure PostC (w : World) (F : Nat → Prop) (gs : List Arg) (vs : List Value) (out : Out) (v : Value) (w' : World) (F' : Nat → Prop) (T : Nat → Nat → Nat → Prop) : Prop where
  res : ResAll w' F' out.res v T
  fF : ∀ b, F' b → anyShared out.res = true ∧ (F b ∨ w.heap.size ≤ b ∧ b < w'.heap.size)
  fT : ∀ i j b, T i j b → w.heap.size ≤ b ∧ b < w'.heap.size ∧ ¬ F' b
  dis : ∀ i j i' j' b, T i j b → T i' j' b → i = i' ∧ j = j'
  os : w'.os = w.os
  tape : w'.tape = w.tape
  output : w'.output = w.output
  size : w.heap.size ≤ w'.heap.size
  block : ∀ b, b < w.heap.size → ¬ Pbs gs vs b → w'.heap[b]? = w.heap[b]?
  st : ∀ (n : Nat) (xs : List D) (g : Nat) (us : Array Value) (t : Nat), gs[n]? = some (.ptr xs) → vs[n]? = some (.pointer (some ⟨g, 0, none⟩)) → w.heap[g]? = some (.cells us t (0, 0)) →
    ∃ us' ys, out.st = [ys] ∧ w'.heap[g]? = some (.cells us' t (0, 0)) ∧ us'.toList.map D.lit = ys ∧ us'.size = us.size ∧ ∀ u ∈ us'.toList, u.oneCell' = true
structure Contract (P : Program) (f : Nat) (sp : Spec) : Prop where
  call : ∃ fn c, P.funcs[f]? = some fn ∧ (fn.name == "runtime.NumGoroutine") = false ∧ fn.body = some c
  holds : ∀ (w : World) (F : Nat → Prop) (gs : List Arg) (vs : List Value) (out : Out), sp gs = some out → (∀ b, F b → b < w.heap.size) → vs.length = gs.length →
    (∀ (n : Nat) (g : Arg) (v : Value), gs[n]? = some g → vs[n]? = some v → ArgRep w F g v) → (∀ (n n' : Nat) (g g' : Arg), gs[n]? = some g → gs[n']? = some g' → isPtr g = true → isPtr g' = true → n = n') →
    Calls P f vs.toArray w fun e w' => ∃ v F' T, e = .returned v ∧ PostC w F gs vs out v w' F' T

section
variable {C : Cx} {fr : Fr} {N : Nat} {σ σ1 : St} {G G1 : Gh} {a : Act} {w : World} {ws : List Wr} {o : Oper}

theorem litsOf_ok : ∀ {ls : List LV} {us : List Value} {xs : List D}, LsOK σ.o G w ls us → litsOf ls = some xs → us.map D.lit = xs ∧ xs.length = ls.length
  | [], us, xs, hl, h => by
    have : us = [] := List.eq_nil_of_length_eq_zero hl.1
    subst this
    simp only [litsOf, Option.some.injEq] at h
    subst h; exact ⟨rfl, rfl⟩
  | l :: ls, us, xs, hl, h => by
    cases us with
    | nil => have := hl.1; simp at this
    | cons u us =>
      unfold litsOf at h
      split at h
      · rename_i hnil; cases hnil
      · rename_i v ls' hls
        injection hls with e1 e2
        subst e1; subst e2
        obtain ⟨ys, hy, rfl⟩ := Option.map_eq_some_iff.1 h
        obtain ⟨q1, q2⟩ := litsOf_ok (us := us) ⟨by have := hl.1; simpa using this, fun n l' u' h1 h2 => hl.2 (n + 1) l' u' (by simpa using h1) (by simpa using h2)⟩ hy
        have e := Rep.lit_inv (F := G.F) (hl.2 0 _ u rfl rfl).1
        exact ⟨by simp [q1, e], by simp [q2]⟩
      · cases h
/-- frozen, a leaf is shared -/
def FzRep (σ : St) (G : Gh) (w : World) (ls : List LV) (P : (Nat → Prop) → Prop) : Prop :=
  P (All σ G) ∧ ∀ (σ1 : St) (G1 : Gh), Moves σ.o σ1.o G G1 w w → (∀ l, l ∈ ls → ∀ i v p s m, l = .ref i v p s m → (σ1.o i) = { σ.o i with st := .fz }) → (∀ i, (σ1.o i).st = .fz → Rep w G1.F (σ1.o i).d (G1.val i)) → P G1.F
theorem FzRep.more {ls ls' : List LV} {P : (Nat → Prop) → Prop} (h : FzRep σ G w ls P) (hs : ∀ l, l ∈ ls → l ∈ ls') : FzRep σ G w ls' P := ⟨h.1, fun σ1 G1 hm hf hr => h.2 σ1 G1 hm (fun l hl => hf l (hs l hl)) hr⟩
theorem FzRep.and {ls : List LV} {P Q R : (Nat → Prop) → Prop} (h1 : FzRep σ G w ls P) (h2 : FzRep σ G w ls Q) (h : ∀ F, P F → Q F → R F) : FzRep σ G w ls R := ⟨h _ h1.1 h2.1, fun σ1 G1 hm hf hr => h _ (h1.2 σ1 G1 hm hf hr) (h2.2 σ1 G1 hm hf hr)⟩
theorem lv_fz (hi : Inv fr N σ G a w) {l : LV} {u : Value} {k : D → E} (hl : LOK σ.o G w l u) (h : (lvD l k).run σ = some ws) : ∃ x, (k x).run σ = some ws ∧ FzRep σ G w [l] (fun F => Rep w F x u) := by
  cases l with
  | d x => exact ⟨x, h, Rep.frame (F := G.F) hl.1 (fun b hb => .inl hb) (fun _ _ => rfl), fun σ1 G1 hm _ _ => hl.1.frame hm.F hm.h⟩
  | ref i v p s m =>
    simp only [lvD, E.run] at h
    split at h
    · rename_i hg
      split at h
      · rename_i sh e kk xs hat
        refine ⟨_, h, ?_, fun σ1 G1 hm hf hr => ?_⟩
        · obtain ⟨sh', e', k', xs', u0, h1, h2, h3⟩ := hl.2.2 hg
          rw [hat] at h1
          simp only [Option.some.injEq, D.sl.injEq] at h1
          obtain ⟨rfl, rfl, rfl, rfl⟩ := h1
          exact ((hi.objRep hg.2.1).at' h2 hat).cut h3
        · have hl1 := LOK.move hm hl
          have e1 := hf _ (by simp) i v p s m rfl
          obtain ⟨sh', e', k', xs', u0, h1, h2, h3⟩ := hl1.2.2 ⟨by rw [e1]; exact hg.1, by rw [e1]; simp, by rw [e1]; exact hg.2.2⟩
          have hrep := hr i (by rw [e1])
          have hd : (σ1.o i).d = (σ.o i).d := by rw [e1]; rfl
          rw [hd] at h1 h2 hrep
          rw [hat] at h1
          simp only [Option.some.injEq, D.sl.injEq] at h1
          obtain ⟨rfl, rfl, rfl, rfl⟩ := h1
          exact (hrep.at' h2 hat).cut h3
      · simp [E.run] at h
    · simp [E.run] at h
theorem lvs_fz (hi : Inv fr N σ G a w) : ∀ {ls : List LV} {us : List Value} {k : List D → E}, LsOK σ.o G w ls us → (lvsD ls k).run σ = some ws → ∃ xs, (k xs).run σ = some ws ∧ us.length = xs.length ∧
    FzRep σ G w ls (fun F => ∀ (j : Nat) (x : D) (u : Value), xs[j]? = some x → us[j]? = some u → Rep w F x u)
  | [], us, k, hl, h => by
    have : us = [] := List.eq_nil_of_length_eq_zero hl.1
    subst this
    exact ⟨[], h, rfl, fun j x u h1 => by simp at h1, fun _ _ _ _ _ j x u h1 => by simp at h1⟩
  | l :: ls, us, k, hl, h => by
    cases us with
    | nil => have := hl.1; simp at this
    | cons u us =>
      simp only [lvsD] at h
      obtain ⟨x, h, hr⟩ := lv_fz hi (hl.2 0 l u rfl rfl) h
      obtain ⟨xs, h, hlen, hrs⟩ := lvs_fz hi (us := us) ⟨by have := hl.1; simpa using this, fun n l' u' h1 h2 => hl.2 (n + 1) l' u' (by simpa using h1) (by simpa using h2)⟩ h
      refine ⟨x :: xs, h, by simp [hlen], (hr.more (by simp)).and (hrs.more (by simp; intro l h; exact .inr h)) (fun F h1 h2 j y v h3 h4 => ?_)⟩
      cases j with
      | zero => simp at h3 h4; subst h3; subst h4; exact h1
      | succ j => exact h2 j y v (by simpa using h3) (by simpa using h4)
theorem argE_ok (hi : Inv fr N σ G a w) {av : AV} {v : Value} {k : Arg → List LV → List Nat → E} (hs : SOK σ.o σ.b G w av v) (h : (argE av k).run σ = some ws) :
    ∃ g ls bs, (k g ls bs).run σ = some ws ∧ (isPtr g = false → bs = [] ∧ FzRep σ G w ls (fun F => ArgRep w F g v)) ∧
      (∀ ys, g = .ptr ys → ∃ j us, bs = [j] ∧ ls = [] ∧ (σ.b j).live = true ∧ v = .pointer (some ⟨G.blk j, 0, none⟩) ∧ w.heap[G.blk j]? = some (.cells us (σ.b j).t (0, 0)) ∧ us.toList.map D.lit = ys ∧ (∀ u ∈ us.toList, u.oneCell' = true) ∧ us.size = (σ.b j).cs.length) := by
  unfold argE at h
  split at h
  · rename_i x
    have hl : LOK σ.o G w (.d x) v := hs
    have hr : FzRep σ G w [.d x] (fun F => Rep w F x v) := ⟨Rep.frame (F := G.F) hl.1 (fun b hb => .inl hb) (fun _ _ => rfl), fun σ1 G1 hm _ _ => hl.1.frame hm.F hm.h⟩
    exact ⟨_, _, _, h, fun _ => ⟨rfl, hr.and hr (fun F h1 _ => ⟨x, rfl, h1, hl.2⟩)⟩, fun ys e => by cases e⟩
  · rename_i l _
    obtain ⟨x, h, hr⟩ := lv_fz hi (show LOK σ.o G w l v from hs) h
    exact ⟨_, _, _, h, fun _ => ⟨rfl, hr.and hr (fun F h1 _ => ⟨_, rfl, shareC_rep h1, shareC_nil⟩)⟩, fun ys e => by cases e⟩
  · rename_i ls
    obtain ⟨us, e, hls⟩ := hs
    obtain ⟨xs, h, hlen, hr⟩ := lvs_fz hi hls h
    refine ⟨_, _, _, h, fun _ => ⟨rfl, hr.and hr (fun F h1 _ => ⟨us, e, by simpa using hlen, fun j x u h2 h3 => h1 j x u h2 (by simpa using h3)⟩)⟩, fun ys e => by cases e⟩
  · rename_i j v'
    simp only [E.run] at h
    split at h
    · rename_i hl
      split at h
      · rename_i xs hx
        obtain ⟨us, hc, hls⟩ := hi.boxes j hl.1
        obtain ⟨q1, q2⟩ := litsOf_ok hls hx
        refine ⟨_, _, _, h, (fun e => by cases e), fun ys e => ?_⟩
        injection e with e
        subst e
        exact ⟨j, us, rfl, rfl, hl.1, SOK.fld_now hs hl, hc, q1, hls.ones, by have := hls.1; simpa using this⟩
      · simp [E.run] at h
    · simp [E.run] at h
  · simp [E.run] at h
structure ArgsOK (σ : St) (G : Gh) (w : World) (vs : List Value) (gs : List Arg) (ls : List LV) (bs : List Nat) : Prop where
  len : vs.length = gs.length
  rep : ∀ (n : Nat) (g : Arg) (v : Value), gs[n]? = some g → vs[n]? = some v → isPtr g = false → FzRep σ G w ls (fun F => ArgRep w F g v)
  ptr : ∀ (n : Nat) (ys : List D) (v : Value), gs[n]? = some (.ptr ys) → vs[n]? = some v → ∃ j us, j ∈ bs ∧ (σ.b j).live = true ∧ v = .pointer (some ⟨G.blk j, 0, none⟩) ∧ w.heap[G.blk j]? = some (.cells us (σ.b j).t (0, 0)) ∧ us.toList.map D.lit = ys ∧ (∀ u ∈ us.toList, u.oneCell' = true) ∧ us.size = (σ.b j).cs.length
  one : bs = [] → ∀ (n : Nat) (g : Arg), gs[n]? = some g → isPtr g = false
  has : ∀ j, j ∈ bs → ∃ (n : Nat) (ys : List D), gs[n]? = some (.ptr ys) ∧ vs[n]? = some (.pointer (some ⟨G.blk j, 0, none⟩)) ∧ (σ.b j).live = true
  uniq : ∀ j, bs = [j] → ∀ (n n' : Nat) (g g' : Arg), gs[n]? = some g → gs[n']? = some g' → isPtr g = true → isPtr g' = true → n = n'
theorem argsE_ok (hi : Inv fr N σ G a w) {P : Program} : ∀ {xs : List Operand} {ts : List Nat} {k : List Arg → List LV → List Nat → E}, (argsE P xs ts k).run σ = some ws → ∃ gs ls bs, (k gs ls bs).run σ = some ws ∧ ArgsOK σ G w (xs.map a.eval) gs ls bs
  | [], ts, k, h => ⟨[], [], [], h, rfl, fun n g v h => by simp at h, fun n g v h => by simp at h, fun _ n g h => by simp at h, fun j h => by simp at h, fun j h => by simp at h⟩
  | x :: xs, ts, k, h => by
    simp only [argsE] at h
    obtain ⟨av, h, hs⟩ := opdT_ok hi h
    obtain ⟨g, ls, bs, h, hval, hptr⟩ := argE_ok hi hs h
    obtain ⟨gs, ls2, bs2, h, ha⟩ := argsE_ok hi (xs := xs) h
    have hbs : isPtr g = true → ∃ j, bs = [j] := fun hp => by
      cases g with
      | val => cases hp
      | ptr ys => obtain ⟨j, us, e, _⟩ := hptr ys rfl; exact ⟨j, e⟩
    refine ⟨g :: gs, ls ++ ls2, bs ++ bs2, h, by simp [← ha.len], fun n g' v h1 h2 hp => ?_, fun n ys v h1 h2 => ?_, fun hb n g' h1 => ?_, fun j hj => ?_, fun j hb n n' g1 g2 h1 h2 h3 h4 => ?_⟩
    · cases n with
      | zero => simp at h1 h2; subst h1; subst h2; exact (hval hp).2.more (by simp; intro l h; exact .inl h)
      | succ n => exact (ha.rep n g' v (by simpa using h1) (by simpa using h2) hp).more (by simp; intro l h; exact .inr h)
    · cases n with
      | zero =>
        simp at h1 h2; subst h2
        obtain ⟨j, us, e, _, r⟩ := hptr ys h1
        exact ⟨j, us, by simp [e], r⟩
      | succ n =>
        obtain ⟨j, us, e, r⟩ := ha.ptr n ys v (by simpa using h1) (by simpa using h2)
        exact ⟨j, us, by simp [e], r⟩
    · obtain ⟨hb1, hb2⟩ := List.append_eq_nil_iff.1 hb
      cases n with
      | zero =>
        simp at h1; subst h1
        cases hg : isPtr g with
        | false => rfl
        | true => obtain ⟨j, e⟩ := hbs hg; rw [hb1] at e; cases e
      | succ n => exact ha.one hb2 n g' (by simpa using h1)
    · rcases List.mem_append.1 hj with hj | hj
      · cases g with
        | val => have := (hval rfl).1; rw [this] at hj; cases hj
        | ptr ys =>
          obtain ⟨j', us, e, _, r1, r2, _⟩ := hptr ys rfl
          rw [e] at hj
          obtain rfl := List.mem_singleton.1 hj
          exact ⟨0, ys, rfl, by simp [r2], r1⟩
      · obtain ⟨n, ys, h1, h2, h3⟩ := ha.has j hj
        exact ⟨n + 1, ys, by simpa using h1, by simpa using h2, h3⟩
    · have hnil : isPtr g = true → bs2 = [] := fun hp => by
        obtain ⟨j', e⟩ := hbs hp
        rw [e] at hb
        simp at hb
        exact hb.2
      have hcons : isPtr g = false → bs2 = [j] := fun hp => by
        have := (hval hp).1
        rw [this] at hb
        simpa using hb
      cases n with
      | zero =>
        simp at h1; subst h1
        cases n' with
        | zero => rfl
        | succ n' => have := ha.one (hnil h3) n' g2 (by simpa using h2); rw [h4] at this; cases this
      | succ n =>
        cases n' with
        | zero =>
          simp at h2; subst h2
          have := ha.one (hnil h4) n g1 (by simpa using h1); rw [h3] at this; cases this
        | succ n' =>
          cases hg : isPtr g with
          | true => have := ha.one (hnil hg) n g1 (by simpa using h1); rw [h3] at this; cases this
          | false => rw [ha.uniq j (hcons hg) n n' g1 g2 (by simpa using h1) (by simpa using h2) h3 h4]
end
end Go.Proofs.Ytmbmebfeoejlnaa.Ab
