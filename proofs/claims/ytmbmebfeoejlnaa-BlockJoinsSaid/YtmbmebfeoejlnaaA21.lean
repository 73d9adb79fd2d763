/- A function's contract from its body: what a call begins with, what it hands back. -/
import Derived.Test.YtmbmebfeoejlnaaA20
import Derived.Laws.Sem
namespace Go.Proofs.Ytmbmebfeoejlnaa.Ab
set_option linter.unusedVariables false
set_option linter.unusedSimpArgs false
open Go.RowKit

mutual
/-- nothing shared anywhere within -/
def D.pure : D → Bool
  | .sl sh _ _ xs => !sh && pureL xs
  | _ => true
def pureL : List D → Bool
  | [] => true
  | x :: xs => x.pure && pureL xs
end
theorem pureL_get : ∀ {xs : List D} {j : Nat} {x : D}, pureL xs = true → xs[j]? = some x → x.pure = true
  | [], j, x, _, h => by simp at h
  | y :: xs, 0, x, h, h2 => by
    simp only [pureL, Bool.and_eq_true] at h
    simp at h2; subst h2; exact h.1
  | y :: xs, j + 1, x, h, h2 => by
    simp only [pureL, Bool.and_eq_true] at h
    exact pureL_get h.2 (by simpa using h2)
theorem Own.pure {w : World} {F F' : Nat → Prop} {x : D} {v : Value} {S : Nat → Prop} (h : Own w F x v S) (hp : x.pure = true) : Own w F' x v S := by
  induction h with
  | lit v S h => exact .lit v S h
  | hole v S h => exact .hole v S h
  | nil e k S => exact .nil e k S
  | shared e k xs v S h => simp [D.pure] at hp
  | row e k xs us n c g cur S T hk hn hc hm hcm hS hw hcur hus hx hT hd ih =>
    simp only [D.pure, Bool.not_false, Bool.true_and] at hp
    exact .row e k xs us n c g cur S T hk hn hc hm hcm hS hw hcur hus (fun j x u h1 h2 => ih j x u h1 h2 (pureL_get hp h1)) hT hd

def argAV (t : Nat) : Arg → AV
  | .val true xs => .agg (xs.map fun x => .d (shareC x))
  | .val false [x] => .l (.d x)
  | .val false _ => .dead
  | .ptr _ => .fld (64 * t + 63) 1 0
def argBox (tt : Nat) : Option Arg → Box
  | some (.ptr xs) => ⟨1, true, tt, xs.map .d⟩
  | _ => ⟨0, false, 0, []⟩
/-- what a call begins with -/
def enter (gs : List Arg) (tt : Nat) : St where
  s t := match gs[t]? with
    | some g => argAV t g
    | none => .und
  o _ := ⟨0, 0, .dead, 0, 0, []⟩
  b j := if j % 64 = 63 then argBox tt gs[j / 64]? else ⟨0, false, 0, []⟩
def resAV (P : Program) (σ : St) : ResultVar → Option AV
  | .tmp t => some (σ.s t)
  | .cell a t => match σ.s a with
    | .fld j v off => if (σ.b j).live = true ∧ (σ.b j).v = v ∧ tkn P t = true ∧ tsz P t ≠ 0 then
        if tagg P t then (if (((σ.b j).cs.drop off).take (tsz P t)).length = tsz P t then some (.agg (((σ.b j).cs.drop off).take (tsz P t))) else none)
        else match ((σ.b j).cs.drop off).take 1 with
          | [l] => some (.l l)
          | _ => none
      else none
    | _ => none
def resAVs (P : Program) (σ : St) : List ResultVar → Option (List AV)
  | [] => some []
  | r :: rs => (resAV P σ r).bind fun x => (resAVs P σ rs).map fun xs => x :: xs
/-- a leaf handed back, and the object that it uses up -/
def outLeaf (σ : St) (sh : Bool) (l : LV) (used : List Nat) : Option (D × List Nat) := match l with
  | .d (.lit v) => some (.lit v, used)
  | .d (.sl false e k []) => some (.sl false e k [], used)
  | .d (.sl true e k xs) => if sh then some (.sl true e k xs, used) else none
  | .d _ => none
  | .ref i v p s m => if (σ.o i).v = v ∧ (p = [] ∨ (σ.o i).s = s) then match (σ.o i).st with
      | .own => if p = [] ∧ i ∉ used ∧ (sh = true ∨ pureL (σ.o i).xs = true) then some (cutD (.sl false (σ.o i).e (σ.o i).k (σ.o i).xs) m, i :: used) else none
      | .fz => if sh then match (σ.o i).d.at p with
          | some (.sl _ e k xs) => some (shareC (cutD (.sl true e k xs) m), used)
          | _ => none
        else none
      | .dead => none
    else none
def outLeafs (σ : St) (sh : Bool) : List LV → List Nat → Option (List D × List Nat)
  | [], used => some ([], used)
  | l :: ls, used => (outLeaf σ sh l used).bind fun p => (outLeafs σ sh ls p.2).map fun q => (p.1 :: q.1, q.2)
def outVal (σ : St) (sh : Bool) (x : AV) (used : List Nat) : Option ((Bool × List D) × List Nat) := match x with
  | .l l => (outLeaf σ sh l used).map fun p => ((false, [p.1]), p.2)
  | .agg ls => (outLeafs σ sh ls used).map fun p => ((true, p.1), p.2)
  | _ => none
def outAll (σ : St) (sh : Bool) : List AV → List Nat → Option (List (Bool × List D) × List Nat)
  | [], used => some ([], used)
  | x :: xs, used => (outVal σ sh x used).bind fun p => (outAll σ sh xs p.2).map fun q => (p.1 :: q.1, q.2)
/-- the variables that the call was handed -/
def ptrOK (out : Out) (σ : St) : Nat → List Arg → Prop
  | _, [] => True
  | n, .val _ _ :: gs => ptrOK out σ (n + 1) gs
  | n, .ptr xs :: gs => ((σ.b (64 * n + 63)).live = true ∧ (σ.b (64 * n + 63)).v = 1 ∧ (litsOf (σ.b (64 * n + 63)).cs).map (fun ys => [ys]) = some out.st ∧ (σ.b (64 * n + 63)).cs.length = xs.length) ∧ ptrOK out σ (n + 1) gs
def RetOK (P : Program) (rs : List ResultVar) (gs : List Arg) (out : Out) (σ : St) : Prop :=
  someP (fun avs => someP (fun r => r.1 = out.res) (outAll σ (anyShared out.res) avs [])) (resAVs P σ rs) ∧ ptrOK out σ 0 gs
def RetQ (P : Program) (rs : List ResultVar) (gs : List Arg) (out : Out) : Exit → St → Prop
  | .normal, σ | .ret, σ => RetOK P rs gs out σ
  | _, _ => False

section
variable {C : Cx} {fr : Fr} {N : Nat} {σ : St} {G : Gh} {a : Act} {w : World}
def FF (sh : Bool) (G : Gh) (b : Nat) : Prop := sh = true ∧ G.F b
theorem outLeaf_ok (hi : Inv fr N σ G a w) {sh : Bool} {l : LV} {u : Value} {used used' : List Nat} {x : D} (hl : LOK σ.o G w l u) (h : outLeaf σ sh l used = some (x, used')) :
    ∃ T : Nat → Prop, Own w (FF sh G) x u T ∧ (∀ b, T b → ∃ i, i ∈ used' ∧ i ∉ used ∧ (σ.o i).st = .own ∧ G.S i b) ∧ ∀ i, i ∈ used → i ∈ used' := by
  unfold outLeaf at h
  split at h
  · rename_i v
    simp only [Option.some.injEq, Prod.mk.injEq] at h
    obtain ⟨rfl, rfl⟩ := h
    have e := Rep.lit_inv hl.1
    subst e
    exact ⟨_, .lit u (fun _ => False) hl.1.one, fun b hb => hb.elim, fun _ h => h⟩
  · rename_i e k
    simp only [Option.some.injEq, Prod.mk.injEq] at h
    obtain ⟨rfl, rfl⟩ := h
    rw [show u = .slice none 0 0 from hl.2]
    exact ⟨_, .nil e k (fun _ => False), fun b hb => hb.elim, fun _ h => h⟩
  · rename_i e k xs
    split at h
    · rename_i hs
      simp only [Option.some.injEq, Prod.mk.injEq] at h
      obtain ⟨rfl, rfl⟩ := h
      exact ⟨_, .shared e k xs u (fun _ => False) (hl.1.frame (fun _ h => ⟨hs, h⟩) (fun _ _ => rfl)), fun b hb => hb.elim, fun _ h => h⟩
    · cases h
  · cases h
  · rename_i i v p s m
    split at h
    · rename_i hg
      split at h
      · rename_i hst
        split at h
        · rename_i hc
          simp only [Option.some.injEq, Prod.mk.injEq] at h
          obtain ⟨rfl, rfl⟩ := h
          obtain ⟨rfl, hu, hp⟩ := hc
          obtain ⟨sh', e', k', xs', u0, h1, h2, h3⟩ := hl.2.2 ⟨hg.1, by rw [hst]; simp, .inl rfl⟩
          have h2' := h2.nil_inv rfl
          subst h2'
          have ho := hi.objs i hst
          have ho2 : Own w (FF sh G) (.sl false (σ.o i).e (σ.o i).k (σ.o i).xs) (G.val i) (G.S i) := by
            rcases hp with hp | hp
            · exact ho.frame (fun _ h => h) (fun _ h => ⟨hp, h⟩) (fun _ _ => rfl)
            · exact Own.pure ho (by simp [Obj.d, D.pure, hp])
          exact ⟨G.S i, ho2.cut h3, fun b hb => ⟨i, by simp, hu, hst, hb⟩, fun j hj => by simp [hj]⟩
        · cases h
      · rename_i hst
        split at h
        · rename_i hs
          split at h
          · rename_i sh2 e k xs hat
            simp only [Option.some.injEq, Prod.mk.injEq] at h
            obtain ⟨rfl, rfl⟩ := h
            obtain ⟨sh', e', k', xs', u0, h1, h2, h3⟩ := hl.2.2 ⟨hg.1, by rw [hst]; simp, hg.2⟩
            have hr := (((hi.fzs i hst).at' h2 hat).share (sh' := true)).cut h3
            have hr2 : Rep w (FF sh G) (cutD (.sl true e k xs) m) u := hr.frame (fun _ h => ⟨hs, h⟩) (fun _ _ => rfl)
            exact ⟨_, own_d (shareC_rep hr2) shareC_nil, fun b hb => hb.elim, fun _ h => h⟩
          · cases h
        · cases h
      · cases h
    · cases h
theorem outLeafs_ok (hi : Inv fr N σ G a w) {sh : Bool} : ∀ {ls : List LV} {us : List Value} {used used' : List Nat} {xs : List D}, LsOK σ.o G w ls us → outLeafs σ sh ls used = some (xs, used') →
    ∃ T : Nat → Nat → Prop, LeavesOwn w (FF sh G) xs us T ∧ (∀ j b, T j b → ∃ i, i ∈ used' ∧ i ∉ used ∧ (σ.o i).st = .own ∧ G.S i b) ∧ (∀ j j' b, T j b → T j' b → j = j') ∧ ∀ i, i ∈ used → i ∈ used'
  | [], us, used, used', xs, hl, h => by
    have : us = [] := List.eq_nil_of_length_eq_zero hl.1
    subst this
    simp only [outLeafs, Option.some.injEq, Prod.mk.injEq] at h
    obtain ⟨rfl, rfl⟩ := h
    exact ⟨fun _ _ => False, ⟨rfl, fun j x u h => by simp at h⟩, fun _ _ h => h.elim, fun _ _ _ h => h.elim, fun _ h => h⟩
  | l :: ls, us, used, used', xs, hl, h => by
    cases us with
    | nil => have := hl.1; simp at this
    | cons u us =>
      simp only [outLeafs] at h
      obtain ⟨⟨x, used1⟩, h1, h2⟩ := Option.bind_eq_some_iff.1 h
      obtain ⟨⟨xs1, used2⟩, h3, h4⟩ := Option.map_eq_some_iff.1 h2
      simp only [Prod.mk.injEq] at h4
      obtain ⟨rfl, rfl⟩ := h4
      obtain ⟨T0, q1, q2, q3⟩ := outLeaf_ok hi (hl.2 0 l u rfl rfl) h1
      obtain ⟨T, r1, r2, r3, r4⟩ := outLeafs_ok hi (us := us) ⟨by have := hl.1; simpa using this, fun n l' u' h1 h2 => hl.2 (n + 1) l' u' (by simpa using h1) (by simpa using h2)⟩ h3
      refine ⟨fun j b => match j with
        | 0 => T0 b
        | j + 1 => T j b, ⟨by simp [r1.1], fun j y v h5 h6 => ?_⟩, fun j b hb => ?_, fun j j' b hb hb' => ?_, fun i h => r4 i (q3 i h)⟩
      · cases j with
        | zero => simp at h5 h6; subst h5; subst h6; exact q1
        | succ j => exact r1.2 j y v (by simpa using h5) (by simpa using h6)
      · cases j with
        | zero => obtain ⟨i, s1, s2, s3⟩ := q2 b hb; exact ⟨i, r4 i s1, s2, s3⟩
        | succ j => obtain ⟨i, s1, s2, s3⟩ := r2 j b hb; exact ⟨i, s1, fun h => s2 (q3 i h), s3⟩
      · cases j with
        | zero => cases j' with
          | zero => rfl
          | succ j' =>
            obtain ⟨i, s1, s2, s3, s4⟩ := q2 b hb
            obtain ⟨i', t1, t2, t3, t4⟩ := r2 j' b hb'
            rw [hi.sS i i' b s3 t3 s4 t4] at s1
            exact absurd s1 t2
        | succ j => cases j' with
          | zero =>
            obtain ⟨i, s1, s2, s3, s4⟩ := q2 b hb'
            obtain ⟨i', t1, t2, t3, t4⟩ := r2 j b hb
            rw [hi.sS i i' b s3 t3 s4 t4] at s1
            exact absurd s1 t2
          | succ j' => rw [r3 j j' b hb hb']
theorem outVal_ok (hi : Inv fr N σ G a w) {sh : Bool} {x : AV} {u : Value} {used used' : List Nat} {r : Bool × List D} (hx : SOK σ.o σ.b G w x u) (h : outVal σ sh x used = some (r, used')) :
    ∃ T : Nat → Nat → Prop, ResOne w (FF sh G) T r u ∧ (∀ j b, T j b → ∃ i, i ∈ used' ∧ i ∉ used ∧ (σ.o i).st = .own ∧ G.S i b) ∧ (∀ j j' b, T j b → T j' b → j = j') ∧ ∀ i, i ∈ used → i ∈ used' := by
  unfold outVal at h
  split at h
  · rename_i l
    obtain ⟨⟨y, used1⟩, h1, h2⟩ := Option.map_eq_some_iff.1 h
    simp only [Prod.mk.injEq] at h2
    obtain ⟨rfl, rfl⟩ := h2
    obtain ⟨T0, q1, q2, q3⟩ := outLeaf_ok hi hx h1
    exact ⟨fun j b => j = 0 ∧ T0 b, Own.mono q1 (fun b hb => ⟨rfl, hb⟩), fun j b hb => q2 b hb.2, fun j j' b hb hb' => hb.1.trans hb'.1.symm, q3⟩
  · rename_i ls
    obtain ⟨⟨ys, used1⟩, h1, h2⟩ := Option.map_eq_some_iff.1 h
    simp only [Prod.mk.injEq] at h2
    obtain ⟨rfl, rfl⟩ := h2
    obtain ⟨us, e, hls⟩ := hx
    obtain ⟨T, q1, q2, q3, q4⟩ := outLeafs_ok hi hls h1
    exact ⟨T, ⟨us, e, q1⟩, q2, q3, q4⟩
  · cases h
theorem outAll_ok (hi : Inv fr N σ G a w) {sh : Bool} : ∀ {xs : List AV} {us : List Value} {used used' : List Nat} {rs : List (Bool × List D)}, us.length = xs.length → (∀ (n : Nat) (x : AV) (u : Value), xs[n]? = some x → us[n]? = some u → SOK σ.o σ.b G w x u) → outAll σ sh xs used = some (rs, used') →
    ∃ T : Nat → Nat → Nat → Prop, us.length = rs.length ∧ (∀ (n : Nat) (r : Bool × List D) (u : Value), rs[n]? = some r → us[n]? = some u → ResOne w (FF sh G) (T n) r u) ∧ (∀ n j b, T n j b → ∃ i, i ∈ used' ∧ i ∉ used ∧ (σ.o i).st = .own ∧ G.S i b) ∧ (∀ n j n' j' b, T n j b → T n' j' b → n = n' ∧ j = j')
  | [], us, used, used', rs, hlen, hs, h => by
    have : us = [] := List.eq_nil_of_length_eq_zero hlen
    subst this
    simp only [outAll, Option.some.injEq, Prod.mk.injEq] at h
    obtain ⟨rfl, rfl⟩ := h
    exact ⟨fun _ _ _ => False, rfl, fun j x u h => by simp at h, fun _ _ _ h => h.elim, fun _ _ _ _ _ h => h.elim⟩
  | x :: xs, us, used, used', rs, hlen, hs, h => by
    cases us with
    | nil => simp at hlen
    | cons u us =>
      simp only [outAll] at h
      obtain ⟨⟨r, used1⟩, h1, h2⟩ := Option.bind_eq_some_iff.1 h
      obtain ⟨⟨rs1, used2⟩, h3, h4⟩ := Option.map_eq_some_iff.1 h2
      simp only [Prod.mk.injEq] at h4
      obtain ⟨rfl, rfl⟩ := h4
      obtain ⟨T0, q1, q2, q4, q3⟩ := outVal_ok hi (hs 0 x u rfl rfl) h1
      obtain ⟨T, r0, r1, r2, r3⟩ := outAll_ok hi (us := us) (by simpa using hlen) (fun n x' u' h1 h2 => hs (n + 1) x' u' (by simpa using h1) (by simpa using h2)) h3
      refine ⟨fun n j b => match n with
        | 0 => T0 j b
        | n + 1 => T n j b, by simp [r0], fun n y v h5 h6 => ?_, fun n j b hb => ?_, fun n j n' j' b hb hb' => ?_⟩
      · cases n with
        | zero => simp at h5 h6; subst h5; subst h6; exact q1
        | succ j => exact r1 j y v (by simpa using h5) (by simpa using h6)
      · cases n with
        | zero => 
          obtain ⟨i, s1, s2, s3⟩ := q2 j b hb
          have hmono : ∀ {xs : List AV} {a b : List Nat} {rs : List (Bool × List D)}, outAll σ sh xs a = some (rs, b) → ∀ i, i ∈ a → i ∈ b := by
            intro xs
            induction xs with
            | nil => intro a b rs h; simp only [outAll, Option.some.injEq, Prod.mk.injEq] at h; obtain ⟨_, rfl⟩ := h; exact fun _ h => h
            | cons x xs ih =>
              intro a b rs h
              simp only [outAll] at h
              obtain ⟨⟨r, c⟩, h1, h2⟩ := Option.bind_eq_some_iff.1 h
              obtain ⟨⟨rs1, d⟩, h3, h4⟩ := Option.map_eq_some_iff.1 h2
              simp only [Prod.mk.injEq] at h4
              obtain ⟨_, rfl⟩ := h4
              refine fun i hi => ih h3 i ?_
              have hl : ∀ {l : LV} {a b : List Nat} {y : D}, outLeaf σ sh l a = some (y, b) → ∀ i, i ∈ a → i ∈ b := by
                intro l a b y h i hi
                unfold outLeaf at h
                repeat' split at h
                all_goals (first | (cases h; done) | (simp only [Option.some.injEq, Prod.mk.injEq] at h; obtain ⟨_, rfl⟩ := h; simp [hi]))
              have hls : ∀ {ls : List LV} {a b : List Nat} {y : List D}, outLeafs σ sh ls a = some (y, b) → ∀ i, i ∈ a → i ∈ b := by
                intro ls
                induction ls with
                | nil => intro a b y h; simp only [outLeafs, Option.some.injEq, Prod.mk.injEq] at h; obtain ⟨_, rfl⟩ := h; exact fun _ h => h
                | cons l ls ih2 =>
                  intro a b y h i hi
                  simp only [outLeafs] at h
                  obtain ⟨⟨r, c⟩, h1, h2⟩ := Option.bind_eq_some_iff.1 h
                  obtain ⟨⟨rs1, d⟩, h3, h4⟩ := Option.map_eq_some_iff.1 h2
                  simp only [Prod.mk.injEq] at h4
                  obtain ⟨_, rfl⟩ := h4
                  exact ih2 h3 i (hl h1 i hi)
              unfold outVal at h1
              split at h1
              · obtain ⟨⟨y, c'⟩, h5, h6⟩ := Option.map_eq_some_iff.1 h1
                simp only [Prod.mk.injEq] at h6
                obtain ⟨_, rfl⟩ := h6
                exact hl h5 i hi
              · obtain ⟨⟨y, c'⟩, h5, h6⟩ := Option.map_eq_some_iff.1 h1
                simp only [Prod.mk.injEq] at h6
                obtain ⟨_, rfl⟩ := h6
                exact hls h5 i hi
              · cases h1
          exact ⟨i, hmono h3 i s1, s2, s3⟩
        | succ n => obtain ⟨i, s1, s2, s3⟩ := r2 n j b hb; exact ⟨i, s1, fun h => s2 (q3 i h), s3⟩
      · cases n with
        | zero => cases n' with
          | zero => exact ⟨rfl, q4 j j' b hb hb'⟩
          | succ n' =>
            obtain ⟨i, s1, s2, s3, s4⟩ := q2 j b hb
            obtain ⟨i', t1, t2, t3, t4⟩ := r2 n' j' b hb'
            rw [hi.sS i i' b s3 t3 s4 t4] at s1
            exact absurd s1 t2
        | succ n => cases n' with
          | zero =>
            obtain ⟨i, s1, s2, s3, s4⟩ := q2 j' b hb'
            obtain ⟨i', t1, t2, t3, t4⟩ := r2 n j b hb
            rw [hi.sS i i' b s3 t3 s4 t4] at s1
            exact absurd s1 t2
          | succ n' => obtain ⟨e1, e2⟩ := r3 n j n' j' b hb hb'; exact ⟨by rw [e1], e2⟩
end
end Go.Proofs.Ytmbmebfeoejlnaa.Ab
