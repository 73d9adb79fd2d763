/- Steps that the machine does not take: slots are forgotten; nil becomes an object. -/
import Derived.Test.YtmbmebfeoejlnaaA26
namespace Go.Proofs.Ytmbmebfeoejlnaa.Ab
set_option linter.unusedVariables false
set_option linter.unusedSimpArgs false
open Go.RowKit
@[simp] theorem decInts {k : IntKind} (xs : List Int) (n : Nat) (h : xs.length ≤ n) : decAll (tInt k) n (xs.map fun x => .lit (.int k x)) = some xs := decAll_map' rfl (fun x => by simp) xs n h
@[simp] theorem decRows {k : IntKind} {e : Nat} {b : Bool} (xs : List (List Int)) (n : Nat) (h : xs.length ≤ n) : decAll (tSl e (tInt k)) n (xs.map fun r => .sl b e 1 (r.map fun x => .lit (.int k x))) = some xs := decAll_map' rfl (fun x => by simp) xs n h
@[simp] theorem decMats {k : IntKind} {e e' : Nat} {b b' : Bool} (xs : List (List (List Int))) (n : Nat) (h : xs.length ≤ n) : decAll (tSl e' (tSl e (tInt k))) n (xs.map fun m => .sl b' e' 1 (m.map fun r => .sl b e 1 (r.map fun x => .lit (.int k x)))) = some xs := decAll_map' rfl (fun x => by simp) xs n h
section
variable {C : Cx} {fr : Fr} {N : Nat} {σ : St} {G : Gh} {a : Act} {w : World} {Q : Exit → St → Prop} {c : Code}
theorem Inv.reslots (hi : Inv fr N σ G a w) {s : Nat → AV} (h : ∀ t, SOK σ.o σ.b G w (s t) (a.tmps.getD t undef)) : Inv fr N { σ with s := s } G a w :=
  ⟨hi.size, hi.defers, h, hi.objs, hi.fzs, hi.boxes, hi.sF, hi.sS, hi.bF, hi.bS, hi.bB, hi.rF, hi.rS, hi.rB, hi.Fw, hi.frame⟩
/-- the slots that are still wanted -/
@[simp] def slots : List (Nat × AV) → Nat → AV
  | [], _ => .dead
  | (n, x) :: l, t => if t = n then x else slots l t
theorem slots_get : ∀ {l : List (Nat × AV)} {t : Nat}, slots l t = .dead ∨ (t, slots l t) ∈ l
  | [], t => .inl rfl
  | (n, x) :: l, t => by
    by_cases h : t = n
    · subst h; right; simp
    · rcases slots_get (l := l) (t := t) with h2 | h2
      · left; simp [h, h2]
      · right; simp [h, h2]
theorem Sat.keep (l : List (Nat × AV)) (hl : ∀ p ∈ l, σ.s p.1 = p.2) (h : Sat C fr N c ⟨slots l, σ.o, σ.b⟩ Q) : Sat C fr N c σ Q := by
  intro G a w hi
  refine h G a w (hi.reslots fun t => ?_)
  rcases slots_get (l := l) (t := t) with e | e
  · rw [e]; trivial
  · have := hl _ e
    simp only at this
    rw [← this]; exact hi.slots t
/-- nil is an object without elements -/
theorem Sat.nil (t i e k : Nat) (ht : σ.s t = .l (.d (.sl false e k []))) (hd : (σ.o i).st = .dead) (h : Sat C fr N c ((σ.wr (.o i ⟨(σ.o i).v + 1, 0, .own, e, k, []⟩)).wr (.s t (.l (.ref i ((σ.o i).v + 1) [] 0 none)))) Q) : Sat C fr N c σ Q := by
  intro G a w hi
  have hs := hi.slots t
  rw [ht] at hs
  have hu : a.tmps.getD t undef = .slice none 0 0 := hs.2
  have h1 := hi.newObj (e := e) (k := k) (xs := []) (v := .slice none 0 0) (S := fun _ => False) (.nil e k _) (fun b hb => hb.elim) i
  refine h _ a w (Inv.reslots h1 fun t' => ?_)
  by_cases htt : t' = t
  · subst htt
    rw [hu]
    show SOK _ _ _ _ (upd _ t' _ t') _
    simp only [upd, if_true]
    exact ⟨.inr ⟨by simp [St.wr, upd], by simp [St.wr, upd]⟩, rfl, fun _ => ⟨_, _, _, _, _, rfl, .nil _ _, by simp [upd]; rfl⟩⟩
  · show SOK _ _ _ _ (upd _ t _ t') _
    simp only [upd, htt, if_false]
    exact h1.slots t'
end
end Go.Proofs.Ytmbmebfeoejlnaa.Ab
