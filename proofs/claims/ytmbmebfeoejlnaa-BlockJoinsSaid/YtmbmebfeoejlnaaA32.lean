/- What is frozen is read as data: a step that the machine does not take. -/
import Derived.Test.YtmbmebfeoejlnaaA31
namespace Go.Proofs.Ytmbmebfeoejlnaa.Ab
set_option linter.unusedVariables false
set_option linter.unusedSimpArgs false
open Go.RowKit
/-- a leaf that leads to a frozen object, as data -/
def plainLV (O : Nat → Obj) : LV → LV
  | .d x => .d x
  | .ref i v p s m => if (O i).v = v ∧ (O i).st = .fz ∧ p = [] then .d (shareC (cutD (O i).d m)) else .ref i v p s m
def plainAV (O : Nat → Obj) : AV → AV
  | .l l => .l (plainLV O l)
  | .agg ls => .agg (ls.map (plainLV O))
  | x => x
def plainB (O : Nat → Obj) (b : Box) : Box := ⟨b.v, b.live, b.t, b.cs.map (plainLV O)⟩
def plain (σ : St) : St := ⟨fun t => plainAV σ.o (σ.s t), σ.o, fun j => plainB σ.o (σ.b j)⟩
theorem shareC_cut {w : World} {F : Nat → Prop} {x : D} {u u0 : Value} {m : Option Nat} (h : Rep w F x u0) (hc : CutV u0 m u) (hs : ∃ sh e k xs, x = .sl sh e k xs) : Rep w F (cutD x m) u := by
  obtain ⟨sh, e, k, xs, rfl⟩ := hs
  exact h.cut hc
section
variable {C : Cx} {fr : Fr} {N : Nat} {σ : St} {G : Gh} {a : Act} {w : World}
theorem LOK.plain (hi : Inv fr N σ G a w) {l : LV} {u : Value} (h : LOK σ.o G w l u) : LOK σ.o G w (plainLV σ.o l) u := by
  cases l with
  | d x => exact h
  | ref i v p s m =>
    simp only [plainLV]
    split
    · rename_i hc
      obtain ⟨hv, hz, rfl⟩ := hc
      obtain ⟨h1, h2, h3⟩ := h
      obtain ⟨sh, e, k, xs, u0, q1, q2, q3⟩ := h3 ⟨hv, by rw [hz]; simp, .inl rfl⟩
      rw [at_nil] at q1
      have hr := hi.fzs i hz
      obtain rfl := q2.nil_inv rfl
      have := shareC_rep (shareC_cut hr q3 ⟨_, _, _, _, rfl⟩)
      exact ⟨this, shareC_nil⟩
    · exact h
theorem LsOK.plain (hi : Inv fr N σ G a w) {ls : List LV} {us : List Value} (h : LsOK σ.o G w ls us) : LsOK σ.o G w (ls.map (plainLV σ.o)) us := by
  refine ⟨by simpa using h.1, fun n l u h1 h2 => ?_⟩
  rw [List.getElem?_map] at h1
  obtain ⟨l', h3, rfl⟩ := Option.map_eq_some_iff.1 h1
  exact LOK.plain hi (h.2 n l' u h3 h2)
theorem SOK.plainB {O : Nat → Obj} {B : Nat → Box} {x : AV} {u : Value} (f : Nat → Obj) (h : SOK O B G w x u) : SOK O (fun j => Ab.plainB f (B j)) G w x u := by
  cases x with
  | fld j v off => exact h
  | _ => exact h
theorem Weak.plain : Weak fr N σ (plain σ) := by
  intro G a w hi
  refine ⟨G, hi.size, hi.defers, fun t => ?_, hi.objs, hi.fzs, fun j hj => ?_, hi.sF, hi.sS, hi.bF, hi.bS, hi.bB, hi.rF, hi.rS, hi.rB, hi.Fw, hi.frame⟩
  · have hs := hi.slots t
    refine SOK.plainB σ.o ?_
    show SOK σ.o σ.b G w (plainAV σ.o (σ.s t)) _
    revert hs
    cases hx : σ.s t with
    | l l => intro hs; exact LOK.plain hi hs
    | agg ls => intro hs; obtain ⟨us, e, h1⟩ := hs; exact ⟨us, e, h1.plain hi⟩
    | _ => exact fun hs => hs
  · obtain ⟨us, h1, h2⟩ := hi.boxes j hj
    exact ⟨us, h1, h2.plain hi⟩
end
/-- a thing is frozen, and what is frozen read as data -/
theorem Sat.frz {C : Cx} {fr : Fr} {N : Nat} {σ : St} {Q : Exit → St → Prop} {c : Code} (i : Nat) (hd : (σ.o i).st ≠ .dead) (h : Sat C fr N c ⟨σ.s, upd σ.o i ⟨(σ.o i).v, (σ.o i).s, .fz, (σ.o i).e, (σ.o i).k, (σ.o i).xs⟩, σ.b⟩ Q) : Sat C fr N c σ Q := Sat.pre (Weak.frz (i := i) hd) h
theorem Sat.plain {C : Cx} {fr : Fr} {N : Nat} {σ : St} {Q : Exit → St → Prop} {c : Code} (h : Sat C fr N c (plain σ) Q) : Sat C fr N c σ Q := Sat.pre Weak.plain h
@[simp] theorem plain_mk {s : Nat → AV} {o : Nat → Obj} {b : Nat → Box} : plain ⟨s, o, b⟩ = ⟨fun t => plainAV o (s t), o, fun j => plainB o (b j)⟩ := rfl
@[simp] theorem plainLV_d {O : Nat → Obj} {x : D} : plainLV O (.d x) = .d x := rfl
@[simp] theorem plainLV_ref {O : Nat → Obj} {i v : Nat} {p : List Nat} {s : Nat} {m : Option Nat} : plainLV O (.ref i v p s m) = if (O i).v = v ∧ (O i).st = .fz ∧ p = [] then .d (shareC (cutD (O i).d m)) else .ref i v p s m := rfl
@[simp] theorem plainAV_l {O : Nat → Obj} {l : LV} : plainAV O (.l l) = .l (plainLV O l) := rfl
@[simp] theorem plainAV_agg {O : Nat → Obj} {ls : List LV} : plainAV O (.agg ls) = .agg (ls.map (plainLV O)) := rfl
@[simp] theorem plainAV_fld {O : Nat → Obj} {j v off : Nat} : plainAV O (.fld j v off) = .fld j v off := rfl
@[simp] theorem plainAV_und {O : Nat → Obj} : plainAV O .und = .und := rfl
@[simp] theorem plainAV_dead {O : Nat → Obj} : plainAV O .dead = .dead := rfl
@[simp] theorem plainB_mk {O : Nat → Obj} {v : Nat} {l : Bool} {t : Nat} {cs : List LV} : plainB O ⟨v, l, t, cs⟩ = ⟨v, l, t, cs.map (plainLV O)⟩ := rfl
theorem zeros_one (x : D) : ∀ n, zeros [x] n = List.replicate n x
  | 0 => rfl
  | n + 1 => by rw [zeros, zeros_one x n]; rfl
/-- of a box it is forgotten what is nil -/
def shLV : LV → LV
  | .d x => .d (shareC x)
  | l => l
def shB (b : Box) : Box := ⟨b.v, b.live, b.t, b.cs.map shLV⟩
theorem LOK.sh {O : Nat → Obj} {G : Gh} {w : World} {l : LV} {u : Value} (h : LOK O G w l u) : LOK O G w (shLV l) u := by
  cases l with
  | d x => exact ⟨shareC_rep h.1, shareC_nil⟩
  | ref => exact h
theorem SOK.box {O : Nat → Obj} {B B' : Nat → Box} {G : Gh} {w : World} {x : AV} {u : Value} (hb : ∀ j, (B' j).v = (B j).v ∧ (B' j).live = (B j).live) (h : SOK O B G w x u) : SOK O B' G w x u := by
  cases x with
  | fld j v off =>
    obtain ⟨h1, h2⟩ := h
    refine ⟨by rw [(hb j).1]; exact h1, ?_⟩
    rw [(hb j).1, (hb j).2]; exact h2
  | _ => exact h
theorem Weak.shB {fr : Fr} {N : Nat} {σ : St} (i : Nat) : Weak fr N σ ⟨σ.s, σ.o, upd σ.b i (Ab.shB (σ.b i))⟩ := by
  intro G a w hi
  have hv : ∀ j, (upd σ.b i (Ab.shB (σ.b i)) j).v = (σ.b j).v ∧ (upd σ.b i (Ab.shB (σ.b i)) j).live = (σ.b j).live ∧ (upd σ.b i (Ab.shB (σ.b i)) j).t = (σ.b j).t := by
    intro j
    by_cases e : j = i
    · subst e; simp [Ab.shB]
    · simp [e]
  have hl : ∀ j, (upd σ.b i (Ab.shB (σ.b i)) j).live = true → (σ.b j).live = true := fun j h => by rw [← (hv j).2.1]; exact h
  refine ⟨G, hi.size, hi.defers, fun t => SOK.box (fun j => ⟨(hv j).1, (hv j).2.1⟩) (hi.slots t), hi.objs, hi.fzs, fun j hj => ?_, hi.sF, hi.sS, fun j hj => hi.bF j (hl j hj), fun j i h1 h2 => hi.bS j i (hl j h1) h2,
    ⟨fun j j' h1 h2 => hi.bB.1 j j' (hl j h1) (hl j' h2), fun j x hx => ?_⟩, hi.rF, hi.rS, fun j h => hi.rB j (hl j h), hi.Fw, hi.frame⟩
  · obtain ⟨us, h1, h2⟩ := hi.boxes j (hl j hj)
    by_cases e : j = i
    · subst e
      refine ⟨us, by simpa [Ab.shB] using h1, ?_⟩
      simp only [upd_same, Ab.shB]
      refine ⟨by simpa using h2.1, fun n l u h3 h4 => ?_⟩
      rw [List.getElem?_map] at h3
      obtain ⟨l', h5, rfl⟩ := Option.map_eq_some_iff.1 h3
      exact (h2.2 n l' u h5 h4).sh
    · exact ⟨us, by simpa [e] using h1, by simpa [e] using h2⟩
  · rw [(hv j).1, (hv j).2.2]
    exact hi.bB.2 j x hx
theorem Sat.shB {C : Cx} {fr : Fr} {N : Nat} {σ : St} {Q : Exit → St → Prop} {c : Code} (i : Nat) (h : Sat C fr N c ⟨σ.s, σ.o, upd σ.b i (Ab.shB (σ.b i))⟩ Q) : Sat C fr N c σ Q := Sat.pre (Weak.shB i) h
@[simp] theorem shLV_d {x : D} : shLV (.d x) = .d (shareC x) := rfl
@[simp] theorem shLV_ref {i v : Nat} {p : List Nat} {s : Nat} {m : Option Nat} : shLV (.ref i v p s m) = .ref i v p s m := rfl
@[simp] theorem shB_mk {v : Nat} {l : Bool} {t : Nat} {cs : List LV} : shB ⟨v, l, t, cs⟩ = ⟨v, l, t, cs.map shLV⟩ := rfl
end Go.Proofs.Ytmbmebfeoejlnaa.Ab
