/- What it means that an abstract state stands for a machine's frame and world; the rules of control. -/
import Derived.Test.YtmbmebfeoejlnaaA4
import Derived.Calls
import Derived.Tactics
import Derived.Deep.LoopGhost
namespace Go.Proofs.Ytmbmebfeoejlnaa.Ab
set_option linter.unusedVariables false
set_option linter.unusedSimpArgs false
open Go.RowKit

/-- What stands for the abstract machine's objects and boxes in memory; F: the blocks of what is shared; R: blocks that were taken out. -/
structure Gh where
  val : Nat → Value
  S : Nat → Nat → Prop
  blk : Nat → Nat
  F : Nat → Prop
  R : Nat → Prop
/-- A call's frame: the world that it began in, the blocks of the variables that it was handed to change (pb), those that are never shared (qb), the boxes that stand for its variables (jb: block, type). -/
structure Fr where
  w0 : World
  pb : Nat → Prop
  qb : Nat → Prop
  jb : Nat → Option (Nat × Nat)

def Obj.good (o : Obj) (v : Nat) (p : List Nat) (s : Nat) : Prop := o.v = v ∧ o.st ≠ .dead ∧ (p = [] ∨ o.s = s)
/-- a reference is none of times to come -/
def Obj.past (o : Obj) (v s : Nat) : Prop := v < o.v ∨ v = o.v ∧ s ≤ o.s
def CutV (u0 : Value) : Option Nat → Value → Prop
  | none, u => u = u0
  | some m, u => ∃ A n c, u0 = .slice A n c ∧ m ≤ n ∧ u = .slice A m c
section
variable (O : Nat → Obj) (B : Nat → Box) (G : Gh) (w : World)
def NilOK : D → Value → Prop
  | .sl false _ _ _, u => u = .slice none 0 0
  | _, _ => True
def LOK : LV → Value → Prop
  | .d x, u => Rep w G.F x u ∧ NilOK x u
  | .ref i v p s m, u => (O i).past v s ∧ u.oneCell' = true ∧ ((O i).good v p s → ∃ sh e k xs u0, (O i).d.at p = some (.sl sh e k xs) ∧ HeadAt w (O i).d (G.val i) p u0 ∧ CutV u0 m u)
/-- leaves, one by one -/
def LsOK (ls : List LV) (us : List Value) : Prop := us.length = ls.length ∧ ∀ (n : Nat) (l : LV) (u : Value), ls[n]? = some l → us[n]? = some u → LOK O G w l u
def VOK : Bool × List LV → Value → Prop
  | (true, ls), u => ∃ us, u = .agg us ∧ LsOK O G w ls us.toList
  | (false, [l]), u => LOK O G w l u
  | _, _ => False
def SOK : AV → Value → Prop
  | .l l, u => LOK O G w l u
  | .agg ls, u => ∃ us, u = .agg us ∧ LsOK O G w ls us.toList
  | .tup vs, u => ∃ us : Array Value, u = .tuple us ∧ us.size = vs.length ∧ ∀ (n : Nat) (x : Bool × List LV) (y : Value), vs[n]? = some x → us[n]? = some y → VOK O G w x y
  | .fld j v off, u => v ≤ (B j).v ∧ ((B j).live = true → (B j).v = v → u = .pointer (some ⟨G.blk j, off, none⟩))
  | .el i v p s c, u => (O i).past v s ∧ ((O i).good v p s → ∃ sh e k xs g n m, (O i).d.at p = some (.sl sh e k xs) ∧ HeadAt w (O i).d (G.val i) p (.slice (some ⟨g, 0, none⟩) n m) ∧ u = .pointer (some ⟨g, c, none⟩))
  | .adr xs, u => ∃ ad, u = .pointer (some ad) ∧ G.F ad.block ∧ ∀ (n : Nat) (x : D), xs[n]? = some x → ∃ y, w.cell? (ad.add n) = some y ∧ Rep w G.F x y
  | .ub, u => ∃ b : Bool, u = .bool b
  | .und, u => u = undef
  | .dead, _ => True
end
structure Frame0 (fr : Fr) (w : World) : Prop where
  os : w.os = fr.w0.os
  tape : w.tape = fr.w0.tape
  output : w.output = fr.w0.output
  size : fr.w0.heap.size ≤ w.heap.size
  block : ∀ b, b < fr.w0.heap.size → ¬ fr.pb b → w.heap[b]? = fr.w0.heap[b]?
  pb : ∀ b, fr.qb b → b < fr.w0.heap.size
structure Inv (fr : Fr) (N : Nat) (σ : St) (G : Gh) (a : Act) (w : World) : Prop where
  size : a.tmps.size = N
  defers : a.defers = []
  slots : ∀ t, SOK σ.o σ.b G w (σ.s t) (a.tmps.getD t undef)
  objs : ∀ i, (σ.o i).st = .own → Own w G.F (σ.o i).d (G.val i) (G.S i)
  fzs : ∀ i, (σ.o i).st = .fz → Rep w G.F (σ.o i).d (G.val i)
  boxes : ∀ j, (σ.b j).live = true → ∃ us, w.heap[G.blk j]? = some (.cells us (σ.b j).t (0, 0)) ∧ LsOK σ.o G w (σ.b j).cs us.toList
  sF : ∀ i b, (σ.o i).st = .own → G.S i b → ¬ G.F b ∧ fr.w0.heap.size ≤ b ∧ b < w.heap.size
  sS : ∀ i i' b, (σ.o i).st = .own → (σ.o i').st = .own → G.S i b → G.S i' b → i = i'
  bF : ∀ j, (σ.b j).live = true → ¬ G.F (G.blk j) ∧ (fr.w0.heap.size ≤ G.blk j ∨ fr.pb (G.blk j)) ∧ G.blk j < w.heap.size
  bS : ∀ j i, (σ.b j).live = true → (σ.o i).st = .own → ¬ G.S i (G.blk j)
  bB : (∀ j j', (σ.b j).live = true → (σ.b j').live = true → G.blk j = G.blk j' → j = j') ∧ ∀ j x, fr.jb j = some x → 1 ≤ (σ.b j).v ∧ ((σ.b j).v = 1 → (G.blk j, (σ.b j).t) = x)
  rF : ∀ b, G.R b → ¬ G.F b ∧ fr.w0.heap.size ≤ b ∧ b < w.heap.size
  rS : ∀ i b, (σ.o i).st = .own → G.S i b → ¬ G.R b
  rB : ∀ j, (σ.b j).live = true → ¬ G.R (G.blk j)
  Fw : ∀ b, G.F b → b < w.heap.size ∧ ¬ fr.qb b
  frame : Frame0 fr w

def Sat (C : Cx) (fr : Fr) (N : Nat) (c : Code) (σ : St) (Q : Exit → St → Prop) : Prop :=
  ∀ G a w, Inv fr N σ G a w → c.wp C.P (fun e a' w' => ∃ σ' G', Q e σ' ∧ Inv fr N σ' G' a' w') a w

section
variable {C : Cx} {fr : Fr} {N : Nat} {σ : St} {Q : Exit → St → Prop}
theorem Sat.mono {c : Code} {Q' : Exit → St → Prop} (h : Sat C fr N c σ Q) (hq : ∀ e s, Q e s → Q' e s) : Sat C fr N c σ Q' :=
  fun G a w hi => wp_mono (h G a w hi) fun e a w ⟨s, g, q, i⟩ => ⟨s, g, hq e s q, i⟩
theorem Sat.skip (h : Q .normal σ) : Sat C fr N .skip σ Q := fun G a w hi => wp_skip ⟨σ, G, h, hi⟩
theorem Sat.exit {id : Nat} (h : Q (.exit id) σ) : Sat C fr N (.exit id) σ Q := fun G a w hi => wp_exit ⟨σ, G, h, hi⟩
theorem Sat.ret (h : Q .ret σ) : Sat C fr N .ret σ Q := fun G a w hi => wp_ret ⟨σ, G, h, hi⟩
/-- what follows normally, else Q -/
def thenQ (K : St → Prop) (Q : Exit → St → Prop) : Exit → St → Prop
  | .normal, s => K s
  | e, s => Q e s
theorem Sat.seq {x y : Code} (h : Sat C fr N x σ (thenQ (fun s => Sat C fr N y s Q) Q)) : Sat C fr N (.seq x y) σ Q := by
  intro G a w hi
  refine wp_seq (wp_mono (h G a w hi) ?_)
  rintro e a' w' ⟨s, g, q, i⟩
  cases e with
  | normal => exact q g a' w' i
  | exit id => exact ⟨s, g, q, i⟩
  | goto l => exact ⟨s, g, q, i⟩
  | ret => exact ⟨s, g, q, i⟩
  | panic ch => exact ⟨s, g, q, i⟩
  | outgrown => exact ⟨s, g, q, i⟩
def blockQ (id : Nat) (Q : Exit → St → Prop) : Exit → St → Prop
  | .exit id', s => if id' = id then Q .normal s else Q (.exit id') s
  | e, s => Q e s
theorem Sat.block {id : Nat} {c : Code} (h : Sat C fr N c σ (blockQ id Q)) : Sat C fr N (.block id c) σ Q := by
  intro G a w hi
  refine wp_block (wp_mono (h G a w hi) ?_)
  rintro e a' w' ⟨s, g, q, i⟩
  cases e with
  | exit id' =>
    simp only [Exit.inBlock, blockQ] at q ⊢
    split <;> rename_i hid
    · rw [if_pos hid] at q; exact ⟨s, g, q, i⟩
    · rw [if_neg hid] at q; exact ⟨s, g, q, i⟩
  | normal => exact ⟨s, g, q, i⟩
  | goto l => exact ⟨s, g, q, i⟩
  | ret => exact ⟨s, g, q, i⟩
  | panic ch => exact ⟨s, g, q, i⟩
  | outgrown => exact ⟨s, g, q, i⟩
theorem Inv.lit {G : Gh} {a : Act} {w : World} {t : Nat} {v : Value} (hi : Inv fr N σ G a w) (h : σ.s t = .l (.d (.lit v))) : a.tmps.getD t undef = v := by
  have := hi.slots t
  rw [h] at this
  exact Rep.lit_inv (F := G.F) this.1
theorem Sat.cond {t : Nat} {x y : Code} {b : Bool} (hb : σ.s t = .l (.d (.lit (.bool b)))) (h1 : b = true → Sat C fr N x σ Q) (h2 : b = false → Sat C fr N y σ Q) : Sat C fr N (.cond (.tmp t) x y) σ Q := by
  intro G a w hi
  have hv : a.eval (.tmp t) = .bool b := hi.lit hb
  exact wp_cond_split hv (fun e => h1 e G a w hi) (fun e => h2 e G a w hi)
theorem Sat.condU {t : Nat} {x y : Code} (hb : σ.s t = .ub) (h1 : Sat C fr N x σ Q) (h2 : Sat C fr N y σ Q) : Sat C fr N (.cond (.tmp t) x y) σ Q := by
  intro G a w hi
  have hs := hi.slots t
  rw [hb] at hs
  obtain ⟨b, hv⟩ := hs
  have hv' : a.eval (.tmp t) = .bool b := hv
  exact wp_cond_split hv' (fun _ => h1 G a w hi) (fun _ => h2 G a w hi)
/-- A loop: I holds at its head, each round keeps it and lessens μ. -/
theorem Sat.loop {c : Code} (I : St → Prop) (μ : St → Nat) (h0 : I σ) (round : ∀ s, I s → Sat C fr N c s (thenQ (fun s' => I s' ∧ μ s' < μ s) Q)) : Sat C fr N (.loop c) σ Q := by
  intro G a w hi
  refine wp_loop_ghost (fun n a w => ∃ s g, I s ∧ μ s = n ∧ Inv fr N s g a w) (μ σ) ⟨σ, G, h0, rfl, hi⟩ ?_
  rintro n a w ⟨s, g, hI, hn, hi⟩
  refine wp_mono (round s hI g a w hi) ?_
  rintro e a' w' ⟨s', g', q, i⟩
  cases e with
  | normal => exact ⟨μ s', hn ▸ q.2, s', g', q.1, rfl, i⟩
  | exit id => exact ⟨s', g', q, i⟩
  | goto l => exact ⟨s', g', q, i⟩
  | ret => exact ⟨s', g', q, i⟩
  | panic ch => exact ⟨s', g', q, i⟩
  | outgrown => exact ⟨s', g', q, i⟩
end
end Go.Proofs.Ytmbmebfeoejlnaa.Ab
