/- The abstract machine run: code without calls of a pointer's, by evaluation; what it finds holds. Loops by a description of their states. -/
import Derived.Test.YtmbmebfeoejlnaaA27
import Derived.LoopN
namespace Go.Proofs.Ytmbmebfeoejlnaa.Ab
set_option linter.unusedVariables false
set_option linter.unusedSimpArgs false
open Go.RowKit
/-- rounds -/
def iter (f : St → Option (Exit × St)) : Nat → St → Option (Exit × St)
  | 0, _ => none
  | n + 1, σ => match f σ with
    | some (.normal, s) => iter f n s
    | r => r
def exec (C : Cx) (n : Nat) : Code → St → Option (Exit × St)
  | .skip, σ => some (.normal, σ)
  | .region _ ops false, σ => (runOps C ops ops.toList σ).map fun s => (.normal, s)
  | .region _ ops true, σ => if acyc ops.toList then match traceOps C ops ops.toList σ with
      | some p => if okTr (ancs ops.toList) (locsOf p.2) then some (.normal, p.1) else none
      | none => none
    else none
  | .seq a b, σ => match exec C n a σ with
    | some (.normal, s) => exec C n b s
    | r => r
  | .cond (.tmp t) a b, σ => match σ.s t with
    | .l (.d (.lit (.bool true))) => exec C n a σ
    | .l (.d (.lit (.bool false))) => exec C n b σ
    | _ => none
  | .block id c, σ => match exec C n c σ with
    | some (.exit id', s) => if id' = id then some (.normal, s) else some (.exit id', s)
    | r => r
  | .loop c, σ => iter (exec C n c) n σ
  | .exit id, σ => some (.exit id, σ)
  | .ret, σ => some (.ret, σ)
  | _, _ => none
def IsQ (p : Exit × St) (e : Exit) (s : St) : Prop := e = p.1 ∧ s = p.2
section
variable {C : Cx} {fr : Fr} {N : Nat} {σ : St} {Q : Exit → St → Prop} {c : Code}
theorem iter_rounds {f : St → Option (Exit × St)} (hf : ∀ σ p, f σ = some p → Sat C fr N c σ (IsQ p)) : ∀ (n : Nat) (σ : St) (p : Exit × St), iter f n σ = some p → ∀ G a w, Inv fr N σ G a w →
    Code.rounds C.P c (fun e a' w' => ∃ σ' G', IsQ p e σ' ∧ Inv fr N σ' G' a' w') n a w
  | 0, σ, p, h => by cases h
  | n + 1, σ, p, h => by
    intro G a w hi
    simp only [iter] at h
    cases hr : f σ with
    | none => rw [hr] at h; cases h
    | some q =>
      obtain ⟨e, s⟩ := q
      rw [hr] at h
      rw [rounds_succ]
      refine wp_mono (hf σ _ hr G a w hi) ?_
      rintro e' a' w' ⟨s', G', ⟨rfl, rfl⟩, hi'⟩
      cases e' with
      | normal => exact iter_rounds hf n s' p h G' a' w' hi'
      | exit id => exact ⟨s', G', (Option.some.inj h) ▸ ⟨rfl, rfl⟩, hi'⟩
      | goto l => exact ⟨s', G', (Option.some.inj h) ▸ ⟨rfl, rfl⟩, hi'⟩
      | ret => exact ⟨s', G', (Option.some.inj h) ▸ ⟨rfl, rfl⟩, hi'⟩
      | panic ch => exact ⟨s', G', (Option.some.inj h) ▸ ⟨rfl, rfl⟩, hi'⟩
      | outgrown => exact ⟨s', G', (Option.some.inj h) ▸ ⟨rfl, rfl⟩, hi'⟩
theorem iter_ok {f : St → Option (Exit × St)} (hf : ∀ σ p, f σ = some p → Sat C fr N c σ (IsQ p)) (n : Nat) (σ : St) (p : Exit × St) (h : iter f n σ = some p) : Sat C fr N (.loop c) σ (IsQ p) :=
  fun G a w hi => wp_loop_rounds n (iter_rounds hf n σ p h G a w hi)
theorem exec_ok (hk : Knows C) (hm : C.P.follows .mixedOrders = true) (n : Nat) : ∀ (c : Code) (σ : St) (p : Exit × St), exec C n c σ = some p → Sat C fr C.N c σ (IsQ p) := by
  intro c
  induction c with
  | skip => intro σ p h; obtain rfl := Option.some.inj h; exact Sat.skip ⟨rfl, rfl⟩
  | region id ops draw =>
    intro σ p h
    cases draw with
    | false =>
      simp only [exec] at h
      obtain ⟨s, h1, rfl⟩ := Option.map_eq_some_iff.1 h
      exact Sat.region hk (by rw [h1]; exact ⟨rfl, rfl⟩)
    | true =>
      simp only [exec] at h
      split at h
      · rename_i hac
        split at h
        · rename_i q hq
          split at h
          · rename_i hok
            obtain rfl := Option.some.inj h
            exact Sat.regionD hk hm hac (by rw [hq]; exact ⟨hok, rfl, rfl⟩)
          · cases h
        · cases h
      · cases h
  | seq a b iha ihb =>
    intro σ p h
    simp only [exec] at h
    cases hr : exec C n a σ with
    | none => rw [hr] at h; cases h
    | some q =>
      obtain ⟨e, s⟩ := q
      rw [hr] at h
      refine Sat.seq ((iha σ _ hr).mono ?_)
      rintro e' s' ⟨he, hs⟩
      dsimp only at he hs
      subst he; subst hs
      cases e' with
      | normal => exact ihb s' p h
      | exit id => exact (Option.some.inj h) ▸ ⟨rfl, rfl⟩
      | goto l => exact (Option.some.inj h) ▸ ⟨rfl, rfl⟩
      | ret => exact (Option.some.inj h) ▸ ⟨rfl, rfl⟩
      | panic ch => exact (Option.some.inj h) ▸ ⟨rfl, rfl⟩
      | outgrown => exact (Option.some.inj h) ▸ ⟨rfl, rfl⟩
  | cond x a b iha ihb =>
    intro σ p h
    cases x with
    | tmp t =>
      simp only [exec] at h
      split at h
      · rename_i hs; exact Sat.cond hs (fun _ => iha σ p h) (fun e => by cases e)
      · rename_i hs; exact Sat.cond hs (fun e => by cases e) (fun _ => ihb σ p h)
      · cases h
    | _ => cases h
  | block id c ih =>
    intro σ p h
    simp only [exec] at h
    cases hr : exec C n c σ with
    | none => rw [hr] at h; cases h
    | some q =>
      obtain ⟨e, s⟩ := q
      rw [hr] at h
      refine Sat.block ((ih σ _ hr).mono ?_)
      rintro e' s' ⟨he, hs⟩
      dsimp only at he hs
      subst he; subst hs
      cases e' with
      | exit id' =>
        simp only [blockQ] at h ⊢
        split <;> rename_i hid
        · rw [if_pos hid] at h; exact (Option.some.inj h) ▸ ⟨rfl, rfl⟩
        · rw [if_neg hid] at h; exact (Option.some.inj h) ▸ ⟨rfl, rfl⟩
      | normal => exact (Option.some.inj h) ▸ ⟨rfl, rfl⟩
      | goto l => exact (Option.some.inj h) ▸ ⟨rfl, rfl⟩
      | ret => exact (Option.some.inj h) ▸ ⟨rfl, rfl⟩
      | panic ch => exact (Option.some.inj h) ▸ ⟨rfl, rfl⟩
      | outgrown => exact (Option.some.inj h) ▸ ⟨rfl, rfl⟩
  | loop c ih => intro σ p h; exact iter_ok ih n σ p h
  | exit id => intro σ p h; obtain rfl := Option.some.inj h; exact Sat.exit ⟨rfl, rfl⟩
  | ret => intro σ p h; obtain rfl := Option.some.inj h; exact Sat.ret ⟨rfl, rfl⟩
  | rangeFunc => intro σ p h; cases h
  | scope => intro σ p h; cases h
  | label => intro σ p h; cases h
  | goto => intro σ p h; cases h
  | refuse => intro σ p h; cases h
end
/-- what holds of a state holds of one that says less -/
def Weak (fr : Fr) (N : Nat) (s s' : St) : Prop := ∀ G a w, Inv fr N s G a w → ∃ G', Inv fr N s' G' a w
theorem Weak.rfl' {fr : Fr} {N : Nat} {s : St} : Weak fr N s s := fun G _ _ h => ⟨G, h⟩
theorem Weak.trans {fr : Fr} {N : Nat} {s s' s2 : St} (h : Weak fr N s s') (h' : Weak fr N s' s2) : Weak fr N s s2 := fun G a w hi => let ⟨G', hi'⟩ := h G a w hi; h' G' a w hi'
theorem Sat.pre {C : Cx} {fr : Fr} {N : Nat} {σ σ' : St} {Q : Exit → St → Prop} {c : Code} (hw : Weak fr N σ σ') (h : Sat C fr N c σ' Q) : Sat C fr N c σ Q := fun G a w hi => let ⟨G', hi'⟩ := hw G a w hi; h G' a w hi'
theorem Sat.post {C : Cx} {fr : Fr} {N : Nat} {σ : St} {Q Q' : Exit → St → Prop} {c : Code} (h : Sat C fr N c σ Q') (hq : ∀ e s, Q' e s → ∃ s', Weak fr N s s' ∧ Q e s') : Sat C fr N c σ Q :=
  fun G a w hi => wp_mono (h G a w hi) fun e a w ⟨s, g, q, i⟩ => let ⟨s', hw, hq'⟩ := hq e s q; let ⟨G', i'⟩ := hw g a w i; ⟨s', G', hq', i'⟩
def frz (σ : St) (i : Nat) : St := σ.wr (.o i { σ.o i with st := .fz })
theorem Weak.frz {fr : Fr} {N : Nat} {σ : St} {i : Nat} (h : (σ.o i).st ≠ .dead) : Weak fr N σ (frz σ i) := fun _ _ _ hi => let ⟨G', hi', _⟩ := hi.freezeAny h; ⟨G', hi'⟩
/-- the objects are frozen, one by one -/
def frzs : List Nat → St → Option St
  | [], σ => some σ
  | i :: l, σ => if (σ.o i).st = .dead then none else frzs l (frz σ i)
theorem Weak.frzs {fr : Fr} {N : Nat} : ∀ {l : List Nat} {σ σ' : St}, frzs l σ = some σ' → Weak fr N σ σ'
  | [], σ, σ', h => by obtain rfl := Option.some.inj h; exact Weak.rfl'
  | i :: l, σ, σ', h => by
    simp only [Ab.frzs] at h
    split at h
    · cases h
    · rename_i hd; exact (Weak.frz hd).trans (Weak.frzs h)
def refsL : List LV → List Nat
  | [] => []
  | .ref i _ _ _ _ :: ls => i :: refsL ls
  | .d _ :: ls => refsL ls
def refsA : List AV → List Nat
  | [] => []
  | .l l :: xs => refsL [l] ++ refsA xs
  | .agg ls :: xs => refsL ls ++ refsA xs
  | _ :: xs => refsA xs
def noPtr : List Arg → Bool
  | [] => true
  | .val _ _ :: gs => noPtr gs
  | .ptr _ :: _ => false
theorem enter_noPtr {gs : List Arg} (h : noPtr gs = true) (tt : Nat) : enter gs tt = enter gs 0 := by
  have hb : ∀ n : Nat, argBox tt gs[n]? = argBox 0 gs[n]? := by
    intro n
    cases hg : gs[n]? with
    | none => rfl
    | some g =>
      cases g with
      | val a xs => rfl
      | ptr xs =>
        exfalso
        clear tt
        induction gs generalizing n with
        | nil => simp at hg
        | cons g gs ih =>
          cases g with
          | ptr ys => cases h
          | val a ys =>
            cases n with
            | zero => simp at hg
            | succ n => exact ih h n (by simpa using hg)
  simp only [enter, hb]
/-- what a call hands back, if it can be reckoned in n rounds a loop, n calls deep -/
def ranOwn (σ : St) (avs : List AV) : Option Out := (outAll σ false avs []).bind fun r => if anyShared r.1 then none else some ⟨r.1, []⟩
def ranSh (σ : St) (avs : List AV) : Option Out := (outAll σ true avs []).bind fun r => if anyShared r.1 then some ⟨r.1, []⟩ else none
def ranOut (P : Program) (fn : Func) (p : Exit × St) : Option Out := match p with
  | (.ret, σ) | (.normal, σ) => match resAVs P σ fn.results.toList with
    | some avs => match ranOwn σ avs with
      | some out => some out
      | none => (frzs (refsA avs) σ).bind fun σ' => match resAVs P σ' fn.results.toList with
        | some avs' => ranSh σ' avs'
        | none => none
    | none => none
  | _ => none
def absCall (P : Program) (base : Nat → Option Spec) : Nat → Nat → Spec
  | 0, _, _ => none
  | n + 1, f, gs => match P.funcs[f]? with
    | some fn => match fn.body with
      | some c => if (fn.name == "runtime.NumGoroutine") = false ∧ noPtr gs = true ∧ gs.length ≤ fn.ntmps then
          (exec ⟨P, fn.ntmps, fun g => match base g with
            | some sp => some sp
            | none => if ((P.funcs[g]?).bind fun fn => fn.body).isSome ∧ ((P.funcs[g]?).map fun fn => fn.name == "runtime.NumGoroutine") = some false then some (absCall P base n g) else none, fun _ => false⟩ (n + 1) c (enter gs 0)).bind (ranOut P fn)
        else none
      | none => none
    | none => none
theorem absCall_ok {P : Program} {base : Nat → Option Spec} (hb : ∀ f sp, base f = some sp → Contract P f sp) (hm : P.follows .mixedOrders = true) : ∀ (n f : Nat), ((P.funcs[f]?).bind fun fn => fn.body).isSome = true → ((P.funcs[f]?).map fun fn => fn.name == "runtime.NumGoroutine") = some false → Contract P f (absCall P base n f)
  | n, f, h1, h2 => by
    cases hf : P.funcs[f]? with
    | none => rw [hf] at h1; cases h1
    | some fn =>
      rw [hf] at h1 h2
      simp only [Option.bind_some] at h1
      simp only [Option.map_some, Option.some.injEq] at h2
      obtain ⟨c, hc⟩ := Option.isSome_iff_exists.1 h1
      cases n with
      | zero => exact Contract.intro (C := ⟨P, fn.ntmps, fun _ => none, fun _ => false⟩) hf h2 hc rfl (fun gs out h => by cases h)
      | succ n =>
        have hk : Knows ⟨P, fn.ntmps, fun g => match base g with
            | some sp => some sp
            | none => if ((P.funcs[g]?).bind fun fn => fn.body).isSome ∧ ((P.funcs[g]?).map fun fn => fn.name == "runtime.NumGoroutine") = some false then some (absCall P base n g) else none, fun _ => false⟩ := by
          intro g sp hg
          dsimp only at hg
          split at hg
          · rename_i sp' hs
            obtain rfl := Option.some.inj hg
            exact hb _ _ hs
          · split at hg
            · rename_i hs
              obtain rfl := Option.some.inj hg
              exact absCall_ok hb hm n g hs.1 hs.2
            · cases hg
        refine Contract.intro (C := ⟨P, fn.ntmps, fun g => match base g with
            | some sp => some sp
            | none => if ((P.funcs[g]?).bind fun fn => fn.body).isSome ∧ ((P.funcs[g]?).map fun fn => fn.name == "runtime.NumGoroutine") = some false then some (absCall P base n g) else none, fun _ => false⟩) hf h2 hc rfl (fun gs out h => ?_)
        simp only [absCall, hf, hc] at h
        split at h
        · rename_i hh
          obtain ⟨p, h3, h4⟩ := Option.bind_eq_some_iff.1 h
          refine ⟨hh.2.2, fun fr tt => ?_⟩
          rw [enter_noPtr hh.2.1 tt]
          refine (exec_ok hk hm (n + 1) c _ p h3).post ?_
          rintro e s ⟨he, hs⟩
          obtain ⟨e', s'⟩ := p
          dsimp only at he hs
          subst he; subst hs
          have hptr : ∀ σ, ptrOK out σ 0 gs := by
            intro σ
            have : ∀ (m : Nat) (gs : List Arg), noPtr gs = true → ptrOK out σ m gs := by
              intro m gs
              induction gs generalizing m with
              | nil => intro _; trivial
              | cons g gs ih =>
                cases g with
                | ptr ys => intro h; cases h
                | val a ys => intro h; exact ih (m + 1) h
            exact this 0 gs hh.2.1
          have main : ranOut P fn (.ret, s) = some out → ∃ s', Weak fr fn.ntmps s s' ∧ RetOK P fn.results.toList gs out s' := by
            intro h5
            simp only [ranOut] at h5
            split at h5
            · rename_i avs hav
              split at h5
              · rename_i out' ho
                obtain rfl := Option.some.inj h5
                refine ⟨s, Weak.rfl', ?_, hptr s⟩
                rw [hav]
                unfold ranOwn at ho
                obtain ⟨r, h6, h7⟩ := Option.bind_eq_some_iff.1 ho
                split at h7
                · cases h7
                · rename_i hsh
                  obtain rfl := Option.some.inj h7
                  have : anyShared r.1 = false := by simpa using hsh
                  simp only [someP, this, h6]
              · obtain ⟨σ', h6, h7⟩ := Option.bind_eq_some_iff.1 h5
                split at h7
                · rename_i avs' hav'
                  refine ⟨σ', Weak.frzs h6, ?_, hptr σ'⟩
                  rw [hav']
                  unfold ranSh at h7
                  obtain ⟨r, h8, h9⟩ := Option.bind_eq_some_iff.1 h7
                  split at h9
                  · rename_i hsh
                    obtain rfl := Option.some.inj h9
                    simp only [someP, hsh, h8]
                  · cases h9
                · cases h7
            · cases h5
          cases e with
          | normal => exact main h4
          | ret => exact main h4
          | exit id => cases h4
          | goto l => cases h4
          | panic ch => cases h4
          | outgrown => cases h4
        · cases h
end Go.Proofs.Ytmbmebfeoejlnaa.Ab
