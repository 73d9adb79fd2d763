/- A region whose order is drawn: where its operations don't meddle with each other, any order does what the text's does. -/
import Derived.Test.YtmbmebfeoejlnaaA19
import Derived.Orders
namespace Go.Proofs.Ytmbmebfeoejlnaa.Ab
set_option linter.unusedVariables false
set_option linter.unusedSimpArgs false
open Go.RowKit

/-- two states agree at a place -/
def Same (σ σ' : St) : Loc → Prop
  | .s t => σ.s t = σ'.s t
  | .o i => σ.o i = σ'.o i
  | .b j => σ.b j = σ'.b j
theorem Same.ext {σ σ' : St} (h : ∀ l, Same σ σ' l) : σ = σ' := by
  obtain ⟨s, o, b⟩ := σ; obtain ⟨s', o', b'⟩ := σ'
  have h1 : s = s' := funext fun t => h (.s t)
  have h2 : o = o' := funext fun t => h (.o t)
  have h3 : b = b' := funext fun t => h (.b t)
  rw [h1, h2, h3]
theorem Same.rfl' {σ : St} (l : Loc) : Same σ σ l := by cases l <;> exact rfl
theorem Same.symm {σ σ' : St} {l : Loc} (h : Same σ σ' l) : Same σ' σ l := by cases l <;> exact Eq.symm h
theorem Same.trans {σ σ' σ2 : St} {l : Loc} (h : Same σ σ' l) (h' : Same σ' σ2 l) : Same σ σ2 l := by cases l <;> exact Eq.trans h h'
theorem E.run_same {σ σ' : St} : ∀ (e : E), (∀ l, l ∈ e.reads σ → Same σ σ' l) → e.run σ' = e.run σ
  | .done ws, h => rfl
  | .rdS t k, h => by
    have e : σ.s t = σ'.s t := h (.s t) (by simp [E.reads])
    simp only [E.run]; rw [← e]
    exact E.run_same (k (σ.s t)) (fun l hl => h l (by simp [E.reads, hl]))
  | .rdO i k, h => by
    have e : σ.o i = σ'.o i := h (.o i) (by simp [E.reads])
    simp only [E.run]; rw [← e]
    exact E.run_same (k (σ.o i)) (fun l hl => h l (by simp [E.reads, hl]))
  | .rdB j k, h => by
    have e : σ.b j = σ'.b j := h (.b j) (by simp [E.reads])
    simp only [E.run]; rw [← e]
    exact E.run_same (k (σ.b j)) (fun l hl => h l (by simp [E.reads, hl]))
  | .fail, h => rfl
theorem wr_other {σ : St} {x : Wr} {l : Loc} (h : x.loc ≠ l) : Same σ (σ.wr x) l := by
  cases x <;> cases l <;> simp_all [Wr.loc, St.wr, Same, upd, eq_comm]
theorem wr_cong {σ σ' : St} {x : Wr} {l : Loc} (h : Same σ σ' l) : Same (σ.wr x) (σ'.wr x) l := by
  cases x <;> cases l <;> simp_all [Wr.loc, St.wr, Same, upd]
theorem wr_self {σ σ' : St} {x : Wr} : Same (σ.wr x) (σ'.wr x) x.loc := by
  cases x <;> simp [Wr.loc, St.wr, Same, upd]
theorem wrs_other {l : Loc} : ∀ {ws : List Wr} {σ : St}, l ∉ ws.map Wr.loc → Same σ (σ.wrs ws) l
  | [], σ, _ => Same.rfl' l
  | x :: ws, σ, h => by
    simp only [List.map_cons, List.mem_cons, not_or] at h
    exact (wr_other (Ne.symm h.1)).trans (wrs_other (σ := σ.wr x) h.2)
theorem wrs_cong {l : Loc} : ∀ {ws : List Wr} {σ σ' : St}, Same σ σ' l → Same (σ.wrs ws) (σ'.wrs ws) l
  | [], _, _, h => h
  | x :: ws, σ, σ', h => wrs_cong (ws := ws) (wr_cong h)
theorem wrs_self {l : Loc} : ∀ {ws : List Wr} {σ σ' : St}, l ∈ ws.map Wr.loc → Same (σ.wrs ws) (σ'.wrs ws) l
  | [], _, _, h => by simp at h
  | x :: ws, σ, σ', h => by
    simp only [List.map_cons, List.mem_cons] at h
    by_cases hm : l ∈ ws.map Wr.loc
    · exact wrs_self (ws := ws) (σ := σ.wr x) (σ' := σ'.wr x) hm
    · rcases h with rfl | h
      · exact wrs_cong (ws := ws) (wr_self (σ := σ) (σ' := σ'))
      · exact absurd h hm
/-- the writes of those in X, in the text's order -/
def foldX (X : Nat → Bool) : Nat → List (List Wr) → St → St
  | _, [], σ => σ
  | i, ws :: L, σ => foldX X (i + 1) L (if X i then σ.wrs ws else σ)
theorem fold_agree {l : Loc} {X Y : Nat → Bool} : ∀ {L : List (List Wr)} {i : Nat} {σ σ' : St}, (∀ j ws, L[j]? = some ws → X (i + j) ≠ Y (i + j) → l ∉ ws.map Wr.loc) → Same σ σ' l → Same (foldX X i L σ) (foldX Y i L σ') l
  | [], i, σ, σ', h, hs => hs
  | ws :: L, i, σ, σ', h, hs => by
    simp only [foldX]
    refine fold_agree (L := L) (fun j ws' hj hne => h (j + 1) ws' (by simpa using hj) (by rwa [show i + (j + 1) = i + 1 + j from by omega])) ?_
    have h0 := h 0 ws rfl
    cases hx : X i <;> cases hy : Y i
    · simpa using hs
    · have := h0 (by simp [hx, hy]); simpa using hs.trans (wrs_other this)
    · have := h0 (by simp [hx, hy]); simpa using (wrs_other this).symm.trans hs
    · simpa using wrs_cong hs
theorem fold_false {L : List (List Wr)} : ∀ {i : Nat} {X : Nat → Bool} {σ : St}, (∀ j, i ≤ j → X j = false) → foldX X i L σ = σ := by
  induction L with
  | nil => intro i X σ _; rfl
  | cons ws L ih => intro i X σ h; simp only [foldX, h i (Nat.le_refl _)]; exact ih (fun j hj => h j (by omega))
theorem fold_cong {L : List (List Wr)} : ∀ {i : Nat} {X Y : Nat → Bool} {σ : St}, (∀ j, i ≤ j → j < i + L.length → X j = Y j) → foldX X i L σ = foldX Y i L σ := by
  induction L with
  | nil => intro i X Y σ _; rfl
  | cons ws L ih =>
    intro i X Y σ h
    simp only [foldX, List.length_cons] at h ⊢
    rw [h i (Nat.le_refl _) (by omega)]
    exact ih (fun j h1 h2 => h j (by omega) (by omega))
theorem fold_app {L M : List (List Wr)} : ∀ {i : Nat} {X : Nat → Bool} {σ : St}, foldX X i (L ++ M) σ = foldX X (i + L.length) M (foldX X i L σ) := by
  induction L with
  | nil => intro i X σ; rfl
  | cons ws L ih => intro i X σ; simp only [List.cons_append, foldX, List.length_cons]; rw [ih, show i + (L.length + 1) = i + 1 + L.length from by omega]

/-! who comes ahead of whom -/
def depsOf (o : Oper) : List Nat := (o.after.toList.filter (fun e => Region.binds .any e)).map (·.on)
def maskOf (acc : List Nat) (o : Oper) : Nat := (depsOf o).foldl (fun s e => s ||| 2 ^ e ||| acc.getD e 0) 0
def ancsAux : List Oper → List Nat → List Nat
  | [], acc => acc
  | o :: l, acc => ancsAux l (acc ++ [maskOf acc o])
def ancs (l : List Oper) : List Nat := ancsAux l []
theorem mask_bit {acc : List Nat} {o : Oper} {i : Nat} (h : (maskOf acc o).testBit i = true) : ∃ e, e ∈ depsOf o ∧ (i = e ∨ (acc.getD e 0).testBit i = true) := by
  unfold maskOf at h
  have key : ∀ (l : List Nat) (s : Nat), (l.foldl (fun s e => s ||| 2 ^ e ||| acc.getD e 0) s).testBit i = true → s.testBit i = true ∨ ∃ e, e ∈ l ∧ (i = e ∨ (acc.getD e 0).testBit i = true) := by
    intro l
    induction l with
    | nil => intro s h; exact .inl h
    | cons e l ih =>
      intro s h
      simp only [List.foldl_cons] at h
      rcases ih _ h with h | ⟨e', h1, h2⟩
      · simp only [Nat.testBit_or, Bool.or_eq_true, Nat.testBit_two_pow, decide_eq_true_eq] at h
        rcases h with (h | h) | h
        · exact .inl h
        · exact .inr ⟨e, by simp, .inl h.symm⟩
        · exact .inr ⟨e, by simp, .inr h⟩
      · exact .inr ⟨e', by simp [h1], h2⟩
  rcases key _ 0 h with h | h
  · simp at h
  · exact h
theorem ancs_closed {ops : List Oper} {X : Nat → Bool} (hX : ∀ j o e, ops[j]? = some o → X j = true → e ∈ depsOf o → X e = true) : ∀ j i, ((ancs ops).getD j 0).testBit i = true → X j = true → X i = true := by
  have key : ∀ (l : List Oper) (acc : List Nat) (n : Nat), acc.length = n → (∀ j, l[j]? = ops[n + j]?) → (∀ j i, (acc.getD j 0).testBit i = true → X j = true → X i = true) → ∀ j i, ((ancsAux l acc).getD j 0).testBit i = true → X j = true → X i = true := by
    intro l
    induction l with
    | nil => intro acc n _ _ h; exact h
    | cons o l ih =>
      intro acc n hn hl h
      refine ih (acc ++ [maskOf acc o]) (n + 1) (by simp [hn]) (fun j => by have := hl (j + 1); simpa [Nat.add_assoc, Nat.add_comm 1 j] using this) (fun j i hb hx => ?_)
      by_cases hj : j < acc.length
      · have e : (acc ++ [maskOf acc o]).getD j 0 = acc.getD j 0 := by simp [List.getD_eq_getElem?_getD, List.getElem?_append_left hj]
        rw [e] at hb; exact h j i hb hx
      · by_cases hj2 : j = acc.length
        · subst hj2
          have e : (acc ++ [maskOf acc o]).getD acc.length 0 = maskOf acc o := by simp [List.getD_eq_getElem?_getD]
          rw [e] at hb
          obtain ⟨d, h1, h2⟩ := mask_bit hb
          have h0 : ops[acc.length]? = some o := by have := hl 0; simpa [hn] using this.symm
          have hxd := hX _ o d h0 hx h1
          rcases h2 with rfl | h2
          · exact hxd
          · exact h d i h2 hxd
        · have e : (acc ++ [maskOf acc o]).getD j 0 = 0 := by simp [List.getD_eq_getElem?_getD]; rw [List.getElem?_eq_none (by simp; omega)]; rfl
          rw [e] at hb; simp at hb
  exact key ops [] 0 rfl (fun j => by simp) (fun j i h => by simp at h)
/-- what each operation reads and writes, in the text's order -/
def traceOps (C : Cx) (ops : Array Oper) : List Oper → St → Option (St × List (List Loc × List Wr))
  | [], σ => some (σ, [])
  | o :: rest, σ => match (stepE C ops o).run σ with
    | some ws => (traceOps C ops rest (σ.wrs ws)).map fun p => (p.1, ((stepE C ops o).reads σ, ws) :: p.2)
    | none => none
def disj (a b : List Loc) : Bool := a.all fun l => !b.contains l
def pairOk (x y : List Loc × List Loc) : Bool := disj x.2 y.1 && disj x.2 y.2 && disj x.1 y.2
def okTr (an : List Nat) (tr : List (List Loc × List Loc)) : Bool :=
  (List.range tr.length).all fun j => (List.range j).all fun i => (an.getD j 0).testBit i || pairOk (tr.getD i ([], [])) (tr.getD j ([], []))
def locsOf (tr : List (List Loc × List Wr)) : List (List Loc × List Loc) := tr.map fun p => (p.1, p.2.map Wr.loc)
theorem disj_of {a b : List Loc} (h : disj a b = true) {l : Loc} (h1 : l ∈ a) (h2 : l ∈ b) : False := by
  have := List.all_eq_true.1 h l h1
  simp at this
  exact this h2
theorem okTr_get {an : List Nat} {tr : List (List Loc × List Wr)} (h : okTr an (locsOf tr) = true) {i j : Nat} {x y : List Loc × List Wr} (hij : i < j) (hx : tr[i]? = some x) (hy : tr[j]? = some y) (ha : (an.getD j 0).testBit i = false) :
    (∀ l, l ∈ x.2.map Wr.loc → l ∉ y.1 ∧ l ∉ y.2.map Wr.loc) ∧ ∀ l, l ∈ x.1 → l ∉ y.2.map Wr.loc := by
  have hj : j < (locsOf tr).length := by unfold locsOf; simpa using (List.getElem?_eq_some_iff.1 hy).1
  have h1 := List.all_eq_true.1 h j (by simpa using hj)
  have h2 := List.all_eq_true.1 h1 i (by simpa using hij)
  rw [ha, Bool.false_or] at h2
  have e1 : (locsOf tr).getD i ([], []) = (x.1, x.2.map Wr.loc) := by unfold locsOf; simp [List.getD_eq_getElem?_getD, hx]
  have e2 : (locsOf tr).getD j ([], []) = (y.1, y.2.map Wr.loc) := by unfold locsOf; simp [List.getD_eq_getElem?_getD, hy]
  rw [e1, e2] at h2
  simp only [pairOk, Bool.and_eq_true] at h2
  exact ⟨fun l hl => ⟨fun h => disj_of h2.1.1 hl h, fun h => disj_of h2.1.2 hl h⟩, fun l hl h => disj_of h2.2 hl h⟩
theorem trace_len {C : Cx} {ops : Array Oper} : ∀ {l : List Oper} {σ σ' : St} {tr : List (List Loc × List Wr)}, traceOps C ops l σ = some (σ', tr) → tr.length = l.length
  | [], σ, σ', tr, h => by simp [traceOps] at h; obtain ⟨_, rfl⟩ := h; rfl
  | o :: l, σ, σ', tr, h => by
    simp only [traceOps] at h
    split at h
    · obtain ⟨⟨s, t⟩, h1, h2⟩ := Option.map_eq_some_iff.1 h
      simp only [Prod.mk.injEq] at h2
      obtain ⟨rfl, rfl⟩ := h2
      simp [trace_len h1]
    · cases h
/-- each step, at the state behind those ahead of it in the text -/
theorem trace_at {C : Cx} {ops : Array Oper} : ∀ {l : List Oper} {n : Nat} {σ σ' : St} {tr : List (List Loc × List Wr)}, traceOps C ops l σ = some (σ', tr) → (σ' = foldX (fun _ => true) n (tr.map (·.2)) σ) ∧
    ∀ (i : Nat) (o : Oper) (x : List Loc × List Wr), l[i]? = some o → tr[i]? = some x → (stepE C ops o).run (foldX (fun j => decide (j < n + i)) n (tr.map (·.2)) σ) = some x.2 ∧ (stepE C ops o).reads (foldX (fun j => decide (j < n + i)) n (tr.map (·.2)) σ) = x.1
  | [], n, σ, σ', tr, h => by
    simp [traceOps] at h; obtain ⟨rfl, rfl⟩ := h
    exact ⟨rfl, fun i o x h => by simp at h⟩
  | o :: l, n, σ, σ', tr, h => by
    simp only [traceOps] at h
    split at h
    · rename_i ws hws
      obtain ⟨⟨s, t⟩, h1, h2⟩ := Option.map_eq_some_iff.1 h
      simp only [Prod.mk.injEq] at h2
      obtain ⟨rfl, rfl⟩ := h2
      obtain ⟨e1, e2⟩ := trace_at (n := n + 1) h1
      refine ⟨by simp only [List.map_cons, foldX, if_true]; exact e1, fun i o' x ho hx => ?_⟩
      cases i with
      | zero =>
        simp at ho hx; subst ho; subst hx
        rw [fold_false (fun j hj => by simp; omega)]
        exact ⟨hws, rfl⟩
      | succ i =>
        have := e2 i o' x (by simpa using ho) (by simpa using hx)
        simp only [List.map_cons, foldX, show decide (n < n + (i + 1)) = true by simp, if_true]
        rw [show n + (i + 1) = n + 1 + i from by omega]
        exact this
    · cases h
theorem fold_self {L : List (List Wr)} {X : Nat → Bool} {i : Nat} {ws : List Wr} {σ σ2 : St} {l : Loc} (hi : L[i]? = some ws) (hx : X i = true) (hl : l ∈ ws.map Wr.loc) (h : ∀ j ws', i < j → L[j]? = some ws' → X j = true → l ∉ ws'.map Wr.loc) : Same (foldX X 0 L σ) (σ2.wrs ws) l := by
  have hlt := (List.getElem?_eq_some_iff.1 hi).1
  have hsplit : L = L.take i ++ (ws :: L.drop (i + 1)) := by
    have e := (List.getElem?_eq_some_iff.1 hi).2
    rw [← e, ← List.drop_eq_getElem_cons hlt, List.take_append_drop]
  rw [hsplit, fold_app]
  have hlen : (L.take i).length = i := by rw [List.length_take]; omega
  rw [hlen, Nat.zero_add]
  simp only [foldX, hx, if_true]
  have h1 : Same (foldX X (i + 1) (L.drop (i + 1)) ((foldX X 0 (L.take i) σ).wrs ws)) (foldX (fun _ => false) (i + 1) (L.drop (i + 1)) ((foldX X 0 (L.take i) σ).wrs ws)) l := by
    refine fold_agree (fun j ws' hj hne => ?_) (Same.rfl' l)
    rw [List.getElem?_drop] at hj
    refine h (i + 1 + j) ws' (by omega) hj ?_
    cases hq : X (i + 1 + j) with
    | true => rfl
    | false => exact absurd hq hne
  rw [fold_false (X := fun _ => false) (fun _ _ => rfl)] at h1
  exact h1.trans (wrs_self hl)
theorem filter_less {p q : Nat → Bool} {i : Nat} (hpq : ∀ x, p x = true → q x = true) (hq : q i = true) (hp : p i = false) : ∀ {l : List Nat}, i ∈ l → (l.filter p).length < (l.filter q).length
  | [], h => by simp at h
  | x :: l, h => by
    have hle : ∀ l : List Nat, (l.filter p).length ≤ (l.filter q).length := by
      intro l
      induction l with
      | nil => simp
      | cons y l ih =>
        simp only [List.filter_cons]
        cases hy : p y with
        | true => simp [hpq y hy]; exact ih
        | false => cases q y <;> simp <;> omega
    rcases List.mem_cons.1 h with rfl | h
    · simp only [List.filter_cons, hp, hq]
      have := hle l
      simp; omega
    · have ih := filter_less hpq hq hp h
      simp only [List.filter_cons]
      cases hy : p x with
      | true => simp [hpq x hy]; exact ih
      | false => cases q x <;> simp <;> omega
def acyc (l : List Oper) : Bool := l.zipIdx.all fun p => (depsOf p.1).all fun e => decide (e < p.2)
theorem acyc_get {l : List Oper} (h : acyc l = true) {j e : Nat} {o : Oper} (ho : l[j]? = some o) (he : e ∈ depsOf o) : e < j := by
  have h1 := List.all_eq_true.1 h (o, j) (List.mk_mem_zipIdx_iff_getElem?.2 ho)
  exact of_decide_eq_true (List.all_eq_true.1 h1 e he)
section
variable {C : Cx} {fr : Fr} {σ : St}
theorem mem_ready {ops : Array Oper} {listed : Array Bool} {i : Nat} : i ∈ Region.ready .any ops listed ↔ ∃ o, ops[i]? = some o ∧ listed.getD i true = false ∧ ∀ e, e ∈ depsOf o → listed.getD e false = true := by
  unfold Region.ready depsOf
  simp only [List.mem_filter, List.mem_range, Bool.and_eq_true, Bool.not_eq_true']
  constructor
  · rintro ⟨h1, h2, h3⟩
    refine ⟨ops[i], Array.getElem?_eq_getElem h1, h2, fun e he => ?_⟩
    rw [Array.getElem?_eq_getElem h1] at h3
    simp only [Option.map_some, Option.getD_some] at h3
    obtain ⟨ed, hed, rfl⟩ := List.mem_map.1 he
    obtain ⟨q1, q2⟩ := List.mem_filter.1 hed
    have := Array.all_eq_true_iff_forall_mem.1 h3 ed (by simpa using q1)
    simpa [q2] using this
  · rintro ⟨o, h1, h2, h3⟩
    refine ⟨(Array.getElem?_eq_some_iff.1 h1).1, h2, ?_⟩
    rw [h1]
    simp only [Option.map_some, Option.getD_some]
    refine Array.all_eq_true_iff_forall_mem.2 (fun ed hed => ?_)
    cases hb : Region.binds .any ed with
    | false => rfl
    | true => simpa using h3 ed.on (List.mem_map.2 ⟨ed, List.mem_filter.2 ⟨by simpa using hed, hb⟩, rfl⟩)
theorem any_ok (hk : Knows C) {ops : Array Oper} {σ' : St} {tr : List (List Loc × List Wr)} (htr : traceOps C ops ops.toList σ = some (σ', tr)) (hok : okTr (ancs ops.toList) (locsOf tr) = true) (hac : acyc ops.toList = true)
    {Q : Exit → Act → World → Prop} (hq : ∀ G a w, Inv fr C.N σ' G a w → Q .normal a w) : ∀ (fuel : Nat) (listed : Array Bool) (G : Gh) (a : Act) (w : World), listed.size = ops.size → ((List.range ops.size).filter fun i => !listed.getD i false).length ≤ fuel →
      (∀ j o e, ops.toList[j]? = some o → listed.getD j false = true → e ∈ depsOf o → listed.getD e false = true) → Inv fr C.N (foldX (fun j => listed.getD j false) 0 (tr.map (·.2)) σ) G a w → wpAny C.P .any ops Q fuel listed a w := by
  obtain ⟨htr1, htr2⟩ := trace_at (n := 0) htr
  have hlen := trace_len htr
  have hread : ∀ (listed : Array Bool), listed.size = ops.size → Region.ready .any ops listed = [] → ∀ j, j < ops.size → listed.getD j false = true := by
    intro listed hsz hr j
    induction j using Nat.strongRecOn with
    | _ j ih =>
      intro hj
      cases hq : listed.getD j false with
      | true => rfl
      | false =>
        have hm : j ∈ Region.ready .any ops listed := mem_ready.2 ⟨ops[j], Array.getElem?_eq_getElem hj, by
          rw [Array.getD_eq_getD_getElem?] at hq ⊢
          rw [Array.getElem?_eq_getElem (by omega)] at hq ⊢
          simpa using hq, fun e he => by
          have he' := acyc_get hac (by rw [Array.getElem?_toList]; exact Array.getElem?_eq_getElem hj) he
          exact ih e he' (by omega)⟩
        rw [hr] at hm; cases hm
  have hfin : ∀ (listed : Array Bool) (G : Gh) (a : Act) (w : World), listed.size = ops.size → Region.ready .any ops listed = [] → Inv fr C.N (foldX (fun j => listed.getD j false) 0 (tr.map (·.2)) σ) G a w → Q .normal a w := by
    intro listed G a w hsz hr hi
    refine hq G a w ?_
    rw [htr1]
    rw [fold_cong (Y := fun _ => true) (fun j _ hj => hread listed hsz hr j (by simp [hlen] at hj; exact hj))] at hi
    exact hi
  intro fuel
  induction fuel with
  | zero =>
    intro listed G a w hsz hcnt hcl hi
    have hr : Region.ready .any ops listed = [] := by
      cases hq : Region.ready .any ops listed with
      | nil => rfl
      | cons i l =>
        obtain ⟨o, h1, h2, _⟩ := mem_ready.1 (show i ∈ Region.ready .any ops listed by rw [hq]; simp)
        have hi' := (Array.getElem?_eq_some_iff.1 h1).1
        have hmem : i ∈ (List.range ops.size).filter fun i => !listed.getD i false := List.mem_filter.2 ⟨by simpa using hi', by
          rw [Array.getD_eq_getD_getElem?] at h2 ⊢
          rw [Array.getElem?_eq_getElem (by omega)] at h2 ⊢
          simpa using h2⟩
        have := List.length_pos_of_mem hmem
        omega
    exact ⟨hr, hfin listed G a w hsz hr hi⟩
  | succ fuel ih =>
    intro listed G a w hsz hcnt hcl hi
    refine ⟨fun hr => hfin listed G a w hsz hr hi, fun i him => ?_⟩
    obtain ⟨o, ho, hul, hdeps⟩ := mem_ready.1 him
    have hilt := (Array.getElem?_eq_some_iff.1 ho).1
    have hol : ops.toList[i]? = some o := by rw [Array.getElem?_toList]; exact ho
    have hXi : listed.getD i false = false := by
      rw [Array.getD_eq_getD_getElem?] at hul ⊢
      rw [Array.getElem?_eq_getElem (by omega)] at hul ⊢
      simpa using hul
    have hti : i < tr.length := by rw [hlen]; simpa using hilt
    obtain ⟨x, hx⟩ : ∃ x, tr[i]? = some x := ⟨tr[i], List.getElem?_eq_getElem hti⟩
    obtain ⟨hrun, hreads⟩ := htr2 i o x hol hx
    -- the done ones, and i
    have hset : ∀ j, (listed.setIfInBounds i true).getD j false = (if j = i then true else listed.getD j false) := by
      intro j
      by_cases hj : j = i
      · subst hj; simp [Array.getD_eq_getD_getElem?, Array.getElem?_setIfInBounds, hsz, hilt]
      · simp [Array.getD_eq_getD_getElem?, Array.getElem?_setIfInBounds, Ne.symm hj, hj]
    have hcl2 : ∀ j o e, ops.toList[j]? = some o → (listed.setIfInBounds i true).getD j false = true → e ∈ depsOf o → (listed.setIfInBounds i true).getD e false = true := by
      intro j o' e h1 h2 h3
      rw [hset] at h2 ⊢
      split
      · rfl
      · by_cases hj : j = i
        · subst hj
          rw [hol] at h1
          obtain rfl := Option.some.inj h1
          exact hdeps e h3
        · rw [if_neg hj] at h2; exact hcl j o' e h1 h2 h3
    have hanc1 : ∀ j, listed.getD j false = true → ((ancs ops.toList).getD j 0).testBit i = false := by
      intro j hj
      cases hb : ((ancs ops.toList).getD j 0).testBit i with
      | false => rfl
      | true => have := ancs_closed (X := fun j => listed.getD j false) hcl j i hb hj; rw [hXi] at this; cases this
    have hanc2 : ∀ j, j ≠ i → listed.getD j false = false → ((ancs ops.toList).getD i 0).testBit j = false := by
      intro j hji hj
      cases hb : ((ancs ops.toList).getD i 0).testBit j with
      | false => rfl
      | true =>
        have := ancs_closed (X := fun j => (listed.setIfInBounds i true).getD j false) hcl2 i j hb (by rw [hset]; simp)
        rw [hset, if_neg hji, hj] at this; cases this
    have hagree : ∀ l, l ∈ x.1 → Same (foldX (fun j => decide (j < 0 + i)) 0 (tr.map (·.2)) σ) (foldX (fun j => listed.getD j false) 0 (tr.map (·.2)) σ) l := by
      intro l hl
      refine fold_agree (fun j ws hj hne => ?_) (Same.rfl' l)
      rw [List.getElem?_map] at hj
      obtain ⟨y, hy, rfl⟩ := Option.map_eq_some_iff.1 hj
      simp only [Nat.zero_add] at hne
      by_cases hlt : j < i
      · have hxj : listed.getD j false = false := by cases hq : listed.getD j false <;> simp_all
        exact fun hw => ((okTr_get hok hlt hy hx (hanc2 j (by omega) hxj)).1 l hw).1 hl
      · have hxj : listed.getD j false = true := by cases hq : listed.getD j false <;> simp_all
        have hne2 : j ≠ i := by rintro rfl; rw [hXi] at hxj; cases hxj
        exact (okTr_get hok (show i < j by omega) hx hy (hanc1 j hxj)).2 l hl
    have hrunX : (stepE C ops o).run (foldX (fun j => listed.getD j false) 0 (tr.map (·.2)) σ) = some x.2 := by
      rw [E.run_same (σ := foldX (fun j => decide (j < 0 + i)) 0 (tr.map (·.2)) σ) _ (fun l hl => hagree l (by rw [hreads] at hl; exact hl))]
      exact hrun
    have hstate : (foldX (fun j => listed.getD j false) 0 (tr.map (·.2)) σ).wrs x.2 = foldX (fun j => (listed.setIfInBounds i true).getD j false) 0 (tr.map (·.2)) σ := by
      refine Same.ext (fun l => ?_)
      by_cases hl : l ∈ x.2.map Wr.loc
      · refine (fold_self (L := tr.map (·.2)) (X := fun j => (listed.setIfInBounds i true).getD j false) (i := i) (ws := x.2) (by rw [List.getElem?_map, hx]; rfl) (by show (listed.setIfInBounds i true).getD i false = true; rw [hset]; simp) hl (fun j ws' hij hj hxj => ?_)).symm
        rw [List.getElem?_map] at hj
        obtain ⟨y, hy, rfl⟩ := Option.map_eq_some_iff.1 hj
        rw [hset, if_neg (by omega)] at hxj
        exact ((okTr_get hok hij hx hy (hanc1 j hxj)).1 l hl).2
      · refine (wrs_other hl).symm.trans (fold_agree (fun j ws' hj hne => ?_) (Same.rfl' l))
        rw [Nat.zero_add, hset] at hne
        by_cases hji : j = i
        · subst hji
          rw [List.getElem?_map, hx] at hj
          obtain rfl := Option.some.inj hj
          exact hl
        · rw [if_neg hji] at hne; exact absurd rfl hne
    unfold wpOp
    rw [ho]
    refine ok_step hk hi hrunX (fun G' a' w' hI => ?_)
    rw [hstate] at hI
    refine ih (listed.setIfInBounds i true) G' a' w' (by simpa using hsz) ?_ hcl2 hI
    have := filter_less (p := fun j => !(listed.setIfInBounds i true).getD j false) (q := fun j => !listed.getD j false) (i := i) (fun j hj => by
      rw [hset] at hj
      by_cases hji : j = i
      · rw [if_pos hji] at hj; simp at hj
      · rw [if_neg hji] at hj; exact hj) (by simp [hXi]) (by rw [hset]; simp) (l := List.range ops.size) (by simpa using hilt)
    omega
/-- a region whose order is drawn -/
theorem Sat.regionD (hk : Knows C) (hm : C.P.follows .mixedOrders = true) {Q : Exit → St → Prop} {id : Nat} {ops : Array Oper} (hac : acyc ops.toList = true)
    (h : someP (fun p => okTr (ancs ops.toList) (locsOf p.2) = true ∧ Q .normal p.1) (traceOps C ops ops.toList σ)) : Sat C fr C.N (.region id ops true) σ Q := by
  intro G a w hi
  cases hr : traceOps C ops ops.toList σ with
  | none => rw [hr] at h; exact h.elim
  | some p =>
    obtain ⟨σ', tr⟩ := p
    rw [hr] at h
    obtain ⟨h1, h2⟩ := h
    have hi2 : Inv fr C.N σ { G with R := fun b => G.R b ∨ w.heap.size ≤ b ∧ b < w.heap.size } a { w with drawn := w.drawn + 1 } := hi.world (w' := { w with drawn := w.drawn + 1 }) rfl rfl rfl (Nat.le_refl _) (fun _ _ _ => rfl)
    refine wp_region_any hm (any_ok hk hr h1 hac (fun G a w hI => ⟨σ', G, h2, hI⟩) ops.size _ { G with R := fun b => G.R b ∨ w.heap.size ≤ b ∧ b < w.heap.size } _ _ (by simp) ?_ (fun j o e _ hj => ?_) ?_)
    · exact Nat.le_trans (List.length_filter_le _ _) (by simp)
    · exfalso
      by_cases hlt : j < ops.size <;> simp [Array.getD_eq_getD_getElem?, hlt] at hj
    · rw [fold_false (fun j _ => by by_cases hlt : j < ops.size <;> simp [Array.getD_eq_getD_getElem?, hlt])]
      exact hi2
end
end Go.Proofs.Ytmbmebfeoejlnaa.Ab
