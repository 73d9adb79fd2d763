/- Each operation of the machine does what the abstract machine says: append. -/
import Derived.Test.YtmbmebfeoejlnaaA13
import Derived.Maps.AppendAt
namespace Go.Proofs.Ytmbmebfeoejlnaa.Ab
set_option linter.unusedVariables false
set_option linter.unusedSimpArgs false
open Go.RowKit
section
variable {C : Cx} {fr : Fr} {N : Nat} {σ σ1 : St} {G G1 : Gh} {a : Act} {w : World} {ws : List Wr} {o : Oper}

/-- what is appended, as the machine has it -/
structure News (w : World) (F : Nat → Prop) (k : Nat) (y : Value) (ys : List D) (us : List Value) (T : Nat → Nat → Prop) (A : Option Addr) (m c : Nat) : Prop where
  val : y = .slice A m c
  len : ys.length = m * k
  cells : 0 < m → ∃ ad, A = some ad ∧ ∀ (j : Nat) (u : Value), us[j]? = some u → w.cell? (ad.add j) = some u
  own : Cells w F ys us T
theorem Own.ones {F : Nat → Prop} {ys : List D} {us : List Value} {T : Nat → Nat → Prop} (h : Cells w F ys us T) : ∀ u ∈ us, u.oneCell' = true := by
  intro u hu
  obtain ⟨n, hn⟩ := List.getElem?_of_mem hu
  have : n < ys.length := by rw [← h.len]; exact (List.getElem?_eq_some_iff.1 hn).1
  exact (h.own n ys[n] u (List.getElem?_eq_getElem this) hn).one
theorem run_append_zero {P : Program} {t ty e : TypeId} {i : TypeInfo} (ht : P.underlying t = some (.slice e)) (hi : P.info? e = some i) {b A : Option Addr} {n cap c : Nat} (hle : n ≤ cap) :
    (Builtin.append_ #[t, t] ty #[.slice b n cap, .slice A 0 c]).run P w = .ok (.slice b n cap) w := by
  have h0 : ∀ ad : Addr, (loadCells ad 0).run P w = .ok #[] w := fun ad => rfl
  cases b <;> cases A <;> simp [Builtin.append_, run_underlying ht, sizeOf, typeInfo, hi, Builtin.lenOf, hle, Builtin.firstCells, storeCells, h0]
theorem append_own {P : Program} {F : Nat → Prop} {t ty e k : Nat} (ht : tel P t = some e) (hk : tsz P e = k) (hk0 : 0 < k) (hz : (tzero P e).isSome) {v y : Value} {xs ys : List D} {us : List Value} {S : Nat → Prop} {T : Nat → Nat → Prop} {A : Option Addr} {m c : Nat}
    (ho : Own w F (.sl false e k xs) v S) (hn : News w F k y ys us T A m c) (hTS : ∀ j b, T j b → ¬ S b ∧ b < w.heap.size) (hSw : ∀ b, S b → b < w.heap.size) (hF : ∀ b, F b → ¬ S b ∧ b < w.heap.size)
    (hmax : (xs.length + ys.length) / k ≤ maxL) (hby : (xs.length + ys.length) / k * tby P e ≤ maxL) :
    ∃ v' w', (Builtin.append_ #[t, t] ty #[v, y]).run P w = .ok v' w' ∧ Own w' F (.sl false e k (xs ++ ys)) v' (fun b => S b ∨ (∃ j, T j b) ∨ w.heap.size ≤ b ∧ b < w'.heap.size) ∧
      w'.os = w.os ∧ w'.tape = w.tape ∧ w'.output = w.output ∧ w.heap.size ≤ w'.heap.size ∧ ∀ b, b < w.heap.size → ¬ S b → w'.heap[b]? = w.heap[b]? := by
  obtain ⟨z, hz⟩ := Option.isSome_iff_exists.1 hz
  obtain ⟨i, zv, h1, h2, h3, h4, rfl⟩ := tzero_some hz
  have hisz : i.size = k := by rw [← hk]; unfold tsz; rw [h1]; rfl
  have hiby : i.bytes = tby P e := by unfold tby; rw [h1]; rfl
  obtain ⟨hy, hylen, hcells, hown⟩ := hn
  subst hy
  obtain ⟨A0, n, cap, rfl, hn1, hn2, hn3, hn4⟩ : ∃ A0 n cap, v = .slice A0 n cap ∧ n = xs.length / k ∧ xs.length = n * k ∧ n ≤ cap ∧ n ≤ maxL := ho.rep.slice
  have hsum : (xs.length + ys.length) / k = n + m := by rw [hn2, hylen, ← Nat.add_mul, Nat.mul_div_cancel _ hk0]
  rw [hsum] at hmax hby
  rcases Nat.eq_zero_or_pos m with hm0 | hm0
  · subst hm0
    have hys : ys = [] := List.eq_nil_of_length_eq_zero (by rw [hylen]; simp)
    subst hys
    rw [List.append_nil]
    exact ⟨_, w, run_append_zero (tel_some ht) h1 hn3, ho.mono (fun b hb => .inl hb), rfl, rfl, rfl, Nat.le_refl _, fun _ _ _ => rfl⟩
  · obtain ⟨ad, rfl, hc⟩ := hcells hm0
    -- the row as the kit's law wants it
    have hrow : ∃ (us0 : List Value) (T0 : Nat → Nat → Prop), w.ownsRow 0 e k (.slice A0 n cap) n us0 ∧ Cells w F xs us0 T0 ∧ (∀ j b, T0 j b → S b ∧ some b ≠ (Value.slice A0 n cap).ownBlock) ∧ ∀ b, (Value.slice A0 n cap).ownBlock = some b → S b := by
      cases ho with
      | nil => exact ⟨[], fun _ _ => False, ⟨by simp, .inl ⟨rfl, rfl⟩⟩, ⟨rfl, fun j x u h => by simp at h, fun _ _ _ h => h.elim⟩, fun _ _ h => h.elim, fun b hb => by simp [Value.ownBlock] at hb⟩
      | row _ _ _ us0 _ _ g cur _ T0 _ hnn hc0 hm0 hcm hgS hcell hcur hus hx hT hd =>
        have hlen : us0.length = xs.length := by rw [← hus, List.length_take, Array.length_toList, hcur, hnn]; exact Nat.min_eq_left (Nat.mul_le_mul_right k hc0)
        exact ⟨us0, T0, ⟨by rw [hlen, hnn], .inr ⟨g, cap, cur, rfl, Nat.zero_le _, hcell, hc0, hcm, hcur, hus⟩⟩, ⟨hlen, hx, hd⟩, fun j b hb => ⟨(hT j b hb).1, by simp [Value.ownBlock]; exact (hT j b hb).2⟩, fun b hb => by
          simp only [Value.ownBlock, Option.some.injEq] at hb; subst hb; exact hgS⟩
    obtain ⟨us0, T0, hor, hc0, hT0, hob⟩ := hrow
    obtain ⟨v', w', hrun, hor', hgr, _, hblk⟩ := run_append_own_at (P := P) w 0 t ty e i zv k i.bytes (tel_some ht) h1 h2 hisz rfl (by rw [h3, hisz]) hk0 _ n us0 hor ad m c us (by rw [hown.len, hylen]) hc (Own.ones hown)
      (by unfold maxL at hmax; unfold maxLen; omega) (by rw [hiby]; unfold maxL at hby; exact hby) (Nat.zero_le _)
    have hsame : ∀ b, b < w.heap.size → ¬ S b → w'.heap[b]? = w.heap[b]? := fun b h1 h2 => hgr.block b h1 (fun e => h2 (hob b e.symm))
    have hg' : ∀ g, v'.ownBlock = some g → (S g ∨ g = w.heap.size) ∧ (∀ j b, T0 j b → b ≠ g) ∧ (∀ j b, T j b → b ≠ g) := by
      intro g hg
      rcases hblk with h | h
      · rw [h] at hg
        exact ⟨.inl (hob g hg), fun j b hb e => (hT0 j b hb).2 (by rw [hg, e]), fun j b hb e => (hTS j b hb).1 (e ▸ hob g hg)⟩
      · rw [h] at hg
        obtain rfl := Option.some.inj hg
        exact ⟨.inr rfl, fun j b hb e => by have := hSw b (hT0 j b hb).1; omega, fun j b hb e => by have := (hTS j b hb).2; omega⟩
    refine ⟨v', w', hrun, ?_, hgr.os, hgr.tape, hgr.output, hgr.size, hsame⟩
    obtain ⟨hlen', hcase⟩ := hor'
    rcases hcase with ⟨rfl, hnm⟩ | ⟨g, cap', cur', rfl, _, hheap, hle, hcm', hcs', htake⟩
    · omega
    · obtain ⟨hgS, hgT0, hgT⟩ := hg' g rfl
      have hlt : g < w'.heap.size := (Array.getElem?_eq_some_iff.1 hheap).1
      refine .row e k _ (us0 ++ us) (n + m) cap' g cur' _ (fun j b => if j < xs.length then T0 j b else T (j - xs.length) b) hk0 (by rw [List.length_append, hn2, hylen, Nat.add_mul]) hle hmax hcm' ?_ hheap hcs' htake ?_ ?_ ?_
      · rcases hgS with h | h
        · exact .inl h
        · exact .inr (.inr ⟨by omega, hlt⟩)
      · intro j x u hx hu
        by_cases hj : j < xs.length
        · rw [List.getElem?_append_left hj] at hx
          rw [List.getElem?_append_left (by rw [hc0.len]; exact hj)] at hu
          simp only [hj, if_true]
          exact (hc0.own j x u hx hu).frame (fun _ h => h) (fun _ h => h) (fun b hb => by
            rcases hb with hb | hb
            · exact hgr.block b (hSw b (hT0 j b hb).1) (hT0 j b hb).2
            · exact hsame b (hF b hb).2 (hF b hb).1)
        · rw [List.getElem?_append_right (by omega)] at hx
          rw [List.getElem?_append_right (by rw [hc0.len]; omega), hc0.len] at hu
          simp only [hj, if_false]
          exact (hown.own _ x u hx hu).frame (fun _ h => h) (fun _ h => h) (fun b hb => by
            rcases hb with hb | hb
            · exact hsame b (hTS _ b hb).2 (hTS _ b hb).1
            · exact hsame b (hF b hb).2 (hF b hb).1)
      · intro j b hb
        by_cases hj : j < xs.length
        · simp only [hj, if_true] at hb; exact ⟨.inl (hT0 j b hb).1, hgT0 j b hb⟩
        · simp only [hj, if_false] at hb; exact ⟨.inr (.inl ⟨_, hb⟩), hgT _ b hb⟩
      · intro j j2 b hb1 hb2
        by_cases hj : j < xs.length <;> by_cases hj2 : j2 < xs.length
        · simp only [hj, hj2, if_true] at hb1 hb2; exact hc0.dis j j2 b hb1 hb2
        · simp only [hj, hj2, if_true, if_false] at hb1 hb2; exact absurd (hT0 j b hb1).1 (hTS _ b hb2).1
        · simp only [hj, hj2, if_true, if_false] at hb1 hb2; exact absurd (hT0 j2 b hb2).1 (hTS _ b hb1).1
        · simp only [hj, hj2, if_false] at hb1 hb2
          have := hown.dis _ _ b hb1 hb2
          omega
theorem news_rep {F : Nat → Prop} {sh : Bool} {e k k' : Nat} {ys : List D} {u : Value} (h : Rep w F (.sl sh e k' ys) u) (hk : k' = k ∨ k' = 0) : ∃ us A m c, News w F k u (ys.map shareC) us (fun _ _ => False) A m c ∧ ∀ (j : Nat) (x : D) (v : Value), ys[j]? = some x → us[j]? = some v → Rep w F x v := by
  cases h with
  | nil => exact ⟨[], none, 0, 0, ⟨rfl, by simp, fun h => by omega, ⟨rfl, fun j x v h => by simp at h, fun _ _ _ h => h.elim⟩⟩, fun j x v h => by simp at h⟩
  | row _ _ _ _ us m c A hk0 hn hl hc hm hA hx =>
    have hk : k' = k := by rcases hk with h | h <;> omega
    subst hk
    refine ⟨us, A, m, c, ⟨rfl, by simpa using hn, fun h0 => ?_, ⟨by simpa using hl, fun j x v h1 h2 => ?_, fun _ _ _ h => h.elim⟩⟩, hx⟩
    · obtain ⟨ad, h1, _, h2⟩ := hA h0; exact ⟨ad, h1, h2⟩
    · rw [List.getElem?_map] at h1
      obtain ⟨y, hy, rfl⟩ := Option.map_eq_some_iff.1 h1
      exact own_d (shareC_rep (hx j y v hy h2)) shareC_nil
theorem news_own {F : Nat → Prop} {e k k' : Nat} {ys : List D} {u : Value} {S : Nat → Prop} (h : Own w F (.sl false e k' ys) u S) (hk : k' = k ∨ k' = 0) : ∃ us T A m c, News w F k u ys us T A m c ∧ ∀ j b, T j b → S b := by
  cases h with
  | nil => exact ⟨[], fun _ _ => False, none, 0, 0, ⟨rfl, by simp, fun h => by omega, ⟨rfl, fun j x v h => by simp at h, fun _ _ _ h => h.elim⟩⟩, fun _ _ h => h.elim⟩
  | row _ _ _ us m c g cur _ T hk0 hn hc hm hcm hgS hcell hcur hus hx hT hd =>
    have hk : k' = k := by rcases hk with h | h <;> omega
    subst hk
    have hlen : us.length = ys.length := by rw [← hus, List.length_take, Array.length_toList, hcur, hn]; exact Nat.min_eq_left (Nat.mul_le_mul_right k' hc)
    refine ⟨us, T, _, m, c, ⟨rfl, hn, fun _ => ⟨_, rfl, fun j v hv => ?_⟩, ⟨hlen, hx, hd⟩⟩, fun j b hb => (hT j b hb).1⟩
    rw [blk_add, Nat.zero_add, cell_of_row hcell, ← Array.getElem?_toList]
    exact (take_get hus hv).1
theorem flat_own {F : Nat → Prop} {x : D} {u : Value} {S : Nat → Prop} (h : Own w F x u S) (hf : x.flat = true) : Own w F x u (fun _ => False) := by
  cases h with
  | lit _ _ h => exact .lit _ _ h
  | hole => simp [D.flat] at hf
  | nil => simp [D.flat] at hf
  | shared _ _ _ _ _ h => exact .shared _ _ _ _ _ h
  | row => simp [D.flat] at hf
theorem News.flat {F : Nat → Prop} {k : Nat} {y : Value} {ys : List D} {us : List Value} {T : Nat → Nat → Prop} {A : Option Addr} {m c : Nat} (h : News w F k y ys us T A m c) (hf : ys.all D.flat = true) : News w F k y ys us (fun _ _ => False) A m c :=
  ⟨h.val, h.len, h.cells, ⟨h.own.len, fun j x u h1 h2 => flat_own (h.own.own j x u h1 h2) (List.all_eq_true.1 hf x (List.mem_of_getElem? h1)), fun _ _ _ h => h.elim⟩⟩
theorem newsE_ok {k : Nat} {y : LV} {u : Value} {c : List D → List Wr → List Nat → E} (hi : Inv fr N σ G a w) (hl : LOK σ.o G w y u) (h : (newsE k y c).run σ = some ws) :
    ∃ ys yw used R1 us T A m cc, (c ys yw used).run σ = some ws ∧ Inv fr N (σ.wrs yw) { G with R := R1 } a w ∧ Moves σ.o (σ.wrs yw).o G { G with R := R1 } w w ∧ News w G.F k u ys us T A m cc ∧ (∀ j b, T j b → R1 b) ∧
      (∀ i, i ∉ used → (σ.wrs yw).o i = σ.o i) ∧ (∀ i, ((σ.wrs yw).o i).v = (σ.o i).v) := by
  unfold newsE at h
  split at h
  · rename_i sh e k' ys
    split at h
    · rename_i hk
      obtain ⟨us, A, m, cc, hn, _⟩ := news_rep hl.1 hk
      exact ⟨_, [], [], G.R, us, _, A, m, cc, h, hi, Moves.refl _ _ _, hn, fun _ _ h => h.elim, fun _ _ => rfl, fun _ => rfl⟩
    · simp [E.run] at h
  · rename_i i v p s m
    obtain ⟨X, hg, hat, h⟩ := nodeE_ok hi h
    split at h
    · rename_i sh e k' ys hcut
      split at h
      · rename_i hk
        obtain ⟨sh0, e0, k0, xs0, u0, a1, a2, a3⟩ := hl.2.2 hg
        rw [hat] at a1
        obtain rfl := Option.some.inj a1
        split at h
        · rename_i hst
          have hr := ((hi.fzs i hst).at' a2 hat).cut a3
          rw [hcut] at hr
          obtain ⟨us, A, m, cc, hn, _⟩ := news_rep hr hk
          exact ⟨_, [], [], G.R, us, _, A, m, cc, h, hi, Moves.refl _ _ _, hn, fun _ _ h => h.elim, fun _ _ => rfl, fun _ => rfl⟩
        · rename_i hnf
          have hown : (σ.o i).st = .own := by have := hg.2.1; cases hq : (σ.o i).st <;> simp_all
          obtain ⟨T0, hoo, hT0⟩ := a2.one (hi.objs i hown) hat
          have hsplit : (sh0 = true ∧ sh = true ∧ Rep w G.F (.sl sh e k' ys) u) ∨ (sh = false ∧ sh0 = false ∧ Own w G.F (.sl sh e k' ys) u T0) := by
            cases sh0 with
            | true =>
              left
              have hsh : sh = true := by cases m <;> simp [cutD] at hcut <;> simp [← hcut.1]
              cases hoo with
              | shared _ _ _ _ _ hr => refine ⟨rfl, hsh, ?_⟩; rw [← hcut]; exact hr.cut a3
            | false =>
              right
              have hsh : sh = false := by cases m <;> simp [cutD] at hcut <;> simp [← hcut.1]
              have := hoo.cut a3
              rw [hcut] at this
              exact ⟨hsh, rfl, this⟩
          split at h
          · rename_i hflat
            rcases hsplit with ⟨_, rfl, hr⟩ | ⟨rfl, _, hr⟩
            · obtain ⟨us, A, m, cc, hn, hx⟩ := news_rep hr hk
              refine ⟨_, [], [], G.R, us, fun _ _ => False, A, m, cc, h, hi, Moves.refl _ _ _, ⟨hn.val, by have := hn.len; simpa using this, hn.cells, ⟨by have := hn.own.len; simpa using this, fun j x v h1 h2 => ?_, fun _ _ _ h => h.elim⟩⟩, fun _ _ h => h.elim, fun _ _ => rfl, fun _ => rfl⟩
              have hfx := List.all_eq_true.1 hflat x (List.mem_of_getElem? h1)
              have hrx := hx j x v h1 h2
              cases x with
              | lit => exact own_d hrx trivial
              | hole => simp [D.flat] at hfx
              | sl sh => cases sh with
                | true => exact own_d hrx trivial
                | false => simp [D.flat] at hfx
            · obtain ⟨us, T, A, m, cc, hn, hT⟩ := news_own hr hk
              exact ⟨_, [], [], G.R, us, _, A, m, cc, h, hi, Moves.refl _ _ _, hn.flat hflat, fun _ _ h => h.elim, fun _ _ => rfl, fun _ => rfl⟩
          · split at h
            · rename_i hpm
              have hfin := h
              clear h
              obtain ⟨rfl, rfl⟩ := hpm
              have hsh0 : sh0 = false := by
                have : (σ.o i).d = .sl sh0 e0 k0 xs0 := by rw [D.at] at hat; exact Option.some.inj hat
                unfold Obj.d at this; injection this with q; exact q.symm
              rcases hsplit with ⟨h1, _, _⟩ | ⟨rfl, _, hr⟩
              · rw [hsh0] at h1; cases h1
              · obtain ⟨us, T, A, m, cc, hn, hT⟩ := news_own hr hk
                have e0' : T0 = T0 := rfl
                refine ⟨_, _, _, _, us, T, A, m, cc, hfin, hi.kill hown, hi.kill_moves, hn, fun j b hb => .inr (hT0 b (hT j b hb)), fun i' hi' => ?_, fun i' => ?_⟩
                · have : i' ≠ i := by simpa using hi'
                  simp [St.wrs, St.wr, upd, this]
                · by_cases hii : i' = i <;> simp [St.wrs, St.wr, upd, hii]
            · simp [E.run] at h
      · simp [E.run] at h
    · simp [E.run] at h
  · simp [E.run] at h
theorem wr_wr {i : Nat} {x y : Obj} : (σ.wr (.o i x)).wr (.o i y) = σ.wr (.o i y) := by
  show St.mk _ _ _ = St.mk _ _ _
  congr 1
  funext j
  simp only [St.wr, upd]
  split <;> rfl
theorem fitsL_some {P : Program} {e k n : Nat} (h : fitsL P e k n = true) : n / k ≤ maxL ∧ n / k * tby P e ≤ maxL := of_decide_eq_true h
/-- the last steps of an append: the machine's own, and the new object -/
theorem append_end {t e k : Nat} {x y : Operand} (ho : o.op = .call { callee := .builtin .append, args := #[x, y], argTypes := #[t, t] }) (hd : dstOk N o.dst = true) (ht : tel C.P t = some e) (hk : tsz C.P e = k) (hk0 : 0 < k) (hz : (tzero C.P e).isSome)
    {σ2 : St} {G2 : Gh} (hi2 : Inv fr N σ2 G2 a w) {xs ys : List D} {us : List Value} {S : Nat → Prop} {T : Nat → Nat → Prop} {A : Option Addr} {m c : Nat}
    (hx : Own w G2.F (.sl false e k xs) (a.eval x) S) (hn : News w G2.F k (a.eval y) ys us T A m c) (hS : ∀ b, S b → G2.R b) (hT : ∀ j b, T j b → G2.R b ∧ ¬ S b) (hf : fitsL C.P e k (xs.length + ys.length) = true) (id : Nat) :
    Told C fr N σ2 ([.o id ⟨(σ2.o id).v + 1, 0, .own, e, k, xs ++ ys⟩] ++ setS o.dst (.l (.ref id ((σ2.o id).v + 1) [] 0 none))) o G2 a w := by
  obtain ⟨h1, h2⟩ := fitsL_some hf
  obtain ⟨v', w', hrun, hown, hos, htp, hou, hsz, hsame⟩ := append_own (ty := o.type) ht hk hk0 hz hx hn (fun j b hb => ⟨(hT j b hb).2, (hi2.rF b (hT j b hb).1).2.2⟩) (fun b hb => (hi2.rF b (hS b hb)).2.2) (fun b hb => ⟨fun h => (hi2.rF b (hS b h)).1 hb, (hi2.Fw b hb).1⟩) h1 h2
  have hw := hi2.world hos htp hou hsz (fun b h3 h4 => hsame b h3 (fun h => h4 (hS b h)))
  have hobj := hw.newObj hown (fun b hb => by
    rcases hb with hb | ⟨j, hb⟩ | hb
    · exact .inl (hS b hb)
    · exact .inl (hT j b hb).1
    · exact .inr hb) id
  have hexec : (execOp a.eval o).run C.P w = .ok (.value v') w' := run_call_builtin ho (f := Builtin.append_) (fun cs => rfl) (by simpa using hrun)
  intro next Q hn
  refine wp_value' hexec (hn _ _ _ (by
    rw [wrs_app]
    refine Inv.put (σ := σ2.wr (.o id ⟨(σ2.o id).v + 1, 0, .own, e, k, xs ++ ys⟩)) hobj hd ⟨.inr ⟨by simp [St.wr, upd], by simp [St.wr, upd]⟩, hown.one, fun _ => ⟨_, _, _, _, _, rfl, .nil _ _, by simp [upd]; rfl⟩⟩))
theorem Obj.up_eq {ob : Obj} {f : D → D} {p : List Nat} (hp : p ≠ []) : D.sl false ob.e ob.k (ob.up f p) = ob.d.upd f p := by
  cases p with
  | nil => exact absurd rfl hp
  | cons j p => unfold Obj.up Obj.d; rw [D.upd]; rfl
theorem ok_append (hi : Inv fr N σ G a w) {t e : TypeId} {x y : Operand} {lx ly : LV} (ho : o.op = .call { callee := .builtin .append, args := #[x, y], argTypes := #[t, t] }) (hd : dstOk N o.dst = true) (ht : tel C.P t = some e)
    (sx : LOK σ.o G w lx (a.eval x)) (sy : LOK σ.o G w ly (a.eval y)) (h : (appE C o e lx ly).run σ = some ws) : Told C fr N σ ws o G a w := by
  unfold appE at h
  generalize hk : tsz C.P e = k at h
  dsimp only at h
  split at h
  · simp [E.run] at h
  · rename_i hkz
    have hk0 : 0 < k := Nat.pos_of_ne_zero fun e => hkz (.inl e)
    have hz : (tzero C.P e).isSome := by
      cases hq : tzero C.P e with
      | none => exact absurd (.inr (by rw [hq]; rfl)) hkz
      | some z => rfl
    obtain ⟨ys, yw, used, R1, us, T, A, m, cc, h, hi1, hm1, hn, hT, hkeep, hv1⟩ := newsE_ok hi sy h
    have sx1 := LOK.move hm1 sx
    split at h
    · rename_i e0 k0 xs0
      split at h
      · rename_i hf
        obtain rfl := Option.some.inj h
        have hv : a.eval x = .slice none 0 0 := sx.2
        have hown : Own w G.F (.sl false e k []) (a.eval x) (fun _ => False) := by rw [hv]; exact .nil _ _ _
        have hend := append_end (σ2 := σ.wrs yw) (o := o) ho hd ht hk hk0 hz hi1 hown hn (fun b hb => hb.elim) (fun j b hb => ⟨hT j b hb, fun h => h⟩) (by simpa using hf) (site o)
        rw [hv1] at hend
        intro next Q hq
        exact hend next Q (fun G' a' w' hI => hq G' a' w' (by rw [List.append_assoc, wrs_app]; simpa using hI))
      · simp [E.run] at h
    · rename_i i v p s mm _
      obtain ⟨X, hg, hat, h⟩ := nodeE_ok hi h
      split at h
      · rename_i e' k' xs hcut
        split at h
        · rename_i hc
          obtain ⟨hst, hnu, rfl, rfl, hf⟩ := hc
          have e1 := hkeep i hnu
          have hst1 : ((σ.wrs yw).o i).st = .own := by rw [e1]; exact hst
          obtain ⟨sh0, e0, k0, xs0, u0, a1, a2, a3⟩ := sx.2.2 hg
          rw [hat] at a1
          obtain rfl := Option.some.inj a1
          have hsh0 : sh0 = false := by cases mm <;> simp [cutD] at hcut <;> exact hcut.1
          subst hsh0
          split at h
          · rename_i hp
            have hfin := h
            clear h
            subst hp
            obtain rfl := Option.some.inj hfin
            have hX : (σ.o i).d = .sl false e0 k0 xs0 := by rw [D.at] at hat; exact Option.some.inj hat
            rw [a2.nil_inv rfl] at a3
            have hown := hi1.objs i hst1
            rw [e1, hX] at hown
            have hown := hown.cut a3
            rw [hcut] at hown
            have hkill := hi1.kill hst1
            have hend := append_end (C := C) (σ2 := (σ.wrs yw).wr (.o i { (σ.wrs yw).o i with st := .dead })) (o := o) ho hd ht hk hk0 hz hkill hown hn (fun b hb => .inr hb) (fun j b hb => ⟨.inl (hT j b hb), fun h => hi1.rS i b hst1 h (hT j b hb)⟩) hf i
            intro next Q hq
            refine hend next Q (fun G' a' w' hI => hq G' a' w' ?_)
            rw [List.append_assoc, wrs_app, wrs_app]
            rw [wrs_app] at hI
            have e2 : (((σ.wrs yw).wr (.o i { (σ.wrs yw).o i with st := .dead })).o i).v = (σ.o i).v := by simp [St.wr, upd, hv1]
            rw [e2] at hI
            have e3 : ((σ.wrs yw).wr (.o i { (σ.wrs yw).o i with st := .dead })).wrs [.o i ⟨(σ.o i).v + 1, 0, .own, e', k', xs ++ ys⟩] = (σ.wrs yw).wrs [.o i ⟨(σ.o i).v + 1, 0, .own, e', k', xs ++ ys⟩] := wr_wr
            rw [e3] at hI
            exact hI
          · rename_i hp
            split at h
            · simp [E.run] at h
            · rename_i hsite
              obtain rfl := Option.some.inj h
              have hs1 : site o ≠ i := fun e => hsite (.inl e)
              have hs2 : site o ∉ used := fun e => hsite (.inr e)
              have hown := hi1.objs i hst1
              rw [e1] at hown
              obtain ⟨T0, hT0, ho1, ho2⟩ := hown.take a2 hat
              rw [← Obj.up_eq hp] at ho2
              have ho2' : Own w G.F (.sl false ((σ.wrs yw).o i).e ((σ.wrs yw).o i).k ((σ.o i).up (fun _ => .hole) p)) (G.val i) (fun b => G.S i b ∧ ¬ T0 b) := by rw [e1]; exact ho2
              have hmod := hi1.modObj hst1 (w' := w) rfl rfl rfl rfl (fun _ _ _ _ => rfl) ho2' (fun b hb => .inl hb.1)
              have ho1 := ho1.cut a3
              rw [hcut] at ho1
              have hend := append_end (C := C) (o := o) ho hd ht hk hk0 hz hmod ho1 hn (fun b hb => ⟨.inr (hT0 b hb), fun h => h.2 hb⟩) (fun j b hb => ⟨⟨.inl (hT j b hb), fun h => hi1.rS i b hst1 h.1 (hT j b hb)⟩, fun h => hi1.rS i b hst1 (hT0 b h) (hT j b hb)⟩) hf (site o)
              intro next Q hq
              refine hend next Q (fun G' a' w' hI => hq G' a' w' ?_)
              rw [e1] at hI
              have e2 : (((σ.wrs yw).wr (.o i { σ.o i with s := (σ.o i).s + 1, xs := (σ.o i).up (fun _ => .hole) p })).o (site o)).v = (σ.o (site o)).v := by simp [St.wr, upd, hs1, hv1]
              rw [e2] at hI
              rw [List.append_assoc, wrs_app]
              exact hI
        · simp [E.run] at h
      · simp [E.run] at h
    · simp [E.run] at h
end
end Go.Proofs.Ytmbmebfeoejlnaa.Ab
