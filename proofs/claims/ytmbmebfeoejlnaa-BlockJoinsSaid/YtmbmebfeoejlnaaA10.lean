/- Each operation of the machine does what the abstract machine says: places in slices, cuts, lengths. -/
import Derived.Test.YtmbmebfeoejlnaaA9
namespace Go.Proofs.Ytmbmebfeoejlnaa.Ab
set_option linter.unusedVariables false
set_option linter.unusedSimpArgs false
open Go.RowKit
section
variable {C : Cx} {fr : Fr} {N : Nat} {σ : St} {G : Gh} {a : Act} {w : World} {ws : List Wr} {o : Oper}

theorem tel_some {P : Program} {t e : Nat} (h : tel P t = some e) : P.underlying t = some (.slice e) := by
  unfold tel at h
  split at h
  · rename_i h1; obtain rfl := Option.some.inj h; exact h1
  · cases h
theorem tarr_some {P : Program} {t n e : Nat} (h : tarr P t = some (n, e)) : P.underlying t = some (.array n e) := by
  unfold tarr at h
  split at h
  · rename_i h1; simp only [Option.some.injEq, Prod.mk.injEq] at h; obtain ⟨rfl, rfl⟩ := h; exact h1
  · cases h
theorem tstr_some {P : Program} {t : Nat} (h : tstr P t = true) : P.underlying t = some .string := by
  unfold tstr at h
  split at h
  · rename_i h1; exact h1
  · cases h
theorem run_idx {P : Program} {t e n c : Nat} {i : Int} {k : IntKind} {ad : Addr} (hu : P.underlying t = some (.slice e)) (hz : tsz P e ≠ 0) (h0 : 0 ≤ i) (h1 : i < (n : Int)) :
    (Instr.indexAt t (.slice (some ad) n c) (.int k i)).run P w = .ok (.pointer (some (ad.add (i.toNat * tsz P e)))) w := by
  simp [Instr.indexAt, asIntOf, run_underlying hu, h0, h1, run_sizeOf' hz]
theorem ref_now (hi : Inv fr N σ G a w) {i v s : Nat} {p : List Nat} {m : Option Nat} {u : Value} {sh : Bool} {e k : Nat} {xs : List D} (hs : SOK σ.o σ.b G w (.l (.ref i v p s m)) u) (hg : (σ.o i).good v p s) (hat : (σ.o i).d.at p = some (.sl sh e k xs)) :
    ∃ u0, HeadAt w (σ.o i).d (G.val i) p u0 ∧ CutV u0 m u := by
  obtain ⟨sh', e', k', xs', u0, h1, h2, h3⟩ := hs.2.2 hg
  exact ⟨u0, h2, h3⟩
theorem mul_lt_len {L k n : Nat} {i : Int} (hn : L = n * k) (hk : 0 < k) (h0 : 0 ≤ i) (h1 : i < (n : Int)) : i.toNat * k < L := by
  have : i.toNat < n := by omega
  rw [hn]; exact Nat.mul_lt_mul_of_pos_right this hk
theorem ok_indexAddr (hi : Inv fr N σ G a w) {t : TypeId} {x y : Operand} (ho : o.op = .indexAddr t x y) (hd : dstOk N o.dst = true) (h : (eff C o).run σ = some ws) : Told C fr N σ ws o G a w := by
  rw [eff, ho] at h
  obtain ⟨ax, h, sx⟩ := opd_ok hi h
  obtain ⟨ay, h, sy⟩ := opd_ok hi h
  obtain ⟨h, _⟩ := litE_ok sy h
  split at h
  · rename_i kk n hy
    unfold idxAddrE at h
    split at h
    · rename_i sh e k xs _ _
      split at h
      · rename_i hc
        obtain ⟨ht, hk, hk0, h0, h1⟩ := hc
        obtain rfl := Option.some.inj h
        obtain ⟨A, n', c, e1, e2, e3, _⟩ := Rep.slice (show Rep w G.F (.sl sh e k xs) _ from sx.1)
        have sx' : Rep w G.F (.sl sh e k xs) (a.eval x) := sx.1
        rw [e1] at sx'
        rw [← e2] at h1
        have hj := mul_lt_len e3 hk0 h0 h1
        obtain ⟨ad, rfl, hf, hcell⟩ := sx'.get hj
        have hz : tsz C.P e ≠ 0 := by omega
        have hsok : SOK σ.o σ.b G w (.adr xs) (.pointer (some ad)) := ⟨ad, rfl, hf, hcell⟩
        refine told_value hi hd ?_ (hsok.adr_drop (n.toNat * k))
        rw [← hk]
        simp [execOp, ho, hy, e1, run_idx (tel_some ht) hz h0 h1]
      · simp [E.run] at h
    · rename_i i v p s m _ _
      obtain ⟨X, hg, hat, h⟩ := nodeE_ok hi h
      split at h
      · rename_i sh e k xs
        split at h
        · rename_i hc
          obtain ⟨ht, hk, hk0, h0, h1⟩ := hc
          obtain ⟨u0, hh, hcut⟩ := ref_now hi sx hg hat
          have hr0 := (hi.objRep hg.2.1).at' hh hat
          have hr := hr0.cut hcut
          have hz : tsz C.P e ≠ 0 := by omega
          obtain ⟨A0, n0, c0, e1, e2, e3, _⟩ := hr0.slice
          have hcd : (cutD (.sl sh e k xs) m) = .sl sh e k (match m with | some m => xs.take (m * k) | none => xs) := by cases m <;> rfl
          rw [hcd] at hr h1
          obtain ⟨A, n', c, e4, e5, e6, _⟩ := hr.slice
          have h1' : n < (n' : Int) := by rw [e5]; exact h1
          have hA : A = A0 ∧ n' ≤ n0 := by
            cases m with
            | none => have := (show a.eval x = u0 from hcut); rw [e1, e4] at this; injection this with q1 q2 q3; exact ⟨q1, by omega⟩
            | some m =>
              obtain ⟨A1, n1, c1, q1, q2, q3⟩ := hcut
              rw [e1] at q1; rw [e4] at q3
              injection q1 with q4 q5 q6; injection q3 with q7 q8 q9
              exact ⟨by rw [q7, q4], by omega⟩
          have hj := mul_lt_len e3 hk0 h0 (show n < (n0 : Int) by omega)
          subst e1
          split at h
          · rename_i hst
            obtain ⟨hst, rfl⟩ := hst
            obtain rfl := Option.some.inj h
            obtain ⟨T, hown, _⟩ := hh.one (hi.objs i hst) hat
            have hA0 : ∃ g, A0 = some ⟨g, 0, none⟩ := by
              cases hown with
              | nil => simp at hj
              | row _ _ _ _ _ _ g => exact ⟨g, rfl⟩
            obtain ⟨g, rfl⟩ := hA0
            refine told_value hi hd (v := .pointer (some ⟨g, n.toNat * k, none⟩)) ?_ ⟨sx.1, fun _ => ⟨false, e, k, xs, g, n0, c0, hat, hh, rfl⟩⟩
            rw [← hk]
            rw [hA.1] at e4
            simp [execOp, ho, hy, e4, run_idx (tel_some ht) hz h0 h1', blk_add]
          · split at h
            · rename_i hst
              obtain rfl := Option.some.inj h
              have hrF := (hi.fzs i hst).at' hh hat
              obtain ⟨ad, rfl, hf, hcell⟩ := hrF.get hj
              have hsok : SOK σ.o σ.b G w (.adr xs) (.pointer (some ad)) := ⟨ad, rfl, hf, hcell⟩
              refine told_value hi hd ?_ (hsok.adr_drop (n.toNat * k))
              rw [← hk]
              rw [hA.1] at e4
              simp [execOp, ho, hy, e4, run_idx (tel_some ht) hz h0 h1']
            · simp [E.run] at h
        · simp [E.run] at h
      · simp [E.run] at h
    · rename_i j v off _ _
      simp only [E.run] at h
      split at h
      · rename_i hl
        have e := SOK.fld_now sx hl
        split at h
        · rename_i m el ht
          split at h
          · rename_i hc
            obtain ⟨h0, h1, hz⟩ := hc
            obtain rfl := Option.some.inj h
            refine told_value hi hd (v := .pointer (some ⟨G.blk j, off + n.toNat * tsz C.P el, none⟩)) ?_ ⟨sx.1, fun _ _ => rfl⟩
            simp [execOp, ho, hy, e, Instr.indexAt, asIntOf, run_underlying (tarr_some ht), Instr.sureAddr, h0, h1, run_sizeOf' hz, blk_add]
          · simp [E.run] at h
        · simp [E.run] at h
      · simp [E.run] at h
    · simp [E.run] at h
  · simp [E.run] at h
theorem ok_index (hi : Inv fr N σ G a w) {t : TypeId} {x y : Operand} (ho : o.op = .index t x y) (hd : dstOk N o.dst = true) (h : (eff C o).run σ = some ws) : Told C fr N σ ws o G a w := by
  rw [eff, ho] at h
  obtain ⟨ax, h, sx⟩ := opd_ok hi h
  obtain ⟨ay, h, sy⟩ := opd_ok hi h
  obtain ⟨h, _⟩ := litE_ok sx h
  obtain ⟨h, _⟩ := litE_ok sy h
  split at h
  · rename_i s kk n hx hy
    split at h
    · rename_i ht
      split at h
      · rename_i h0
        split at h
        · rename_i c hc
          obtain rfl := Option.some.inj h
          exact told_value hi hd (by simp [execOp, ho, hx, hy, Instr.index, asIntOf, run_underlying (tstr_some ht), h0, hc]) (lit_sok rfl)
        · simp [E.run] at h
      · simp [E.run] at h
    · simp [E.run] at h
  · simp [E.run] at h

theorem intE_ok (hi : Inv fr N σ G a w) {x : Option Operand} {d : Int} {k : Int → E} (h : (intE x d k).run σ = some ws) : ∃ n, (k n).run σ = some ws ∧ ((x = none ∧ n = d) ∨ ∃ y kk, x = some y ∧ a.eval y = .int kk n) := by
  cases x with
  | none => exact ⟨d, h, .inl ⟨rfl, rfl⟩⟩
  | some y =>
    simp only [intE] at h
    obtain ⟨ay, h, sy⟩ := opd_ok hi h
    obtain ⟨h, _⟩ := litE_ok sy h
    split at h
    · rename_i kk n he; exact ⟨n, h, .inr ⟨y, kk, rfl, he⟩⟩
    · simp [E.run] at h
theorem run_bounds {P : Program} {b : Bool} {len cap : Nat} {lo hi' : Option Value} {l h : Int} (hl : (lo = none ∧ l = 0) ∨ ∃ k, lo = some (.int k l)) (hh : (hi' = none ∧ h = (len : Int)) ∨ ∃ k, hi' = some (.int k h)) (h0 : 0 ≤ l) (h1 : l ≤ h) (h2 : h ≤ (len : Int)) (hc : len ≤ cap) :
    (Instr.sliceBounds b len cap lo hi' none).run P w = .ok (l.toNat, h.toNat, cap) w := by
  have q1 : (0 : Int) ≤ h := by omega
  have q2 : h ≤ (cap : Int) := by omega
  have q3 : l ≤ (h.toNat : Int) := by omega
  rcases hl with ⟨rfl, rfl⟩ | ⟨k1, rfl⟩ <;> rcases hh with ⟨rfl, rfl⟩ | ⟨k2, rfl⟩ <;> simp_all [Instr.sliceBounds, Instr.sliceBound, asIntOf]
theorem run_slice {P : Program} {t e n c : Nat} {A : Option Addr} {lo hi' : Option Value} {l h : Int} (hu : P.underlying t = some (.slice e)) (hz : A = none ∨ tsz P e ≠ 0) (hin : (P.info? e).isSome) (hl : (lo = none ∧ l = 0) ∨ ∃ k, lo = some (.int k l)) (hh : (hi' = none ∧ h = (n : Int)) ∨ ∃ k, hi' = some (.int k h)) (h0 : 0 ≤ l) (h1 : l ≤ h) (h2 : h ≤ (n : Int)) (hc : n ≤ c) :
    (Instr.sliceAt t (.slice A n c) lo hi' none).run P w = .ok (.slice (if c = l.toNat then A else A.map (·.add (l.toNat * tsz P e))) (h.toNat - l.toNat) (c - l.toNat)) w := by
  obtain ⟨i, hi0⟩ := Option.isSome_iff_exists.1 hin
  have hs : (sizeOf e).run P w = .ok (tsz P e) w := by simp [sizeOf, typeInfo, hi0, tsz]
  simp [Instr.sliceAt, Instr.slice, run_underlying hu, run_bounds hl hh h0 h1 h2 hc, hs]

theorem run_call_builtin {P : Program} {b : Builtin} {args : Array Operand} {ts : Array TypeId} (ho : o.op = .call { callee := .builtin b, args := args, argTypes := ts }) {f : Array TypeId → TypeId → Array Value → Sem Value} {v : Value} {w' : World}
    (hb : ∀ cs, builtin b ts o.type cs (args.map a.eval) = (do pure (.value (← f ts o.type (args.map a.eval))))) (hr : (f ts o.type (args.map a.eval)).run P w = .ok v w') : (execOp a.eval o).run P w = .ok (.value v) w' := by
  simp only [execOp, ho, resolve, invoke, Sem.run_bind, Sem.run_pure, Result.andThen_ok, hb, hr]
theorem ok_len (hi : Inv fr N σ G a w) {x : Operand} {t : TypeId} (ho : o.op = .call { callee := .builtin .len, args := #[x], argTypes := #[t] }) (hd : dstOk N o.dst = true)
    (h : (builtinE C o .len [x] [t]).run σ = some ws) : Told C fr N σ ws o G a w := by
  simp only [builtinE] at h
  obtain ⟨ax, h, sx⟩ := opd_ok hi h
  have key : ∀ (n : Nat) (k : Int → E), ((∃ A c, a.eval x = .slice A n c) ∧ (tel C.P t).isSome) ∨ (∃ s, a.eval x = .string s ∧ n = s.size ∧ tstr C.P t = true) → Told C fr N σ (setS o.dst (.l (.d (.lit (.int .i64 (n : Int)))))) o G a w := by
    intro n k hx
    refine told_value hi hd (v := .int .i64 (n : Int)) ?_ (lit_sok rfl)
    refine run_call_builtin ho (f := Builtin.len_) (fun cs => rfl) ?_
    rcases hx with ⟨⟨A, c, e⟩, h1⟩ | ⟨s, e, rfl, h1⟩
    · obtain ⟨el, h1⟩ := Option.isSome_iff_exists.1 h1
      simp [Builtin.len_, e, run_underlying (tel_some h1), goInt]
    · simp [Builtin.len_, e, run_underlying (tstr_some h1), goInt]
  unfold lenE at h
  split at h
  · rename_i s
    split at h
    · rename_i hts
      obtain rfl := Option.some.inj h
      have e : a.eval x = .string s := Rep.lit_inv (F := G.F) sx.1
      exact key s.size (fun _ => .fail) (.inr ⟨s, e, rfl, hts⟩)
    · simp [E.run] at h
  · rename_i l _ _
    split at h
    · rename_i hte
      obtain ⟨d, h, hr⟩ := lvD_ok hi sx h
      split at h
      · rename_i sh e kk xs _
        obtain rfl := Option.some.inj h
        obtain ⟨A, n, c, e1, e2, _⟩ := hr.slice
        rw [← e2]
        exact key n (fun _ => .fail) (.inl ⟨⟨A, c, e1⟩, hte⟩)
      · simp [E.run] at h
    · simp [E.run] at h
  · simp [E.run] at h
theorem litsE_ok (hi : Inv fr N σ G a w) : ∀ {xs : List Operand} {k : List Value → E}, (litsE xs k).run σ = some ws → (k (xs.map a.eval)).run σ = some ws
  | [], k, h => h
  | x :: xs, k, h => by
    simp only [litsE] at h
    obtain ⟨ax, h, sx⟩ := opd_ok hi h
    obtain ⟨h, _⟩ := litE_ok sx h
    have h2 := litsE_ok hi (xs := xs) h
    exact h2
theorem minV_ok {P : Program} {vs : List Value} {v : Value} (h : minV vs = some v) (ts : Array TypeId) (t : TypeId) : (Builtin.min_ ts t vs.toArray).run P w = .ok v w ∧ v.oneCell' = true := by
  unfold minV at h
  split at h
  · split at h <;> cases h
    exact ⟨by simp_all [Builtin.min_, Builtin.min2], rfl⟩
  · split at h <;> cases h
    exact ⟨by simp_all [Builtin.min_, Builtin.min2], rfl⟩
  · cases h
theorem maxV_ok {P : Program} {vs : List Value} {v : Value} (h : maxV vs = some v) (ts : Array TypeId) (t : TypeId) : (Builtin.max_ ts t vs.toArray).run P w = .ok v w ∧ v.oneCell' = true := by
  unfold maxV at h
  split at h
  · split at h <;> cases h
    exact ⟨by simp_all [Builtin.max_, Builtin.max2], rfl⟩
  · split at h <;> cases h
    exact ⟨by simp_all [Builtin.max_, Builtin.max2], rfl⟩
  · cases h
theorem ok_minmax (hi : Inv fr N σ G a w) {b : Builtin} {xs : Array Operand} {ts : Array TypeId} (hb : b = .min ∨ b = .max) (ho : o.op = .call { callee := .builtin b, args := xs, argTypes := ts }) (hd : dstOk N o.dst = true)
    (h : (builtinE C o b xs.toList ts.toList).run σ = some ws) : Told C fr N σ ws o G a w := by
  have e : xs.map a.eval = (xs.toList.map a.eval).toArray := by rw [← Array.toList_map, Array.toArray_toList]
  rcases hb with rfl | rfl
  · have h : (litsE xs.toList fun vs => match minV vs with | some v => .done (setS o.dst (.l (.d (.lit v)))) | none => .fail).run σ = some ws := h
    have h := litsE_ok hi h
    split at h
    · rename_i v hv
      obtain rfl := Option.some.inj h
      obtain ⟨e1, e2⟩ := minV_ok (P := C.P) (w := w) hv ts o.type
      exact told_value hi hd (run_call_builtin ho (f := Builtin.min_) (fun cs => rfl) (by rw [e]; exact e1)) (lit_sok e2)
    · simp [E.run] at h
  · have h : (litsE xs.toList fun vs => match maxV vs with | some v => .done (setS o.dst (.l (.d (.lit v)))) | none => .fail).run σ = some ws := h
    have h := litsE_ok hi h
    split at h
    · rename_i v hv
      obtain rfl := Option.some.inj h
      obtain ⟨e1, e2⟩ := maxV_ok (P := C.P) (w := w) hv ts o.type
      exact told_value hi hd (run_call_builtin ho (f := Builtin.max_) (fun cs => rfl) (by rw [e]; exact e1)) (lit_sok e2)
    · simp [E.run] at h
/-- a part of what is shared -/
theorem Rep.sub {F : Nat → Prop} {sh : Bool} {e k : Nat} {xs : List D} {A : Option Addr} {n c l h : Nat} (hr : Rep w F (.sl sh e k xs) (.slice A n c)) (h1 : l ≤ h) (h2 : h ≤ n) :
    Rep w F (.sl true e k ((xs.take (h * k)).drop (l * k))) (.slice (if c = l then A else A.map (·.add (l * k))) (h - l) (c - l)) := by
  cases hr with
  | nil =>
    obtain rfl : h = 0 := by omega
    obtain rfl : l = 0 := by omega
    simpa using Rep.nil true e k
  | row _ _ _ _ us _ _ _ hk hn hl hc hm hA hx =>
    have hlen : ((xs.take (h * k)).drop (l * k)).length = (h - l) * k := by
      rw [List.length_drop, List.length_take, hn, Nat.min_eq_left (Nat.mul_le_mul_right k h2), Nat.sub_mul]
    have hget : ∀ {α : Type} {zs : List α} {j : Nat} {z : α}, ((zs.take (h * k)).drop (l * k))[j]? = some z → zs[l * k + j]? = some z := fun hz => by
      rw [List.getElem?_drop, List.getElem?_take] at hz
      split at hz
      · exact hz
      · cases hz
    refine .row _ _ _ _ ((us.take (h * k)).drop (l * k)) _ _ _ hk hlen (by simp [hl]) (by omega) (by omega) (fun h0 => ?_) (fun j x u hj hu => hx _ x u (hget hj) (hget hu))
    obtain ⟨ad, rfl, hf, hcell⟩ := hA (by omega)
    refine ⟨ad.add (l * k), ?_, by rw [add_block]; exact hf, fun j u hu => by rw [add_add]; exact hcell _ u (hget hu)⟩
    split
    · rename_i hcl; omega
    · rfl
theorem Inv.freezeAny (hi : Inv fr N σ G a w) {i : Nat} (h : (σ.o i).st ≠ .dead) : ∃ G', Inv fr N (σ.wr (.o i { σ.o i with st := .fz })) G' a w ∧ G'.val = G.val ∧ (∀ b, G.F b → G'.F b) ∧ G'.R = G.R := by
  cases hs : (σ.o i).st with
  | dead => exact absurd hs h
  | own => exact ⟨_, hi.freeze hs, rfl, fun _ h => .inl h, rfl⟩
  | fz =>
    have e : σ.wr (.o i { σ.o i with st := .fz }) = σ := by
      have : ({ σ.o i with st := .fz } : Obj) = σ.o i := by rw [← hs]
      rw [this]
      show St.mk _ _ _ = σ
      have e2 : upd σ.o i (σ.o i) = σ.o := by funext j; unfold upd; split <;> simp_all
      rw [e2]
    rw [e]
    exact ⟨G, hi, rfl, fun _ h => h, rfl⟩
theorem tokE_some {P : Program} {t e k : Nat} (h : tokE P t e k = true) : ∃ e', P.underlying t = some (.slice e') ∧ (P.info? e').isSome ∧ tsz P e' ≠ 0 ∧ (e' = e ∧ tsz P e' = k ∨ k = 0) := by
  unfold tokE at h
  split at h
  · rename_i e' he
    have h := of_decide_eq_true h
    obtain ⟨i, hi, _⟩ := tsz_pos h.1
    exact ⟨e', tel_some he, by rw [hi]; rfl, h.1, h.2⟩
  · cases h
/-- cutting a row that is read -/
theorem cut_run {F : Nat → Prop} {t : TypeId} {sh : Bool} {e k : Nat} {xs : List D} {A : Option Addr} {n c : Nat} {lo hi' : Option Value} {l h : Int} (ht : tokE C.P t e k = true) (hr : Rep w F (.sl sh e k xs) (.slice A n c))
    (hl : (lo = none ∧ l = 0) ∨ ∃ k, lo = some (.int k l)) (hh : (hi' = none ∧ h = (n : Int)) ∨ ∃ k, hi' = some (.int k h)) (h0 : 0 ≤ l) (h1 : l ≤ h) (h2 : h ≤ (n : Int)) :
    ∃ B c', (Instr.sliceAt t (.slice A n c) lo hi' none).run C.P w = .ok (.slice B (h.toNat - l.toNat) c') w ∧ Rep w F (.sl true e k ((xs.take (h.toNat * k)).drop (l.toNat * k))) (.slice B (h.toNat - l.toNat) c') ∧ (l = 0 → B = A ∧ c' = c) := by
  obtain ⟨e', hu, hin, hz, hk⟩ := tokE_some ht
  obtain ⟨_, _, _, e1, _, _, hc, _⟩ := hr.slice
  injection e1 with q1 q2 q3
  subst q1; subst q2; subst q3
  refine ⟨_, _, run_slice hu (.inr hz) hin hl hh h0 h1 h2 hc, ?_, fun e => ?_⟩
  · rcases hk with ⟨rfl, rfl⟩ | rfl
    · exact hr.sub (by omega) (by omega)
    · cases hr with
      | nil =>
        have q1 : h.toNat = 0 := by omega
        have q2 : l.toNat = 0 := by omega
        rw [q1, q2]
        simpa using Rep.nil true e 0
      | row => omega
  · subst e
    refine ⟨?_, by simp⟩
    split
    · rfl
    · cases A with
      | none => rfl
      | some ad => simp [Addr.add]
theorem ok_slice (hi : Inv fr N σ G a w) {t : TypeId} {x : Operand} {lo hi' : Option Operand} (ho : o.op = .slice t x lo hi' none) (hd : dstOk N o.dst = true) (h : (eff C o).run σ = some ws) : Told C fr N σ ws o G a w := by
  rw [eff, ho] at h
  obtain ⟨ax, h1, sx⟩ := opd_ok hi h
  clear h
  have h := h1
  clear h1
  have hb : ∀ {y : Option Operand} {d n : Int}, ((y = none ∧ n = d) ∨ ∃ z kk, y = some z ∧ a.eval z = .int kk n) → (y.map a.eval = none ∧ n = d) ∨ ∃ k, y.map a.eval = some (.int k n) := by
    rintro y d n (⟨rfl, rfl⟩ | ⟨z, kk, rfl, e⟩)
    · exact .inl ⟨rfl, rfl⟩
    · exact .inr ⟨kk, by simp [e]⟩
  unfold sliceE at h
  split at h
  · rename_i s
    split at h
    · rename_i hts
      obtain ⟨l, h, hl⟩ := intE_ok hi h
      obtain ⟨hh, h, hh'⟩ := intE_ok hi h
      split at h
      · rename_i hc
        obtain rfl := Option.some.inj h
        have e : a.eval x = .string s := Rep.lit_inv (F := G.F) sx.1
        refine told_value hi hd ?_ (lit_sok (v := .string (s.extract l.toNat hh.toNat)) rfl)
        simp [execOp, ho, e, Instr.sliceAt, Instr.slice, run_underlying (tstr_some hts), run_bounds (P := C.P) (w := w) (b := false) (hb hl) (hb hh') hc.1 hc.2.1 hc.2.2 (Nat.le_refl _)]
      · simp [E.run] at h
    · simp [E.run] at h
  · rename_i e k
    split at h
    · rename_i hte
      obtain ⟨hte, rfl⟩ := hte
      obtain ⟨hh, h, hh'⟩ := intE_ok hi h
      split at h
      · rename_i hc
        subst hc
        obtain rfl := Option.some.inj h
        have e1 : a.eval x = .slice none 0 0 := sx.2
        have hr : Rep w G.F (.sl false e k []) (.slice none 0 0) := .nil false e k
        obtain ⟨B, c', hrun, _, heq⟩ := cut_run hte hr (lo := none) (l := 0) (.inl ⟨rfl, rfl⟩) (hb hh') (Int.le_refl _) (Int.le_refl _) (Int.le_refl _)
        obtain ⟨rfl, rfl⟩ := heq rfl
        exact told_value hi hd (v := .slice none 0 0) (by have hrun2 := hrun; simp at hrun2; simp [execOp, ho, e1, hrun2]) ⟨.nil false e k, rfl⟩
      · simp [E.run] at h
    · simp [E.run] at h
  · rename_i sh e k xs _
    split at h
    · rename_i hte
      obtain ⟨l, h, hl⟩ := intE_ok hi h
      obtain ⟨hh, h, hh'⟩ := intE_ok hi h
      split at h
      · rename_i hc
        obtain rfl := Option.some.inj h
        have sx' : Rep w G.F (.sl sh e k xs) (a.eval x) := sx.1
        obtain ⟨A, n, c, e1, e2, e3, e4, _⟩ := sx'.slice
        rw [e1] at sx'
        rw [← e2] at hc hh'
        obtain ⟨B, c', hr, hrep, _⟩ := cut_run hte sx' (hb hl) (hb hh') hc.1 hc.2.1 hc.2.2
        exact told_value hi hd (by simp [execOp, ho, e1, hr]) ⟨hrep, trivial⟩
      · simp [E.run] at h
    · simp [E.run] at h
  · rename_i i v p s m
    obtain ⟨X, hg, hat, h⟩ := nodeE_ok hi h
    split at h
    · rename_i sh e k xs hcut
      split at h
      · rename_i hte
        obtain ⟨hh, h, hh'⟩ := intE_ok hi h
        split at h
        · rename_i hc
          obtain ⟨sh0, e0, k0, xs0, u0, g1, g2, g3⟩ := sx.2.2 hg
          rw [hat] at g1
          obtain rfl := Option.some.inj g1
          have hr := ((hi.objRep hg.2.1).at' g2 hat).cut g3
          rw [hcut] at hr
          obtain ⟨A, n, c, e1, e2, e3, e4, _⟩ := hr.slice
          rw [e1] at hr
          rw [← e2] at hc hh'
          split at h
          · obtain rfl := Option.some.inj h
            obtain ⟨B, c', hrun, hrep, heq⟩ := cut_run hte hr (lo := none) (l := 0) (.inl ⟨rfl, rfl⟩) (hb hh') (Int.le_refl _) hc.1 hc.2
            obtain ⟨rfl, rfl⟩ := heq rfl
            refine told_value hi hd (v := .slice B hh.toNat c') (by simp [execOp, ho, e1, hrun]) ⟨sx.1, rfl, fun _ => ⟨sh0, e0, k0, xs0, u0, hat, g2, ?_⟩⟩
            cases m with
            | none =>
              have := (show a.eval x = u0 from g3)
              exact ⟨B, n, c', by rw [← this, e1], by omega, rfl⟩
            | some m =>
              obtain ⟨A1, n1, c1, q1, q2, q3⟩ := g3
              rw [e1] at q3
              injection q3 with q4 q5 q6
              exact ⟨B, n1, c', by rw [q1, q4, q6], by omega, rfl⟩
          · rename_i lo'
            obtain ⟨l, h, hl⟩ := intE_ok hi h
            split at h
            · rename_i hc2
              obtain rfl := Option.some.inj h
              obtain ⟨G', hi2, hv, _, _⟩ := hi.freezeAny hg.2.1
              obtain ⟨B, c', hrun, _, _⟩ := cut_run hte hr (hb hl) (hb hh') hc2.1 hc2.2 hc.2
              have hrun' := hrun
              simp only [Option.map_some] at hrun'
              refine fun next Q hn => wp_value (v := .slice B (hh.toNat - l.toNat) c') (by simp [execOp, ho, e1, hrun']) (hn G' _ w ?_)
              have sx2 := hi2.slots
              refine Inv.put (σ := σ.wr (.o i { σ.o i with st := .fz })) hi2 hd ?_
              have hf := hi2.fzs i (by simp [St.wr, upd])
              simp only [St.wr, upd, if_true] at hf
              rw [hv] at hf
              have hr2 := ((show Rep w G'.F (σ.o i).d (G.val i) from hf).at' g2 hat).cut g3
              rw [hcut, e1] at hr2
              obtain ⟨B2, c2, hrun2, hrep2, _⟩ := cut_run hte hr2 (hb hl) (hb hh') hc2.1 hc2.2 hc.2
              rw [hrun] at hrun2
              injection hrun2 with q1 q2
              rw [q1]
              exact ⟨shareC_rep hrep2, shareC_nil⟩
            · simp [E.run] at h
        · simp [E.run] at h
      · simp [E.run] at h
    · simp [E.run] at h
  · simp [E.run] at h
end
end Go.Proofs.Ytmbmebfeoejlnaa.Ab
