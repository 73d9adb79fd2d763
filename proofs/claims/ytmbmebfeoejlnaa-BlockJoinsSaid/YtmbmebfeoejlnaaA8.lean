/- Each operation of the machine does what the abstract machine says: numbers, parts. -/
import Derived.Test.YtmbmebfeoejlnaaA7
import Derived.Laws.Cover3
import Derived.Laws.BytesString
import Derived.Laws.Cells
namespace Go.Proofs.Ytmbmebfeoejlnaa.Ab
set_option linter.unusedVariables false
set_option linter.unusedSimpArgs false
open Go.RowKit

theorem binV_ok {P : Program} {w : World} {op : BinOp} {t : TypeId} {u v r : Value} (h : binV op u v = some r) (x y : Operand) :
    (do eqGuard op t x y u v; binOp op t u v : Sem Value).run P w = .ok r w ∧ r.oneCell' = true := by
  unfold binV at h
  split at h <;> (try split at h) <;> (try cases h)
  all_goals first
    | (rename_i hb; refine ⟨?_, rfl⟩; have hb' : ¬ _ < (0 : Int) := Int.not_lt.2 hb; simp [eqGuard, binOp, Op.shift, hb'])
    | (rename_i hb; obtain ⟨rfl, hz⟩ := hb; refine ⟨?_, rfl⟩; simp [eqGuard, binOp, Op.intDiv, hz])
    | (rename_i hb; subst hb; refine ⟨?_, rfl⟩; simp [eqGuard, binOp, Op.intArith, Op.intBits, Op.intCmp])
    | (refine ⟨?_, rfl⟩; simp [eqGuard, binOp, Op.stringOp])
theorem unV_ok {P : Program} {w : World} {op : UnOp} {u r : Value} (h : unV op u = some r) : (Op.unary op u).run P w = .ok r w ∧ r.oneCell' = true := by
  unfold unV at h
  split at h <;> cases h <;> exact ⟨by simp [Op.unary, Op.intArith], rfl⟩
section
variable {C : Cx} {fr : Fr} {N : Nat} {σ : St} {G : Gh} {a : Act} {w : World} {ws : List Wr} {o : Oper}
theorem lit_sok {v : Value} (h : v.oneCell' = true) : SOK σ.o σ.b G w (.l (.d (.lit v))) v := ⟨Rep.lit v h, trivial⟩

theorem run_eq_nil {P : Program} {t e : TypeId} {b : Option Addr} {n c : Nat} (ht : P.underlying t = some (.slice e)) (x y : Operand) : (do eqGuard .eql t x y (.slice b n c) (.slice none 0 0); binOp .eql t (.slice b n c) (.slice none 0 0) : Sem Value).run P w = .ok (.bool b.isNone) w := by
  simp only [Sem.run_bind, eqGuard, binOp]
  simp [run_equal_slice_nil w t e b n c ht]
theorem nilB_ok (hi : Inv fr N σ G a w) {x : AV} {u : Value} {k : AV → E} (hx : SOK σ.o σ.b G w x u) (h : (nilE.nilB x k).run σ = some ws) : ∃ b n c av, u = .slice b n c ∧ (k av).run σ = some ws ∧ SOK σ.o σ.b G w av (.bool b.isNone) := by
  have hrow : ∀ {sh : Bool} {e k : Nat} {xs : List D} {u : Value}, Rep w (All σ G) (.sl sh e k xs) u → ∃ b n c, u = .slice b n c ∧ (xs ≠ [] → b.isNone = false) := by
    intro sh e k xs u hr
    cases hr with
    | nil => exact ⟨none, 0, 0, rfl, fun h => absurd rfl h⟩
    | row _ _ _ _ us n c A hk hn hl hc hm hA hx =>
      refine ⟨A, n, c, rfl, fun h => ?_⟩
      have h0 : 0 < n := by
        rcases Nat.eq_zero_or_pos n with h0 | h0
        · subst h0; simp at hn; exact absurd hn h
        · exact h0
      obtain ⟨ad, rfl, _⟩ := hA h0
      rfl
  unfold nilE.nilB at h
  split at h
  · exact ⟨none, 0, 0, _, hx.2, h, lit_sok rfl⟩
  · rename_i l _
    obtain ⟨x, h, hr⟩ := lvD_ok hi (show LOK σ.o G w l u from hx) h
    split at h
    · obtain ⟨b, n, c, rfl, _⟩ := hrow hr
      exact ⟨b, n, c, _, rfl, h, ⟨_, rfl⟩⟩
    · obtain ⟨b, n, c, rfl, hb⟩ := hrow hr
      rw [← hb (by simp)] at h
      exact ⟨b, n, c, _, rfl, h, lit_sok rfl⟩
    · simp [E.run] at h
  · simp [E.run] at h
theorem ok_binOp (hi : Inv fr N σ G a w) {op : BinOp} {t t' : TypeId} {x y : Operand} (ho : o.op = .binOp op t x y t') (hd : dstOk N o.dst = true) (h : (eff C o).run σ = some ws) : Told C fr N σ ws o G a w := by
  simp only [eff, ho] at h
  split at h
  · rename_i hn
    obtain ⟨ax, h, sx⟩ := opd_ok hi h
    have hy : a.eval y = .slice none 0 0 := by
      unfold isNilC at hn
      split at hn
      · rfl
      · cases hn
    unfold nilE at h
    split at h
    · simp [E.run] at h
    · rename_i ht
      split at h
      · obtain ⟨b, n, c, av, e, h, hav⟩ := nilB_ok hi sx h
        obtain rfl := Option.some.inj h
        obtain ⟨e', he⟩ := Option.ne_none_iff_exists'.1 ht
        have hte : C.P.underlying t = some (.slice e') := by
          unfold tel at he
          split at he
          · rename_i h1; rw [h1]; rw [Option.some.inj he]
          · cases he
        exact told_value hi hd (v := .bool b.isNone) (by
          have := run_eq_nil (P := C.P) (w := w) (b := b) (n := n) (c := c) hte x y
          simp only [execOp, ho, e, hy]
          simp only [Sem.run_bind] at this ⊢
          rw [this]; rfl) hav
      · simp [E.run] at h
  · obtain ⟨ax, h, sx⟩ := opd_ok hi h
    obtain ⟨ay, h, sy⟩ := opd_ok hi h
    obtain ⟨h, _⟩ := litE_ok sx h
    obtain ⟨h, _⟩ := litE_ok sy h
    split at h
    · rename_i r hr
      obtain rfl := Option.some.inj h
      obtain ⟨e1, e2⟩ := binV_ok (P := C.P) (w := w) (t := t) hr x y
      exact told_value hi hd (by simp only [execOp, ho]; simp only [Sem.run_bind] at e1 ⊢; rw [e1]; rfl) (lit_sok e2)
    · simp [E.run] at h
theorem ok_unOp (hi : Inv fr N σ G a w) {op : UnOp} {t : TypeId} {x : Operand} (ho : o.op = .unOp op t x) (hd : dstOk N o.dst = true) (h : (eff C o).run σ = some ws) : Told C fr N σ ws o G a w := by
  rw [eff, ho] at h
  obtain ⟨ax, h, sx⟩ := opd_ok hi h
  obtain ⟨h, _⟩ := litE_ok sx h
  split at h
  · rename_i r hr
    obtain rfl := Option.some.inj h
    obtain ⟨e1, e2⟩ := unV_ok (P := C.P) (w := w) hr
    exact told_value hi hd (by simp [execOp, ho, e1]) (lit_sok e2)
  · simp [E.run] at h
theorem bytesOf_ok {F : Nat → Prop} : ∀ {xs : List D} {us : List Value} {ns : List Int}, us.length = xs.length → (∀ (j : Nat) (x : D) (u : Value), xs[j]? = some x → us[j]? = some u → Rep w F x u) → bytesOf xs = some ns → us = ns.map (Value.int .u8)
  | [], us, ns, hl, _, h => by
    obtain rfl := Option.some.inj h
    exact List.eq_nil_of_length_eq_zero hl
  | x :: xs, us, ns, hl, hr, h => by
    cases us with
    | nil => simp at hl
    | cons u us =>
      unfold bytesOf at h
      split at h
      · rename_i hnil; cases hnil
      · rename_i n xs' hx
        injection hx with e1 e2
        subst e1; subst e2
        obtain ⟨ys, hy, rfl⟩ := Option.map_eq_some_iff.1 h
        have e := Rep.lit_inv (hr 0 _ u rfl rfl)
        rw [e, bytesOf_ok (us := us) (by simpa using hl) (fun j x u h1 h2 => hr (j + 1) x u (by simpa using h1) (by simpa using h2)) hy]
        rfl
      · cases h
theorem ok_bytes (hi : Inv fr N σ G a w) {t t' : TypeId} {x : Operand} {av : AV} (ho : o.op = .convert t t' x) (hd : dstOk N o.dst = true) (ht : tstr C.P t' = true) (hx : SOK σ.o σ.b G w av (a.eval x)) (h : (bytesE C o t av).run σ = some ws) : Told C fr N σ ws o G a w := by
  have hts : C.P.underlying t' = some .string := by
    unfold tstr at ht; split at ht
    · assumption
    · cases ht
  unfold bytesE at h
  split at h
  · rename_i e l he
    have hte : C.P.underlying t = some (.slice e) := by
      unfold tel at he; split at he
      · rename_i h1; rw [h1]; rw [Option.some.inj he]
      · cases he
    split at h
    · rename_i hu
      have hue : C.P.underlying e = some (.int .u8) := by
        unfold tint at hu; split at hu
        · rename_i h1; rw [h1]; rw [Option.some.inj hu]
        · cases hu
      obtain ⟨x', h, hr⟩ := lvD_ok hi (show LOK σ.o G w l (a.eval x) from hx) h
      split at h
      · rename_i sh e2 k y ys
        split at h
        · rename_i hk
          subst hk
          split at h
          · rename_i ns hns
            obtain rfl := Option.some.inj h
            generalize hu' : a.eval x = u at hr
            cases hr with
            | row _ _ _ _ us n c A hk hn hl hc hm hA hx' =>
              have h0 : 0 < n := by simp at hn; omega
              obtain ⟨ad, rfl, _, hcell⟩ := hA h0
              have hus := bytesOf_ok hl hx' hns
              have hlen : us.length = n := by rw [hl, hn]; omega
              have hload := run_loadCells_list (P := C.P) (w := w) ad us hcell
              rw [hlen, hus] at hload
              refine told_value hi hd (v := .string (strOf ns)) ?_ (lit_sok rfl)
              simp [execOp, ho, hu', run_convert_bytes_string w t t' e (some ad) n c hte hue hts, run_bytesToString w ad n c ns hload, strOf]
          · simp [E.run] at h
        · simp [E.run] at h
      · simp [E.run] at h
    · simp [E.run] at h
  · simp [E.run] at h
theorem ok_convert (hi : Inv fr N σ G a w) {t t' : TypeId} {x : Operand} (ho : o.op = .convert t t' x) (hd : dstOk N o.dst = true) (h : (eff C o).run σ = some ws) : Told C fr N σ ws o G a w := by
  simp only [eff, ho] at h
  split at h
  · rename_i ht
    obtain ⟨ax, h, sx⟩ := opd_ok hi h
    exact ok_bytes hi ho hd ht sx h
  obtain ⟨ax, h, sx⟩ := opd_ok hi h
  obtain ⟨h, _⟩ := litE_ok sx h
  split at h
  · rename_i k n k' hk he
    split at h
    · rename_i hu
      obtain rfl := Option.some.inj h
      obtain ⟨u, hu⟩ := Option.isSome_iff_exists.1 hu
      have he' : C.P.underlying t' = some (.int k') := by
        unfold tint at he; split at he
        · rename_i he2; obtain rfl := Option.some.inj he; exact he2
        · cases he
      exact told_value hi hd (by simp [execOp, ho, convert, run_underlying hu, run_underlying he', hk, Conv.intToInt]) (lit_sok rfl)
    · simp [E.run] at h
  · simp [E.run] at h
theorem ok_pick (hi : Inv fr N σ G a w) {c x y : Operand} (ho : o.op = .pick c x y) (hd : dstOk N o.dst = true) (h : (eff C o).run σ = some ws) : Told C fr N σ ws o G a w := by
  rw [eff, ho] at h
  obtain ⟨ac, h, sc⟩ := opd_ok hi h
  obtain ⟨h, _⟩ := litE_ok sc h
  split at h
  · rename_i b hb
    cases b
    · simp only [Bool.false_eq_true, if_false] at h
      obtain ⟨av, h, hs⟩ := opd_ok hi h
      obtain rfl := Option.some.inj h
      exact told_value hi hd (by simp [execOp, ho, asBool, hb]) hs
    · simp only [if_true] at h
      obtain ⟨av, h, hs⟩ := opd_ok hi h
      obtain rfl := Option.some.inj h
      exact told_value hi hd (by simp [execOp, ho, asBool, hb]) hs
  · simp [E.run] at h
theorem SOK.fld_now {j v off : Nat} {u : Value} (h : SOK σ.o σ.b G w (.fld j v off) u) (hl : (σ.b j).live = true ∧ (σ.b j).v = v) : u = .pointer (some ⟨G.blk j, off, none⟩) := h.2 hl.1 hl.2
theorem ok_nilCheck (hi : Inv fr N σ G a w) {x : Operand} (ho : o.op = .nilCheck x) (hd : dstOk N o.dst = true) (h : (eff C o).run σ = some ws) : Told C fr N σ ws o G a w := by
  rw [eff, ho] at h
  obtain ⟨av, h, hs⟩ := opd_ok hi h
  split at h
  · simp only [E.run] at h
    split at h
    · rename_i hl
      obtain rfl := Option.some.inj h
      have e := SOK.fld_now hs hl
      exact told_value hi hd (by simp [execOp, ho, e]) hs
    · simp [E.run] at h
  · obtain rfl := Option.some.inj h
    obtain ⟨ad, e, _⟩ := id hs
    exact told_value hi hd (by simp [execOp, ho, e]) hs
  · simp [E.run] at h
theorem add_add (ad : Addr) (m n : Nat) : (ad.add m).add n = ad.add (m + n) := by
  unfold Addr.add
  by_cases h1 : m = 0 <;> by_cases h2 : n = 0 <;> simp [h1, h2] <;> omega
theorem blk_add (g p off : Nat) : (⟨g, p, none⟩ : Addr).add off = ⟨g, p + off, none⟩ := by unfold Addr.add; split <;> simp_all
theorem SOK.adr_drop {xs : List D} {ad : Addr} (n : Nat) (h : SOK σ.o σ.b G w (.adr xs) (.pointer (some ad))) : SOK σ.o σ.b G w (.adr (xs.drop n)) (.pointer (some (ad.add n))) := by
  obtain ⟨ad', e, hf, h⟩ := h
  cases e
  exact ⟨_, rfl, by rw [add_block]; exact hf, fun i x hx => by rw [add_add]; exact h _ x (by rw [List.getElem?_drop] at hx; exact hx)⟩
theorem tfld_some {P : Program} {t f off ft : Nat} (h : tfld P t f = some (off, ft)) : ∃ fs fl, P.underlying t = some (.struct fs) ∧ fs[f]? = some fl ∧ fl.offset = off ∧ fl.type = ft := by
  unfold tfld at h
  split at h
  · rename_i fs hu
    obtain ⟨fl, h1, h2⟩ := Option.map_eq_some_iff.1 h
    simp only [Prod.mk.injEq] at h2
    exact ⟨fs, fl, hu, h1, h2.1, h2.2⟩
  · cases h
theorem tsz_pos {P : Program} {t : Nat} (h : tsz P t ≠ 0) : ∃ i, P.info? t = some i ∧ i.size = tsz P t := by
  unfold tsz at *
  cases hi : P.info? t with
  | none => simp [hi] at h
  | some i => exact ⟨i, rfl, by simp⟩
theorem ok_fieldAddr (hi : Inv fr N σ G a w) {t : TypeId} {f : Nat} {x : Operand} (ho : o.op = .fieldAddr t x f) (hd : dstOk N o.dst = true) (h : (eff C o).run σ = some ws) : Told C fr N σ ws o G a w := by
  rw [eff, ho] at h
  obtain ⟨av, h, hs⟩ := opd_ok hi h
  split at h
  · rename_i off ft hf
    obtain ⟨fs, fl, hu, hfl, rfl, rfl⟩ := tfld_some hf
    split at h
    · simp [E.run] at h
    · rename_i hz
      obtain ⟨i, hif, hsz⟩ := tsz_pos hz
      have hz' : ¬ i.size = 0 := by rw [hsz]; exact hz
      have hrun : ∀ ad : Addr, a.eval x = .pointer (some ad) → (execOp a.eval o).run C.P w = .ok (.value (.pointer (some (ad.add fl.offset)))) w := fun ad e => by
        simp [execOp, ho, Instr.fieldAt, run_underlying hu, hfl, e, Instr.sureAddr, fieldPlace, sizeOf, typeInfo, hif, hz']
      split at h
      · simp only [E.run] at h
        split at h
        · rename_i hl
          obtain rfl := Option.some.inj h
          have e := SOK.fld_now hs hl
          refine told_value hi hd (hrun _ e) ⟨hs.1, fun _ _ => by rw [blk_add]⟩
        · simp [E.run] at h
      · obtain rfl := Option.some.inj h
        obtain ⟨ad, e, _⟩ := id hs
        rw [e] at hs
        exact told_value hi hd (hrun _ e) (hs.adr_drop _)
      · obtain ⟨_, hg, _, h⟩ := nodeE_ok hi h
        obtain rfl := Option.some.inj h
        obtain ⟨hp, hs⟩ := hs
        obtain ⟨sh, e, k, xs, g, n, m, h1, h2, h3⟩ := hs hg
        exact told_value hi hd (hrun _ h3) ⟨hp, fun _ => ⟨sh, e, k, xs, g, n, m, h1, h2, by rw [blk_add]⟩⟩
      · simp [E.run] at h
  · simp [E.run] at h
theorem vok_av {vs : List (Bool × List LV)} {us : Array Value} {n : Nat} {u : Value} (h : SOK σ.o σ.b G w (.tup vs) (.tuple us)) (hu : us[n]? = some u) :
    (∀ l, vs[n]? = some (false, [l]) → SOK σ.o σ.b G w (.l l) u) ∧ (∀ ls, vs[n]? = some (true, ls) → SOK σ.o σ.b G w (.agg ls) u) := by
  obtain ⟨us', e, _, h⟩ := h
  cases e
  exact ⟨fun l hl => h n _ u hl hu, fun ls hl => h n _ u hl hu⟩
theorem ok_extract (hi : Inv fr N σ G a w) {n : Nat} {x : Operand} (ho : o.op = .extract x n) (hd : dstOk N o.dst = true) (h : (eff C o).run σ = some ws) : Told C fr N σ ws o G a w := by
  rw [eff, ho] at h
  obtain ⟨av, h, hs⟩ := opd_ok hi h
  split at h
  · rename_i vs
    obtain ⟨us, e, hl, _⟩ := id hs
    rw [e] at hs
    have hget : ∀ y, vs[n]? = some y → ∃ u, us[n]? = some u ∧ (execOp a.eval o).run C.P w = .ok (.value u) w := fun y hy => by
      have : n < us.size := by rw [hl]; exact (List.getElem?_eq_some_iff.1 hy).1
      exact ⟨us[n], Array.getElem?_eq_getElem this, by simp [execOp, ho, e, Instr.extract, this]⟩
    split at h
    · rename_i l hv
      obtain rfl := Option.some.inj h
      obtain ⟨u, hu, hr⟩ := hget _ hv
      exact told_value hi hd hr ((vok_av hs hu).1 l hv)
    · rename_i ls hv
      obtain rfl := Option.some.inj h
      obtain ⟨u, hu, hr⟩ := hget _ hv
      exact told_value hi hd hr ((vok_av hs hu).2 ls hv)
    · simp [E.run] at h
  · simp [E.run] at h
end
end Go.Proofs.Ytmbmebfeoejlnaa.Ab
