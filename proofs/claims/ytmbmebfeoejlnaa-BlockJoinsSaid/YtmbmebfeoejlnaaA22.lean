/- A function's contract from its body. -/
import Derived.Test.YtmbmebfeoejlnaaA21
namespace Go.Proofs.Ytmbmebfeoejlnaa.Ab
set_option linter.unusedVariables false
set_option linter.unusedSimpArgs false
open Go.RowKit
section
variable {C : Cx} {fr : Fr} {N : Nat} {σ : St} {G : Gh} {a : Act} {w : World}

def resOp (a : Act) : ResultVar → Sem Value
  | .tmp t => pure (a.tmps.getD t undef)
  | .cell x t => do loadVar t (← asAddr (a.tmps.getD x undef))
theorem resAV_ok (hi : Inv fr N σ G a w) {P : Program} {r : ResultVar} {x : AV} (h : resAV P σ r = some x) : ∃ u, (resOp a r).run P w = .ok u w ∧ SOK σ.o σ.b G w x u := by
  cases r with
  | tmp t =>
    obtain rfl := Option.some.inj h
    exact ⟨_, rfl, hi.slots t⟩
  | cell x' t =>
    have hs := hi.slots x'
    simp only [resAV] at h
    split at h
    · rename_i j v off hsa
      rw [hsa] at hs
      split at h
      · rename_i hc
        obtain ⟨hlv, hv, hk, hz⟩ := hc
        have hu := SOK.fld_now hs ⟨hlv, hv⟩
        obtain ⟨us, hcell, hls⟩ := hi.boxes j hlv
        have hgetc : ∀ (n i : Nat) (y : Value), ((us.toList.drop off).take n)[i]? = some y → w.cell? ((⟨G.blk j, off, none⟩ : Addr).add i) = some y := by
          intro n i y hy
          rw [blk_add, cell_of_row hcell, ← Array.getElem?_toList]
          exact sub_get hy
        have hsub := fun n => LsOK.sub hls off n
        split at h
        · rename_i hg
          split at h
          · rename_i hlen
            obtain rfl := Option.some.inj h
            have hr := run_loadCells_list (P := P) (w := w) ⟨G.blk j, off, none⟩ ((us.toList.drop off).take (tsz P t)) (hgetc (tsz P t))
            rw [(hsub (tsz P t)).1, hlen] at hr
            refine ⟨.agg ((us.toList.drop off).take (tsz P t)).toArray, ?_, ⟨_, rfl, by simpa using hsub (tsz P t)⟩⟩
            simp only [resOp, hu]
            simp [asAddr, loadVar, run_isAgg hk, hg, run_sizeOf' hz, hr]
          · cases h
        · rename_i hg
          split at h
          · rename_i l hl1
            obtain rfl := Option.some.inj h
            have h1 := hsub 1
            rw [hl1] at h1
            obtain ⟨u, hu1⟩ := List.length_eq_one_iff.1 (show ((us.toList.drop off).take 1).length = 1 from h1.1)
            have hcu := hgetc 1 0 u (by rw [hu1]; rfl)
            rw [show (⟨G.blk j, off, none⟩ : Addr).add 0 = ⟨G.blk j, off, none⟩ from rfl] at hcu
            have hg' : tagg P t = false := by simpa using hg
            rw [hu1] at h1
            refine ⟨u, ?_, h1.2 0 l u rfl rfl⟩
            simp only [resOp, hu]
            simp [asAddr, loadVar, run_isAgg hk, hg', load, Sem.run, hcu]
          · cases h
      · cases h
    · cases h
theorem resAVs_ok (hi : Inv fr N σ G a w) {P : Program} : ∀ {rs : List ResultVar} {xs : List AV}, resAVs P σ rs = some xs → ∃ us, us.length = xs.length ∧ (rs.mapM (resOp a)).run P w = .ok us w ∧ ∀ (n : Nat) (x : AV) (u : Value), xs[n]? = some x → us[n]? = some u → SOK σ.o σ.b G w x u
  | [], xs, h => by
    obtain rfl := Option.some.inj h
    exact ⟨[], rfl, rfl, fun n x u h => by simp at h⟩
  | r :: rs, xs, h => by
    simp only [resAVs] at h
    obtain ⟨x, h1, h2⟩ := Option.bind_eq_some_iff.1 h
    obtain ⟨xs1, h3, rfl⟩ := Option.map_eq_some_iff.1 h2
    obtain ⟨u, q1, q2⟩ := resAV_ok hi h1
    obtain ⟨us, r1, r2, r3⟩ := resAVs_ok hi h3
    refine ⟨u :: us, by simp [r1], by simp [List.mapM_cons, q1, r2], fun n x' u' h5 h6 => ?_⟩
    cases n with
    | zero => simp at h5 h6; subst h5; subst h6; exact q2
    | succ n => exact r3 n x' u' (by simpa using h5) (by simpa using h6)
theorem results_run {P : Program} {fn : Func} {us : List Value} (h : (fn.results.toList.mapM (resOp a)).run P w = .ok us w) : (results fn a.tmps).run P w = .ok (if hs : us.length = 1 then us[0] else .tuple us.toArray) w := by
  have e : results fn a.tmps = (do let vs ← fn.results.mapM (resOp a); pure (if h : vs.size = 1 then vs[0] else .tuple vs)) := by
    unfold results
    congr 1
  rw [e, Array.mapM_eq_mapM_toList]
  simp [h]
theorem litsOf_lits {us : List Value} {cs : List LV} {xs : List D} {O : Nat → Obj} (hl : LsOK O G w cs us) (h : litsOf cs = some xs) : us.map D.lit = xs := by
  induction cs generalizing us xs with
  | nil =>
    have : us = [] := List.eq_nil_of_length_eq_zero hl.1
    subst this
    obtain rfl := Option.some.inj h
    rfl
  | cons l ls ih =>
    cases us with
    | nil => have := hl.1; simp at this
    | cons u us =>
      unfold litsOf at h
      split at h
      · rename_i hnil; cases hnil
      · rename_i v ls' hls
        injection hls with e1 e2
        subst e1; subst e2
        obtain ⟨ys, hy, rfl⟩ := Option.map_eq_some_iff.1 h
        have q := ih (us := us) ⟨by have := hl.1; simpa using this, fun n l' u' h1 h2 => hl.2 (n + 1) l' u' (by simpa using h1) (by simpa using h2)⟩ hy
        have e := Rep.lit_inv (F := G.F) (hl.2 0 _ u rfl rfl).1
        simp [q, e]
      · cases h
theorem ptrOK_get {out : Out} : ∀ {gs : List Arg} {m n : Nat} {xs : List D}, ptrOK out σ m gs → gs[n]? = some (.ptr xs) → (σ.b (64 * (m + n) + 63)).live = true ∧ (σ.b (64 * (m + n) + 63)).v = 1 ∧ (litsOf (σ.b (64 * (m + n) + 63)).cs).map (fun ys => [ys]) = some out.st ∧ (σ.b (64 * (m + n) + 63)).cs.length = xs.length
  | [], m, n, xs, h, h2 => by simp at h2
  | .val _ _ :: gs, m, n, xs, h, h2 => by
    cases n with
    | zero => simp at h2
    | succ n =>
      have := ptrOK_get (m := m + 1) (n := n) (show ptrOK out σ (m + 1) gs from h) (by simpa using h2)
      rw [show m + 1 + n = m + (n + 1) from by omega] at this
      exact this
  | .ptr ys :: gs, m, n, xs, h, h2 => by
    cases n with
    | zero =>
      simp at h2; subst h2
      exact h.1
    | succ n =>
      have := ptrOK_get (m := m + 1) (n := n) (show ptrOK out σ (m + 1) gs from h.2) (by simpa using h2)
      rw [show m + 1 + n = m + (n + 1) from by omega] at this
      exact this

theorem ptrBlk_of {v : Value} {b : Nat} (h : ptrBlk v b) : ∃ ad, v = .pointer (some ad) ∧ b = ad.block := by
  unfold ptrBlk at h
  split at h
  · exact ⟨_, rfl, h⟩
  · exact h.elim
def blkOf (vs : List Value) (n : Nat) : Nat := match vs[n]? with
  | some (.pointer (some ad)) => ad.block
  | _ => 0
def frOf (w : World) (F : Nat → Prop) (gs : List Arg) (vs : List Value) (tt : Nat) : Fr where
  w0 := w
  pb := Pbs gs vs
  qb b := b < w.heap.size ∧ ¬ F b
  jb j := if j % 64 = 63 then match gs[j / 64]? with
    | some (.ptr _) => some (blkOf vs (j / 64), tt)
    | _ => none
  else none
def ghOf (F : Nat → Prop) (vs : List Value) : Gh where
  val _ := undef
  S _ _ := False
  blk j := blkOf vs (j / 64)
  F := F
  R _ := False
theorem frOf_jb {F : Nat → Prop} {gs : List Arg} {vs : List Value} {tt : Nat} {j : Nat} {x : Nat × Nat} (h : (frOf w F gs vs tt).jb j = some x) : j % 64 = 63 ∧ (∃ xs, gs[j / 64]? = some (.ptr xs)) ∧ x = (blkOf vs (j / 64), tt) := by
  unfold frOf at h
  dsimp only at h
  split at h
  · rename_i h1
    split at h
    · rename_i xs h2; exact ⟨h1, ⟨xs, h2⟩, (Option.some.inj h).symm⟩
    · cases h
  · cases h
theorem enter_live {gs : List Arg} {tt j : Nat} (h : ((enter gs tt).b j).live = true) : j % 64 = 63 ∧ ∃ xs, gs[j / 64]? = some (.ptr xs) ∧ (enter gs tt).b j = ⟨1, true, tt, xs.map .d⟩ := by
  unfold enter at h ⊢
  dsimp only at h ⊢
  split at h
  · rename_i h1
    unfold argBox at h ⊢
    split at h
    · rename_i xs h2; exact ⟨h1, xs, h2, by rw [if_pos h1]⟩
    · cases h
  · cases h
theorem enter_inv {gs : List Arg} {vs : List Value} {F : Nat → Prop} {tt : Nat} (hN : gs.length ≤ N) (hF : ∀ b, F b → b < w.heap.size) (hlen : vs.length = gs.length)
    (hrep : ∀ (n : Nat) (g : Arg) (v : Value), gs[n]? = some g → vs[n]? = some v → ArgRep w F g v) (huniq : ∀ (n n' : Nat) (g g' : Arg), gs[n]? = some g → gs[n']? = some g' → isPtr g = true → isPtr g' = true → n = n')
    (htt : ∀ (n : Nat) (xs : List D), gs[n]? = some (.ptr xs) → ∃ us, w.heap[blkOf vs n]? = some (.cells us tt (0, 0)) ∧ us.toList.map D.lit = xs ∧ (∀ u ∈ us.toList, u.oneCell' = true) ∧ ¬ F (blkOf vs n) ∧ vs[n]? = some (.pointer (some ⟨blkOf vs n, 0, none⟩))) :
    Inv (frOf w F gs vs tt) N (enter gs tt) (ghOf F vs) { tmps := vs.toArray ++ Array.replicate (N - vs.toArray.size) undef, defers := [] } w := by
  have hblk : ∀ n xs, gs[n]? = some (.ptr xs) → blkOf vs n < w.heap.size := fun n xs h => by
    obtain ⟨us, h1, _⟩ := htt n xs h
    exact (Array.getElem?_eq_some_iff.1 h1).1
  have hpb : ∀ n xs, gs[n]? = some (.ptr xs) → Pbs gs vs (blkOf vs n) := fun n xs h => by
    obtain ⟨us, h1, _, _, _, h5⟩ := htt n xs h
    exact ⟨n, _, _, h, h5, rfl, rfl⟩
  refine ⟨by simp [hlen]; omega, rfl, fun t => ?_, fun i h => (by cases h), fun i h => (by cases h), fun j h => ?_, fun i b h => (by cases h), fun i i' b h => (by cases h), fun j h => ?_, fun j i h1 h2 => (by cases h2), ⟨fun j j' h1 h2 h3 => ?_, fun j x hx => ?_⟩, fun b hb => hb.elim, fun i b h => (by cases h), fun j h1 h2 => h2, fun b hb => ⟨hF b hb, fun h => h.2 hb⟩, ⟨rfl, rfl, rfl, Nat.le_refl _, fun _ _ _ => rfl, fun b hb => hb.1⟩⟩
  · have hv : ((vs.toArray ++ Array.replicate (N - vs.toArray.size) undef).getD t undef) = vs.getD t undef := by
      rw [Array.getD_eq_getD_getElem?, List.getD_eq_getElem?_getD]
      by_cases ht : t < vs.length
      · rw [Array.getElem?_append_left (by simpa using ht)]; simp
      · rw [Array.getElem?_append_right (by simp; omega), List.getElem?_eq_none (by omega)]
        simp only [Array.getElem?_replicate]
        split <;> rfl
    show SOK _ _ _ _ ((enter gs tt).s t) ((vs.toArray ++ Array.replicate (N - vs.toArray.size) undef).getD t undef)
    rw [hv]
    by_cases ht : t < gs.length
    · obtain ⟨g, hg⟩ : ∃ g, gs[t]? = some g := ⟨gs[t], List.getElem?_eq_getElem ht⟩
      obtain ⟨v, hv⟩ : ∃ v, vs[t]? = some v := ⟨vs[t], List.getElem?_eq_getElem (by omega)⟩
      rw [show (enter gs tt).s t = argAV t g by simp [enter, hg], List.getD_eq_getElem?_getD, hv]
      have hr := hrep t g v hg hv
      simp only [Option.getD_some]
      unfold argAV
      split
      · obtain ⟨us, e, h1, h2⟩ := hr
        exact ⟨us, e, lsOK_d (by simpa using h1) (fun n x u h3 h4 => h2 n x u h3 (by simpa using h4))⟩
      · obtain ⟨x, e, h1, h2⟩ := hr
        injection e with e1
        subst e1
        exact ⟨h1, h2⟩
      · trivial
      · rename_i xs
        have hb : (enter gs tt).b (64 * t + 63) = ⟨1, true, tt, xs.map .d⟩ := by
          simp only [enter, show (64 * t + 63) % 64 = 63 by omega, show (64 * t + 63) / 64 = t by omega, if_true, hg, argBox]
        refine ⟨by rw [hb]; exact Nat.le_refl _, fun _ _ => ?_⟩
        obtain ⟨us, h1, h2, h3, h4, h5⟩ := htt t xs hg
        rw [hv] at h5
        obtain rfl := Option.some.inj h5
        simp only [ghOf, show (64 * t + 63) / 64 = t by omega]
    · rw [show (enter gs tt).s t = .und by simp [enter, List.getElem?_eq_none (Nat.le_of_not_lt ht)], List.getD_eq_getElem?_getD, List.getElem?_eq_none (by omega)]
      rfl
  · obtain ⟨h1, xs, h2, h3⟩ := enter_live h
    obtain ⟨us, q1, q2, q3, q4, q5⟩ := htt _ xs h2
    rw [h3]
    exact ⟨us, q1, lsOK_lits q2 q3⟩
  · obtain ⟨h1, xs, h2, h3⟩ := enter_live h
    obtain ⟨us, q1, q2, q3, q4, q5⟩ := htt _ xs h2
    exact ⟨q4, .inr (hpb _ xs h2), hblk _ xs h2⟩
  · obtain ⟨q1, xs, q2, q3⟩ := enter_live h1
    obtain ⟨r1, ys, r2, r3⟩ := enter_live h2
    have := huniq _ _ _ _ q2 r2 rfl rfl
    omega
  · obtain ⟨h1, ⟨xs, h2⟩, rfl⟩ := frOf_jb hx
    have hb : (enter gs tt).b j = ⟨1, true, tt, xs.map .d⟩ := by simp only [enter, h1, if_true, h2, argBox]
    rw [hb]
    exact ⟨Nat.le_refl _, fun _ => rfl⟩
theorem Contract.intro {C : Cx} {f : Nat} {sp : Spec} {fn : Func} {c : Code} (hf : C.P.funcs[f]? = some fn) (hn : (fn.name == "runtime.NumGoroutine") = false) (hb : fn.body = some c) (hN : fn.ntmps = C.N)
    (h : ∀ gs out, sp gs = some out → gs.length ≤ C.N ∧ ∀ fr tt, Sat C fr C.N c (enter gs tt) (RetQ C.P fn.results.toList gs out)) : Contract C.P f sp := by
  refine ⟨⟨fn, c, hf, hn, hb⟩, fun w F gs vs out hsp hF hlen hrep huniq => ?_⟩
  obtain ⟨hle, hsat⟩ := h gs out hsp
  -- the type of the variable that was handed over
  have htt : ∃ tt, ∀ (n : Nat) (xs : List D), gs[n]? = some (.ptr xs) → ∃ us, w.heap[blkOf vs n]? = some (.cells us tt (0, 0)) ∧ us.toList.map D.lit = xs ∧ (∀ u ∈ us.toList, u.oneCell' = true) ∧ ¬ F (blkOf vs n) ∧ vs[n]? = some (.pointer (some ⟨blkOf vs n, 0, none⟩)) := by
    have hone : ∀ (n : Nat) (xs : List D), gs[n]? = some (.ptr xs) → ∃ tt us, w.heap[blkOf vs n]? = some (.cells us tt (0, 0)) ∧ us.toList.map D.lit = xs ∧ (∀ u ∈ us.toList, u.oneCell' = true) ∧ ¬ F (blkOf vs n) ∧ vs[n]? = some (.pointer (some ⟨blkOf vs n, 0, none⟩)) := by
      intro n xs hg
      have hnl := (List.getElem?_eq_some_iff.1 hg).1
      obtain ⟨v, hv⟩ : ∃ v, vs[n]? = some v := ⟨vs[n], List.getElem?_eq_getElem (by omega)⟩
      obtain ⟨g, us, t, rfl, h1, h2, h3, h4⟩ := hrep n _ v hg hv
      have hblk : blkOf vs n = g := by simp [blkOf, hv]
      rw [hblk]
      exact ⟨t, us, h1, h3, h4, h2, hv⟩
    by_cases hex : ∃ (n : Nat) (xs : List D), gs[n]? = some (.ptr xs)
    · obtain ⟨n, xs, hg⟩ := hex
      obtain ⟨tt, hq⟩ := hone n xs hg
      refine ⟨tt, fun n' xs' hg' => ?_⟩
      have := huniq n n' _ _ hg hg' rfl rfl
      subst this
      rw [hg] at hg'
      have hg2 := Option.some.inj hg'
      injection hg2 with hg3
      rw [← hg3]
      exact hq
    · exact ⟨0, fun n xs hg => absurd ⟨n, xs, hg⟩ hex⟩
  obtain ⟨tt, htt⟩ := htt
  refine calls_of_wp hf hb ?_
  rw [hN]
  refine wp_mono (hsat (frOf w F gs vs tt) tt _ _ _ (enter_inv hle hF hlen hrep huniq htt)) ?_
  rintro e a' w' ⟨σ', G', hq, hi⟩
  have main : RetOK C.P fn.results.toList gs out σ' → a'.defers = [] ∧ ∃ v, (results fn a'.tmps).run C.P w' = .ok v w' ∧ ∃ v' F' T, Ending.returned v = .returned v' ∧ PostC w F gs vs out v' w' F' T := by
    rintro ⟨hr, hp⟩
    refine ⟨hi.defers, ?_⟩
    cases hav : resAVs C.P σ' fn.results.toList with
    | none => rw [hav] at hr; exact hr.elim
    | some avs =>
      rw [hav] at hr
      simp only [someP] at hr
      cases hout : outAll σ' (anyShared out.res) avs [] with
      | none => rw [hout] at hr; exact hr.elim
      | some p =>
        obtain ⟨rs, used⟩ := p
        rw [hout] at hr
        simp only [someP] at hr
        subst hr
        obtain ⟨us, h1, h2, h3⟩ := resAVs_ok hi hav
        obtain ⟨T, t1, t2, t3, t4⟩ := outAll_ok hi h1 h3 hout
        have hres : ResAll w' (FF (anyShared out.res) G') out.res (if hs : us.length = 1 then us[0] else .tuple us.toArray) T := by
          revert t1 t2
          generalize FF (anyShared out.res) G' = F2
          intro t1 t2
          unfold ResAll
          split
          · rename_i r hr
            rw [hr] at t1 t2
            have hl1 : us.length = 1 := t1
            rw [dif_pos hl1]
            exact t2 0 r us[0] rfl (by simp)
          · rename_i hne
            have : us.length ≠ 1 := fun e => by
              rw [t1] at e
              obtain ⟨r, hr⟩ := List.length_eq_one_iff.1 e
              exact hne r hr
            rw [dif_neg this]
            exact ⟨us.toArray, rfl, by simpa using t1, fun n r u q1 q2 => t2 n r u q1 (by simpa using q2)⟩
        refine ⟨_, results_run h2, _, FF (anyShared out.res) G', T, rfl, ?_⟩
        have hfr := hi.frame
        refine ⟨hres, fun b hb => ⟨hb.1, ?_⟩, fun n j b hb => ?_, t4, hfr.os, hfr.tape, hfr.output, hfr.size, fun b q1 q2 => hfr.block b q1 q2, fun n xs g us0 t q1 q2 q3 => ?_⟩
        · have hq := hi.Fw b hb.2
          by_cases hF0 : F b
          · exact .inl hF0
          · refine .inr ⟨Nat.le_of_not_lt fun hlt => hq.2 ⟨hlt, hF0⟩, hq.1⟩
        · obtain ⟨i, _, _, s1, s2⟩ := t3 n j b hb
          have := hi.sF i b s1 s2
          exact ⟨this.2.1, this.2.2, fun h => this.1 h.2⟩
        · obtain ⟨r1, r2, r3, r4⟩ := ptrOK_get (m := 0) hp q1
          rw [Nat.zero_add] at r1 r2 r3 r4
          obtain ⟨ys, hy1, hy2⟩ := Option.map_eq_some_iff.1 r3
          obtain ⟨us', hb1, hb2⟩ := hi.boxes _ r1
          have hjb : (frOf w F gs vs tt).jb (64 * n + 63) = some (blkOf vs n, tt) := by
            simp only [frOf, show (64 * n + 63) % 64 = 63 by omega, show (64 * n + 63) / 64 = n by omega, if_true, q1]
          have hk := (hi.bB.2 _ _ hjb).2 r2
          simp only [Prod.mk.injEq] at hk
          have hblk : blkOf vs n = g := by simp [blkOf, q2]
          rw [hk.1, hk.2, hblk] at hb1
          obtain ⟨us1, p1, p2, _⟩ := htt n xs q1
          rw [hblk, q3] at p1
          simp only [Option.some.injEq, Go.Obj.cells.injEq] at p1
          obtain ⟨rfl, rfl, _⟩ := p1
          refine ⟨us', ys, hy2.symm, hb1, litsOf_lits hb2 hy1, ?_, hb2.ones⟩
          have e1 := hb2.1
          rw [Array.length_toList] at e1
          rw [e1, r4, ← p2]
          simp
  cases e with
  | normal => exact main hq
  | ret => exact main hq
  | exit => exact hq.elim
  | goto => exact hq.elim
  | panic => exact hq.elim
  | outgrown => exact hq.elim
end
end Go.Proofs.Ytmbmebfeoejlnaa.Ab
