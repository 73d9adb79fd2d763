/- A call does what its contract says. -/
import Derived.Test.YtmbmebfeoejlnaaA17
namespace Go.Proofs.Ytmbmebfeoejlnaa.Ab
set_option linter.unusedVariables false
set_option linter.unusedSimpArgs false
open Go.RowKit
section
variable {C : Cx} {fr : Fr} {N : Nat} {σ σ1 : St} {G G1 : Gh} {a : Act} {w : World} {ws : List Wr} {o : Oper}

/-- blocks that were taken out are shared from now on -/
theorem Inv.toF (hi : Inv fr N σ G a w) {F2 : Nat → Prop} (h : ∀ b, F2 b → G.R b) : Inv fr N σ { G with F := fun b => G.F b ∨ F2 b, R := fun b => G.R b ∧ ¬ F2 b } a w := by
  have hm : Moves σ.o σ.o G { G with F := fun b => G.F b ∨ F2 b, R := fun b => G.R b ∧ ¬ F2 b } w w := ⟨fun _ h => .inl h, fun _ _ => rfl, fun i => Keeps.same rfl (fun _ => rfl) (fun _ _ _ h => h)⟩
  refine ⟨hi.size, hi.defers, fun t => (hi.slots t).move hm (.rfl' fun _ _ => rfl), fun i h1 => (hi.objs i h1).frame (fun _ h => h) (fun _ h => .inl h) (fun _ _ => rfl), fun i h1 => (hi.fzs i h1).frame (fun _ h => .inl h) (fun _ _ => rfl), fun j hj => ?_,
    fun i b h1 h2 => ⟨fun h3 => h3.elim (hi.sF i b h1 h2).1 (fun h3 => hi.rS i b h1 h2 (h b h3)), (hi.sF i b h1 h2).2⟩, hi.sS, fun j hj => ⟨fun h3 => h3.elim (hi.bF j hj).1 (fun h3 => hi.rB j hj (h _ h3)), (hi.bF j hj).2⟩, hi.bS, hi.bB,
    fun b hb => ⟨fun h3 => h3.elim (hi.rF b hb.1).1 hb.2, (hi.rF b hb.1).2⟩, fun i b h1 h2 h3 => hi.rS i b h1 h2 h3.1, fun j h1 h2 => hi.rB j h1 h2.1, fun b hb => ?_, hi.frame⟩
  · obtain ⟨us, h1, h2⟩ := hi.boxes j hj; exact ⟨us, h1, h2.move hm⟩
  · rcases hb with hb | hb
    · exact hi.Fw b hb
    · exact ⟨(hi.rF b (h b hb)).2.2, fun h3 => by have := hi.frame.pb b h3; have := (hi.rF b (h b hb)).2.1; omega⟩
theorem ResOne.mono {F F' : Nat → Prop} {T : Nat → Nat → Prop} {r : Bool × List D} {v : Value} (h : ResOne w F T r v) (hF : ∀ b, F b → F' b) : ResOne w F' T r v := by
  obtain ⟨b, xs⟩ := r
  cases b with
  | true => obtain ⟨us, e, h1, h2⟩ := h; exact ⟨us, e, h1, fun j x u h3 h4 => (h2 j x u h3 h4).frame (fun _ h => h) hF (fun _ _ => rfl)⟩
  | false => cases xs with
    | nil => exact h
    | cons x xs => cases xs with
      | nil => exact Own.frame (show Own w F x v (T 0) from h) (fun _ h => h) hF (fun _ _ => rfl)
      | cons _ _ => exact h
theorem put_upon {P : Program} {f : Nat} {args : Array Value} {next : Act → World → Prop} {Q : Exit → Act → World → Prop} (hr : (execOp a.eval o).run P w = .ok (.enter f args) w) (h : Calls P f args w fun e w' => ∃ v, e = .returned v ∧ next (a.put o.dst v) w') : o.wp P a w next Q := by
  unfold Oper.wp
  rw [hr]
  show Calls P f args w _
  refine h.mono ?_
  rintro e w' ⟨v, rfl, h⟩
  exact h
/-- the rest of a call, behind the world's step -/
theorem call_end {rs : List (Bool × List D)} {v : Value} {F' : Nat → Prop} {T : Nat → Nat → Nat → Prop} (hd : dstOk N o.dst = true) {k : List Wr} (hi : Inv fr N σ1 G1 a w) (hv : ∀ i, (σ1.o i).v = (σ.o i).v) (hres : ResAll w F' rs v T)
    (hF : ∀ b, F' b → G1.F b ∨ G1.R b) (hT : ∀ i j b, T i j b → G1.R b ∧ ¬ F' b) (hdis : ∀ i j i' j' b, T i j b → T i' j' b → i = i' ∧ j = j') {id : Nat}
    (h : (valsRes id rs fun vs ws => .done (k ++ ws ++ setS o.dst (avOf vs))).run σ = some ws) : ∃ ws2 G2, ws = k ++ ws2 ∧ Inv fr N (σ1.wrs ws2) G2 (a.put o.dst v) w := by
  have h2 := hi.toF (F2 := fun b => F' b ∧ G1.R b) (fun b hb => hb.2)
  have hFF : ∀ b, F' b → G1.F b ∨ F' b ∧ G1.R b := fun b hb => (hF b hb).imp_right fun h => ⟨hb, h⟩
  -- the results one by one
  have hone : ∃ us : List Value, us.length = rs.length ∧ (∀ (n : Nat) (r : Bool × List D) (u : Value), rs[n]? = some r → us[n]? = some u → ResOne w (fun b => G1.F b ∨ F' b ∧ G1.R b) (T n) r u) ∧ ((∃ r, rs = [r] ∧ us = [v]) ∨ ((∀ r, rs ≠ [r]) ∧ v = .tuple us.toArray)) := by
    unfold ResAll at hres
    split at hres
    · rename_i r
      refine ⟨[v], rfl, fun n r' u h1 h2 => ?_, .inl ⟨r, rfl, rfl⟩⟩
      cases n with
      | zero => simp at h1 h2; subst h1; subst h2; exact ResOne.mono hres hFF
      | succ n => simp at h1
    · rename_i hne
      obtain ⟨us, rfl, hl, h⟩ := hres
      exact ⟨us.toList, by simpa using hl, fun n r u h1 h2 => ResOne.mono (h n r u h1 (by simpa using h2)) hFF, .inr ⟨fun r e => hne r e, by simp⟩⟩
  obtain ⟨us, hlen, hr1, hcase⟩ := hone
  obtain ⟨vs, ws1, G2, h, hi2, hl2, hv2, _⟩ := valsRes_ok (σ := σ) h2 (fun i => .inl (hv i)) hlen hr1 (fun i j b hb => ⟨(hT i j b hb).1, fun h => (hT i j b hb).2 h.1⟩) hdis h
  obtain rfl := Option.some.inj h
  refine ⟨ws1 ++ setS o.dst (avOf vs), G2, by rw [List.append_assoc], ?_⟩
  rw [wrs_app]
  refine hi2.put hd ?_
  rcases hcase with ⟨r, rfl, rfl⟩ | ⟨hne, rfl⟩
  · cases vs with
    | nil => simp at hl2
    | cons x vs => cases vs with
      | cons _ _ => simp at hl2
      | nil =>
        have hx := hv2 0 x v rfl rfl
        obtain ⟨b, ls⟩ := x
        cases b with
        | true => exact hx
        | false => cases ls with
          | nil => exact hx.elim
          | cons l ls => cases ls with
            | nil => exact hx
            | cons _ _ => exact hx.elim
  · have hav : avOf vs = .tup vs := by
      unfold avOf
      split
      · exact absurd (show rs.length = 1 from hl2.symm) (fun e => by obtain ⟨r, hr⟩ := List.length_eq_one_iff.1 e; exact hne r hr)
      · exact absurd (show rs.length = 1 from hl2.symm) (fun e => by obtain ⟨r, hr⟩ := List.length_eq_one_iff.1 e; exact hne r hr)
      · rfl
    rw [hav]
    exact ⟨us.toArray, rfl, by simp [hlen, hl2], fun n x y h1 h2 => hv2 n x y h1 (by simpa using h2)⟩
theorem boxE_ok {bs : List Nat} {st : List (List D)} {k : List Wr → E} (h : (boxE bs st k).run σ = some ws) : (bs = [] ∧ st = [] ∧ (k []).run σ = some ws) ∨ ∃ j ys, bs = [j] ∧ st = [ys] ∧ ys.length = (σ.b j).cs.length ∧ (k [.b j { σ.b j with cs := ys.map .d }]).run σ = some ws := by
  unfold boxE at h
  split at h
  · exact .inl ⟨rfl, rfl, h⟩
  · rename_i j ys
    simp only [E.run] at h
    split at h
    · rename_i hc; exact .inr ⟨j, ys, rfl, rfl, hc.1, h⟩
    · simp [E.run] at h
  · simp [E.run] at h
theorem call_mid {f : Nat} {sp : Spec} {args : Array Operand} {ts : Array TypeId} (hc : Contract C.P f sp) (hd : dstOk N o.dst = true) (ho : o.op = .call { callee := .value (.func f), args := args, argTypes := ts }) {gs : List Arg} {ls : List LV} {bs : List Nat} {out : Out} (hsp : sp gs = some out)
    (hi1 : Inv fr N σ1 G1 a w) (hb1 : σ1.b = σ.b) (hv1 : ∀ i, (σ1.o i).v = (σ.o i).v) (hbk : G1.blk = G.blk) (ha : ArgsOK σ G w (args.toList.map a.eval) gs ls bs) {F : Nat → Prop} (hFw : ∀ b, F b → b < w.heap.size) (hFb : ∀ j, (σ.b j).live = true → ¬ F (G.blk j))
    (hrep : ∀ (n : Nat) (g : Arg) (v : Value), gs[n]? = some g → (args.toList.map a.eval)[n]? = some v → isPtr g = false → ArgRep w F g v) (hFs : anyShared out.res = true → ∀ b, F b → G1.F b) {fw : List Wr}
    (h : (boxE bs out.st fun bw => valsRes (site o) out.res fun vs ws => .done (fw ++ bw ++ ws ++ setS o.dst (avOf vs))).run σ = some ws) (next : Act → World → Prop) (Q : Exit → Act → World → Prop)
    (hq : ∀ G' a' w' ws2, ws = fw ++ ws2 → Inv fr N (σ1.wrs ws2) G' a' w' → next a' w') : o.wp C.P a w next Q := by
  obtain ⟨fn, c, h1, h2, h3⟩ := hc.call
  have hargs : (args.map a.eval) = (args.toList.map a.eval).toArray := by rw [← Array.toList_map, Array.toArray_toList]
  have hexec : (execOp a.eval o).run C.P w = .ok (.enter f (args.map a.eval)) w := by
    have h2' : fn.name ≠ "runtime.NumGoroutine" := by simpa using h2
    simp [execOp, ho, resolve, Act.eval, Deferred.ofValue, invoke, callFunc, h1, h2', h3]
  have huniq : ∀ (n n' : Nat) (g g' : Arg), gs[n]? = some g → gs[n']? = some g' → isPtr g = true → isPtr g' = true → n = n' := by
    rcases boxE_ok h with ⟨rfl, _, _⟩ | ⟨j, ys, rfl, _⟩
    · intro n n' g g' q1 q2 q3; have := ha.one rfl n g q1; rw [q3] at this; cases this
    · exact ha.uniq j rfl
  have hcalls := hc.holds w F gs (args.toList.map a.eval) out hsp hFw ha.len (fun n g v q1 q2 => by
    cases hg : isPtr g with
    | false => exact hrep n g v q1 q2 hg
    | true =>
      cases g with
      | val => cases hg
      | ptr ys =>
        obtain ⟨j, us, _, r1, r2, r3, r4, r5, _⟩ := ha.ptr n ys v q1 q2
        exact ⟨_, us, _, r2, r3, hFb j r1, r4, r5⟩) huniq
  rw [← hargs] at hcalls
  refine put_upon hexec (hcalls.mono ?_)
  rintro e w' ⟨v, F', T, rfl, hp⟩
  refine ⟨v, rfl, ?_⟩
  rcases boxE_ok h with ⟨rfl, hst, h⟩ | ⟨j, ys, rfl, hst, hlen, h⟩
  · have hw := hi1.world hp.os hp.tape hp.output hp.size (fun b q1 q2 => hp.block b q1 (fun ⟨n, g, v, r1, r2, r3, r4⟩ => by have := ha.one rfl n g r1; rw [r3] at this; cases this))
    rw [List.append_nil] at h
    obtain ⟨ws2, G2, e, hfin⟩ := call_end (σ := σ) hd hw hv1 hp.res (fun b hb => by
      obtain ⟨q1, q2⟩ := hp.fF b hb
      rcases q2 with q2 | q2
      · exact .inl (hFs q1 b q2)
      · exact .inr (.inr q2)) (fun i j b hb => ⟨.inr ⟨(hp.fT i j b hb).1, (hp.fT i j b hb).2.1⟩, (hp.fT i j b hb).2.2⟩) hp.dis h
    exact hq G2 _ w' ws2 e hfin
  · obtain ⟨n, ys0, q1, q2, q3⟩ := ha.has j (by simp)
    have q3' : (σ1.b j).live = true := by rw [hb1]; exact q3
    obtain ⟨us0, q4, q5⟩ := hi1.boxes j q3'
    have q4' : w.heap[G.blk j]? = some (.cells us0 (σ.b j).t (0, 0)) := by rw [← hbk, ← hb1]; exact q4
    obtain ⟨us', ys', r1, r2, r3, r4, r5⟩ := hp.st n ys0 (G.blk j) us0 _ q1 q2 q4'
    rw [hst] at r1
    obtain rfl : ys = ys' := by simpa using r1
    obtain ⟨hw, hmv⟩ := setBox_any hi1 q3' (cs := ys.map .d) (us := us') (w' := w') hp.os hp.tape hp.output hp.size q4 (fun b s1 s2 => hp.block b s1 (fun ⟨n', g, v, t1, t2, t3, t4⟩ => by
      have := huniq n n' (.ptr ys0) g q1 t1 rfl t3
      subst this
      rw [q2] at t2
      obtain rfl := Option.some.inj t2
      rw [hbk] at s2
      exact s2 t4)) (by rw [hbk, hb1]; exact r2) (lsOK_lits r3 r5)
    rw [hb1] at hw
    obtain ⟨ws2, G2, e, hfin⟩ := call_end (σ := σ) (k := fw ++ [.b j { σ.b j with cs := ys.map .d }]) hd hw (fun i => hv1 i) hp.res (fun b hb => by
      obtain ⟨q1, q2⟩ := hp.fF b hb
      rcases q2 with q2 | q2
      · exact .inl (hFs q1 b q2)
      · exact .inr (.inr q2)) (fun i j b hb => ⟨.inr ⟨(hp.fT i j b hb).1, (hp.fT i j b hb).2.1⟩, (hp.fT i j b hb).2.2⟩) hp.dis h
    refine hq G2 _ w' ([.b j { σ.b j with cs := ys.map .d }] ++ ws2) (by rw [e, List.append_assoc]) ?_
    rw [wrs_app]
    exact hfin
theorem ok_call (hi : Inv fr N σ G a w) {f : Nat} {sp : Spec} {args : Array Operand} {ts : Array TypeId} (hc : Contract C.P f sp) (hd : dstOk N o.dst = true) (ho : o.op = .call { callee := .value (.func f), args := args, argTypes := ts })
    (h : (callE C.P o sp args.toList ts.toList).run σ = some ws) : Told C fr N σ ws o G a w := by
  unfold callE at h
  obtain ⟨gs, ls, bs, h, ha⟩ := argsE_ok hi h
  split at h
  · simp [E.run] at h
  · rename_i out hsp
    intro next Q hq
    by_cases hsh : anyShared out.res = true
    · rw [if_pos hsh] at h
      obtain ⟨fw, F1, h, hi1, hm, hF1, hfz, ho1, hb1, hs1, _⟩ := freezeE_ok hi (fun i => .inl rfl) rfl rfl h
      refine call_mid (G := G) (fw := fw) hc hd ho hsp hi1 hb1 (fun i => by rcases ho1 i with e | e <;> rw [e]) rfl ha (F := F1) (fun b hb => (hi1.Fw b hb).1) (fun j hj => (hi1.bF j (by rw [hb1]; exact hj)).1)
        (fun n g v q1 q2 q3 => (ha.rep n g v q1 q2 q3).2 _ _ hm hfz (fun i hi' => hi1.fzs i hi')) (fun _ b hb => hb) h next Q (fun G' a' w' ws2 e hI => hq G' a' w' (by rw [e, wrs_app]; exact hI))
    · rw [if_neg hsh] at h
      refine call_mid (G := G) (σ1 := σ) (G1 := G) (fw := []) hc hd ho hsp hi rfl (fun _ => rfl) rfl ha (F := All σ G) (fun b hb => (hi.all hb).1) (fun j hj hb => ?_)
        (fun n g v q1 q2 q3 => (ha.rep n g v q1 q2 q3).1) (fun e => absurd e hsh) h next Q (fun G' a' w' ws2 e hI => hq G' a' w' (by rw [e]; exact hI))
      rcases hb with hb | ⟨i, r1, r2⟩
      · exact (hi.bF j hj).1 hb
      · exact hi.bS j i hj r1 r2
end
end Go.Proofs.Ytmbmebfeoejlnaa.Ab
