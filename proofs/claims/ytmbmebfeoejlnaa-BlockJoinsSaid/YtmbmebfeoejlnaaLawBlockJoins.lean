/- BlockJoins: for every input the law returns true, and each argument reads afterwards as it read before. No condition. -/
import Derived.Test.YtmbmebfeoejlnaaRows
import Derived.Test.YtmbmebfeoejlnaaB17
import Derived.Test.YtmbmebfeoejlnaaR1
import Derived.WalkKit
import Derived.ProofKit
import Derived.OpenShut
import Derived.ShutString
import Derived.ChangeOld
import Derived.Below
import Derived.SizedLaws
import Derived.Carry
namespace Go.Proofs.Ytmbmebfeoejlnaa.blockJoins
open Go.ChangeShapes Go.WideShapes Go.ChangeAt Go.RowKit Go.Proofs.Ytmbmebfeoejlnaa.Ab
set_option linter.unusedVariables false
set_option linter.unusedSimpArgs false
theorem own : ownKnob Try.prog.godebug = none := by kernel_rfl
theorem laidOut : laidOutB Try.prog = true := by kernel_rfl
set_option maxRecDepth 100000 in
theorem lifted (os : Os) (started : os.Started) (H : Type) (enc : TypeId × Value → H) :
    ReturnsInHanded {} Try.checked os 3 .any (Rows.blockJoinsSpec.pre6 enc Try.prog Try.f3 Rows.blockJoinsRow.domain false) (Rows.blockJoinsSpec.post enc Try.prog Try.f3 false true false false) := by
  refine returnsInHanded_of_change_sized (C := Try.checked) own started (by kernel_rfl) Try.func3
    (ChangeSpec.witness6 (enc := enc) (C := Try.checked) false ⟨#[], #[.agg #[.int .i64 0, .int .i64 0, .int .i64 0, .int .i64 0, .int .i64 0], .slice none 0 0], []⟩ 8 (by kernel_rfl) (by kernel_rfl) (by kernel_rfl) (by kernel_rfl)) ?_
  intro W base args ds gs before hval0 hW hcnd hsz0 _
  have hsz : (DataW.weightsEach Try.prog (Try.f3.params.toList ++ Rows.blockJoinsSpec.plain.varTypes Try.prog) (ds ++ gs)).all (· ≤ reachBytes) = true := hsz0
  have hval : ∀ (j : Nat) t v, Try.f3.params[j]? = some t → args[j]? = some v → Value.okWide Try.prog W .any base t v := hval0
  have hW' := hW
  obtain ⟨p, q, hA0, hV, rfl, hfz, hnd⟩ := hW
  have hA : DataW.TrodAll enc Try.prog W 0 (fun _ => true) true Try.f3.params.toList args.toList ds p := hA0
  rw [Try.params3] at hA hval hsz
  obtain ⟨v0, vs0, d0, ds0, p0, q0, hargs, rfl, rfl, h0, r0⟩ := trodAll_cons hA
  obtain ⟨v1, vs1, d1, ds1, p1, q1, rfl, rfl, rfl, h1, r1⟩ := trodAll_cons r0
  obtain ⟨rfl, rfl, rfl⟩ := trodAll_nil r1
  obtain rfl : args = #[v0, v1] := by cases args; simp_all
  obtain ⟨rfl, rfl⟩ := trodVars_none hV
  have lt0 : ∀ x ∈ p0, x.block < W.heap.size := by obtain ⟨m, hm⟩ := h0; exact DataW.trod_lt m _ _ _ hm
  have w0 : okW (d0.weights Try.prog 23) := fun n hn => by have := List.all_eq_true.1 hsz n (DataW.weights_mem_each (j := 0) rfl rfl n hn); simpa using this
  obtain ⟨x0, g0, a0⟩ := arg_agg rdCfg (okWide_agg Try.underlying23 (hval 0 23 v0 rfl rfl)) h0 w0
  have lt1 : ∀ x ∈ p1, x.block < W.heap.size := by obtain ⟨m, hm⟩ := h1; exact DataW.trod_lt m _ _ _ hm
  have w1 : okW (d1.weights Try.prog 24) := fun n hn => by have := List.all_eq_true.1 hsz n (DataW.weights_mem_each (j := 1) rfl rfl n hn); simpa using this
  obtain ⟨sa1, sl1, sc1, rfl⟩ := okWide_slice Try.underlying24 (hval 1 24 v1 rfl rfl)
  obtain ⟨x1, g1, a1⟩ := arg_one rdBlks rfl (fun x y hy => by simp at hy; subst hy; trivial) rfl h1 w1
  clear hA0 hval0 hsz0 hsz
  have hsp : S3 [.val true ((tCfg).enc true x0), .val false ((tSl 34 tBlk).enc true x1)] = some ⟨[(false, [.lit (.bool true)])], []⟩ := by
    show sp2 true (tCfg) false (tSl 34 tBlk)  _ [.val true ((tCfg).enc true x0), .val false ((tSl 34 tBlk).enc true x1)] = _
    rw [sp2_enc x0 x1 (fun e => by cases e) (fun _ => rfl)]
    first | rfl | exact if_pos (fun b hb => (wfI_lt (g1.2 b hb).2.1).2)
  refine (law_end k3 hsp rfl (fun n g v h1 h2 => ?_) (fun n g h1 => ?_) (vs := [v0, .slice sa1 sl1 sc1])).mono fun e W' ⟨he, bel⟩ => ?_
  · match n, h1, h2 with
    | 0, h1, h2 => simp only [List.getElem?_cons_zero, Option.some.injEq] at h1 h2; subst h1; subst h2; exact a0
    | 1, h1, h2 => simp only [List.getElem?_cons_succ, List.getElem?_cons_zero, Option.some.injEq] at h1 h2; subst h1; subst h2; exact a1
    | n + 2, h1, h2 => simp at h1
  · match n, h1 with
    | 0, h1 => simp only [List.getElem?_cons_zero, Option.some.injEq] at h1; subst h1; rfl
    | 1, h1 => simp only [List.getElem?_cons_succ, List.getElem?_cons_zero, Option.some.injEq] at h1; subst h1; rfl
    | n + 2, h1 => simp at h1
  subst he
  exact ⟨_, rfl, _, _, _, [], _, [], hW', trodAll_mk1 (shut_bool Try.underlying4 _), (trodAll_cons_mk (Below.trod laidOut (by kernel_rfl) (of_decide_eq_true (by kernel_rfl)) h0 bel lt0) (trodAll_cons_mk (Below.trod laidOut (by kernel_rfl) (of_decide_eq_true (by kernel_rfl)) h1 bel lt1) trodAll_mk0)), rfl, bel.frame _, fun h => by cases h⟩
theorem over : Rows.blockJoinsRow.holds Try.pinned (OpenSpec.ofChange Rows.blockJoinsSpec) :=
  OpenClaim.holds_of_wide 3 Try.f3 rfl rfl rfl rfl rfl rfl rfl ⟨rfl, rfl, rfl, rfl, rfl⟩ rfl rfl rfl rfl rfl (by kernel_rfl) Try.func3 (by kernel_rfl)
    (of_decide_eq_true (by kernel_rfl)) (by unfold Func.isWrapper; first | (rw [if_pos (by decide +kernel)]; kernel_rfl) | (rw [if_neg (by decide +kernel)]; exact ⟨rfl, rfl⟩))
    (fun os started H enc _ => lifted os started H enc)
theorem proved : Rows.BlockJoinsSaid := over
end Go.Proofs.Ytmbmebfeoejlnaa.blockJoins
namespace Go.Proofs.Ytmbmebfeoejlnaa
/-- The row, under a short name, for the claim. -/
theorem blockJoins_holds : Rows.BlockJoinsSaid := blockJoins.proved
#print axioms blockJoins_holds
end Go.Proofs.Ytmbmebfeoejlnaa
