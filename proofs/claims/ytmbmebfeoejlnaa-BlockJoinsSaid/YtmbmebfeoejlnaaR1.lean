/- The arguments' types, read as data. -/
import Derived.Test.YtmbmebfeoejlnaaB9
import Derived.Test.YtmbmebfeoejlnaaB11
import Derived.Test.YtmbmebfeoejlnaaA33
namespace Go.Proofs.Ytmbmebfeoejlnaa.Ab
set_option linter.unusedVariables false
set_option linter.unusedSimpArgs false
open Go.RowKit
abbrev wfI (k : IntKind) (n : Int) : Prop := (Lit.int k n).wf = true
abbrev gSl {α : Type} (g : α → Prop) (l : List α) : Prop := l.length ≤ maxL ∧ ∀ x ∈ l, g x
abbrev gTok : List Int → Prop := gSl (wfI .i64)
abbrev gRow : List Int → Prop := gSl (wfI .i32)
abbrev gMat : List (List Int) → Prop := gSl gRow
abbrev gCube : Cube → Prop := gSl gMat
theorem rdTok : Rd tTok 27 gTok := Rd.slice Try.underlying27 (by kernel_rfl) (of_decide_eq_true (by kernel_rfl)) (Rd.int Try.underlying3)
theorem rdRow : Rd tRow 51 gRow := Rd.slice Try.underlying51 (by kernel_rfl) (of_decide_eq_true (by kernel_rfl)) (Rd.int Try.underlying81)
theorem rdMat : Rd tMat 79 gMat := Rd.slice Try.underlying79 (by kernel_rfl) (of_decide_eq_true (by kernel_rfl)) rdRow
theorem rdCube : Rd tCube 28 gCube := Rd.slice Try.underlying28 (by kernel_rfl) (of_decide_eq_true (by kernel_rfl)) rdMat
abbrev gCfg : Cfg → Prop := gPair (wfI .i64) (gPair (wfI .i64) (gPair (wfI .i64) (gPair (wfI .i64) (wfI .i64))))
abbrev gCache : Cube × Cube → Prop := gPair gCube gCube
abbrev gBlk : Blk → Prop := gPair gTok (gPair (wfI .i64) gCache)
abbrev gView : View → Prop := gPair gTok gCache
theorem rdCfg : Rd tCfg 23 gCfg := by
  refine Rd.struct Try.underlying23 (by kernel_rfl) ?_
  exact Fld.cons rfl (Rd.int Try.underlying3) (Fld.cons rfl (Rd.int Try.underlying3) (Fld.cons rfl (Rd.int Try.underlying3) (Fld.cons rfl (Rd.int Try.underlying3) (Fld.one rfl (Rd.int Try.underlying3)))))
theorem rdCache : Rd (tPair tCube tCube) 32 gCache := by
  refine Rd.struct Try.underlying32 (by kernel_rfl) ?_
  exact Fld.cons rfl rdCube (Fld.one rfl rdCube)
theorem rdBlk : Rd tBlk 34 gBlk := by
  refine Rd.struct Try.underlying34 (by kernel_rfl) ?_
  exact Fld.cons rfl rdTok (Fld.cons rfl (Rd.int Try.underlying3) (Fld.one rfl rdCache))
theorem rdBlks : Rd (tSl 34 tBlk) 24 (gSl gBlk) := Rd.slice Try.underlying24 (by kernel_rfl) (of_decide_eq_true (by kernel_rfl)) rdBlk
theorem rdView : Rd tView 40 gView := by
  refine Rd.struct Try.underlying40 (by kernel_rfl) ?_
  exact Fld.cons rfl rdTok (Fld.one rfl rdCache)
theorem wfI_lt {n : Int} (h : wfI .i64 n) : -9223372036854775808 ≤ n ∧ n < 9223372036854775808 := by
  simp [wfI, Lit.wf, IntKind.min, IntKind.max, IntKind.signed, IntKind.bits] at h
  omega
end Go.Proofs.Ytmbmebfeoejlnaa.Ab
