/- block's awake: true, by the run of the abstract machine. -/
import Derived.Test.YtmbmebfeoejlnaaB1
namespace Go.Proofs.Ytmbmebfeoejlnaa.Ab
set_option linter.unusedVariables false
set_option linter.unusedSimpArgs false
open Go.RowKit
theorem Contract.more {P : Program} {f : Nat} {sp sp' : Spec} (h : Contract P f sp) (hs : ∀ gs out, sp' gs = some out → sp gs = some out) : Contract P f sp' := ⟨h.call, fun w F gs vs out h1 => h.holds w F gs vs out (hs gs out h1)⟩
def S21 : Spec := fun gs => sp0 (some (oBool true)) gs
@[simp] theorem S21_eq (gs : List Arg) : S21 gs = sp0 (some (oBool true)) gs := rfl
theorem run21 : absCall Try.prog (fun _ => none) 60 21 [] = some (oBool true) := by kernel_rfl
theorem k21 : Contract Try.prog 21 S21 := by
  refine (absCall_ok (base := fun _ => none) (fun f sp h => by cases h) (by kernel_rfl) 60 21 (by kernel_rfl) (by kernel_rfl)).more fun gs out h => ?_
  unfold S21 sp0 at h
  split at h
  · rw [run21]; exact h
  · cases h
end Go.Proofs.Ytmbmebfeoejlnaa.Ab
