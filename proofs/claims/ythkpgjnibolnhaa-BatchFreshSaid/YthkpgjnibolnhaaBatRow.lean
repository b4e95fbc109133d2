/- The rows of chapter 30's statements. -/
import Derived.Test.YthkpgjnibolnhaaBatN
import Derived.Test.YthkpgjnibolnhaaAbsN
set_option maxRecDepth 100000
set_option linter.unusedSimpArgs false
set_option linter.unusedVariables false
namespace Go.Proofs.Ythkpgjnibolnhaa
open Go.Ab
open Go.ChangeShapes Go.WideShapes Go.ChangeAt Go.RowKit Go.WideElems

theorem own : ownKnob Try.prog.godebug = none := by kernel_rfl
theorem laidOut : laidOutB Try.prog = true := by kernel_rfl

theorem decN (m : Nat) : Dec Try.prog m 35 2 cN (fun _ => True) :=
  Dec.up (fun m => Dec.struct (DecFs.cons (by kernel_rfl) (Dec.str Try.underlying9) (DecFs.cons (by kernel_rfl) (Dec.str Try.underlying9) DecFs.nil)) (by kernel_rfl) (by kernel_rfl) cN (fun _ => True) (fun x => ⟨x.1, x.2.1⟩) (fun a => rfl) (fun a h => trivial)) m

theorem decNs (m : Nat) : Dec Try.prog m 22 1 (fun l : List Need => [.sl .no 2 (cNs l)]) (fun l => l.length * 32 ≤ reachBytes ∧ l.length ≤ maxLen ∧ ∀ x ∈ l, True) :=
  Dec.up (fun m => Dec.slice Try.underlying22 (by kernel_rfl) (by kernel_rfl) (by decide) (decN m)) m
end Go.Proofs.Ythkpgjnibolnhaa
