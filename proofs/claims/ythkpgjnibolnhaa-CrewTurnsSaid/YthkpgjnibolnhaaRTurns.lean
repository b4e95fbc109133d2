/- CrewTurns: of any numbers that can go on it is the one that was picked, or else the least of them, or none. No conditions. -/
import Derived.Test.YthkpgjnibolnhaaTurn2
import Derived.Test.YthkpgjnibolnhaaAbsN
set_option maxRecDepth 100000
set_option linter.unusedSimpArgs false
set_option linter.unusedVariables false
namespace Go.Proofs.Ythkpgjnibolnhaa
open Go.Ab
open Go.ChangeShapes Go.WideShapes Go.ChangeAt Go.RowKit Go.WideElems

theorem own : ownKnob Try.prog.godebug = none := by kernel_rfl
theorem laidOut : laidOutB Try.prog = true := by kernel_rfl

theorem decI (m : Nat) : Dec Try.prog m 39 1 (fun l : List Int => [.sl .no 1 (cI l)]) (fun l => l.length * 8 ≤ reachBytes ∧ l.length ≤ maxLen ∧ ∀ x ∈ l, (Lit.int .i64 x).wf = true) :=
  Dec.up (fun m => Dec.slice Try.underlying39 (by kernel_rfl) (by kernel_rfl) (by decide) (Dec.int Try.underlying3)) m

theorem CrewTurns_lifted (os : Os) (started : os.Started) (H : Type) (enc : TypeId × Value → H) :
    ReturnsInHanded {} Try.checked os 7 .any (Rows.crewTurnsSpec.pre6 enc Try.prog Try.f7 Rows.crewTurnsRow.domain false) (Rows.crewTurnsSpec.post enc Try.prog Try.f7 false true false false) := by
  refine returnsInHanded_of_change_sized (C := Try.checked) own started (by kernel_rfl) Try.func7
    (ChangeSpec.witness6 (enc := enc) (C := Try.checked) false ⟨#[], #[.int .i64 0, .slice none 0 0], []⟩ 8 (by kernel_rfl) (by kernel_rfl) (by kernel_rfl) (by kernel_rfl)) ?_
  intro W base args ds gs before hval0 hW hcnd hz0 _
  have hW' := hW
  obtain ⟨p, q, hA0, hV, rfl, hfz, hnd⟩ := hW
  have hA : DataW.TrodAll enc Try.prog W 0 (fun _ => true) true Try.f7.params.toList args.toList ds p := hA0
  have hval : ∀ (j : Nat) t v, Try.f7.params[j]? = some t → args[j]? = some v → Value.okWide Try.prog W .any base t v := hval0
  have hz : (DataW.weightsEach Try.prog (Try.f7.params.toList ++ _) (ds ++ gs)).all (· ≤ reachBytes) = true := hz0
  obtain ⟨rfl, rfl⟩ := trodVars_none hV
  rw [Try.params7] at hA hval hz
  obtain ⟨v0, vs0, d0, ds0, p0, q0, hargs, rfl, rfl, h0, hA⟩ := trodAll_cons hA
  obtain ⟨v1, vs1, d1, ds1, p1, q1, rfl, rfl, rfl, h1, hA⟩ := trodAll_cons hA
  obtain ⟨rfl, rfl, rfl⟩ := trodAll_nil hA
  obtain rfl : args = #[v0, v1] := by cases args; simp_all
  obtain ⟨a0, ok0, g0⟩ := Dec.arg (P := Try.prog) (f := fun n => .int .i64 n) (fun m => Dec.int Try.underlying3) h0 (sized hz (j := 0) rfl rfl) (plain_int Try.underlying3 (hval 0 3 v0 rfl rfl))
  obtain ⟨a1, ok1, g1⟩ := Dec.arg (P := Try.prog) (f := fun l => .sl .no 1 (cI l)) (decI) h1 (sized hz (j := 1) rfl rfl) (plain_slice Try.underlying39 (hval 1 39 v1 rfl rfl))
  have hrb := reachBytes_lt
  refine law_contract (P := Try.prog) (fn := Try.f7) (tb := 4) laidOut rfl ?_ (by kernel_rfl) Try.underlying4 hW' rfl (fun x hx => by cases hx) (RepAll.cons g0 (RepAll.cons g1 RepAll.nil)) (turns a0 a1 ok1.2.1)
  rw [Try.params7]
  intro t ht
  simp only [List.mem_cons, List.not_mem_nil, or_false] at ht
  rcases ht with rfl | rfl <;> exact ⟨by kernel_rfl, by decide +kernel⟩

/-- CrewTurns holds. -/
theorem CrewTurns_holds : Rows.CrewTurnsSaid :=
  OpenClaim.holds_of_wide 7 Try.f7 rfl rfl rfl rfl rfl rfl rfl ⟨rfl, rfl, rfl, rfl, rfl⟩ rfl rfl rfl rfl rfl (by kernel_rfl) Try.func7 (by kernel_rfl)
    (of_decide_eq_true (by kernel_rfl)) (by unfold Func.isWrapper; first | (rw [if_pos (by decide +kernel)]; kernel_rfl) | (rw [if_neg (by decide +kernel)]; exact ⟨rfl, rfl⟩))
    (fun os started H enc _ => CrewTurns_lifted os started H enc)
end Go.Proofs.Ythkpgjnibolnhaa
