/- BatchFresh: what is fresh is not known, and each once; told of all of it, nothing is fresh any more. No conditions. -/
import Derived.Test.YthkpgjnibolnhaaBatRow
import Derived.Test.YthkpgjnibolnhaaBatF
set_option maxRecDepth 100000
set_option linter.unusedSimpArgs false
set_option linter.unusedVariables false
namespace Go.Proofs.Ythkpgjnibolnhaa
open Go.Ab
open Go.ChangeShapes Go.WideShapes Go.ChangeAt Go.RowKit Go.WideElems

theorem BatchFresh_lifted (os : Os) (started : os.Started) (H : Type) (enc : TypeId × Value → H) :
    ReturnsInHanded {} Try.checked os 9 .any (Rows.batchFreshSpec.pre6 enc Try.prog Try.f9 Rows.batchFreshRow.domain false) (Rows.batchFreshSpec.post enc Try.prog Try.f9 false true false false) := by
  refine returnsInHanded_of_change_sized (C := Try.checked) own started (by kernel_rfl) Try.func9
    (ChangeSpec.witness6 (enc := enc) (C := Try.checked) false ⟨#[], #[.slice none 0 0, .slice none 0 0], []⟩ 8 (by kernel_rfl) (by kernel_rfl) (by kernel_rfl) (by kernel_rfl)) ?_
  intro W base args ds gs before hval0 hW hcnd hz0 _
  have hW' := hW
  obtain ⟨p, q, hA0, hV, rfl, hfz, hnd⟩ := hW
  have hA : DataW.TrodAll enc Try.prog W 0 (fun _ => true) true Try.f9.params.toList args.toList ds p := hA0
  have hval : ∀ (j : Nat) t v, Try.f9.params[j]? = some t → args[j]? = some v → Value.okWide Try.prog W .any base t v := hval0
  have hz : (DataW.weightsEach Try.prog (Try.f9.params.toList ++ _) (ds ++ gs)).all (· ≤ reachBytes) = true := hz0
  obtain ⟨rfl, rfl⟩ := trodVars_none hV
  rw [Try.params9] at hA hval hz
  obtain ⟨v0, vs0, d0, ds0, p0, q0, hargs, rfl, rfl, h0, hA⟩ := trodAll_cons hA
  obtain ⟨v1, vs1, d1, ds1, p1, q1, rfl, rfl, rfl, h1, hA⟩ := trodAll_cons hA
  obtain ⟨rfl, rfl, rfl⟩ := trodAll_nil hA
  obtain rfl : args = #[v0, v1] := by cases args; simp_all
  obtain ⟨a0, ok0, g0⟩ := Dec.arg (P := Try.prog) (f := fun l => .sl .no 2 (cNs l)) (decNs) h0 (sized hz (j := 0) rfl rfl) (plain_slice Try.underlying22 (hval 0 22 v0 rfl rfl))
  obtain ⟨a1, ok1, g1⟩ := Dec.arg (P := Try.prog) (f := fun l => .sl .no 2 (cNs l)) (decNs) h1 (sized hz (j := 1) rfl rfl) (plain_slice Try.underlying22 (hval 1 22 v1 rfl rfl))
  have hrb := reachBytes_lt
  refine law_contract (P := Try.prog) (fn := Try.f9) (tb := 4) laidOut rfl ?_ (by kernel_rfl) Try.underlying4 hW' rfl (fun x hx => by cases hx) (RepAll.cons g0 (RepAll.cons g1 RepAll.nil)) (fresh a0 a1 ok0.2.1 ok1.2.1)
  rw [Try.params9]
  intro t ht
  simp only [List.mem_cons, List.not_mem_nil, or_false] at ht
  rcases ht with rfl | rfl <;> exact ⟨by kernel_rfl, by decide +kernel⟩

/-- BatchFresh holds. -/
theorem BatchFresh_holds : Rows.BatchFreshSaid :=
  OpenClaim.holds_of_wide 9 Try.f9 rfl rfl rfl rfl rfl rfl rfl ⟨rfl, rfl, rfl, rfl, rfl⟩ rfl rfl rfl rfl rfl (by kernel_rfl) Try.func9 (by kernel_rfl)
    (of_decide_eq_true (by kernel_rfl)) (by unfold Func.isWrapper; first | (rw [if_pos (by decide +kernel)]; kernel_rfl) | (rw [if_neg (by decide +kernel)]; exact ⟨rfl, rfl⟩))
    (fun os started H enc _ => BatchFresh_lifted os started H enc)
end Go.Proofs.Ythkpgjnibolnhaa
