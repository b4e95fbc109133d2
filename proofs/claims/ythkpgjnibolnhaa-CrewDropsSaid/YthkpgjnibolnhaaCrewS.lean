/- The row of CrewDrops. -/
import Derived.Test.YthkpgjnibolnhaaCrewR
import Derived.Test.YthkpgjnibolnhaaCrewD
set_option maxRecDepth 100000
set_option linter.unusedSimpArgs false
set_option linter.unusedVariables false
namespace Go.Proofs.Ythkpgjnibolnhaa
open Go.Ab
open Go.ChangeShapes Go.WideShapes Go.ChangeAt Go.RowKit Go.WideElems

theorem CrewDrops_lifted (os : Os) (started : os.Started) (H : Type) (enc : TypeId × Value → H) :
    ReturnsInHanded {} Try.checked os 12 .any (Rows.crewDropsSpec.pre6 enc Try.prog Try.f12 Rows.crewDropsRow.domain false) (Rows.crewDropsSpec.post enc Try.prog Try.f12 false true false false) := by
  refine returnsInHanded_of_change_sized (C := Try.checked) own started (by kernel_rfl) Try.func12
    (ChangeSpec.witness6 (enc := enc) (C := Try.checked) false ⟨#[], #[.int .i64 0, .int .i64 0, .slice none 0 0, .slice none 0 0], []⟩ 8 (by kernel_rfl) (by kernel_rfl) (by kernel_rfl) (by kernel_rfl)) ?_
  intro W base args ds gs before hval0 hW hcnd hz _
  have hW' := hW
  obtain ⟨p, q, hA0, hV, rfl, hfz, hnd⟩ := hW
  have hA : DataW.TrodAll enc Try.prog W 0 (fun _ => true) true Try.f12.params.toList args.toList ds p := hA0
  have hval : ∀ (j : Nat) t v, Try.f12.params[j]? = some t → args[j]? = some v → Value.okWide Try.prog W .any base t v := hval0
  have hz' : (DataW.weightsEach Try.prog (Try.f12.params.toList ++ _) (ds ++ gs)).all (· ≤ reachBytes) = true := hz
  obtain ⟨rfl, rfl⟩ := trodVars_none hV
  rw [Try.params12] at hA hval hz'
  obtain ⟨v0, vs0, d0, ds0, p0, q0, hargs, rfl, rfl, h0, r0⟩ := trodAll_cons hA
  obtain ⟨v1, vs1, d1, ds1, p1, q1, rfl, rfl, rfl, h1, r1⟩ := trodAll_cons r0
  obtain ⟨v2, vs2, d2, ds2, p2, q2, rfl, rfl, rfl, h2, r2⟩ := trodAll_cons r1
  obtain ⟨v3, vs3, d3, ds3, p3, q3, rfl, rfl, rfl, h3, r3⟩ := trodAll_cons r2
  obtain ⟨rfl, rfl, rfl⟩ := trodAll_nil r3
  obtain rfl : args = #[v0, v1, v2, v3] := by cases args; simp_all
  obtain ⟨n, _, g0⟩ := Dec.arg (P := Try.prog) (f := fun n => .int .i64 n) (fun m => Dec.int u3) h0 (sized hz' (j := 0) rfl rfl) (plain_int u3 (hval 0 3 v0 rfl rfl))
  obtain ⟨k, _, g1⟩ := Dec.arg (P := Try.prog) (f := fun n => .int .i64 n) (fun m => Dec.int u3) h1 (sized hz' (j := 1) rfl rfl) (plain_int u3 (hval 1 3 v1 rfl rfl))
  obtain ⟨l, hl, g2⟩ := Dec.arg (P := Try.prog) (f := fun l => .sl .no 2 (cBs l)) decBs h2 (sized hz' (j := 2) rfl rfl) (plain_slice u26 (hval 2 26 v2 rfl rfl))
  obtain ⟨ps, hp, g3⟩ := Dec.arg (P := Try.prog) (f := fun l => .sl .no 1 (cI l)) decI h3 (sized hz' (j := 3) rfl rfl) (plain_slice u39 (hval 3 39 v3 rfl rfl))
  have hrb := reachBytes_lt
  refine law_contract (P := Try.prog) (fn := Try.f12) (tb := 4) laidOut rfl ?_ (by kernel_rfl) u4 hW' rfl (RepAll.cons g0 (RepAll.cons g1 (RepAll.cons g2 (RepAll.cons g3 RepAll.nil)))) (drops n k l ps (fun b hb => (hl.2.2 b hb).small) hl.2.1 (by have := hl.1; omega) hp.2.1)
  rw [Try.params12]
  intro t ht
  simp only [List.mem_cons, List.not_mem_nil, or_false] at ht
  rcases ht with rfl | rfl | rfl | rfl <;> exact ⟨by kernel_rfl, by decide +kernel⟩

theorem CrewDrops_holds : Rows.CrewDropsSaid :=
  OpenClaim.holds_of_wide 12 Try.f12 rfl rfl rfl rfl rfl rfl rfl ⟨rfl, rfl, rfl, rfl, rfl⟩ rfl rfl rfl rfl rfl (by kernel_rfl) Try.func12 (by kernel_rfl)
    (of_decide_eq_true (by kernel_rfl)) (by unfold Func.isWrapper; first | (rw [if_pos (by decide +kernel)]; kernel_rfl) | (rw [if_neg (by decide +kernel)]; exact ⟨rfl, rfl⟩))
    (fun os started H enc _ => CrewDrops_lifted os started H enc)
end Go.Proofs.Ythkpgjnibolnhaa
