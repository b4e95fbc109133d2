/- The rows of chapter 31's statements. -/
import Derived.Test.YthkpgjnibolnhaaCrewC
import Derived.Test.YthkpgjnibolnhaaAbsN
set_option maxRecDepth 100000
set_option linter.unusedSimpArgs false
set_option linter.unusedVariables false
namespace Go.Proofs.Ythkpgjnibolnhaa
open Go.Ab
open Go.ChangeShapes Go.WideShapes Go.ChangeAt Go.RowKit Go.WideElems

theorem own : ownKnob Try.prog.godebug = none := by kernel_rfl
theorem laidOut : laidOutB Try.prog = true := by kernel_rfl
theorem u3 : Try.prog.underlying 3 = some (.int .i64) := by kernel_rfl
theorem u4 : Try.prog.underlying 4 = some .bool := by kernel_rfl
theorem u9 : Try.prog.underlying 9 = some .string := by kernel_rfl
theorem u31 : Try.prog.underlying 31 = some (.slice 9) := by kernel_rfl
theorem u26 : Try.prog.underlying 26 = some (.slice 33) := by kernel_rfl
theorem u39 : Try.prog.underlying 39 = some (.slice 3) := by kernel_rfl

theorem decT (m : Nat) : Dec Try.prog m 31 1 (fun l : List (List UInt8) => [.sl .no 1 (cT l)]) (fun l => l.length * 16 ≤ reachBytes ∧ l.length ≤ maxLen ∧ ∀ x ∈ l, x.length ≤ reachBytes) :=
  Dec.up (fun m => Dec.slice u31 (by kernel_rfl) (by kernel_rfl) (by decide) (Dec.str u9)) m

theorem decI (m : Nat) : Dec Try.prog m 39 1 (fun l : List Int => [.sl .no 1 (cI l)]) (fun l => l.length * 8 ≤ reachBytes ∧ l.length ≤ maxLen ∧ ∀ x ∈ l, (Lit.int .i64 x).wf = true) :=
  Dec.up (fun m => Dec.slice u39 (by kernel_rfl) (by kernel_rfl) (by decide) (Dec.int u3)) m

def Batch.ok (b : Batch) : Prop := b.table.length ≤ reachBytes ∧ b.keys.length * 16 ≤ reachBytes ∧ b.keys.length ≤ maxLen ∧ ∀ x ∈ b.keys, x.length ≤ reachBytes

theorem decB (m : Nat) : Dec Try.prog m 33 2 cB Batch.ok :=
  Dec.up (fun m => Dec.struct (DecFs.cons (by kernel_rfl) (Dec.str u9) (DecFs.cons (by kernel_rfl) (decT m) DecFs.nil)) (by kernel_rfl) (by kernel_rfl) cB Batch.ok (fun x => ⟨x.1, x.2.1⟩) (fun a => rfl) (fun a h => ⟨h.1, h.2.1⟩)) m

theorem decBs (m : Nat) : Dec Try.prog m 26 1 (fun l : List Batch => [.sl .no 2 (cBs l)]) (fun l => l.length * 40 ≤ reachBytes ∧ l.length ≤ maxLen ∧ ∀ x ∈ l, x.ok) :=
  Dec.up (fun m => Dec.slice u26 (by kernel_rfl) (by kernel_rfl) (by decide) (decB m)) m

theorem Batch.ok.small {b : Batch} (h : b.ok) : b.small := by
  have := h.2.1
  have h2 := reachBytes_lt
  simp only [Batch.small]
  omega

theorem CrewThrough_lifted (os : Os) (started : os.Started) (H : Type) (enc : TypeId × Value → H) :
    ReturnsInHanded {} Try.checked os 10 .any (Rows.crewThroughSpec.pre6 enc Try.prog Try.f10 Rows.crewThroughRow.domain false) (Rows.crewThroughSpec.post enc Try.prog Try.f10 false true false false) := by
  refine returnsInHanded_of_change_sized (C := Try.checked) own started (by kernel_rfl) Try.func10
    (ChangeSpec.witness6 (enc := enc) (C := Try.checked) false ⟨#[], #[.int .i64 0, .slice none 0 0, .slice none 0 0], []⟩ 8 (by kernel_rfl) (by kernel_rfl) (by kernel_rfl) (by kernel_rfl)) ?_
  intro W base args ds gs before hval0 hW hcnd hz _
  have hW' := hW
  obtain ⟨p, q, hA0, hV, rfl, hfz, hnd⟩ := hW
  have hA : DataW.TrodAll enc Try.prog W 0 (fun _ => true) true Try.f10.params.toList args.toList ds p := hA0
  have hval : ∀ (j : Nat) t v, Try.f10.params[j]? = some t → args[j]? = some v → Value.okWide Try.prog W .any base t v := hval0
  have hz' : (DataW.weightsEach Try.prog (Try.f10.params.toList ++ _) (ds ++ gs)).all (· ≤ reachBytes) = true := hz
  obtain ⟨rfl, rfl⟩ := trodVars_none hV
  rw [Try.params10] at hA hval hz'
  obtain ⟨v0, vs0, d0, ds0, p0, q0, hargs, rfl, rfl, h0, r0⟩ := trodAll_cons hA
  obtain ⟨v1, vs1, d1, ds1, p1, q1, rfl, rfl, rfl, h1, r1⟩ := trodAll_cons r0
  obtain ⟨v2, vs2, d2, ds2, p2, q2, rfl, rfl, rfl, h2, r2⟩ := trodAll_cons r1
  obtain ⟨rfl, rfl, rfl⟩ := trodAll_nil r2
  obtain rfl : args = #[v0, v1, v2] := by cases args; simp_all
  obtain ⟨n, _, g0⟩ := Dec.arg (P := Try.prog) (f := fun n => .int .i64 n) (fun m => Dec.int u3) h0 (sized hz' (j := 0) rfl rfl) (plain_int u3 (hval 0 3 v0 rfl rfl))
  obtain ⟨l, hl, g1⟩ := Dec.arg (P := Try.prog) (f := fun l => .sl .no 2 (cBs l)) decBs h1 (sized hz' (j := 1) rfl rfl) (plain_slice u26 (hval 1 26 v1 rfl rfl))
  obtain ⟨ps, hp, g2⟩ := Dec.arg (P := Try.prog) (f := fun l => .sl .no 1 (cI l)) decI h2 (sized hz' (j := 2) rfl rfl) (plain_slice u39 (hval 2 39 v2 rfl rfl))
  refine law_contract (P := Try.prog) (fn := Try.f10) (tb := 4) laidOut rfl ?_ (by kernel_rfl) u4 hW' rfl (RepAll.cons g0 (RepAll.cons g1 (RepAll.cons g2 RepAll.nil))) (through n l ps (fun b hb => (hl.2.2 b hb).small) hl.2.1 hp.2.1)
  rw [Try.params10]
  intro t ht
  simp only [List.mem_cons, List.not_mem_nil, or_false] at ht
  rcases ht with rfl | rfl | rfl <;> exact ⟨by kernel_rfl, by decide +kernel⟩

theorem CrewThrough_holds : Rows.CrewThroughSaid :=
  OpenClaim.holds_of_wide 10 Try.f10 rfl rfl rfl rfl rfl rfl rfl ⟨rfl, rfl, rfl, rfl, rfl⟩ rfl rfl rfl rfl rfl (by kernel_rfl) Try.func10 (by kernel_rfl)
    (of_decide_eq_true (by kernel_rfl)) (by unfold Func.isWrapper; first | (rw [if_pos (by decide +kernel)]; kernel_rfl) | (rw [if_neg (by decide +kernel)]; exact ⟨rfl, rfl⟩))
    (fun os started H enc _ => CrewThrough_lifted os started H enc)
end Go.Proofs.Ythkpgjnibolnhaa
