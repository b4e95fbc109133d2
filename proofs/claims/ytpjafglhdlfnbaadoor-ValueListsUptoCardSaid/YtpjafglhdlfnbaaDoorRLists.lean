/- PROVED: ValueLists is true for every list of values, where it holds together at most 1048576 values and letters and the listed package variables hold what the program lays; the arguments read as before. -/
import Derived.Test.YtpjafglhdlfnbaaDoorRowV
import Derived.Test.YtpjafglhdlfnbaaDoorValG
set_option maxRecDepth 100000
set_option linter.unusedSimpArgs false
set_option linter.unusedVariables false
namespace Go.Proofs.YtpjafglhdlfnbaaDoor
open Go.Ab Go.Lib
open Go.ChangeShapes Go.WideShapes Go.ChangeAt Go.RowKit Go.WideElems

theorem ValueLists_contract (H : Type) (enc : TypeId × Value → H) (W : World) (base : Nat) (args : Array Value) (ds gs : List (DataW H)) (before : List MemPlace)
    (hval : ∀ (j : Nat) t v, Tryd.f7.params[j]? = some t → args[j]? = some v → Value.okWide Tryd.prog W .any base t v)
    (hW : DataW.Whole enc Tryd.prog Tryd.f7.params.toList Rows.valueListsSpec.vars false W args.toList ds gs before) (hc : blkAll (ds ++ gs) ≤ 1048576)
    (hz : (DataW.weightsEach Tryd.prog (Tryd.f7.params.toList ++ (Rows.OpenSpec.upto Rows.valueListsSpec).bare.plain.varTypes Tryd.prog) (ds ++ gs)).all (· ≤ reachBytes) = true)
    (hL : laidMetH Tryd.prog laidL W) (hS : W.ShapedOpen Tryd.prog) :
    Calls Tryd.prog 7 args W fun e W' => ∃ v, e = .returned v ∧ Rows.valueListsSpec.post enc Tryd.prog Tryd.f7 false true false false W args v W' := by
  have hW' := hW
  obtain ⟨p, q, hA0, hV, rfl, hfz, hnd⟩ := hW
  have hA : DataW.TrodAll enc Tryd.prog W 0 (fun _ => true) true Tryd.f7.params.toList args.toList ds p := hA0
  obtain ⟨rfl, rfl⟩ := trodVars_none hV
  rw [Tryd.params7] at hA hval hz
  obtain ⟨v0, vs0, d0, ds0, p0, q0, hargs, rfl, rfl, h0, hA⟩ := trodAll_cons hA
  obtain ⟨rfl, rfl, rfl⟩ := trodAll_nil hA
  obtain rfl : args = #[v0] := by cases args; simp_all
  obtain ⟨a0, ok0, b0, g0⟩ := DecB.arg (P := Tryd.prog) (f := fun l => .sl .no 5 (cVs l)) (decVsA) h0 (sized hz (j := 0) rfl rfl) (plain_slice Tryd.underlying24 (hval 0 24 v0 rfl rfl))
  simp only [List.append_nil, blkAll] at hc
  refine law_contract (P := Tryd.prog) (fn := Tryd.f7) (tb := 4) laidOut rfl ?_ (by kernel_rfl) Tryd.underlying4 hW' rfl (tabs_ok hL hS) (RepAll.cons g0 RepAll.nil) (lists a0 (by simp only [Lim]; omega))
  rw [Tryd.params7]
  intro t ht
  simp only [List.mem_cons, List.not_mem_nil, or_false] at ht
  rcases ht with rfl <;> exact ⟨by kernel_rfl, by decide +kernel⟩

theorem ValueLists_reads (os : Os) {H : Type} (enc : TypeId × Value → H) : ∃ places, DataW.whole enc Tryd.prog ((laidWorld os).forCall (fun _ _ => 0) ⟨#[], #[.slice none 0 0], []⟩).memory Tryd.f7.params.toList Rows.valueListsSpec.vars false #[.slice none 0 0].toList 8 = some ([.nil], [], places) :=
  ⟨[], by kernel_rfl⟩

theorem ValueLists_lifted (os : Os) (started : os.Started) (H : Type) (enc : TypeId × Value → H) (F : Stop.Interp) :
    ReturnsInHanded {} Tryd.checked os 7 .any ((Rows.OpenSpec.upto Rows.valueListsSpec).preRow enc Tryd.prog Tryd.f7 Rows.valueListsUptoRow.domain false Rows.valueListsUptoRow.laid) (((Rows.OpenSpec.upto Rows.valueListsSpec).at F).post enc Tryd.prog Tryd.f7 false true false false) := by
  obtain ⟨places, hx⟩ := ValueLists_reads os enc
  refine returnsInHanded_of_row (C := Tryd.checked) (s := Rows.OpenSpec.upto Rows.valueListsSpec) own started (by kernel_rfl) Tryd.func7
    (witness_row_atRef (enc := enc) (C := Tryd.checked) false (laidWorld os) #[.slice none 0 0] rfl (by kernel_rfl) (by kernel_rfl) (by kernel_rfl)
      (OpenSpec.preRow_of_cond 8 hx (by kernel_rfl) (fun k hk => by cases hk; kernel_rfl) (by kernel_rfl) (laid_met os _))) ?_
  intro W base args ds gs before hval hW _ hcond hz hL hS _
  exact ValueLists_contract H enc W base args ds gs before hval hW (cond_bulk hcond) hz hL hS

theorem ValueLists_said : Rows.ValueListsUptoSaid :=
  OpenClaim.holds_of_cond 7 Tryd.f7 rfl rfl rfl rfl rfl rfl rfl ⟨rfl, rfl, rfl, rfl, rfl⟩ rfl rfl rfl rfl rfl (by kernel_rfl) Tryd.func7 (by kernel_rfl)
    (of_decide_eq_true (by kernel_rfl)) (by unfold Func.isWrapper; first | (rw [if_pos (by decide +kernel)]; kernel_rfl) | (rw [if_neg (by decide +kernel)]; exact ⟨rfl, rfl⟩))
    (fun os started H enc _ F => by rw [OpenClaim.pre_eq_preRow]; exact ValueLists_lifted os started H enc F)

theorem ValueLists_plain (f : FuncId) (fn : Func) (hf : Tryd.pinned.checked.prog.funcNamed "seine/seinelaw5.ValueLists" = some f) (hfn : Tryd.pinned.checked.prog.funcs[f]? = some fn) :
    true = Tryd.pinned.checked.prog.looks [] ∧ ∀ (j : Nat) t, fn.params[j]? = some t → Tryd.pinned.checked.prog.wantsStandIn t = false := by
  obtain rfl : f = 7 := Option.some.inj ((show Tryd.prog.funcNamed "seine/seinelaw5.ValueLists" = some 7 by kernel_rfl).symm.trans hf) |>.symm
  obtain rfl : fn = Tryd.f7 := (Option.some.inj (Tryd.func7.symm.trans hfn)).symm
  refine ⟨by kernel_rfl, fun j t ht => ?_⟩
  rw [Tryd.params7] at ht
  have hm := Array.mem_of_getElem? ht
  simp only [List.mem_toArray, List.mem_cons, List.not_mem_nil, or_false] at hm
  rcases hm with rfl <;> exact (show Tryd.prog.wantsStandIn _ = false by kernel_rfl)

/-- THE SECOND FORM's CARD of ValueLists. -/
theorem ValueLists_card : Rows.ValueListsUptoCardSaid :=
  Claim7.holds_tied_plain_at .later [] _ _ _ _ ValueLists_said (fun _ h => by cases h) (by kernel_rfl) (fun _ h => by cases h) valueListsUpto_row_tie rfl ⟨rfl, rfl⟩ (by kernel_rfl) rfl ValueLists_plain (by kernel_rfl)
end Go.Proofs.YtpjafglhdlfnbaaDoor
