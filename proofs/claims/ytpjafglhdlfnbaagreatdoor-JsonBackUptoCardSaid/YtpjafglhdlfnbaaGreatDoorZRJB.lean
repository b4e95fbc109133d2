import Derived.Test.YtpjafglhdlfnbaaGreatDoorM1
import Derived.Test.YtpjafglhdlfnbaaGreatDoorM2
import Derived.Test.YtpjafglhdlfnbaaGreatDoorM3
import Derived.Test.YtpjafglhdlfnbaaGreatDoorM4
import Derived.Test.YtpjafglhdlfnbaaGreatDoorM5
set_option maxRecDepth 100000
set_option linter.unusedSimpArgs false
set_option linter.unusedVariables false
namespace Go.Proofs.YtpjafglhdlfnbaaGreatDoor
open Go.Ab Go.Lib
theorem readM_long {s : List UInt8} (h : 8192 < s.length) : readM s = (nullV, 3) := by unfold readM; rw [if_pos h]
theorem jsonBack (v : Val) (hw : wfV v) (hb : bV v ≤ Lim) : Pure Tryz.prog 6 [.agg (cV v)] (.bool true) := by
  refine Pure.go ir6 ck6 (Nat.le_refl _) fun KP Q hQ => ?_
  simp (disch := first | omega | assumption) only [cV_len, cV_take, cV_splice, cM_len, cM_take, cM_splice, cM_mk, ir6, go_sem, ↓reduceIte]
  refine goK_pure (sizeC v hb) ?_
  by_cases c1 : (3000 : Int) < bV v
  · simp (disch := first | omega | assumption) only [cV_len, cV_take, cV_splice, cM_len, cM_take, cM_splice, cM_mk, c1, go_sem, ↓reduceIte]
    refine goK_pure awakeJ ?_
    simp (disch := first | omega | assumption) only [go_sem, ↓reduceIte]
    exact hQ _ _ _ _ nofun rfl (by simp [tupOf, envOf, AV.strip, AV.strip1])
  have hb' : 25 * bV v ≤ Lim := by simp only [Lim]; omega
  have hp := put_le v hw
  simp (disch := first | omega | assumption) only [cV_len, cV_take, cV_splice, cM_len, cM_take, cM_splice, cM_mk, c1, go_sem, ↓reduceIte]
  refine goK_pure (PrintC v hw hb') ?_
  cases hr : rightV v
  · have e : printM v = ([], false) := by unfold printM; rw [hr]; rfl
    rw [e]
    simp (disch := first | omega | assumption) only [go_sem, ↓reduceIte]
    refine goK_pure awakeJ ?_
    simp (disch := first | omega | assumption) only [go_sem, ↓reduceIte]
    exact hQ _ _ _ _ nofun rfl (by simp [tupOf, envOf, AV.strip, AV.strip1])
  have e : printM v = (putV v, true) := by unfold printM; rw [hr]; rfl
  rw [e]
  simp (disch := first | omega | assumption) only [go_sem, ↓reduceIte]
  refine goK_pure (readC (putV v) (by simp only [LimS]; omega)) ?_
  simp (disch := first | omega | assumption) only [cV_len, cV_take, cV_splice, cM_len, cM_take, cM_splice, cM_mk, go_sem, ↓reduceIte]
  refine goA_intro fun bb hbb => ?_
  simp (disch := first | omega | assumption) only [cV_len, cV_take, cV_splice, cM_len, cM_take, cM_splice, cM_mk, go_sem, ↓reduceIte]
  refine goK_pure (depthC v hb) ?_
  by_cases c2 : (8192 : Int) < (putV v).length
  · rw [readM_long (by omega)]
    by_cases c3 : (16 : Int) < depthV v
    · simp (disch := first | omega | assumption) only [cV_len, cV_take, cV_splice, cM_len, cM_take, cM_splice, cM_mk, c2, c3, go_sem, ↓reduceIte]
      refine goK_pure awakeJ ?_
      simp (disch := first | omega | assumption) only [go_sem, ↓reduceIte]
      exact hQ _ _ _ _ nofun rfl (by simp [tupOf, envOf, AV.strip, AV.strip1])
    · simp (disch := first | omega | assumption) only [cV_len, cV_take, cV_splice, cM_len, cM_take, cM_splice, cM_mk, c2, c3, go_sem, ↓reduceIte]
      refine goK_pure awakeJ ?_
      simp (disch := first | omega | assumption) only [go_sem, ↓reduceIte]
      exact hQ _ _ _ _ nofun rfl (by simp [tupOf, envOf, AV.strip, AV.strip1])
  · rw [read_put hr hw (by omega)]
    by_cases c3 : (16 : Int) < depthV v
    · rw [if_neg (by omega)]
      simp (disch := first | omega | assumption) only [cV_len, cV_take, cV_splice, cM_len, cM_take, cM_splice, cM_mk, c2, c3, go_sem, ↓reduceIte]
      refine goK_pure awakeJ ?_
      simp (disch := first | omega | assumption) only [go_sem, ↓reduceIte]
      exact hQ _ _ _ _ nofun rfl (by simp [tupOf, envOf, AV.strip, AV.strip1])
    · rw [if_pos (by omega)]
      simp (disch := first | omega | assumption) only [cV_len, cV_take, cV_splice, cM_len, cM_take, cM_splice, cM_mk, c2, c3, go_sem, ↓reduceIte]
      refine goK_pure (sameP v hb v) ?_
      rw [eqd_true rfl]
      simp (disch := first | omega | assumption) only [go_sem, ↓reduceIte]
      refine goK_pure awakeJ ?_
      simp (disch := first | omega | assumption) only [go_sem, ↓reduceIte]
      exact hQ _ _ _ _ nofun rfl (by simp [tupOf, envOf, AV.strip, AV.strip1])
end Go.Proofs.YtpjafglhdlfnbaaGreatDoor
namespace Go.Proofs.YtpjafglhdlfnbaaGreatDoor
open Go.Ab Go.Lib
open Go.ChangeShapes Go.WideShapes Go.ChangeAt Go.RowKit Go.WideElems
theorem JsonBack_contract (H : Type) (enc : TypeId × Value → H) (W : World) (base : Nat) (args : Array Value) (ds gs : List (DataW H)) (before : List MemPlace)
    (hval : ∀ (j : Nat) t v, Tryz.f6.params[j]? = some t → args[j]? = some v → Value.okWide Tryz.prog W .any base t v)
    (hW : DataW.Whole enc Tryz.prog Tryz.f6.params.toList Rows.jsonBackSpec.vars false W args.toList ds gs before) (hc : blkAll (ds ++ gs) ≤ 1048576)
    (hz : (DataW.weightsEach Tryz.prog (Tryz.f6.params.toList ++ (Rows.OpenSpec.upto Rows.jsonBackSpec).bare.plain.varTypes Tryz.prog) (ds ++ gs)).all (· ≤ reachBytes) = true)
    (hL : laidMetH Tryz.prog laidL W) (hS : W.ShapedOpen Tryz.prog) :
    Calls Tryz.prog 6 args W fun e W' => ∃ v, e = .returned v ∧ Rows.jsonBackSpec.post enc Tryz.prog Tryz.f6 false true false false W args v W' := by
  have hW' := hW
  obtain ⟨p, q, hA0, hV, rfl, hfz, hnd⟩ := hW
  have hA : DataW.TrodAll enc Tryz.prog W 0 (fun _ => true) true Tryz.f6.params.toList args.toList ds p := hA0
  obtain ⟨rfl, rfl⟩ := trodVars_none hV
  rw [Tryz.params6] at hA hval hz
  obtain ⟨v0, vs0, d0, ds0, p0, q0, hargs, rfl, rfl, h0, hA⟩ := trodAll_cons hA
  obtain ⟨rfl, rfl, rfl⟩ := trodAll_nil hA
  obtain rfl : args = #[v0] := by cases args; simp_all
  obtain ⟨c0, rfl⟩ := agg_of Tryz.underlying33 (hval 0 33 v0 rfl rfl)
  obtain ⟨a0, ok0, b0, g0⟩ := DecB.argS (P := Tryz.prog) (f := cV) (decVA) h0 (sized hz (j := 0) rfl rfl)
  simp only [List.append_nil, blkAll] at hc
  refine law_contract (P := Tryz.prog) (fn := Tryz.f6) (tb := 4) laidOut rfl ?_ (by kernel_rfl) Tryz.underlying4 hW' rfl (tabs_ok hL hS) (RepAll.cons g0 RepAll.nil) (jsonBack a0 ok0 (by simp only [Lim]; omega))
  rw [Tryz.params6]
  intro t ht
  simp only [List.mem_cons, List.not_mem_nil, or_false] at ht
  rcases ht with rfl <;> exact ⟨by kernel_rfl, by decide +kernel⟩
theorem JsonBack_reads (os : Os) {H : Type} (enc : TypeId × Value → H) : ∃ places, DataW.whole enc Tryz.prog ((laidWorld os).forCall (fun _ _ => 0) ⟨#[], #[.agg #[.int .i64 0, .int .i64 0, .string ⟨#[]⟩, .slice none 0 0, .slice none 0 0]], []⟩).memory Tryz.f6.params.toList Rows.jsonBackSpec.vars false #[.agg #[.int .i64 0, .int .i64 0, .string ⟨#[]⟩, .slice none 0 0, .slice none 0 0]].toList 8 = some ([.agg [.lit (.int .i64 0), .lit (.int .i64 0), .lit (.string []), .nil, .nil]], [], places) :=
  ⟨[], by kernel_rfl⟩
theorem JsonBack_lifted (os : Os) (started : os.Started) (H : Type) (enc : TypeId × Value → H) (F : Stop.Interp) :
    ReturnsInHanded {} Tryz.checked os 6 .any ((Rows.OpenSpec.upto Rows.jsonBackSpec).preRow enc Tryz.prog Tryz.f6 Rows.jsonBackUptoRow.domain false Rows.jsonBackUptoRow.laid) (((Rows.OpenSpec.upto Rows.jsonBackSpec).at F).post enc Tryz.prog Tryz.f6 false true false false) := by
  obtain ⟨places, hx⟩ := JsonBack_reads os enc
  refine returnsInHanded_of_row (C := Tryz.checked) (s := Rows.OpenSpec.upto Rows.jsonBackSpec) own started (by kernel_rfl) Tryz.func6
    (witness_row_atRef (enc := enc) (C := Tryz.checked) false (laidWorld os) #[.agg #[.int .i64 0, .int .i64 0, .string ⟨#[]⟩, .slice none 0 0, .slice none 0 0]] rfl (by kernel_rfl) (by kernel_rfl) (by kernel_rfl)
      (OpenSpec.preRow_of_cond 8 hx (by kernel_rfl) (fun k hk => by cases hk; kernel_rfl) (by kernel_rfl) (laid_met os _))) ?_
  intro W base args ds gs before hval hW _ hcond hz hL hS _
  exact JsonBack_contract H enc W base args ds gs before hval hW (cond_bulk hcond) hz hL hS
theorem JsonBack_said : Rows.JsonBackUptoSaid :=
  OpenClaim.holds_of_cond 6 Tryz.f6 rfl rfl rfl rfl rfl rfl rfl ⟨rfl, rfl, rfl, rfl, rfl⟩ rfl rfl rfl rfl rfl (by kernel_rfl) Tryz.func6 (by kernel_rfl)
    (of_decide_eq_true (by kernel_rfl)) (by unfold Func.isWrapper; first | (rw [if_pos (by decide +kernel)]; kernel_rfl) | (rw [if_neg (by decide +kernel)]; exact ⟨rfl, rfl⟩))
    (fun os started H enc _ F => by rw [OpenClaim.pre_eq_preRow]; exact JsonBack_lifted os started H enc F)
theorem JsonBack_plain (f : FuncId) (fn : Func) (hf : Tryz.pinned.checked.prog.funcNamed "seine/seinelaw21.JsonBack" = some f) (hfn : Tryz.pinned.checked.prog.funcs[f]? = some fn) :
    true = Tryz.pinned.checked.prog.looks [] ∧ ∀ (j : Nat) t, fn.params[j]? = some t → Tryz.pinned.checked.prog.wantsStandIn t = false := by
  obtain rfl : f = 6 := Option.some.inj ((show Tryz.prog.funcNamed "seine/seinelaw21.JsonBack" = some 6 by kernel_rfl).symm.trans hf) |>.symm
  obtain rfl : fn = Tryz.f6 := (Option.some.inj (Tryz.func6.symm.trans hfn)).symm
  refine ⟨by kernel_rfl, fun j t ht => ?_⟩
  rw [Tryz.params6] at ht
  have hm := Array.mem_of_getElem? ht
  simp only [List.mem_toArray, List.mem_cons, List.not_mem_nil, or_false] at hm
  rcases hm with rfl <;> exact (show Tryz.prog.wantsStandIn _ = false by kernel_rfl)
theorem JsonBack_card : Rows.JsonBackUptoCardSaid :=
  Claim7.holds_tied_plain_at .later [] _ _ _ _ JsonBack_said (fun _ h => by cases h) (by kernel_rfl) (fun _ h => by cases h) jsonBackUpto_row_tie rfl ⟨rfl, rfl⟩ (by kernel_rfl) rfl JsonBack_plain (by kernel_rfl)
end Go.Proofs.YtpjafglhdlfnbaaGreatDoor
