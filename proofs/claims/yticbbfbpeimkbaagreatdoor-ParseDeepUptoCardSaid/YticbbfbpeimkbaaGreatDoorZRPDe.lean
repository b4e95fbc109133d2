import Derived.Test.YticbbfbpeimkbaaGreatDoorM1
import Derived.Test.YticbbfbpeimkbaaGreatDoorM2
import Derived.Test.YticbbfbpeimkbaaGreatDoorM3
import Derived.Test.YticbbfbpeimkbaaGreatDoorM4
import Derived.Test.YticbbfbpeimkbaaGreatDoorM5
import Derived.Test.YticbbfbpeimkbaaGreatDoorM6
set_option maxRecDepth 100000
set_option linter.unusedSimpArgs false
set_option linter.unusedVariables false
namespace Go.Proofs.YticbbfbpeimkbaaGreatDoor
open Go.Ab Go.Lib
open Go.ChangeShapes Go.WideShapes Go.ChangeAt Go.RowKit Go.WideElems
theorem ParseDeep_contract (H:Type) (enc:TypeId × Value→H) (W:World) (base:Nat) (args:Array Value) (ds gs:List (DataW H)) (before:List MemPlace)
  (hval:∀ (j:Nat) t v,Tryz.f10.params[j]?=some t→args[j]?=some v→Value.okWide Tryz.prog W .any base t v)
  (hW:DataW.Whole enc Tryz.prog Tryz.f10.params.toList Rows.parseDeepSpec.vars false W args.toList ds gs before) (hc:blkAll (ds++gs)≤1048576)
  (hz:(DataW.weightsEach Tryz.prog (Tryz.f10.params.toList++(Rows.OpenSpec.upto Rows.parseDeepSpec).bare.plain.varTypes Tryz.prog) (ds++gs)).all (·≤reachBytes)=true)
  (hL:laidMetH Tryz.prog laidL W) (hS:W.ShapedOpen Tryz.prog) :
  Calls Tryz.prog 10 args W fun e W'=>∃ v,e=.returned v∧Rows.parseDeepSpec.post enc Tryz.prog Tryz.f10 false true false false W args v W':=by
 have hW':=hW
 obtain ⟨p,q,hA0,hV,rfl,hfz,hnd⟩:=hW
 have hA:DataW.TrodAll enc Tryz.prog W 0 (fun _=>true) true Tryz.f10.params.toList args.toList ds p:=hA0
 obtain ⟨rfl,rfl⟩:=trodVars_none hV
 rw [Tryz.params10] at hA hval hz
 obtain ⟨v0,vs0,d0,ds0,p0,q0,hargs,rfl,rfl,h0,hA⟩:=trodAll_cons hA
 obtain ⟨v1,vs1,d1,ds1,p1,q1,rfl,rfl,rfl,h1,hA⟩:=trodAll_cons hA
 obtain ⟨rfl,rfl,rfl⟩:=trodAll_nil hA
 obtain rfl:args=#[v0,v1]:=by cases args;simp_all
 obtain ⟨a0,ok0,b0,g0⟩:=DecB.arg (P:=Tryz.prog) (f:=fun n=>.int .i64 n) (fun m=>DecB.int (k:=.i64) Tryz.underlying3) h0 (sized hz (j:=0) rfl rfl) (plain_int Tryz.underlying3 (hval 0 3 v0 rfl rfl))
 obtain ⟨a1,ok1,b1,g1⟩:=DecB.arg (P:=Tryz.prog) (f:=fun n=>.int .i64 n) (fun m=>DecB.int (k:=.i64) Tryz.underlying3) h1 (sized hz (j:=1) rfl rfl) (plain_int Tryz.underlying3 (hval 1 3 v1 rfl rfl))
 simp only [List.append_nil,blkAll] at hc
 refine law_contract (P:=Tryz.prog) (fn:=Tryz.f10) (tb:=4) laidOut rfl ?_ (by kernel_rfl) Tryz.underlying4 hW' rfl (tabs_ok hL hS) (RepAll.cons g0 (RepAll.cons g1 RepAll.nil)) (pdeep a0 a1)
 rw [Tryz.params10]
 intro t ht
 simp only [List.mem_cons,List.not_mem_nil,or_false] at ht
 rcases ht with rfl|rfl<;>exact ⟨by kernel_rfl,by decide +kernel⟩
theorem ParseDeep_reads (os:Os) {H:Type} (enc:TypeId × Value→H):∃ places,DataW.whole enc Tryz.prog ((laidWorld os).forCall (fun _ _=>0) ⟨#[],#[.int .i64 0,.int .i64 0],[]⟩).memory Tryz.f10.params.toList Rows.parseDeepSpec.vars false #[.int .i64 0,.int .i64 0].toList 8=some ([.lit (.int .i64 0),.lit (.int .i64 0)],[],places) :=
 ⟨[],by kernel_rfl⟩
theorem ParseDeep_lifted (os:Os) (started:os.Started) (H:Type) (enc:TypeId × Value→H) (F:Stop.Interp) :
  ReturnsInHanded {} Tryz.checked os 10 .any ((Rows.OpenSpec.upto Rows.parseDeepSpec).preRow enc Tryz.prog Tryz.f10 Rows.parseDeepUptoRow.domain false Rows.parseDeepUptoRow.laid) (((Rows.OpenSpec.upto Rows.parseDeepSpec).at F).post enc Tryz.prog Tryz.f10 false true false false):=by
 obtain ⟨places,hx⟩:=ParseDeep_reads os enc
 refine returnsInHanded_of_row (C:=Tryz.checked) (s:=Rows.OpenSpec.upto Rows.parseDeepSpec) own started (by kernel_rfl) Tryz.func10
  (witness_row_atRef (enc:=enc) (C:=Tryz.checked) false (laidWorld os) #[.int .i64 0,.int .i64 0] rfl (by kernel_rfl) (by kernel_rfl) (by kernel_rfl)
   (OpenSpec.preRow_of_cond 8 hx (by kernel_rfl) (fun k hk=>by cases hk;kernel_rfl) (by kernel_rfl) (laid_met os _))) ?_
 intro W base args ds gs before hval hW _ hcond hz hL hS _
 exact ParseDeep_contract H enc W base args ds gs before hval hW (cond_bulk hcond) hz hL hS
theorem ParseDeep_join0:joinP0 Tryz.pinned.checked.prog 10 Tryz.f10 (Rows.OpenSpec.upto Rows.parseDeepSpec).bare Rows.parseDeepUptoRow=true:=by kernel_rfl
theorem ParseDeep_join1:joinP1 Tryz.pinned.checked.prog 10 Tryz.f10 (Rows.OpenSpec.upto Rows.parseDeepSpec).bare Rows.parseDeepUptoRow=true:=by kernel_rfl
theorem ParseDeep_join2:joinP2 Tryz.pinned.checked.prog 10 Tryz.f10 (Rows.OpenSpec.upto Rows.parseDeepSpec).bare Rows.parseDeepUptoRow=true:=by kernel_rfl
theorem ParseDeep_join3:joinP3 Tryz.pinned.checked.prog 10 Tryz.f10 (Rows.OpenSpec.upto Rows.parseDeepSpec).bare Rows.parseDeepUptoRow=true:=by kernel_rfl
theorem ParseDeep_join4:joinP4 Tryz.pinned.checked.prog 10 Tryz.f10 (Rows.OpenSpec.upto Rows.parseDeepSpec).bare Rows.parseDeepUptoRow=true:=by kernel_rfl
theorem ParseDeep_join5:joinP5 Tryz.pinned.checked.prog 10 Tryz.f10 (Rows.OpenSpec.upto Rows.parseDeepSpec).bare Rows.parseDeepUptoRow=true:=by kernel_rfl
theorem ParseDeep_join6:joinP6 Tryz.pinned.checked.prog 10 Tryz.f10 (Rows.OpenSpec.upto Rows.parseDeepSpec).bare Rows.parseDeepUptoRow=true:=by kernel_rfl
theorem ParseDeep_said:Rows.ParseDeepUptoSaid :=
 OpenClaim.holds_of_cond 10 Tryz.f10 rfl rfl rfl rfl rfl rfl rfl ⟨rfl,rfl,rfl,rfl,rfl⟩ rfl rfl rfl rfl rfl (by kernel_rfl) Tryz.func10 (joined_of ParseDeep_join0 ParseDeep_join1 ParseDeep_join2 ParseDeep_join3 ParseDeep_join4 ParseDeep_join5 ParseDeep_join6)
  (of_decide_eq_true (by kernel_rfl)) (by unfold Func.isWrapper;first|(rw [if_pos (by decide +kernel)];kernel_rfl)|(rw [if_neg (by decide +kernel)];exact ⟨rfl,rfl⟩))
  (fun os started H enc _ F=>by rw [OpenClaim.pre_eq_preRow];exact ParseDeep_lifted os started H enc F)
theorem ParseDeep_plain (f : FuncId) (fn : Func) (hf : Tryz.pinned.checked.prog.funcNamed "seine/seinelaw6.ParseDeep" = some f) (hfn : Tryz.pinned.checked.prog.funcs[f]? = some fn) :
  true=Tryz.pinned.checked.prog.looks []∧∀ (j:Nat) t,fn.params[j]?=some t→Tryz.pinned.checked.prog.wantsStandIn t=false:=by
 obtain rfl : f = 10 := Option.some.inj ((show Tryz.prog.funcNamed "seine/seinelaw6.ParseDeep" = some 10 by kernel_rfl).symm.trans hf) |>.symm
 obtain rfl:fn=Tryz.f10:=(Option.some.inj (Tryz.func10.symm.trans hfn)).symm
 refine ⟨by kernel_rfl,fun j t ht=>?_⟩
 rw [Tryz.params10] at ht
 have hm:=Array.mem_of_getElem? ht
 simp only [List.mem_toArray,List.mem_cons,List.not_mem_nil,or_false] at hm
 rcases hm with rfl|rfl<;>exact (show Tryz.prog.wantsStandIn _=false by kernel_rfl)
theorem ParseDeep_main:Tryz.pinned.checked.prog.mainIs=some (Rows.parseDeepUptoCard.stood.harness.1,Rows.parseDeepUptoCard.stood.harness.2.toList):=by kernel_rfl
theorem ParseDeep_goes:false=Rows.parseDeepUptoRow.goesBy Tryz.pinned.checked.prog:=by kernel_rfl
theorem ParseDeep_card:Rows.ParseDeepUptoCardSaid :=
 Claim7.holds_tied_plain_at .later [] _ _ _ _ ParseDeep_said (fun _ h=>by cases h) (by kernel_rfl) (fun _ h=>by cases h) parseDeepUpto_row_tie rfl ⟨rfl,rfl⟩ ParseDeep_main rfl ParseDeep_plain ParseDeep_goes
end Go.Proofs.YticbbfbpeimkbaaGreatDoor
