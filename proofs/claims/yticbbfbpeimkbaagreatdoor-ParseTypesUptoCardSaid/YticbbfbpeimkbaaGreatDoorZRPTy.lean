import Derived.Test.YticbbfbpeimkbaaGreatDoorM1
import Derived.Test.YticbbfbpeimkbaaGreatDoorM2
import Derived.Test.YticbbfbpeimkbaaGreatDoorM3
import Derived.Test.YticbbfbpeimkbaaGreatDoorM4
import Derived.Test.YticbbfbpeimkbaaGreatDoorM5
import Derived.Test.YticbbfbpeimkbaaGreatDoorM6
import Derived.Test.YticbbfbpeimkbaaGreatDoorM7
set_option maxRecDepth 100000
set_option linter.unusedSimpArgs false
set_option linter.unusedVariables false
namespace Go.Proofs.YticbbfbpeimkbaaGreatDoor
open Go.Ab Go.Lib
open Go.ChangeShapes Go.WideShapes Go.ChangeAt Go.RowKit Go.WideElems
theorem ParseTypes_contract (H:Type) (enc:TypeId × Value→H) (W:World) (base:Nat) (args:Array Value) (ds gs:List (DataW H)) (before:List MemPlace)
  (hval:∀ (j:Nat) t v,Tryz.f14.params[j]?=some t→args[j]?=some v→Value.okWide Tryz.prog W .any base t v)
  (hW:DataW.Whole enc Tryz.prog Tryz.f14.params.toList Rows.parseTypesSpec.vars false W args.toList ds gs before) (hc:blkAll (ds++gs)≤1048576)
  (hz:(DataW.weightsEach Tryz.prog (Tryz.f14.params.toList++(Rows.OpenSpec.upto Rows.parseTypesSpec).bare.plain.varTypes Tryz.prog) (ds++gs)).all (·≤reachBytes)=true)
  (hL:laidMetH Tryz.prog laidL W) (hS:W.ShapedOpen Tryz.prog) :
  Calls Tryz.prog 14 args W fun e W'=>∃ v,e=.returned v∧Rows.parseTypesSpec.post enc Tryz.prog Tryz.f14 false true false false W args v W':=by
 have hW':=hW
 obtain ⟨p,q,hA0,hV,rfl,hfz,hnd⟩:=hW
 have hA:DataW.TrodAll enc Tryz.prog W 0 (fun _=>true) true Tryz.f14.params.toList args.toList ds p:=hA0
 obtain ⟨rfl,rfl⟩:=trodVars_none hV
 rw [Tryz.params14] at hA hval hz
 obtain ⟨v0,vs0,d0,ds0,p0,q0,hargs,rfl,rfl,h0,hA⟩:=trodAll_cons hA
 obtain ⟨rfl,rfl,rfl⟩:=trodAll_nil hA
 obtain rfl:args=#[v0]:=by cases args;simp_all
 obtain ⟨c0,rfl⟩:=agg_of Tryz.underlying60 (hval 0 60 v0 rfl rfl)
 obtain ⟨a0,ok0,b0,g0⟩:=DecB.argS (P:=Tryz.prog) (f:=cTy) (decTy) h0 (sized hz (j:=0) rfl rfl)
 simp only [List.append_nil,blkAll] at hc
 refine law_contract (P:=Tryz.prog) (fn:=Tryz.f14) (tb:=4) laidOut rfl ?_ (by kernel_rfl) Tryz.underlying4 hW' rfl (tabs_ok hL hS) (RepAll.cons g0 RepAll.nil) (ptypes a0 (by simp only [bTy] at b0;simp only [Lim];omega))
 rw [Tryz.params14]
 intro t ht
 simp only [List.mem_cons,List.not_mem_nil,or_false] at ht
 rcases ht with rfl<;>exact ⟨by kernel_rfl,by decide +kernel⟩
theorem ParseTypes_reads (os:Os) {H:Type} (enc:TypeId × Value→H):∃ places,DataW.whole enc Tryz.prog ((laidWorld os).forCall (fun _ _=>0) ⟨#[],#[.agg #[.string ⟨#[]⟩,.int .i64 0,.int .i64 0]],[]⟩).memory Tryz.f14.params.toList Rows.parseTypesSpec.vars false #[.agg #[.string ⟨#[]⟩,.int .i64 0,.int .i64 0]].toList 8=some ([.agg [.lit (.string []),.lit (.int .i64 0),.lit (.int .i64 0)]],[],places) :=
 ⟨[],by kernel_rfl⟩
theorem ParseTypes_lifted (os:Os) (started:os.Started) (H:Type) (enc:TypeId × Value→H) (F:Stop.Interp) :
  ReturnsInHanded {} Tryz.checked os 14 .any ((Rows.OpenSpec.upto Rows.parseTypesSpec).preRow enc Tryz.prog Tryz.f14 Rows.parseTypesUptoRow.domain false Rows.parseTypesUptoRow.laid) (((Rows.OpenSpec.upto Rows.parseTypesSpec).at F).post enc Tryz.prog Tryz.f14 false true false false):=by
 obtain ⟨places,hx⟩:=ParseTypes_reads os enc
 refine returnsInHanded_of_row (C:=Tryz.checked) (s:=Rows.OpenSpec.upto Rows.parseTypesSpec) own started (by kernel_rfl) Tryz.func14
  (witness_row_atRef (enc:=enc) (C:=Tryz.checked) false (laidWorld os) #[.agg #[.string ⟨#[]⟩,.int .i64 0,.int .i64 0]] rfl (by kernel_rfl) (by kernel_rfl) (by kernel_rfl)
   (OpenSpec.preRow_of_cond 8 hx (by kernel_rfl) (fun k hk=>by cases hk;kernel_rfl) (by kernel_rfl) (laid_met os _))) ?_
 intro W base args ds gs before hval hW _ hcond hz hL hS _
 exact ParseTypes_contract H enc W base args ds gs before hval hW (cond_bulk hcond) hz hL hS
theorem ParseTypes_join0:joinP0 Tryz.pinned.checked.prog 14 Tryz.f14 (Rows.OpenSpec.upto Rows.parseTypesSpec).bare Rows.parseTypesUptoRow=true:=by kernel_rfl
theorem ParseTypes_join1:joinP1 Tryz.pinned.checked.prog 14 Tryz.f14 (Rows.OpenSpec.upto Rows.parseTypesSpec).bare Rows.parseTypesUptoRow=true:=by kernel_rfl
theorem ParseTypes_join2:joinP2 Tryz.pinned.checked.prog 14 Tryz.f14 (Rows.OpenSpec.upto Rows.parseTypesSpec).bare Rows.parseTypesUptoRow=true:=by kernel_rfl
theorem ParseTypes_join3:joinP3 Tryz.pinned.checked.prog 14 Tryz.f14 (Rows.OpenSpec.upto Rows.parseTypesSpec).bare Rows.parseTypesUptoRow=true:=by kernel_rfl
theorem ParseTypes_join4:joinP4 Tryz.pinned.checked.prog 14 Tryz.f14 (Rows.OpenSpec.upto Rows.parseTypesSpec).bare Rows.parseTypesUptoRow=true:=by kernel_rfl
theorem ParseTypes_join5:joinP5 Tryz.pinned.checked.prog 14 Tryz.f14 (Rows.OpenSpec.upto Rows.parseTypesSpec).bare Rows.parseTypesUptoRow=true:=by kernel_rfl
theorem ParseTypes_join6:joinP6 Tryz.pinned.checked.prog 14 Tryz.f14 (Rows.OpenSpec.upto Rows.parseTypesSpec).bare Rows.parseTypesUptoRow=true:=by kernel_rfl
theorem ParseTypes_said:Rows.ParseTypesUptoSaid :=
 OpenClaim.holds_of_cond 14 Tryz.f14 rfl rfl rfl rfl rfl rfl rfl ⟨rfl,rfl,rfl,rfl,rfl⟩ rfl rfl rfl rfl rfl (by kernel_rfl) Tryz.func14 (joined_of ParseTypes_join0 ParseTypes_join1 ParseTypes_join2 ParseTypes_join3 ParseTypes_join4 ParseTypes_join5 ParseTypes_join6)
  (of_decide_eq_true (by kernel_rfl)) (by unfold Func.isWrapper;first|(rw [if_pos (by decide +kernel)];kernel_rfl)|(rw [if_neg (by decide +kernel)];exact ⟨rfl,rfl⟩))
  (fun os started H enc _ F=>by rw [OpenClaim.pre_eq_preRow];exact ParseTypes_lifted os started H enc F)
theorem ParseTypes_plain (f : FuncId) (fn : Func) (hf : Tryz.pinned.checked.prog.funcNamed "seine/seinelaw6.ParseTypes" = some f) (hfn : Tryz.pinned.checked.prog.funcs[f]? = some fn) :
  true=Tryz.pinned.checked.prog.looks []∧∀ (j:Nat) t,fn.params[j]?=some t→Tryz.pinned.checked.prog.wantsStandIn t=false:=by
 obtain rfl : f = 14 := Option.some.inj ((show Tryz.prog.funcNamed "seine/seinelaw6.ParseTypes" = some 14 by kernel_rfl).symm.trans hf) |>.symm
 obtain rfl:fn=Tryz.f14:=(Option.some.inj (Tryz.func14.symm.trans hfn)).symm
 refine ⟨by kernel_rfl,fun j t ht=>?_⟩
 rw [Tryz.params14] at ht
 have hm:=Array.mem_of_getElem? ht
 simp only [List.mem_toArray,List.mem_cons,List.not_mem_nil,or_false] at hm
 rcases hm with rfl<;>exact (show Tryz.prog.wantsStandIn _=false by kernel_rfl)
theorem ParseTypes_main:Tryz.pinned.checked.prog.mainIs=some (Rows.parseTypesUptoCard.stood.harness.1,Rows.parseTypesUptoCard.stood.harness.2.toList):=by kernel_rfl
theorem ParseTypes_goes:false=Rows.parseTypesUptoRow.goesBy Tryz.pinned.checked.prog:=by kernel_rfl
theorem ParseTypes_card:Rows.ParseTypesUptoCardSaid :=
 Claim7.holds_tied_plain_at .later [] _ _ _ _ ParseTypes_said (fun _ h=>by cases h) (by kernel_rfl) (fun _ h=>by cases h) parseTypesUpto_row_tie rfl ⟨rfl,rfl⟩ ParseTypes_main rfl ParseTypes_plain ParseTypes_goes
end Go.Proofs.YticbbfbpeimkbaaGreatDoor
