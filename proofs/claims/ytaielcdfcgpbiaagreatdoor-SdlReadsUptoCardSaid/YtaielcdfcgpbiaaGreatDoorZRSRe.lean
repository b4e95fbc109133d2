import Derived.Test.YtaielcdfcgpbiaaGreatDoorM1
import Derived.Test.YtaielcdfcgpbiaaGreatDoorM2
import Derived.Test.YtaielcdfcgpbiaaGreatDoorM3
import Derived.Test.YtaielcdfcgpbiaaGreatDoorM4
import Derived.Test.YtaielcdfcgpbiaaGreatDoorM5
import Derived.Test.YtaielcdfcgpbiaaGreatDoorM6
import Derived.Test.YtaielcdfcgpbiaaGreatDoorM7
import Derived.Test.YtaielcdfcgpbiaaGreatDoorM8
import Derived.Test.YtaielcdfcgpbiaaGreatDoorM9
import Derived.Test.YtaielcdfcgpbiaaGreatDoorM10
set_option maxRecDepth 100000
set_option linter.all false
namespace Go.Proofs.YtaielcdfcgpbiaaGreatDoor
open Go.Ab Go.Lib
open Go.ChangeShapes Go.WideShapes Go.ChangeAt Go.RowKit Go.WideElems
theorem zb7 (H:Type) (enc:TypeId×Value→H) (W:World) (base:Nat) (args:Array Value) (ds gs:List (DataW H)) (before:List MemPlace)
  (hval:∀(j:Nat) t v,Tryz.f4.params[j]?=some t→args[j]?=some v→Value.okWide Tryz.prog W .any base t v)
  (hW:DataW.Whole enc Tryz.prog Tryz.f4.params.toList Rows.sdlReadsSpec.vars false W args.toList ds gs before) (hc:blkAll (ds++gs)≤1048576)
  (hz:(DataW.weightsEach Tryz.prog (Tryz.f4.params.toList++(Rows.OpenSpec.upto Rows.sdlReadsSpec).bare.plain.varTypes Tryz.prog) (ds++gs)).all (·≤reachBytes)=true)
  (hL:laidMetH Tryz.prog zfV W) (hS:W.ShapedOpen Tryz.prog) :
  Calls Tryz.prog 4 args W fun e W'=>∃ v,e=.returned v∧Rows.sdlReadsSpec.post enc Tryz.prog Tryz.f4 false true false false W args v W':=by
 have hW':=hW
 obtain⟨p,q,hA0,hV,rfl,hfz,hnd⟩:=hW
 have hA:DataW.TrodAll enc Tryz.prog W 0 (fun _=>true) true Tryz.f4.params.toList args.toList ds p:=hA0
 obtain⟨rfl,rfl⟩:=trodVars_none hV
 rw[Tryz.params4] at hA hval hz
 obtain⟨v0,vs0,d0,ds0,p0,q0,hargs,rfl,rfl,h0,hA⟩:=trodAll_cons hA
 obtain⟨rfl,rfl,rfl⟩:=trodAll_nil hA
 obtain rfl:args=#[v0]:=by cases args;simp_all
 obtain⟨a0,ok0,b0,g0⟩:=DecB.arg (P:=Tryz.prog) (f:=fun s=>.str s) (fun m=>DecB.str Tryz.underlying9) h0 (sized hz (j:=0) rfl rfl) (plain_str Tryz.underlying9 (hval 0 9 v0 rfl rfl))
 simp only[List.append_nil,blkAll] at hc
 refine law_contract (P:=Tryz.prog) (fn:=Tryz.f4) (tb:=4) laidOut rfl ?_ (by kernel_rfl) Tryz.underlying4 hW' rfl (zjW hL hS) (RepAll.cons g0 RepAll.nil) (zh4 a0 (by simp only[Zi];omega))
 rw[Tryz.params4]
 intro t ht
 simp only[List.mem_cons,List.not_mem_nil,or_false] at ht
 rcases ht with rfl<;>exact⟨by kernel_rfl,by decide +kernel⟩
theorem zc3 (os:Os) {H:Type} (enc:TypeId×Value→H):∃ places,DataW.whole enc Tryz.prog ((laidWorld os).forCall (fun _ _=>0) ⟨#[],#[.string ⟨#[]⟩],[]⟩).memory Tryz.f4.params.toList Rows.sdlReadsSpec.vars false #[.string ⟨#[]⟩].toList 8=some ([.lit (.string [])],[],places) :=
 ⟨[],by kernel_rfl⟩
theorem zcO (os:Os) (started:os.Started) (H:Type) (enc:TypeId×Value→H) (F:Stop.Interp) :
  ReturnsInHanded {} Tryz.checked os 4 .any ((Rows.OpenSpec.upto Rows.sdlReadsSpec).preRow enc Tryz.prog Tryz.f4 Rows.sdlReadsUptoRow.domain false Rows.sdlReadsUptoRow.laid) (((Rows.OpenSpec.upto Rows.sdlReadsSpec).at F).post enc Tryz.prog Tryz.f4 false true false false):=by
 obtain⟨places,hx⟩:=zc3 os enc
 refine returnsInHanded_of_row (C:=Tryz.checked) (s:=Rows.OpenSpec.upto Rows.sdlReadsSpec) own started (by kernel_rfl) Tryz.func4
  (witness_row_atRef (enc:=enc) (C:=Tryz.checked) false (laidWorld os) #[.string ⟨#[]⟩] rfl (by kernel_rfl) (by kernel_rfl) (by kernel_rfl)
   (OpenSpec.preRow_of_cond 8 hx (by kernel_rfl) (fun k hk=>by cases hk;kernel_rfl) (by kernel_rfl) (laid_met os _))) ?_
 intro W base args ds gs before hval hW _ hcond hz hL hS _
 exact zb7 H enc W base args ds gs before hval hW (zhB hcond) hz hL hS
theorem zdo:zgj Tryz.pinned.checked.prog 4 Tryz.f4 (Rows.OpenSpec.upto Rows.sdlReadsSpec).bare Rows.sdlReadsUptoRow=true:=by kernel_rfl
theorem zda:zgx Tryz.pinned.checked.prog 4 Tryz.f4 (Rows.OpenSpec.upto Rows.sdlReadsSpec).bare Rows.sdlReadsUptoRow=true:=by kernel_rfl
theorem zdN:zgf Tryz.pinned.checked.prog 4 Tryz.f4 (Rows.OpenSpec.upto Rows.sdlReadsSpec).bare Rows.sdlReadsUptoRow=true:=by kernel_rfl
theorem zdl:zgA Tryz.pinned.checked.prog 4 Tryz.f4 (Rows.OpenSpec.upto Rows.sdlReadsSpec).bare Rows.sdlReadsUptoRow=true:=by kernel_rfl
theorem zc7:zgv Tryz.pinned.checked.prog 4 Tryz.f4 (Rows.OpenSpec.upto Rows.sdlReadsSpec).bare Rows.sdlReadsUptoRow=true:=by kernel_rfl
theorem zdw:zgC Tryz.pinned.checked.prog 4 Tryz.f4 (Rows.OpenSpec.upto Rows.sdlReadsSpec).bare Rows.sdlReadsUptoRow=true:=by kernel_rfl
theorem zdL:zgi Tryz.pinned.checked.prog 4 Tryz.f4 (Rows.OpenSpec.upto Rows.sdlReadsSpec).bare Rows.sdlReadsUptoRow=true:=by kernel_rfl
theorem zdY:Rows.SdlReadsUptoSaid :=
 OpenClaim.holds_of_cond 4 Tryz.f4 rfl rfl rfl rfl rfl rfl rfl ⟨rfl,rfl,rfl,rfl,rfl⟩ rfl rfl rfl rfl rfl (by kernel_rfl) Tryz.func4 (zhu zdo zda zdN zdl zc7 zdw zdL)
  (of_decide_eq_true (by kernel_rfl)) (by unfold Func.isWrapper;first|(rw[if_pos (by decide +kernel)];kernel_rfl)|(rw[if_neg (by decide +kernel)];exact⟨rfl,rfl⟩))
  (fun os started H enc _ F=>by rw[OpenClaim.pre_eq_preRow];exact zcO os started H enc F)
theorem zc8 (f : FuncId) (fn : Func) (hf : Tryz.pinned.checked.prog.funcNamed "seine/seinelaw8.SdlReads" = some f) (hfn : Tryz.pinned.checked.prog.funcs[f]? = some fn) :
  true=Tryz.pinned.checked.prog.looks []∧∀(j:Nat) t,fn.params[j]?=some t→Tryz.pinned.checked.prog.wantsStandIn t=false:=by
 obtain rfl : f = 4 := Option.some.inj ((show Tryz.prog.funcNamed "seine/seinelaw8.SdlReads" = some 4 by kernel_rfl).symm.trans hf) |>.symm
 obtain rfl:fn=Tryz.f4:=(Option.some.inj (Tryz.func4.symm.trans hfn)).symm
 refine⟨by kernel_rfl,fun j t ht=>?_⟩
 rw[Tryz.params4] at ht
 have hm:=Array.mem_of_getElem? ht
 simp only[List.mem_toArray,List.mem_cons,List.not_mem_nil,or_false] at hm
 rcases hm with rfl<;>exact(show Tryz.prog.wantsStandIn _=false by kernel_rfl)
theorem zd2:Tryz.pinned.checked.prog.mainIs=some (Rows.sdlReadsUptoCard.stood.harness.1,Rows.sdlReadsUptoCard.stood.harness.2.toList):=by kernel_rfl
theorem zd4:false=Rows.sdlReadsUptoRow.goesBy Tryz.pinned.checked.prog:=by kernel_rfl
theorem SdlReads_card:Rows.SdlReadsUptoCardSaid :=
 Claim7.holds_tied_plain_at .later [] _ _ _ _ zdY (fun _ h=>by cases h) (by kernel_rfl) (fun _ h=>by cases h) sdlReadsUpto_row_tie rfl ⟨rfl,rfl⟩ zd2 rfl zc8 zd4
end Go.Proofs.YtaielcdfcgpbiaaGreatDoor
