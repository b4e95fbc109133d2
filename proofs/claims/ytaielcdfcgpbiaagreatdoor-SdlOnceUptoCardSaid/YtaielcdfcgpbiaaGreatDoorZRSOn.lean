import Derived.Test.YtaielcdfcgpbiaaGreatDoorM1
import Derived.Test.YtaielcdfcgpbiaaGreatDoorM2
import Derived.Test.YtaielcdfcgpbiaaGreatDoorM3
import Derived.Test.YtaielcdfcgpbiaaGreatDoorM4
import Derived.Test.YtaielcdfcgpbiaaGreatDoorM5
import Derived.Test.YtaielcdfcgpbiaaGreatDoorM6
import Derived.Test.YtaielcdfcgpbiaaGreatDoorM7
import Derived.Test.YtaielcdfcgpbiaaGreatDoorM8
import Derived.Test.YtaielcdfcgpbiaaGreatDoorM9
set_option maxRecDepth 100000
set_option linter.all false
namespace Go.Proofs.YtaielcdfcgpbiaaGreatDoor
open Go.Ab Go.Lib
open Go.ChangeShapes Go.WideShapes Go.ChangeAt Go.RowKit Go.WideElems
theorem zcn (H:Type) (enc:TypeId×Value→H) (W:World) (base:Nat) (args:Array Value) (ds gs:List (DataW H)) (before:List MemPlace)
  (hval:∀(j:Nat) t v,Tryz.f9.params[j]?=some t→args[j]?=some v→Value.okWide Tryz.prog W .any base t v)
  (hW:DataW.Whole enc Tryz.prog Tryz.f9.params.toList Rows.sdlOnceSpec.vars false W args.toList ds gs before) (hc:blkAll (ds++gs)≤1048576)
  (hz:(DataW.weightsEach Tryz.prog (Tryz.f9.params.toList++(Rows.OpenSpec.upto Rows.sdlOnceSpec).bare.plain.varTypes Tryz.prog) (ds++gs)).all (·≤reachBytes)=true)
  (hL:laidMetH Tryz.prog zg1 W) (hS:W.ShapedOpen Tryz.prog) :
  Calls Tryz.prog 9 args W fun e W'=>∃ v,e=.returned v∧Rows.sdlOnceSpec.post enc Tryz.prog Tryz.f9 false true false false W args v W':=by
 have hW':=hW
 obtain⟨p,q,hA0,hV,rfl,hfz,hnd⟩:=hW
 have hA:DataW.TrodAll enc Tryz.prog W 0 (fun _=>true) true Tryz.f9.params.toList args.toList ds p:=hA0
 obtain⟨rfl,rfl⟩:=trodVars_none hV
 rw[Tryz.params9] at hA hval hz
 obtain⟨v0,vs0,d0,ds0,p0,q0,hargs,rfl,rfl,h0,hA⟩:=trodAll_cons hA
 obtain⟨rfl,rfl,rfl⟩:=trodAll_nil hA
 obtain rfl:args=#[v0]:=by cases args;simp_all
 obtain⟨a0,ok0,b0,g0⟩:=DecB.arg (P:=Tryz.prog) (f:=fun s=>.str s) (fun m=>DecB.str Tryz.underlying9) h0 (sized hz (j:=0) rfl rfl) (plain_str Tryz.underlying9 (hval 0 9 v0 rfl rfl))
 simp only[List.append_nil,blkAll] at hc
 refine law_contract (P:=Tryz.prog) (fn:=Tryz.f9) (tb:=4) laidOut rfl ?_ (by kernel_rfl) Tryz.underlying4 hW' rfl (zlA hL hS) (RepAll.cons g0 RepAll.nil) (zkb a0 (by simp only[YU];omega))
 rw[Tryz.params9]
 intro t ht
 simp only[List.mem_cons,List.not_mem_nil,or_false] at ht
 rcases ht with rfl<;>exact⟨by kernel_rfl,by decide +kernel⟩
theorem zeo (os:Os) {H:Type} (enc:TypeId×Value→H):∃ places,DataW.whole enc Tryz.prog ((laidWorld os).forCall (fun _ _=>0) ⟨#[],#[.string ⟨#[]⟩],[]⟩).memory Tryz.f9.params.toList Rows.sdlOnceSpec.vars false #[.string ⟨#[]⟩].toList 8=some ([.lit (.string [])],[],places) :=
 ⟨[],by kernel_rfl⟩
theorem zdd (os:Os) (started:os.Started) (H:Type) (enc:TypeId×Value→H) (F:Stop.Interp) :
  ReturnsInHanded {} Tryz.checked os 9 .any ((Rows.OpenSpec.upto Rows.sdlOnceSpec).preRow enc Tryz.prog Tryz.f9 Rows.sdlOnceUptoRow.domain false Rows.sdlOnceUptoRow.laid) (((Rows.OpenSpec.upto Rows.sdlOnceSpec).at F).post enc Tryz.prog Tryz.f9 false true false false):=by
 obtain⟨places,hx⟩:=zeo os enc
 refine returnsInHanded_of_row (C:=Tryz.checked) (s:=Rows.OpenSpec.upto Rows.sdlOnceSpec) own started (by kernel_rfl) Tryz.func9
  (witness_row_atRef (enc:=enc) (C:=Tryz.checked) false (laidWorld os) #[.string ⟨#[]⟩] rfl (by kernel_rfl) (by kernel_rfl) (by kernel_rfl)
   (OpenSpec.preRow_of_cond 8 hx (by kernel_rfl) (fun k hk=>by cases hk;kernel_rfl) (by kernel_rfl) (laid_met os _))) ?_
 intro W base args ds gs before hval hW _ hcond hz hL hS _
 exact zcn H enc W base args ds gs before hval hW (zjv hcond) hz hL hS
theorem zeg:zhz Tryz.pinned.checked.prog 9 Tryz.f9 (Rows.OpenSpec.upto Rows.sdlOnceSpec).bare Rows.sdlOnceUptoRow=true:=by kernel_rfl
theorem zes:zh1 Tryz.pinned.checked.prog 9 Tryz.f9 (Rows.OpenSpec.upto Rows.sdlOnceSpec).bare Rows.sdlOnceUptoRow=true:=by kernel_rfl
theorem zel:zhu Tryz.pinned.checked.prog 9 Tryz.f9 (Rows.OpenSpec.upto Rows.sdlOnceSpec).bare Rows.sdlOnceUptoRow=true:=by kernel_rfl
theorem zej:zhJ Tryz.pinned.checked.prog 9 Tryz.f9 (Rows.OpenSpec.upto Rows.sdlOnceSpec).bare Rows.sdlOnceUptoRow=true:=by kernel_rfl
theorem zem:zhI Tryz.pinned.checked.prog 9 Tryz.f9 (Rows.OpenSpec.upto Rows.sdlOnceSpec).bare Rows.sdlOnceUptoRow=true:=by kernel_rfl
theorem zef:zhh Tryz.pinned.checked.prog 9 Tryz.f9 (Rows.OpenSpec.upto Rows.sdlOnceSpec).bare Rows.sdlOnceUptoRow=true:=by kernel_rfl
theorem zei:zhD Tryz.pinned.checked.prog 9 Tryz.f9 (Rows.OpenSpec.upto Rows.sdlOnceSpec).bare Rows.sdlOnceUptoRow=true:=by kernel_rfl
theorem zfw:Rows.SdlOnceUptoSaid :=
 OpenClaim.holds_of_cond 9 Tryz.f9 rfl rfl rfl rfl rfl rfl rfl ⟨rfl,rfl,rfl,rfl,rfl⟩ rfl rfl rfl rfl rfl (by kernel_rfl) Tryz.func9 (zjh zeg zes zel zej zem zef zei)
  (of_decide_eq_true (by kernel_rfl)) (by unfold Func.isWrapper;first|(rw[if_pos (by decide +kernel)];kernel_rfl)|(rw[if_neg (by decide +kernel)];exact⟨rfl,rfl⟩))
  (fun os started H enc _ F=>by rw[OpenClaim.pre_eq_preRow];exact zdd os started H enc F)
theorem zek (f : FuncId) (fn : Func) (hf : Tryz.pinned.checked.prog.funcNamed "seine/seinelaw8.SdlOnce" = some f) (hfn : Tryz.pinned.checked.prog.funcs[f]? = some fn) :
  true=Tryz.pinned.checked.prog.looks []∧∀(j:Nat) t,fn.params[j]?=some t→Tryz.pinned.checked.prog.wantsStandIn t=false:=by
 obtain rfl : f = 9 := Option.some.inj ((show Tryz.prog.funcNamed "seine/seinelaw8.SdlOnce" = some 9 by kernel_rfl).symm.trans hf) |>.symm
 obtain rfl:fn=Tryz.f9:=(Option.some.inj (Tryz.func9.symm.trans hfn)).symm
 refine⟨by kernel_rfl,fun j t ht=>?_⟩
 rw[Tryz.params9] at ht
 have hm:=Array.mem_of_getElem? ht
 simp only[List.mem_toArray,List.mem_cons,List.not_mem_nil,or_false] at hm
 rcases hm with rfl<;>exact(show Tryz.prog.wantsStandIn _=false by kernel_rfl)
theorem zfM:Tryz.pinned.checked.prog.mainIs=some (Rows.sdlOnceUptoCard.stood.harness.1,Rows.sdlOnceUptoCard.stood.harness.2.toList):=by kernel_rfl
theorem zfA:false=Rows.sdlOnceUptoRow.goesBy Tryz.pinned.checked.prog:=by kernel_rfl
theorem SdlOnce_card:Rows.SdlOnceUptoCardSaid :=
 Claim7.holds_tied_plain_at .later [] _ _ _ _ zfw (fun _ h=>by cases h) (by kernel_rfl) (fun _ h=>by cases h) sdlOnceUpto_row_tie rfl ⟨rfl,rfl⟩ zfM rfl zek zfA
end Go.Proofs.YtaielcdfcgpbiaaGreatDoor
