import Derived.Test.YtaielcdfcgpbiaaGreatDoorM1
import Derived.Test.YtaielcdfcgpbiaaGreatDoorM2
import Derived.Test.YtaielcdfcgpbiaaGreatDoorM3
import Derived.Test.YtaielcdfcgpbiaaGreatDoorM4
import Derived.Test.YtaielcdfcgpbiaaGreatDoorM5
import Derived.Test.YtaielcdfcgpbiaaGreatDoorM6
import Derived.Test.YtaielcdfcgpbiaaGreatDoorM7
import Derived.Test.YtaielcdfcgpbiaaGreatDoorM8
set_option maxRecDepth 100000
set_option linter.all false
namespace Go.Proofs.YtaielcdfcgpbiaaGreatDoor
open Go.Ab Go.Lib
open Go.ChangeShapes Go.WideShapes Go.ChangeAt Go.RowKit Go.WideElems
theorem YF (H:Type) (enc:TypeId×Value→H) (W:World) (base:Nat) (args:Array Value) (ds gs:List (DataW H)) (before:List MemPlace)
  (hval:∀(j:Nat) t v,Tryz.f3.params[j]?=some t→args[j]?=some v→Value.okWide Tryz.prog W .any base t v)
  (hW:DataW.Whole enc Tryz.prog Tryz.f3.params.toList Rows.parseValuesSpec.vars false W args.toList ds gs before) (hc:blkAll (ds++gs)≤1048576)
  (hz:(DataW.weightsEach Tryz.prog (Tryz.f3.params.toList++(Rows.OpenSpec.upto Rows.parseValuesSpec).bare.plain.varTypes Tryz.prog) (ds++gs)).all (·≤reachBytes)=true)
  (hL:laidMetH Tryz.prog zeb W) (hS:W.ShapedOpen Tryz.prog) :
  Calls Tryz.prog 3 args W fun e W'=>∃ v,e=.returned v∧Rows.parseValuesSpec.post enc Tryz.prog Tryz.f3 false true false false W args v W':=by
 have hW':=hW
 obtain⟨p,q,hA0,hV,rfl,hfz,hnd⟩:=hW
 have hA:DataW.TrodAll enc Tryz.prog W 0 (fun _=>true) true Tryz.f3.params.toList args.toList ds p:=hA0
 obtain⟨rfl,rfl⟩:=trodVars_none hV
 rw[Tryz.params3] at hA hval hz
 obtain⟨v0,vs0,d0,ds0,p0,q0,hargs,rfl,rfl,h0,hA⟩:=trodAll_cons hA
 obtain⟨v1,vs1,d1,ds1,p1,q1,rfl,rfl,rfl,h1,hA⟩:=trodAll_cons hA
 obtain⟨rfl,rfl,rfl⟩:=trodAll_nil hA
 obtain rfl:args=#[v0,v1]:=by cases args;simp_all
 obtain⟨a0,ok0,b0,g0⟩:=DecB.arg (P:=Tryz.prog) (f:=fun s=>.str s) (fun m=>DecB.str Tryz.underlying9) h0 (sized hz (j:=0) rfl rfl) (plain_str Tryz.underlying9 (hval 0 9 v0 rfl rfl))
 obtain⟨a1,ok1,b1,g1⟩:=DecB.arg (P:=Tryz.prog) (f:=fun b=>.bool b) (fun m=>DecB.bool Tryz.underlying4) h1 (sized hz (j:=1) rfl rfl) (plain_bool Tryz.underlying4 (hval 1 4 v1 rfl rfl))
 simp only[List.append_nil,blkAll] at hc
 refine law_contract (P:=Tryz.prog) (fn:=Tryz.f3) (tb:=4) laidOut rfl ?_ (by kernel_rfl) Tryz.underlying4 hW' rfl (zhV hL hS) (RepAll.cons g0 (RepAll.cons g1 RepAll.nil)) (zc3 a0 a1 (by simp only[yp];omega))
 rw[Tryz.params3]
 intro t ht
 simp only[List.mem_cons,List.not_mem_nil,or_false] at ht
 rcases ht with rfl|rfl<;>exact⟨by kernel_rfl,by decide +kernel⟩
theorem za0 (os:Os) {H:Type} (enc:TypeId×Value→H):∃ places,DataW.whole enc Tryz.prog ((laidWorld os).forCall (fun _ _=>0) ⟨#[],#[.string ⟨#[]⟩,.bool false],[]⟩).memory Tryz.f3.params.toList Rows.parseValuesSpec.vars false #[.string ⟨#[]⟩,.bool false].toList 8=some ([.lit (.string []),.lit (.bool false)],[],places) :=
 ⟨[],by kernel_rfl⟩
theorem zaa (os:Os) (started:os.Started) (H:Type) (enc:TypeId×Value→H) (F:Stop.Interp) :
  ReturnsInHanded {} Tryz.checked os 3 .any ((Rows.OpenSpec.upto Rows.parseValuesSpec).preRow enc Tryz.prog Tryz.f3 Rows.parseValuesUptoRow.domain false Rows.parseValuesUptoRow.laid) (((Rows.OpenSpec.upto Rows.parseValuesSpec).at F).post enc Tryz.prog Tryz.f3 false true false false):=by
 obtain⟨places,hx⟩:=za0 os enc
 refine returnsInHanded_of_row (C:=Tryz.checked) (s:=Rows.OpenSpec.upto Rows.parseValuesSpec) own started (by kernel_rfl) Tryz.func3
  (witness_row_atRef (enc:=enc) (C:=Tryz.checked) false (laidWorld os) #[.string ⟨#[]⟩,.bool false] rfl (by kernel_rfl) (by kernel_rfl) (by kernel_rfl)
   (OpenSpec.preRow_of_cond 8 hx (by kernel_rfl) (fun k hk=>by cases hk;kernel_rfl) (by kernel_rfl) (laid_met os _))) ?_
 intro W base args ds gs before hval hW _ hcond hz hL hS _
 exact YF H enc W base args ds gs before hval hW (zfs hcond) hz hL hS
theorem zaG:zez Tryz.pinned.checked.prog 3 Tryz.f3 (Rows.OpenSpec.upto Rows.parseValuesSpec).bare Rows.parseValuesUptoRow=true:=by kernel_rfl
theorem zaJ:zeJ Tryz.pinned.checked.prog 3 Tryz.f3 (Rows.OpenSpec.upto Rows.parseValuesSpec).bare Rows.parseValuesUptoRow=true:=by kernel_rfl
theorem zaR:zeQ Tryz.pinned.checked.prog 3 Tryz.f3 (Rows.OpenSpec.upto Rows.parseValuesSpec).bare Rows.parseValuesUptoRow=true:=by kernel_rfl
theorem zav:zeG Tryz.pinned.checked.prog 3 Tryz.f3 (Rows.OpenSpec.upto Rows.parseValuesSpec).bare Rows.parseValuesUptoRow=true:=by kernel_rfl
theorem zaK:zeo Tryz.pinned.checked.prog 3 Tryz.f3 (Rows.OpenSpec.upto Rows.parseValuesSpec).bare Rows.parseValuesUptoRow=true:=by kernel_rfl
theorem zaX:zer Tryz.pinned.checked.prog 3 Tryz.f3 (Rows.OpenSpec.upto Rows.parseValuesSpec).bare Rows.parseValuesUptoRow=true:=by kernel_rfl
theorem zaQ:zeu Tryz.pinned.checked.prog 3 Tryz.f3 (Rows.OpenSpec.upto Rows.parseValuesSpec).bare Rows.parseValuesUptoRow=true:=by kernel_rfl
theorem zbg:Rows.ParseValuesUptoSaid :=
 OpenClaim.holds_of_cond 3 Tryz.f3 rfl rfl rfl rfl rfl rfl rfl ⟨rfl,rfl,rfl,rfl,rfl⟩ rfl rfl rfl rfl rfl (by kernel_rfl) Tryz.func3 (zfz zaG zaJ zaR zav zaK zaX zaQ)
  (of_decide_eq_true (by kernel_rfl)) (by unfold Func.isWrapper;first|(rw[if_pos (by decide +kernel)];kernel_rfl)|(rw[if_neg (by decide +kernel)];exact⟨rfl,rfl⟩))
  (fun os started H enc _ F=>by rw[OpenClaim.pre_eq_preRow];exact zaa os started H enc F)
theorem zay (f : FuncId) (fn : Func) (hf : Tryz.pinned.checked.prog.funcNamed "seine/seinelaw6.ParseValues" = some f) (hfn : Tryz.pinned.checked.prog.funcs[f]? = some fn) :
  true=Tryz.pinned.checked.prog.looks []∧∀(j:Nat) t,fn.params[j]?=some t→Tryz.pinned.checked.prog.wantsStandIn t=false:=by
 obtain rfl : f = 3 := Option.some.inj ((show Tryz.prog.funcNamed "seine/seinelaw6.ParseValues" = some 3 by kernel_rfl).symm.trans hf) |>.symm
 obtain rfl:fn=Tryz.f3:=(Option.some.inj (Tryz.func3.symm.trans hfn)).symm
 refine⟨by kernel_rfl,fun j t ht=>?_⟩
 rw[Tryz.params3] at ht
 have hm:=Array.mem_of_getElem? ht
 simp only[List.mem_toArray,List.mem_cons,List.not_mem_nil,or_false] at hm
 rcases hm with rfl|rfl<;>exact(show Tryz.prog.wantsStandIn _=false by kernel_rfl)
theorem za2:Tryz.pinned.checked.prog.mainIs=some (Rows.parseValuesUptoCard.stood.harness.1,Rows.parseValuesUptoCard.stood.harness.2.toList):=by kernel_rfl
theorem zbl:false=Rows.parseValuesUptoRow.goesBy Tryz.pinned.checked.prog:=by kernel_rfl
theorem ParseValues_card:Rows.ParseValuesUptoCardSaid :=
 Claim7.holds_tied_plain_at .later [] _ _ _ _ zbg (fun _ h=>by cases h) (by kernel_rfl) (fun _ h=>by cases h) parseValuesUpto_row_tie rfl ⟨rfl,rfl⟩ za2 rfl zay zbl
end Go.Proofs.YtaielcdfcgpbiaaGreatDoor
