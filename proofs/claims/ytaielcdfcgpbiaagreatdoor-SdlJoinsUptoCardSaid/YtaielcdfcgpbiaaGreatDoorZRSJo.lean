import Derived.Test.YtaielcdfcgpbiaaGreatDoorM1
import Derived.Test.YtaielcdfcgpbiaaGreatDoorM2
import Derived.Test.YtaielcdfcgpbiaaGreatDoorM3
import Derived.Test.YtaielcdfcgpbiaaGreatDoorM4
import Derived.Test.YtaielcdfcgpbiaaGreatDoorM5
import Derived.Test.YtaielcdfcgpbiaaGreatDoorM6
set_option maxRecDepth 100000
set_option linter.all false
namespace Go.Proofs.YtaielcdfcgpbiaaGreatDoor
open Go.Ab Go.Lib
open Go.ChangeShapes Go.WideShapes Go.ChangeAt Go.RowKit Go.WideElems
theorem YS (H:Type) (enc:TypeId×Value→H) (W:World) (base:Nat) (args:Array Value) (ds gs:List (DataW H)) (before:List MemPlace)
  (hval:∀(j:Nat) t v,Tryz.f5.params[j]?=some t→args[j]?=some v→Value.okWide Tryz.prog W .any base t v)
  (hW:DataW.Whole enc Tryz.prog Tryz.f5.params.toList Rows.sdlJoinsSpec.vars false W args.toList ds gs before) (hc:blkAll (ds++gs)≤1048576)
  (hz:(DataW.weightsEach Tryz.prog (Tryz.f5.params.toList++(Rows.OpenSpec.upto Rows.sdlJoinsSpec).bare.plain.varTypes Tryz.prog) (ds++gs)).all (·≤reachBytes)=true)
  (hL:laidMetH Tryz.prog zcR W) (hS:W.ShapedOpen Tryz.prog) :
  Calls Tryz.prog 5 args W fun e W'=>∃ v,e=.returned v∧Rows.sdlJoinsSpec.post enc Tryz.prog Tryz.f5 false true false false W args v W':=by
 have hW':=hW
 obtain⟨p,q,hA0,hV,rfl,hfz,hnd⟩:=hW
 have hA:DataW.TrodAll enc Tryz.prog W 0 (fun _=>true) true Tryz.f5.params.toList args.toList ds p:=hA0
 obtain⟨rfl,rfl⟩:=trodVars_none hV
 rw[Tryz.params5] at hA hval hz
 obtain⟨v0,vs0,d0,ds0,p0,q0,hargs,rfl,rfl,h0,hA⟩:=trodAll_cons hA
 obtain⟨v1,vs1,d1,ds1,p1,q1,rfl,rfl,rfl,h1,hA⟩:=trodAll_cons hA
 obtain⟨rfl,rfl,rfl⟩:=trodAll_nil hA
 obtain rfl:args=#[v0,v1]:=by cases args;simp_all
 obtain⟨a0,ok0,b0,g0⟩:=DecB.arg (P:=Tryz.prog) (f:=fun s=>.str s) (fun m=>DecB.str Tryz.underlying9) h0 (sized hz (j:=0) rfl rfl) (plain_str Tryz.underlying9 (hval 0 9 v0 rfl rfl))
 obtain⟨a1,ok1,b1,g1⟩:=DecB.arg (P:=Tryz.prog) (f:=fun s=>.str s) (fun m=>DecB.str Tryz.underlying9) h1 (sized hz (j:=1) rfl rfl) (plain_str Tryz.underlying9 (hval 1 9 v1 rfl rfl))
 simp only[List.append_nil,blkAll] at hc
 refine law_contract (P:=Tryz.prog) (fn:=Tryz.f5) (tb:=4) laidOut rfl ?_ (by kernel_rfl) Tryz.underlying4 hW' rfl (zgH hL hS) (RepAll.cons g0 (RepAll.cons g1 RepAll.nil)) (ze7 a0 a1 (by simp only[yX];omega) (by simp only[yX];omega))
 rw[Tryz.params5]
 intro t ht
 simp only[List.mem_cons,List.not_mem_nil,or_false] at ht
 rcases ht with rfl|rfl<;>exact⟨by kernel_rfl,by decide +kernel⟩
theorem zaA (os:Os) {H:Type} (enc:TypeId×Value→H):∃ places,DataW.whole enc Tryz.prog ((laidWorld os).forCall (fun _ _=>0) ⟨#[],#[.string ⟨#[]⟩,.string ⟨#[]⟩],[]⟩).memory Tryz.f5.params.toList Rows.sdlJoinsSpec.vars false #[.string ⟨#[]⟩,.string ⟨#[]⟩].toList 8=some ([.lit (.string []),.lit (.string [])],[],places) :=
 ⟨[],by kernel_rfl⟩
theorem zap (os:Os) (started:os.Started) (H:Type) (enc:TypeId×Value→H) (F:Stop.Interp) :
  ReturnsInHanded {} Tryz.checked os 5 .any ((Rows.OpenSpec.upto Rows.sdlJoinsSpec).preRow enc Tryz.prog Tryz.f5 Rows.sdlJoinsUptoRow.domain false Rows.sdlJoinsUptoRow.laid) (((Rows.OpenSpec.upto Rows.sdlJoinsSpec).at F).post enc Tryz.prog Tryz.f5 false true false false):=by
 obtain⟨places,hx⟩:=zaA os enc
 refine returnsInHanded_of_row (C:=Tryz.checked) (s:=Rows.OpenSpec.upto Rows.sdlJoinsSpec) own started (by kernel_rfl) Tryz.func5
  (witness_row_atRef (enc:=enc) (C:=Tryz.checked) false (laidWorld os) #[.string ⟨#[]⟩,.string ⟨#[]⟩] rfl (by kernel_rfl) (by kernel_rfl) (by kernel_rfl)
   (OpenSpec.preRow_of_cond 8 hx (by kernel_rfl) (fun k hk=>by cases hk;kernel_rfl) (by kernel_rfl) (laid_met os _))) ?_
 intro W base args ds gs before hval hW _ hcond hz hL hS _
 exact YS H enc W base args ds gs before hval hW (zeG hcond) hz hL hS
theorem zaV:zdp Tryz.pinned.checked.prog 5 Tryz.f5 (Rows.OpenSpec.upto Rows.sdlJoinsSpec).bare Rows.sdlJoinsUptoRow=true:=by kernel_rfl
theorem za3:zdL Tryz.pinned.checked.prog 5 Tryz.f5 (Rows.OpenSpec.upto Rows.sdlJoinsSpec).bare Rows.sdlJoinsUptoRow=true:=by kernel_rfl
theorem zaL:zdj Tryz.pinned.checked.prog 5 Tryz.f5 (Rows.OpenSpec.upto Rows.sdlJoinsSpec).bare Rows.sdlJoinsUptoRow=true:=by kernel_rfl
theorem zaZ:zdB Tryz.pinned.checked.prog 5 Tryz.f5 (Rows.OpenSpec.upto Rows.sdlJoinsSpec).bare Rows.sdlJoinsUptoRow=true:=by kernel_rfl
theorem zaz:zdr Tryz.pinned.checked.prog 5 Tryz.f5 (Rows.OpenSpec.upto Rows.sdlJoinsSpec).bare Rows.sdlJoinsUptoRow=true:=by kernel_rfl
theorem zbi:zdA Tryz.pinned.checked.prog 5 Tryz.f5 (Rows.OpenSpec.upto Rows.sdlJoinsSpec).bare Rows.sdlJoinsUptoRow=true:=by kernel_rfl
theorem za7:zdJ Tryz.pinned.checked.prog 5 Tryz.f5 (Rows.OpenSpec.upto Rows.sdlJoinsSpec).bare Rows.sdlJoinsUptoRow=true:=by kernel_rfl
theorem zbm:Rows.SdlJoinsUptoSaid :=
 OpenClaim.holds_of_cond 5 Tryz.f5 rfl rfl rfl rfl rfl rfl rfl ⟨rfl,rfl,rfl,rfl,rfl⟩ rfl rfl rfl rfl rfl (by kernel_rfl) Tryz.func5 (zeJ zaV za3 zaL zaZ zaz zbi za7)
  (of_decide_eq_true (by kernel_rfl)) (by unfold Func.isWrapper;first|(rw[if_pos (by decide +kernel)];kernel_rfl)|(rw[if_neg (by decide +kernel)];exact⟨rfl,rfl⟩))
  (fun os started H enc _ F=>by rw[OpenClaim.pre_eq_preRow];exact zap os started H enc F)
theorem zaW (f : FuncId) (fn : Func) (hf : Tryz.pinned.checked.prog.funcNamed "seine/seinelaw8.SdlJoins" = some f) (hfn : Tryz.pinned.checked.prog.funcs[f]? = some fn) :
  true=Tryz.pinned.checked.prog.looks []∧∀(j:Nat) t,fn.params[j]?=some t→Tryz.pinned.checked.prog.wantsStandIn t=false:=by
 obtain rfl : f = 5 := Option.some.inj ((show Tryz.prog.funcNamed "seine/seinelaw8.SdlJoins" = some 5 by kernel_rfl).symm.trans hf) |>.symm
 obtain rfl:fn=Tryz.f5:=(Option.some.inj (Tryz.func5.symm.trans hfn)).symm
 refine⟨by kernel_rfl,fun j t ht=>?_⟩
 rw[Tryz.params5] at ht
 have hm:=Array.mem_of_getElem? ht
 simp only[List.mem_toArray,List.mem_cons,List.not_mem_nil,or_false] at hm
 rcases hm with rfl|rfl<;>exact(show Tryz.prog.wantsStandIn _=false by kernel_rfl)
theorem zbr:Tryz.pinned.checked.prog.mainIs=some (Rows.sdlJoinsUptoCard.stood.harness.1,Rows.sdlJoinsUptoCard.stood.harness.2.toList):=by kernel_rfl
theorem zbn:false=Rows.sdlJoinsUptoRow.goesBy Tryz.pinned.checked.prog:=by kernel_rfl
theorem SdlJoins_card:Rows.SdlJoinsUptoCardSaid :=
 Claim7.holds_tied_plain_at .later [] _ _ _ _ zbm (fun _ h=>by cases h) (by kernel_rfl) (fun _ h=>by cases h) sdlJoinsUpto_row_tie rfl ⟨rfl,rfl⟩ zbr rfl zaW zbn
end Go.Proofs.YtaielcdfcgpbiaaGreatDoor
