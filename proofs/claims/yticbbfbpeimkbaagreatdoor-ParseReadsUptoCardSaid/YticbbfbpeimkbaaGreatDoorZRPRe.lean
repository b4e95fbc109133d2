import Derived.Test.YticbbfbpeimkbaaGreatDoorM1
import Derived.Test.YticbbfbpeimkbaaGreatDoorM2
import Derived.Test.YticbbfbpeimkbaaGreatDoorM3
import Derived.Test.YticbbfbpeimkbaaGreatDoorM4
import Derived.Test.YticbbfbpeimkbaaGreatDoorM5
import Derived.Test.YticbbfbpeimkbaaGreatDoorM6
import Derived.Test.YticbbfbpeimkbaaGreatDoorM7
import Derived.Test.YticbbfbpeimkbaaGreatDoorM8
import Derived.Test.YticbbfbpeimkbaaGreatDoorM9
set_option maxRecDepth 100000
set_option linter.all false
namespace Go.Proofs.YticbbfbpeimkbaaGreatDoor
open Go.Ab Go.Lib
open Go.ChangeShapes Go.WideShapes Go.ChangeAt Go.RowKit Go.WideElems
theorem zdc (H:Type) (enc:TypeId×Value→H) (W:World) (base:Nat) (args:Array Value) (ds gs:List (DataW H)) (before:List MemPlace)
  (hval:∀(j:Nat) t v,Tryz.f7.params[j]?=some t→args[j]?=some v→Value.okWide Tryz.prog W .any base t v)
  (hW:DataW.Whole enc Tryz.prog Tryz.f7.params.toList Rows.parseReadsSpec.vars false W args.toList ds gs before) (hc:Z0 (ds++gs)≤1048576)
  (hz:(DataW.weightsEach Tryz.prog (Tryz.f7.params.toList++(Rows.OpenSpec.upto Rows.parseReadsSpec).bare.plain.varTypes Tryz.prog) (ds++gs)).all (·≤reachBytes)=true)
  (hL:laidMetH Tryz.prog zko W) (hS:W.ShapedOpen Tryz.prog) :
  Calls Tryz.prog 7 args W fun e W'=>∃ v,e=.returned v∧Rows.parseReadsSpec.post enc Tryz.prog Tryz.f7 false true false false W args v W':=by
 have hW':=hW
 obtain⟨p,q,hA0,hV,rfl,hfz,hnd⟩:=hW
 have hA:DataW.TrodAll enc Tryz.prog W 0 (fun _=>true) true Tryz.f7.params.toList args.toList ds p:=hA0
 obtain⟨rfl,rfl⟩:=trodVars_none hV
 rw[Tryz.params7] at hA hval hz
 obtain⟨v0,vs0,d0,ds0,p0,q0,hargs,rfl,rfl,h0,hA⟩:=trodAll_cons hA
 obtain⟨rfl,rfl,rfl⟩:=trodAll_nil hA
 obtain rfl:args=#[v0]:=by cases args;simp_all
 obtain⟨a0,ok0,b0,g0⟩:=zb9.arg (P:=Tryz.prog) (f:=fun s=>.str s) (fun m=>zb9.str Tryz.underlying9) h0 (sized hz (j:=0) rfl rfl) (zm4 Tryz.underlying9 (hval 0 9 v0 rfl rfl))
 simp only[List.append_nil,Z0] at hc
 refine ziV (P:=Tryz.prog) (fn:=Tryz.f7) (tb:=4) laidOut rfl ?_ (by kernel_rfl) Tryz.underlying4 hW' rfl (zqn hL hS) (zK.cons g0 zK.nil) (zjY a0 (by simp only[ZQ];omega))
 rw[Tryz.params7]
 intro t ht
 simp only[List.mem_cons,List.not_mem_nil,or_false] at ht
 rcases ht with rfl<;>exact⟨by kernel_rfl,by decide +kernel⟩
theorem zeE (os:Os) {H:Type} (enc:TypeId×Value→H):∃ places,DataW.whole enc Tryz.prog ((laidWorld os).forCall (fun _ _=>0) ⟨#[],#[.string ⟨#[]⟩],[]⟩).memory Tryz.f7.params.toList Rows.parseReadsSpec.vars false #[.string ⟨#[]⟩].toList 8=some ([.lit (.string [])],[],places) :=
 ⟨[],by kernel_rfl⟩
theorem zet (os:Os) (started:os.Started) (H:Type) (enc:TypeId×Value→H) (F:Stop.Interp) :
  ReturnsInHanded {} Tryz.checked os 7 .any ((Rows.OpenSpec.upto Rows.parseReadsSpec).preRow enc Tryz.prog Tryz.f7 Rows.parseReadsUptoRow.domain false Rows.parseReadsUptoRow.laid) (((Rows.OpenSpec.upto Rows.parseReadsSpec).at F).post enc Tryz.prog Tryz.f7 false true false false):=by
 obtain⟨places,hx⟩:=zeE os enc
 refine returnsInHanded_of_row (C:=Tryz.checked) (s:=Rows.OpenSpec.upto Rows.parseReadsSpec) own started (by kernel_rfl) Tryz.func7
  (witness_row_atRef (enc:=enc) (C:=Tryz.checked) false (laidWorld os) #[.string ⟨#[]⟩] rfl (by kernel_rfl) (by kernel_rfl) (by kernel_rfl)
   (OpenSpec.preRow_of_cond 8 hx (by kernel_rfl) (fun k hk=>by cases hk;kernel_rfl) (by kernel_rfl) (laid_met os _))) ?_
 intro W base args ds gs before hval hW _ hcond hz hL hS _
 exact zdc H enc W base args ds gs before hval hW (zmx hcond) hz hL hS
theorem zeJ:zkR Tryz.pinned.checked.prog 7 Tryz.f7 (Rows.OpenSpec.upto Rows.parseReadsSpec).bare Rows.parseReadsUptoRow=true:=by kernel_rfl
theorem zfk:zk5 Tryz.pinned.checked.prog 7 Tryz.f7 (Rows.OpenSpec.upto Rows.parseReadsSpec).bare Rows.parseReadsUptoRow=true:=by kernel_rfl
theorem zfc:zlh Tryz.pinned.checked.prog 7 Tryz.f7 (Rows.OpenSpec.upto Rows.parseReadsSpec).bare Rows.parseReadsUptoRow=true:=by kernel_rfl
theorem zeL:zkD Tryz.pinned.checked.prog 7 Tryz.f7 (Rows.OpenSpec.upto Rows.parseReadsSpec).bare Rows.parseReadsUptoRow=true:=by kernel_rfl
theorem zeO:zkE Tryz.pinned.checked.prog 7 Tryz.f7 (Rows.OpenSpec.upto Rows.parseReadsSpec).bare Rows.parseReadsUptoRow=true:=by kernel_rfl
theorem zfi:zk0 Tryz.pinned.checked.prog 7 Tryz.f7 (Rows.OpenSpec.upto Rows.parseReadsSpec).bare Rows.parseReadsUptoRow=true:=by kernel_rfl
theorem zeD:zkI Tryz.pinned.checked.prog 7 Tryz.f7 (Rows.OpenSpec.upto Rows.parseReadsSpec).bare Rows.parseReadsUptoRow=true:=by kernel_rfl
theorem zfH:Rows.ParseReadsUptoSaid :=
 OpenClaim.holds_of_cond 7 Tryz.f7 rfl rfl rfl rfl rfl rfl rfl ⟨rfl,rfl,rfl,rfl,rfl⟩ rfl rfl rfl rfl rfl (by kernel_rfl) Tryz.func7 (zm7 zeJ zfk zfc zeL zeO zfi zeD)
  (of_decide_eq_true (by kernel_rfl)) (by unfold Func.isWrapper;first|(rw[if_pos (by decide +kernel)];kernel_rfl)|(rw[if_neg (by decide +kernel)];exact⟨rfl,rfl⟩))
  (fun os started H enc _ F=>by rw[OpenClaim.pre_eq_preRow];exact zet os started H enc F)
theorem zeZ (f : FuncId) (fn : Func) (hf : Tryz.pinned.checked.prog.funcNamed "seine/seinelaw6.ParseReads" = some f) (hfn : Tryz.pinned.checked.prog.funcs[f]? = some fn) :
  true=Tryz.pinned.checked.prog.looks []∧∀(j:Nat) t,fn.params[j]?=some t→Tryz.pinned.checked.prog.wantsStandIn t=false:=by
 obtain rfl : f = 7 := Option.some.inj ((show Tryz.prog.funcNamed "seine/seinelaw6.ParseReads" = some 7 by kernel_rfl).symm.trans hf) |>.symm
 obtain rfl:fn=Tryz.f7:=(Option.some.inj (Tryz.func7.symm.trans hfn)).symm
 refine⟨by kernel_rfl,fun j t ht=>?_⟩
 rw[Tryz.params7] at ht
 have hm:=Array.mem_of_getElem? ht
 simp only[List.mem_toArray,List.mem_cons,List.not_mem_nil,or_false] at hm
 rcases hm with rfl<;>exact(show Tryz.prog.wantsStandIn _=false by kernel_rfl)
theorem zfJ:Tryz.pinned.checked.prog.mainIs=some (Rows.parseReadsUptoCard.stood.harness.1,Rows.parseReadsUptoCard.stood.harness.2.toList):=by kernel_rfl
theorem zfL:false=Rows.parseReadsUptoRow.goesBy Tryz.pinned.checked.prog:=by kernel_rfl
theorem ParseReads_card:Rows.ParseReadsUptoCardSaid :=
 Claim7.holds_tied_plain_at .later [] _ _ _ _ zfH (fun _ h=>by cases h) (by kernel_rfl) (fun _ h=>by cases h) parseReadsUpto_row_tie rfl ⟨rfl,rfl⟩ zfJ rfl zeZ zfL
end Go.Proofs.YticbbfbpeimkbaaGreatDoor
