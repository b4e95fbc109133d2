import Derived.Test.YticbbfbpeimkbaaGreatDoorM1
import Derived.Test.YticbbfbpeimkbaaGreatDoorM2
import Derived.Test.YticbbfbpeimkbaaGreatDoorM3
import Derived.Test.YticbbfbpeimkbaaGreatDoorM4
import Derived.Test.YticbbfbpeimkbaaGreatDoorM5
import Derived.Test.YticbbfbpeimkbaaGreatDoorM6
import Derived.Test.YticbbfbpeimkbaaGreatDoorM7
set_option maxRecDepth 100000
set_option linter.unusedSimpArgs false
set_option linter.unusedVariables false
namespace Go.Proofs.YticbbfbpeimkbaaGreatDoor
open Go.Ab Go.Lib
open Go.ChangeShapes Go.WideShapes Go.ChangeAt Go.RowKit Go.WideElems
theorem ParsePlain_contract (H:Type) (enc:TypeId × Value→H) (W:World) (base:Nat) (args:Array Value) (ds gs:List (DataW H)) (before:List MemPlace)
  (hval:∀ (j:Nat) t v,Tryz.f17.params[j]?=some t→args[j]?=some v→Value.okWide Tryz.prog W .any base t v)
  (hW:DataW.Whole enc Tryz.prog Tryz.f17.params.toList Rows.parsePlainSpec.vars false W args.toList ds gs before) (hc:blkAll (ds++gs)≤1048576)
  (hz:(DataW.weightsEach Tryz.prog (Tryz.f17.params.toList++(Rows.OpenSpec.upto Rows.parsePlainSpec).bare.plain.varTypes Tryz.prog) (ds++gs)).all (·≤reachBytes)=true)
  (hL:laidMetH Tryz.prog laidL W) (hS:W.ShapedOpen Tryz.prog) :
  Calls Tryz.prog 17 args W fun e W'=>∃ v,e=.returned v∧Rows.parsePlainSpec.post enc Tryz.prog Tryz.f17 false true false false W args v W':=by
 have hW':=hW
 obtain ⟨p,q,hA0,hV,rfl,hfz,hnd⟩:=hW
 have hA:DataW.TrodAll enc Tryz.prog W 0 (fun _=>true) true Tryz.f17.params.toList args.toList ds p:=hA0
 obtain ⟨rfl,rfl⟩:=trodVars_none hV
 rw [Tryz.params17] at hA hval hz
 obtain ⟨v0,vs0,d0,ds0,p0,q0,hargs,rfl,rfl,h0,hA⟩:=trodAll_cons hA
 obtain ⟨rfl,rfl,rfl⟩:=trodAll_nil hA
 obtain rfl:args=#[v0]:=by cases args;simp_all
 obtain ⟨c0,rfl⟩:=agg_of Tryz.underlying56 (hval 0 56 v0 rfl rfl)
 obtain ⟨a0,ok0,b0,g0⟩:=DecB.argS (P:=Tryz.prog) (f:=cV) (decVA) h0 (sized hz (j:=0) rfl rfl)
 simp only [List.append_nil,blkAll] at hc
 refine law_contract (P:=Tryz.prog) (fn:=Tryz.f17) (tb:=4) laidOut rfl ?_ (by kernel_rfl) Tryz.underlying4 hW' rfl (tabs_ok hL hS) (RepAll.cons g0 RepAll.nil) (pplain a0 ok0 (by simp only [Lim];omega))
 rw [Tryz.params17]
 intro t ht
 simp only [List.mem_cons,List.not_mem_nil,or_false] at ht
 rcases ht with rfl<;>exact ⟨by kernel_rfl,by decide +kernel⟩
theorem ParsePlain_reads (os:Os) {H:Type} (enc:TypeId × Value→H):∃ places,DataW.whole enc Tryz.prog ((laidWorld os).forCall (fun _ _=>0) ⟨#[],#[.agg #[.int .i64 0,.int .i64 0,.string ⟨#[]⟩,.slice none 0 0,.slice none 0 0]],[]⟩).memory Tryz.f17.params.toList Rows.parsePlainSpec.vars false #[.agg #[.int .i64 0,.int .i64 0,.string ⟨#[]⟩,.slice none 0 0,.slice none 0 0]].toList 8=some ([.agg [.lit (.int .i64 0),.lit (.int .i64 0),.lit (.string []),.nil,.nil]],[],places) :=
 ⟨[],by kernel_rfl⟩
theorem ParsePlain_lifted (os:Os) (started:os.Started) (H:Type) (enc:TypeId × Value→H) (F:Stop.Interp) :
  ReturnsInHanded {} Tryz.checked os 17 .any ((Rows.OpenSpec.upto Rows.parsePlainSpec).preRow enc Tryz.prog Tryz.f17 Rows.parsePlainUptoRow.domain false Rows.parsePlainUptoRow.laid) (((Rows.OpenSpec.upto Rows.parsePlainSpec).at F).post enc Tryz.prog Tryz.f17 false true false false):=by
 obtain ⟨places,hx⟩:=ParsePlain_reads os enc
 refine returnsInHanded_of_row (C:=Tryz.checked) (s:=Rows.OpenSpec.upto Rows.parsePlainSpec) own started (by kernel_rfl) Tryz.func17
  (witness_row_atRef (enc:=enc) (C:=Tryz.checked) false (laidWorld os) #[.agg #[.int .i64 0,.int .i64 0,.string ⟨#[]⟩,.slice none 0 0,.slice none 0 0]] rfl (by kernel_rfl) (by kernel_rfl) (by kernel_rfl)
   (OpenSpec.preRow_of_cond 8 hx (by kernel_rfl) (fun k hk=>by cases hk;kernel_rfl) (by kernel_rfl) (laid_met os _))) ?_
 intro W base args ds gs before hval hW _ hcond hz hL hS _
 exact ParsePlain_contract H enc W base args ds gs before hval hW (cond_bulk hcond) hz hL hS
theorem ParsePlain_join0:joinP0 Tryz.pinned.checked.prog 17 Tryz.f17 (Rows.OpenSpec.upto Rows.parsePlainSpec).bare Rows.parsePlainUptoRow=true:=by kernel_rfl
theorem ParsePlain_join1:joinP1 Tryz.pinned.checked.prog 17 Tryz.f17 (Rows.OpenSpec.upto Rows.parsePlainSpec).bare Rows.parsePlainUptoRow=true:=by kernel_rfl
theorem ParsePlain_join2:joinP2 Tryz.pinned.checked.prog 17 Tryz.f17 (Rows.OpenSpec.upto Rows.parsePlainSpec).bare Rows.parsePlainUptoRow=true:=by kernel_rfl
theorem ParsePlain_join3:joinP3 Tryz.pinned.checked.prog 17 Tryz.f17 (Rows.OpenSpec.upto Rows.parsePlainSpec).bare Rows.parsePlainUptoRow=true:=by kernel_rfl
theorem ParsePlain_join4:joinP4 Tryz.pinned.checked.prog 17 Tryz.f17 (Rows.OpenSpec.upto Rows.parsePlainSpec).bare Rows.parsePlainUptoRow=true:=by kernel_rfl
theorem ParsePlain_join5:joinP5 Tryz.pinned.checked.prog 17 Tryz.f17 (Rows.OpenSpec.upto Rows.parsePlainSpec).bare Rows.parsePlainUptoRow=true:=by kernel_rfl
theorem ParsePlain_join6:joinP6 Tryz.pinned.checked.prog 17 Tryz.f17 (Rows.OpenSpec.upto Rows.parsePlainSpec).bare Rows.parsePlainUptoRow=true:=by kernel_rfl
theorem ParsePlain_said:Rows.ParsePlainUptoSaid :=
 OpenClaim.holds_of_cond 17 Tryz.f17 rfl rfl rfl rfl rfl rfl rfl ⟨rfl,rfl,rfl,rfl,rfl⟩ rfl rfl rfl rfl rfl (by kernel_rfl) Tryz.func17 (joined_of ParsePlain_join0 ParsePlain_join1 ParsePlain_join2 ParsePlain_join3 ParsePlain_join4 ParsePlain_join5 ParsePlain_join6)
  (of_decide_eq_true (by kernel_rfl)) (by unfold Func.isWrapper;first|(rw [if_pos (by decide +kernel)];kernel_rfl)|(rw [if_neg (by decide +kernel)];exact ⟨rfl,rfl⟩))
  (fun os started H enc _ F=>by rw [OpenClaim.pre_eq_preRow];exact ParsePlain_lifted os started H enc F)
theorem ParsePlain_plain (f : FuncId) (fn : Func) (hf : Tryz.pinned.checked.prog.funcNamed "seine/seinelaw6.ParsePlain" = some f) (hfn : Tryz.pinned.checked.prog.funcs[f]? = some fn) :
  true=Tryz.pinned.checked.prog.looks []∧∀ (j:Nat) t,fn.params[j]?=some t→Tryz.pinned.checked.prog.wantsStandIn t=false:=by
 obtain rfl : f = 17 := Option.some.inj ((show Tryz.prog.funcNamed "seine/seinelaw6.ParsePlain" = some 17 by kernel_rfl).symm.trans hf) |>.symm
 obtain rfl:fn=Tryz.f17:=(Option.some.inj (Tryz.func17.symm.trans hfn)).symm
 refine ⟨by kernel_rfl,fun j t ht=>?_⟩
 rw [Tryz.params17] at ht
 have hm:=Array.mem_of_getElem? ht
 simp only [List.mem_toArray,List.mem_cons,List.not_mem_nil,or_false] at hm
 rcases hm with rfl<;>exact (show Tryz.prog.wantsStandIn _=false by kernel_rfl)
theorem ParsePlain_main:Tryz.pinned.checked.prog.mainIs=some (Rows.parsePlainUptoCard.stood.harness.1,Rows.parsePlainUptoCard.stood.harness.2.toList):=by kernel_rfl
theorem ParsePlain_goes:false=Rows.parsePlainUptoRow.goesBy Tryz.pinned.checked.prog:=by kernel_rfl
theorem ParsePlain_card:Rows.ParsePlainUptoCardSaid :=
 Claim7.holds_tied_plain_at .later [] _ _ _ _ ParsePlain_said (fun _ h=>by cases h) (by kernel_rfl) (fun _ h=>by cases h) parsePlainUpto_row_tie rfl ⟨rfl,rfl⟩ ParsePlain_main rfl ParsePlain_plain ParsePlain_goes
end Go.Proofs.YticbbfbpeimkbaaGreatDoor
