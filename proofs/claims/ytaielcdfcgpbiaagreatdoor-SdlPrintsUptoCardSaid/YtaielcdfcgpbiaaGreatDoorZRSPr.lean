import Derived.Test.YtaielcdfcgpbiaaGreatDoorM1
import Derived.Test.YtaielcdfcgpbiaaGreatDoorM2
import Derived.Test.YtaielcdfcgpbiaaGreatDoorM3
import Derived.Test.YtaielcdfcgpbiaaGreatDoorM4
import Derived.Test.YtaielcdfcgpbiaaGreatDoorM5
import Derived.Test.YtaielcdfcgpbiaaGreatDoorM6
import Derived.Test.YtaielcdfcgpbiaaGreatDoorM7
import Derived.Test.YtaielcdfcgpbiaaGreatDoorM8
import Derived.Test.YtaielcdfcgpbiaaGreatDoorM9
set_option maxRecDepth 100000
set_option linter.all false
namespace Go.Proofs.YtaielcdfcgpbiaaGreatDoor
open Go.Ab Go.Lib
open Go.ChangeShapes Go.WideShapes Go.ChangeAt Go.RowKit Go.WideElems
theorem zf4:∀ m,DecB Tryz.prog m 145 2 cD wfD bD
 | 0=>DecB.zero
 | k+1=>DecB.struct (DecFsB.cons (by kernel_rfl) (DecB.str Tryz.underlying9) (DecFsB.cons (by kernel_rfl) (ze8 k) DecFsB.nil))
   (by kernel_rfl) (by kernel_rfl) cD wfD bD (fun x=>⟨x.1,x.2.1⟩) (fun a=>rfl) (fun a h=>h.2.1) (fun a=>by simp only[bD];omega)
theorem zfD:∀ m,DecB Tryz.prog m 65 1 (fun l:List DirD=>[.sl .no 2 (cDs l)]) zdr (fun l=>bDs l+1)
 | 0=>DecB.zero
 | m+1=>by
  intro enc W cs d ps h1 h2
  obtain⟨a,h3,h4,h5,h6⟩:=DecB.slice (t:=65) Tryz.underlying65 (B:=40) (sz:=2) (by kernel_rfl) (by kernel_rfl) (by decide) (zf4 m) enc W cs d ps h1 h2
  exact⟨a,h3.2.2,by simp only[bDs];exact h4,h5,by simp only[cDs];exact h6⟩
def bTy (t:TyD):Nat:=t.nm.length
theorem ze1:∀ m,DecB Tryz.prog m 31 3 cTy (fun t=>inR t.lists∧inR t.musts) bTy
 | 0=>DecB.zero
 | k+1=>DecB.struct (DecFsB.cons (by kernel_rfl) (DecB.str Tryz.underlying9) (DecFsB.cons (by kernel_rfl) (DecB.int (k:=.i64) Tryz.underlying3) (DecFsB.cons (by kernel_rfl) (DecB.int (k:=.i64) Tryz.underlying3) DecFsB.nil)))
   (by kernel_rfl) (by kernel_rfl) cTy (fun t=>inR t.lists∧inR t.musts) bTy (fun x=>⟨x.1,x.2.1,x.2.2.1⟩) (fun a=>rfl) (fun a h=>⟨zcc h.2.1,zcc h.2.2.1⟩) (fun a=>by simp only[bTy];omega)
def zfu (l:List (List UInt8)):Nat:=(l.map fun s=>s.length+1).sum
theorem zd0 (m:Nat):DecB Tryz.prog m 44 1 (fun l:List (List UInt8)=>[.sl .no 1 (cT l)]) (fun _=>True) (fun l=>zfu l+1):=by
 cases m with
 | zero=>exact DecB.zero
 | succ m =>
  intro H enc W cs d ps h1 h2
  obtain⟨a,h3,h4,h5,h6⟩:=DecB.slice (t:=44) Tryz.underlying44 (B:=16) (sz:=1) (by kernel_rfl) (by kernel_rfl) (by decide) (DecB.str Tryz.underlying9) enc W cs d ps h1 h2
  exact⟨a,trivial,h4,h5,h6⟩
theorem zfk (l:List (List UInt8)):bT l=zfu l:=by unfold bT zfu;congr 1;exact List.map_congr_left fun x _=>Nat.add_comm _ _
theorem zfE:∀ m,DecB Tryz.prog m 141 10 cW wfW bW
 | 0=>DecB.zero
 | k+1=>DecB.struct (DecFsB.cons (by kernel_rfl) (DecB.str Tryz.underlying9) (DecFsB.cons (by kernel_rfl) (ze1 k) (DecFsB.cons (by kernel_rfl) (DecB.bool Tryz.underlying4) (DecFsB.cons (by kernel_rfl) (zfX k) DecFsB.nil))))
   (by kernel_rfl) (by kernel_rfl) cW wfW bW (fun x=>⟨x.1,x.2.1,x.2.2.1,x.2.2.2.1⟩) (fun a=>by simp[zaJ,cTy]) (fun a h=>⟨h.2.1.1,h.2.1.2,h.2.2.2.1⟩) (fun a=>by simp only[bW,bTy];omega)
theorem zdO:∀ m,DecB Tryz.prog m 46 1 (fun l:List VarD=>[.sl .no 10 (cWs l)]) (fun l=>∀ x∈l,wfW x) (fun l=>bWs l+1)
 | 0=>DecB.zero
 | m+1=>by
  intro enc W cs d ps h1 h2
  obtain⟨a,h3,h4,h5,h6⟩:=DecB.slice (t:=46) Tryz.underlying46 (B:=136) (sz:=10) (by kernel_rfl) (by kernel_rfl) (by decide) (zfE m) enc W cs d ps h1 h2
  exact⟨a,h3.2.2,by simp only[bWs];exact h4,h5,by simp only[cWs];exact h6⟩
theorem zga:∀ m,DecB Tryz.prog m 96 6 cL wfL bL
 | 0=>DecB.zero
 | k+1=>DecB.struct (DecFsB.cons (by kernel_rfl) (DecB.str Tryz.underlying9) (DecFsB.cons (by kernel_rfl) (zdO k) (DecFsB.cons (by kernel_rfl) (ze1 k) (DecFsB.cons (by kernel_rfl) (zfD k) DecFsB.nil))))
   (by kernel_rfl) (by kernel_rfl) cL wfL bL (fun x=>⟨x.1,x.2.1,x.2.2.1,x.2.2.2.1⟩) (fun a=>by simp[cL,cTy]) (fun a h=>⟨h.2.1,h.2.2.1.1,h.2.2.1.2,h.2.2.2.1⟩) (fun a=>by simp only[bL,bTy];omega)
theorem zfW:∀ m,DecB Tryz.prog m 45 1 (fun l:List FldD=>[.sl .no 6 (cLs l)]) (fun l=>∀ x∈l,wfL x) (fun l=>bLs l+1)
 | 0=>DecB.zero
 | m+1=>by
  intro enc W cs d ps h1 h2
  obtain⟨a,h3,h4,h5,h6⟩:=DecB.slice (t:=45) Tryz.underlying45 (B:=96) (sz:=6) (by kernel_rfl) (by kernel_rfl) (by decide) (zga m) enc W cs d ps h1 h2
  exact⟨a,h3.2.2,by simp only[bLs];exact h4,h5,by simp only[cLs];exact h6⟩
theorem zgd:∀ m,DecB Tryz.prog m 48 6 cE wfE bE
 | 0=>DecB.zero
 | k+1=>DecB.struct (DecFsB.cons (by kernel_rfl) (DecB.int (k:=.i64) Tryz.underlying3) (DecFsB.cons (by kernel_rfl) (DecB.str Tryz.underlying9) (DecFsB.cons (by kernel_rfl) (zd0 k) (DecFsB.cons (by kernel_rfl) (zfW k) (DecFsB.cons (by kernel_rfl) (zd0 k) (DecFsB.cons (by kernel_rfl) (zdO k) DecFsB.nil))))))
   (by kernel_rfl) (by kernel_rfl) cE wfE bE (fun x=>⟨x.1,x.2.1,x.2.2.1,x.2.2.2.1,x.2.2.2.2.1,x.2.2.2.2.2.1⟩) (fun a=>rfl) (fun a h=>⟨h.2.2.2.1,h.2.2.2.2.2.1⟩) (fun a=>by simp only[bE,zfk];omega)
theorem zfL:∀ m,DecB Tryz.prog m 36 1 (fun l:List DefD=>[.sl .no 6 (cEs l)]) (fun l=>∀ x∈l,wfE x) (fun l=>bEs l+1)
 | 0=>DecB.zero
 | m+1=>by
  intro enc W cs d ps h1 h2
  obtain⟨a,h3,h4,h5,h6⟩:=DecB.slice (t:=36) Tryz.underlying36 (B:=120) (sz:=6) (by kernel_rfl) (by kernel_rfl) (by decide) (zgd m) enc W cs d ps h1 h2
  exact⟨a,h3.2.2,by simp only[bEs];exact h4,h5,by simp only[cEs];exact h6⟩
theorem zeM:∀ m,DecB Tryz.prog m 38 3 y8 YS yV
 | 0=>DecB.zero
 | k+1=>DecB.struct (DecFsB.cons (by kernel_rfl) (zfL k) (DecFsB.cons (by kernel_rfl) (DecB.str Tryz.underlying9) (DecFsB.cons (by kernel_rfl) (DecB.str Tryz.underlying9) DecFsB.nil)))
   (by kernel_rfl) (by kernel_rfl) y8 YS yV (fun x=>⟨x.1,x.2.1,x.2.2.1⟩) (fun a=>rfl) (fun a h=>h.1) (fun a=>by simp only[yV];omega)
theorem Yd (H:Type) (enc:TypeId×Value→H) (W:World) (base:Nat) (args:Array Value) (ds gs:List (DataW H)) (before:List MemPlace)
  (hval:∀(j:Nat) t v,Tryz.f7.params[j]?=some t→args[j]?=some v→Value.okWide Tryz.prog W .any base t v)
  (hW:DataW.Whole enc Tryz.prog Tryz.f7.params.toList Rows.sdlPrintsSpec.vars false W args.toList ds gs before) (hc:blkAll (ds++gs)≤1048576)
  (hz:(DataW.weightsEach Tryz.prog (Tryz.f7.params.toList++(Rows.OpenSpec.upto Rows.sdlPrintsSpec).bare.plain.varTypes Tryz.prog) (ds++gs)).all (·≤reachBytes)=true)
  (hL:laidMetH Tryz.prog zbt W) (hS:W.ShapedOpen Tryz.prog) :
  Calls Tryz.prog 7 args W fun e W'=>∃ v,e=.returned v∧Rows.sdlPrintsSpec.post enc Tryz.prog Tryz.f7 false true false false W args v W':=by
 have hW':=hW
 obtain⟨p,q,hA0,hV,rfl,hfz,hnd⟩:=hW
 have hA:DataW.TrodAll enc Tryz.prog W 0 (fun _=>true) true Tryz.f7.params.toList args.toList ds p:=hA0
 obtain⟨rfl,rfl⟩:=trodVars_none hV
 rw[Tryz.params7] at hA hval hz
 obtain⟨v0,vs0,d0,ds0,p0,q0,hargs,rfl,rfl,h0,hA⟩:=trodAll_cons hA
 obtain⟨rfl,rfl,rfl⟩:=trodAll_nil hA
 obtain rfl:args=#[v0]:=by cases args;simp_all
 obtain⟨c0,rfl⟩:=zfb Tryz.underlying38 (hval 0 38 v0 rfl rfl)
 obtain⟨a0,ok0,b0,g0⟩:=DecB.argS (P:=Tryz.prog) (f:=y8) (zeM) h0 (sized hz (j:=0) rfl rfl)
 simp only[List.append_nil,blkAll] at hc
 refine law_contract (P:=Tryz.prog) (fn:=Tryz.f7) (tb:=4) laidOut rfl ?_ (by kernel_rfl) Tryz.underlying4 hW' rfl (zeA hL hS) (RepAll.cons g0 RepAll.nil) (zb3 a0 ok0 (by omega))
 rw[Tryz.params7]
 intro t ht
 simp only[List.mem_cons,List.not_mem_nil,or_false] at ht
 rcases ht with rfl<;>exact⟨by kernel_rfl,by decide +kernel⟩
theorem Y0 (os:Os) {H:Type} (enc:TypeId×Value→H):∃ places,DataW.whole enc Tryz.prog ((laidWorld os).forCall (fun _ _=>0) ⟨#[],#[.agg #[.slice none 0 0,.string ⟨#[]⟩,.string ⟨#[]⟩]],[]⟩).memory Tryz.f7.params.toList Rows.sdlPrintsSpec.vars false #[.agg #[.slice none 0 0,.string ⟨#[]⟩,.string ⟨#[]⟩]].toList 8=some ([.agg [.nil,.lit (.string []),.lit (.string [])]],[],places) :=
 ⟨[],by kernel_rfl⟩
theorem Yx (os:Os) (started:os.Started) (H:Type) (enc:TypeId×Value→H) (F:Stop.Interp) :
  ReturnsInHanded {} Tryz.checked os 7 .any ((Rows.OpenSpec.upto Rows.sdlPrintsSpec).preRow enc Tryz.prog Tryz.f7 Rows.sdlPrintsUptoRow.domain false Rows.sdlPrintsUptoRow.laid) (((Rows.OpenSpec.upto Rows.sdlPrintsSpec).at F).post enc Tryz.prog Tryz.f7 false true false false):=by
 obtain⟨places,hx⟩:=Y0 os enc
 refine returnsInHanded_of_row (C:=Tryz.checked) (s:=Rows.OpenSpec.upto Rows.sdlPrintsSpec) own started (by kernel_rfl) Tryz.func7
  (witness_row_atRef (enc:=enc) (C:=Tryz.checked) false (laidWorld os) #[.agg #[.slice none 0 0,.string ⟨#[]⟩,.string ⟨#[]⟩]] rfl (by kernel_rfl) (by kernel_rfl) (by kernel_rfl)
   (OpenSpec.preRow_of_cond 8 hx (by kernel_rfl) (fun k hk=>by cases hk;kernel_rfl) (by kernel_rfl) (laid_met os _))) ?_
 intro W base args ds gs before hval hW _ hcond hz hL hS _
 exact Yd H enc W base args ds gs before hval hW (zcX hcond) hz hL hS
theorem YZ:zb6 Tryz.pinned.checked.prog 7 Tryz.f7 (Rows.OpenSpec.upto Rows.sdlPrintsSpec).bare Rows.sdlPrintsUptoRow=true:=by kernel_rfl
theorem Y3:zb5 Tryz.pinned.checked.prog 7 Tryz.f7 (Rows.OpenSpec.upto Rows.sdlPrintsSpec).bare Rows.sdlPrintsUptoRow=true:=by kernel_rfl
theorem Y7:zct Tryz.pinned.checked.prog 7 Tryz.f7 (Rows.OpenSpec.upto Rows.sdlPrintsSpec).bare Rows.sdlPrintsUptoRow=true:=by kernel_rfl
theorem Y8:zbZ Tryz.pinned.checked.prog 7 Tryz.f7 (Rows.OpenSpec.upto Rows.sdlPrintsSpec).bare Rows.sdlPrintsUptoRow=true:=by kernel_rfl
theorem Y5:zco Tryz.pinned.checked.prog 7 Tryz.f7 (Rows.OpenSpec.upto Rows.sdlPrintsSpec).bare Rows.sdlPrintsUptoRow=true:=by kernel_rfl
theorem Y6:zb0 Tryz.pinned.checked.prog 7 Tryz.f7 (Rows.OpenSpec.upto Rows.sdlPrintsSpec).bare Rows.sdlPrintsUptoRow=true:=by kernel_rfl
theorem Y4:zb4 Tryz.pinned.checked.prog 7 Tryz.f7 (Rows.OpenSpec.upto Rows.sdlPrintsSpec).bare Rows.sdlPrintsUptoRow=true:=by kernel_rfl
theorem zau:Rows.SdlPrintsUptoSaid :=
 OpenClaim.holds_of_cond 7 Tryz.f7 rfl rfl rfl rfl rfl rfl rfl ⟨rfl,rfl,rfl,rfl,rfl⟩ rfl rfl rfl rfl rfl (by kernel_rfl) Tryz.func7 (zdd YZ Y3 Y7 Y8 Y5 Y6 Y4)
  (of_decide_eq_true (by kernel_rfl)) (by unfold Func.isWrapper;first|(rw[if_pos (by decide +kernel)];kernel_rfl)|(rw[if_neg (by decide +kernel)];exact⟨rfl,rfl⟩))
  (fun os started H enc _ F=>by rw[OpenClaim.pre_eq_preRow];exact Yx os started H enc F)
theorem YX (f : FuncId) (fn : Func) (hf : Tryz.pinned.checked.prog.funcNamed "seine/seinelaw8.SdlPrints" = some f) (hfn : Tryz.pinned.checked.prog.funcs[f]? = some fn) :
  true=Tryz.pinned.checked.prog.looks []∧∀(j:Nat) t,fn.params[j]?=some t→Tryz.pinned.checked.prog.wantsStandIn t=false:=by
 obtain rfl : f = 7 := Option.some.inj ((show Tryz.prog.funcNamed "seine/seinelaw8.SdlPrints" = some 7 by kernel_rfl).symm.trans hf) |>.symm
 obtain rfl:fn=Tryz.f7:=(Option.some.inj (Tryz.func7.symm.trans hfn)).symm
 refine⟨by kernel_rfl,fun j t ht=>?_⟩
 rw[Tryz.params7] at ht
 have hm:=Array.mem_of_getElem? ht
 simp only[List.mem_toArray,List.mem_cons,List.not_mem_nil,or_false] at hm
 rcases hm with rfl<;>exact(show Tryz.prog.wantsStandIn _=false by kernel_rfl)
theorem zaj:Tryz.pinned.checked.prog.mainIs=some (Rows.sdlPrintsUptoCard.stood.harness.1,Rows.sdlPrintsUptoCard.stood.harness.2.toList):=by kernel_rfl
theorem zaD:false=Rows.sdlPrintsUptoRow.goesBy Tryz.pinned.checked.prog:=by kernel_rfl
theorem SdlPrints_card:Rows.SdlPrintsUptoCardSaid :=
 Claim7.holds_tied_plain_at .later [] _ _ _ _ zau (fun _ h=>by cases h) (by kernel_rfl) (fun _ h=>by cases h) sdlPrintsUpto_row_tie rfl ⟨rfl,rfl⟩ zaj rfl YX zaD
end Go.Proofs.YtaielcdfcgpbiaaGreatDoor
