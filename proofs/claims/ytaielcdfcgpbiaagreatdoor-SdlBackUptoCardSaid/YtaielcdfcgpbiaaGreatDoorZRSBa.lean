import Derived.Test.YtaielcdfcgpbiaaGreatDoorM1
import Derived.Test.YtaielcdfcgpbiaaGreatDoorM2
import Derived.Test.YtaielcdfcgpbiaaGreatDoorM3
import Derived.Test.YtaielcdfcgpbiaaGreatDoorM4
import Derived.Test.YtaielcdfcgpbiaaGreatDoorM5
import Derived.Test.YtaielcdfcgpbiaaGreatDoorM6
import Derived.Test.YtaielcdfcgpbiaaGreatDoorM7
import Derived.Test.YtaielcdfcgpbiaaGreatDoorM8
import Derived.Test.YtaielcdfcgpbiaaGreatDoorM9
set_option maxRecDepth 100000
set_option linter.all false
namespace Go.Proofs.YtaielcdfcgpbiaaGreatDoor
open Go.Ab Go.Lib
open Go.ChangeShapes Go.WideShapes Go.ChangeAt Go.RowKit Go.WideElems
theorem zm1:∀ m,DecB Tryz.prog m 145 2 cD wfD bD
 | 0=>DecB.zero
 | k+1=>DecB.struct (DecFsB.cons (by kernel_rfl) (DecB.str Tryz.underlying9) (DecFsB.cons (by kernel_rfl) (zlP k) DecFsB.nil))
   (by kernel_rfl) (by kernel_rfl) cD wfD bD (fun x=>⟨x.1,x.2.1⟩) (fun a=>rfl) (fun a h=>h.2.1) (fun a=>by simp only[bD];omega)
theorem zmL:∀ m,DecB Tryz.prog m 65 1 (fun l:List DirD=>[.sl .no 2 (cDs l)]) ziu (fun l=>bDs l+1)
 | 0=>DecB.zero
 | m+1=>by
  intro enc W cs d ps h1 h2
  obtain⟨a,h3,h4,h5,h6⟩:=DecB.slice (t:=65) Tryz.underlying65 (B:=40) (sz:=2) (by kernel_rfl) (by kernel_rfl) (by decide) (zm1 m) enc W cs d ps h1 h2
  exact⟨a,h3.2.2,by simp only[bDs];exact h4,h5,by simp only[cDs];exact h6⟩
def bTy (t:TyD):Nat:=t.nm.length
theorem zlj:∀ m,DecB Tryz.prog m 31 3 cTy (fun t=>inR t.lists∧inR t.musts) bTy
 | 0=>DecB.zero
 | k+1=>DecB.struct (DecFsB.cons (by kernel_rfl) (DecB.str Tryz.underlying9) (DecFsB.cons (by kernel_rfl) (DecB.int (k:=.i64) Tryz.underlying3) (DecFsB.cons (by kernel_rfl) (DecB.int (k:=.i64) Tryz.underlying3) DecFsB.nil)))
   (by kernel_rfl) (by kernel_rfl) cTy (fun t=>inR t.lists∧inR t.musts) bTy (fun x=>⟨x.1,x.2.1,x.2.2.1⟩) (fun a=>rfl) (fun a h=>⟨zgH h.2.1,zgH h.2.2.1⟩) (fun a=>by simp only[bTy];omega)
def zlO (l:List (List UInt8)):Nat:=(l.map fun s=>s.length+1).sum
theorem zi1 (m:Nat):DecB Tryz.prog m 44 1 (fun l:List (List UInt8)=>[.sl .no 1 (cT l)]) (fun _=>True) (fun l=>zlO l+1):=by
 cases m with
 | zero=>exact DecB.zero
 | succ m =>
  intro H enc W cs d ps h1 h2
  obtain⟨a,h3,h4,h5,h6⟩:=DecB.slice (t:=44) Tryz.underlying44 (B:=16) (sz:=1) (by kernel_rfl) (by kernel_rfl) (by decide) (DecB.str Tryz.underlying9) enc W cs d ps h1 h2
  exact⟨a,trivial,h4,h5,h6⟩
theorem zmb (l:List (List UInt8)):bT l=zlO l:=by unfold bT zlO;congr 1;exact List.map_congr_left fun x _=>Nat.add_comm _ _
theorem zmR:∀ m,DecB Tryz.prog m 141 10 cW wfW bW
 | 0=>DecB.zero
 | k+1=>DecB.struct (DecFsB.cons (by kernel_rfl) (DecB.str Tryz.underlying9) (DecFsB.cons (by kernel_rfl) (zlj k) (DecFsB.cons (by kernel_rfl) (DecB.bool Tryz.underlying4) (DecFsB.cons (by kernel_rfl) (zmk k) DecFsB.nil))))
   (by kernel_rfl) (by kernel_rfl) cW wfW bW (fun x=>⟨x.1,x.2.1,x.2.2.1,x.2.2.2.1⟩) (fun a=>by simp[zeB,cTy]) (fun a h=>⟨h.2.1.1,h.2.1.2,h.2.2.2.1⟩) (fun a=>by simp only[bW,bTy];omega)
theorem zjD:∀ m,DecB Tryz.prog m 46 1 (fun l:List VarD=>[.sl .no 10 (cWs l)]) (fun l=>∀ x∈l,wfW x) (fun l=>bWs l+1)
 | 0=>DecB.zero
 | m+1=>by
  intro enc W cs d ps h1 h2
  obtain⟨a,h3,h4,h5,h6⟩:=DecB.slice (t:=46) Tryz.underlying46 (B:=136) (sz:=10) (by kernel_rfl) (by kernel_rfl) (by decide) (zmR m) enc W cs d ps h1 h2
  exact⟨a,h3.2.2,by simp only[bWs];exact h4,h5,by simp only[cWs];exact h6⟩
theorem zmV:∀ m,DecB Tryz.prog m 96 6 cL wfL bL
 | 0=>DecB.zero
 | k+1=>DecB.struct (DecFsB.cons (by kernel_rfl) (DecB.str Tryz.underlying9) (DecFsB.cons (by kernel_rfl) (zjD k) (DecFsB.cons (by kernel_rfl) (zlj k) (DecFsB.cons (by kernel_rfl) (zmL k) DecFsB.nil))))
   (by kernel_rfl) (by kernel_rfl) cL wfL bL (fun x=>⟨x.1,x.2.1,x.2.2.1,x.2.2.2.1⟩) (fun a=>by simp[cL,cTy]) (fun a h=>⟨h.2.1,h.2.2.1.1,h.2.2.1.2,h.2.2.2.1⟩) (fun a=>by simp only[bL,bTy];omega)
theorem zmD:∀ m,DecB Tryz.prog m 45 1 (fun l:List FldD=>[.sl .no 6 (cLs l)]) (fun l=>∀ x∈l,wfL x) (fun l=>bLs l+1)
 | 0=>DecB.zero
 | m+1=>by
  intro enc W cs d ps h1 h2
  obtain⟨a,h3,h4,h5,h6⟩:=DecB.slice (t:=45) Tryz.underlying45 (B:=96) (sz:=6) (by kernel_rfl) (by kernel_rfl) (by decide) (zmV m) enc W cs d ps h1 h2
  exact⟨a,h3.2.2,by simp only[bLs];exact h4,h5,by simp only[cLs];exact h6⟩
theorem zmZ:∀ m,DecB Tryz.prog m 48 6 cE wfE bE
 | 0=>DecB.zero
 | k+1=>DecB.struct (DecFsB.cons (by kernel_rfl) (DecB.int (k:=.i64) Tryz.underlying3) (DecFsB.cons (by kernel_rfl) (DecB.str Tryz.underlying9) (DecFsB.cons (by kernel_rfl) (zi1 k) (DecFsB.cons (by kernel_rfl) (zmD k) (DecFsB.cons (by kernel_rfl) (zi1 k) (DecFsB.cons (by kernel_rfl) (zjD k) DecFsB.nil))))))
   (by kernel_rfl) (by kernel_rfl) cE wfE bE (fun x=>⟨x.1,x.2.1,x.2.2.1,x.2.2.2.1,x.2.2.2.2.1,x.2.2.2.2.2.1⟩) (fun a=>rfl) (fun a h=>⟨h.2.2.2.1,h.2.2.2.2.2.1⟩) (fun a=>by simp only[bE,zmb];omega)
theorem zmB:∀ m,DecB Tryz.prog m 36 1 (fun l:List DefD=>[.sl .no 6 (cEs l)]) (fun l=>∀ x∈l,wfE x) (fun l=>bEs l+1)
 | 0=>DecB.zero
 | m+1=>by
  intro enc W cs d ps h1 h2
  obtain⟨a,h3,h4,h5,h6⟩:=DecB.slice (t:=36) Tryz.underlying36 (B:=120) (sz:=6) (by kernel_rfl) (by kernel_rfl) (by decide) (zmZ m) enc W cs d ps h1 h2
  exact⟨a,h3.2.2,by simp only[bEs];exact h4,h5,by simp only[cEs];exact h6⟩
theorem zkR:∀ m,DecB Tryz.prog m 38 3 YJ zbu za8
 | 0=>DecB.zero
 | k+1=>DecB.struct (DecFsB.cons (by kernel_rfl) (zmB k) (DecFsB.cons (by kernel_rfl) (DecB.str Tryz.underlying9) (DecFsB.cons (by kernel_rfl) (DecB.str Tryz.underlying9) DecFsB.nil)))
   (by kernel_rfl) (by kernel_rfl) YJ zbu za8 (fun x=>⟨x.1,x.2.1,x.2.2.1⟩) (fun a=>rfl) (fun a h=>h.1) (fun a=>by simp only[za8];omega)
theorem zbY (H:Type) (enc:TypeId×Value→H) (W:World) (base:Nat) (args:Array Value) (ds gs:List (DataW H)) (before:List MemPlace)
  (hval:∀(j:Nat) t v,Tryz.f8.params[j]?=some t→args[j]?=some v→Value.okWide Tryz.prog W .any base t v)
  (hW:DataW.Whole enc Tryz.prog Tryz.f8.params.toList Rows.sdlBackSpec.vars false W args.toList ds gs before) (hc:blkAll (ds++gs)≤1048576)
  (hz:(DataW.weightsEach Tryz.prog (Tryz.f8.params.toList++(Rows.OpenSpec.upto Rows.sdlBackSpec).bare.plain.varTypes Tryz.prog) (ds++gs)).all (·≤reachBytes)=true)
  (hL:laidMetH Tryz.prog zfR W) (hS:W.ShapedOpen Tryz.prog) :
  Calls Tryz.prog 8 args W fun e W'=>∃ v,e=.returned v∧Rows.sdlBackSpec.post enc Tryz.prog Tryz.f8 false true false false W args v W':=by
 have hW':=hW
 obtain⟨p,q,hA0,hV,rfl,hfz,hnd⟩:=hW
 have hA:DataW.TrodAll enc Tryz.prog W 0 (fun _=>true) true Tryz.f8.params.toList args.toList ds p:=hA0
 obtain⟨rfl,rfl⟩:=trodVars_none hV
 rw[Tryz.params8] at hA hval hz
 obtain⟨v0,vs0,d0,ds0,p0,q0,hargs,rfl,rfl,h0,hA⟩:=trodAll_cons hA
 obtain⟨rfl,rfl,rfl⟩:=trodAll_nil hA
 obtain rfl:args=#[v0]:=by cases args;simp_all
 obtain⟨c0,rfl⟩:=zlX Tryz.underlying38 (hval 0 38 v0 rfl rfl)
 obtain⟨a0,ok0,b0,g0⟩:=DecB.argS (P:=Tryz.prog) (f:=YJ) (zkR) h0 (sized hz (j:=0) rfl rfl)
 simp only[List.append_nil,blkAll] at hc
 refine law_contract (P:=Tryz.prog) (fn:=Tryz.f8) (tb:=4) laidOut rfl ?_ (by kernel_rfl) Tryz.underlying4 hW' rfl (zkA hL hS) (RepAll.cons g0 RepAll.nil) (ziV a0 ok0 (by simp only[Lim];omega))
 rw[Tryz.params8]
 intro t ht
 simp only[List.mem_cons,List.not_mem_nil,or_false] at ht
 rcases ht with rfl<;>exact⟨by kernel_rfl,by decide +kernel⟩
theorem zdR (os:Os) {H:Type} (enc:TypeId×Value→H):∃ places,DataW.whole enc Tryz.prog ((laidWorld os).forCall (fun _ _=>0) ⟨#[],#[.agg #[.slice none 0 0,.string ⟨#[]⟩,.string ⟨#[]⟩]],[]⟩).memory Tryz.f8.params.toList Rows.sdlBackSpec.vars false #[.agg #[.slice none 0 0,.string ⟨#[]⟩,.string ⟨#[]⟩]].toList 8=some ([.agg [.nil,.lit (.string []),.lit (.string [])]],[],places) :=
 ⟨[],by kernel_rfl⟩
theorem zdx (os:Os) (started:os.Started) (H:Type) (enc:TypeId×Value→H) (F:Stop.Interp) :
  ReturnsInHanded {} Tryz.checked os 8 .any ((Rows.OpenSpec.upto Rows.sdlBackSpec).preRow enc Tryz.prog Tryz.f8 Rows.sdlBackUptoRow.domain false Rows.sdlBackUptoRow.laid) (((Rows.OpenSpec.upto Rows.sdlBackSpec).at F).post enc Tryz.prog Tryz.f8 false true false false):=by
 obtain⟨places,hx⟩:=zdR os enc
 refine returnsInHanded_of_row (C:=Tryz.checked) (s:=Rows.OpenSpec.upto Rows.sdlBackSpec) own started (by kernel_rfl) Tryz.func8
  (witness_row_atRef (enc:=enc) (C:=Tryz.checked) false (laidWorld os) #[.agg #[.slice none 0 0,.string ⟨#[]⟩,.string ⟨#[]⟩]] rfl (by kernel_rfl) (by kernel_rfl) (by kernel_rfl)
   (OpenSpec.preRow_of_cond 8 hx (by kernel_rfl) (fun k hk=>by cases hk;kernel_rfl) (by kernel_rfl) (laid_met os _))) ?_
 intro W base args ds gs before hval hW _ hcond hz hL hS _
 exact zbY H enc W base args ds gs before hval hW (ziI hcond) hz hL hS
theorem zdM:zgP Tryz.pinned.checked.prog 8 Tryz.f8 (Rows.OpenSpec.upto Rows.sdlBackSpec).bare Rows.sdlBackUptoRow=true:=by kernel_rfl
theorem zdQ:zgF Tryz.pinned.checked.prog 8 Tryz.f8 (Rows.OpenSpec.upto Rows.sdlBackSpec).bare Rows.sdlBackUptoRow=true:=by kernel_rfl
theorem zdX:zg0 Tryz.pinned.checked.prog 8 Tryz.f8 (Rows.OpenSpec.upto Rows.sdlBackSpec).bare Rows.sdlBackUptoRow=true:=by kernel_rfl
theorem zd0:zgS Tryz.pinned.checked.prog 8 Tryz.f8 (Rows.OpenSpec.upto Rows.sdlBackSpec).bare Rows.sdlBackUptoRow=true:=by kernel_rfl
theorem zdS:zhg Tryz.pinned.checked.prog 8 Tryz.f8 (Rows.OpenSpec.upto Rows.sdlBackSpec).bare Rows.sdlBackUptoRow=true:=by kernel_rfl
theorem zdV:zgT Tryz.pinned.checked.prog 8 Tryz.f8 (Rows.OpenSpec.upto Rows.sdlBackSpec).bare Rows.sdlBackUptoRow=true:=by kernel_rfl
theorem zdN:zho Tryz.pinned.checked.prog 8 Tryz.f8 (Rows.OpenSpec.upto Rows.sdlBackSpec).bare Rows.sdlBackUptoRow=true:=by kernel_rfl
theorem zfn:Rows.SdlBackUptoSaid :=
 OpenClaim.holds_of_cond 8 Tryz.f8 rfl rfl rfl rfl rfl rfl rfl ⟨rfl,rfl,rfl,rfl,rfl⟩ rfl rfl rfl rfl rfl (by kernel_rfl) Tryz.func8 (ziL zdM zdQ zdX zd0 zdS zdV zdN)
  (of_decide_eq_true (by kernel_rfl)) (by unfold Func.isWrapper;first|(rw[if_pos (by decide +kernel)];kernel_rfl)|(rw[if_neg (by decide +kernel)];exact⟨rfl,rfl⟩))
  (fun os started H enc _ F=>by rw[OpenClaim.pre_eq_preRow];exact zdx os started H enc F)
theorem zdT (f : FuncId) (fn : Func) (hf : Tryz.pinned.checked.prog.funcNamed "seine/seinelaw8.SdlBack" = some f) (hfn : Tryz.pinned.checked.prog.funcs[f]? = some fn) :
  true=Tryz.pinned.checked.prog.looks []∧∀(j:Nat) t,fn.params[j]?=some t→Tryz.pinned.checked.prog.wantsStandIn t=false:=by
 obtain rfl : f = 8 := Option.some.inj ((show Tryz.prog.funcNamed "seine/seinelaw8.SdlBack" = some 8 by kernel_rfl).symm.trans hf) |>.symm
 obtain rfl:fn=Tryz.f8:=(Option.some.inj (Tryz.func8.symm.trans hfn)).symm
 refine⟨by kernel_rfl,fun j t ht=>?_⟩
 rw[Tryz.params8] at ht
 have hm:=Array.mem_of_getElem? ht
 simp only[List.mem_toArray,List.mem_cons,List.not_mem_nil,or_false] at hm
 rcases hm with rfl<;>exact(show Tryz.prog.wantsStandIn _=false by kernel_rfl)
theorem zeM:Tryz.pinned.checked.prog.mainIs=some (Rows.sdlBackUptoCard.stood.harness.1,Rows.sdlBackUptoCard.stood.harness.2.toList):=by kernel_rfl
theorem zeS:false=Rows.sdlBackUptoRow.goesBy Tryz.pinned.checked.prog:=by kernel_rfl
theorem SdlBack_card:Rows.SdlBackUptoCardSaid :=
 Claim7.holds_tied_plain_at .later [] _ _ _ _ zfn (fun _ h=>by cases h) (by kernel_rfl) (fun _ h=>by cases h) sdlBackUpto_row_tie rfl ⟨rfl,rfl⟩ zeM rfl zdT zeS
end Go.Proofs.YtaielcdfcgpbiaaGreatDoor
