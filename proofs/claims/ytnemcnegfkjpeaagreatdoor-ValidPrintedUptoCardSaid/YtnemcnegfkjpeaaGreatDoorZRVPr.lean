import Derived.Test.YtnemcnegfkjpeaaGreatDoorM12
set_option maxRecDepth 100000
set_option linter.all false
namespace Go.Proofs.YtnemcnegfkjpeaaGreatDoor
open Go.Ab Go.Lib
open Go.ChangeShapes Go.WideShapes Go.ChangeAt Go.RowKit Go.WideElems
def zpZ:∀l,bSs l=(l.map bS).sum
 | []=>rfl
 | v::r=>by simp[bSs,zpZ r]
def zBH:∀m,zI Tryz.prog m 110 2 cD wfD bD
 | 0=>zI.zero
 | k+1=>zI.struct (zy.cons (by kernel_rfl) (zI.str Tryz.underlying9) (zy.cons (by kernel_rfl) (ztp k) zy.nil)) (by kernel_rfl) (by kernel_rfl) cD wfD bD (λx=>⟨x.1,x.2.1⟩) (λa=>rfl) (λa h=>h.2.1) (λa=>by simp only[bD];omega)
def zpr:∀m,zI Tryz.prog m 41 1 (λl:List DirD=>[.sl .no 2 (cDs l)]) zlK (λl=>bDs l+1)
 | 0=>zI.zero
 | m+1=>by intro enc A cs d ps I J;obtain⟨a,U,W,X,Y⟩:=zI.slice (t:=41) Tryz.underlying41 (B:=40) (sz:=2) (by kernel_rfl) (by kernel_rfl) (by decide) (zBH m) enc A cs d ps I J;exact⟨a,U.2.2,by simp only[bDs];exact W,X,by simp only[cDs];exact Y⟩
def zuk{m:Nat}(h:zI Tryz.prog m 49 7 cS wfS bS):zI Tryz.prog (m+1) 42 1 (λl:List SelD=>[.sl .no 7 (cSs l)]) zcQ (λl=>bSs l+1):=by intro H enc A cs d ps I J;obtain⟨a,U,W,X,Y⟩:=zI.slice (t:=42) Tryz.underlying42 (B:=128) (sz:=7) (by kernel_rfl) (by kernel_rfl) (by decide) h enc A cs d ps I J;exact⟨a,zmh U.2.2,by simp only[zpZ];exact W,X,by simp only[zdq];exact Y⟩
def zBL:∀m,zI Tryz.prog m 49 7 cS wfS bS:=by
 intro m;induction m using Nat.strongRecOn with
 | _ m I =>
  cases m with
  | zero=>exact zI.zero
  | succ k =>
   have A:zI Tryz.prog k 42 1 (λl:List SelD=>[.sl .no 7 (cSs l)]) zcQ (λl=>bSs l+1):=by
    cases k with
    | zero=>exact zI.zero
    | succ k=>exact zuk (I k (by omega))
   intro H;exact zI.struct (zy.cons (by kernel_rfl) (zI.int (k:=.i64) Tryz.underlying3) (zy.cons (by kernel_rfl) (zI.str Tryz.underlying9) (zy.cons (by kernel_rfl) (zI.str Tryz.underlying9) (zy.cons (by kernel_rfl) (ztp k) (zy.cons (by kernel_rfl) (zpr k) (zy.cons (by kernel_rfl) (zI.str Tryz.underlying9) (zy.cons (by kernel_rfl) A zy.nil))))))) (by kernel_rfl) (by kernel_rfl) cS wfS bS (λx=>.mk x.1 x.2.1 x.2.2.1 x.2.2.2.1 x.2.2.2.2.1 x.2.2.2.2.2.1 x.2.2.2.2.2.2.1) (λa=>rfl) (λa h=>⟨h.2.2.2.1,h.2.2.2.2.1,h.2.2.2.2.2.2.1⟩) (λa=>by simp only[bS];omega)
def zwV:∀m,zI Tryz.prog m 42 1 (λl:List SelD=>[.sl .no 7 (cSs l)]) zcQ (λl=>bSs l+1)
 | 0=>zI.zero
 | m+1=>zuk (zBL m)
def bTy(t:TyD):Nat:=t.nm.length
def zsu:∀m,zI Tryz.prog m 70 3 cTy (λt=>inR t.lists/\inR t.musts) bTy
 | 0=>zI.zero
 | k+1=>zI.struct (zy.cons (by kernel_rfl) (zI.str Tryz.underlying9) (zy.cons (by kernel_rfl) (zI.int (k:=.i64) Tryz.underlying3) (zy.cons (by kernel_rfl) (zI.int (k:=.i64) Tryz.underlying3) zy.nil))) (by kernel_rfl) (by kernel_rfl) cTy (λt=>inR t.lists/\inR t.musts) bTy (λx=>⟨x.1,x.2.1,x.2.2.1⟩) (λa=>rfl) (λa h=>⟨zoV h.2.1,zoV h.2.2.1⟩) (λa=>by simp only[bTy];omega)
def zBE:∀m,zI Tryz.prog m 80 10 cW wfW bW
 | 0=>zI.zero
 | k+1=>zI.struct (zy.cons (by kernel_rfl) (zI.str Tryz.underlying9) (zy.cons (by kernel_rfl) (zsu k) (zy.cons (by kernel_rfl) (zI.bool Tryz.underlying4) (zy.cons (by kernel_rfl) (zw0 k) zy.nil)))) (by kernel_rfl) (by kernel_rfl) cW wfW bW (λx=>⟨x.1,x.2.1,x.2.2.1,x.2.2.2.1⟩) (λa=>by simp[zhz,cTy]) (λa h=>⟨h.2.1.1,h.2.1.2,h.2.2.2.1⟩) (λa=>by simp only[bW,bTy];omega)
def zzW:∀m,zI Tryz.prog m 40 1 (λl:List VarD=>[.sl .no 10 (cWs l)]) (λl=>∀x∈l,wfW x) (λl=>bWs l+1)
 | 0=>zI.zero
 | m+1=>by intro enc A cs d ps I J;obtain⟨a,U,W,X,Y⟩:=zI.slice (t:=40) Tryz.underlying40 (B:=136) (sz:=10) (by kernel_rfl) (by kernel_rfl) (by decide) (zBE m) enc A cs d ps I J;exact⟨a,U.2.2,by simp only[bWs];exact W,X,by simp only[cWs];exact Y⟩
def zBQ:∀m,zI Tryz.prog m 44 5 cO wfO bO
 | 0=>zI.zero
 | k+1=>zI.struct (zy.cons (by kernel_rfl) (zI.int (k:=.i64) Tryz.underlying3) (zy.cons (by kernel_rfl) (zI.str Tryz.underlying9) (zy.cons (by kernel_rfl) (zzW k) (zy.cons (by kernel_rfl) (zpr k) (zy.cons (by kernel_rfl) (zwV k) zy.nil))))) (by kernel_rfl) (by kernel_rfl) cO wfO bO (λx=>⟨x.1,x.2.1,x.2.2.1,x.2.2.2.1,x.2.2.2.2.1⟩) (λa=>rfl) (λa h=>⟨h.2.2.1,h.2.2.2.1,h.2.2.2.2.1⟩) (λa=>by simp only[bO];omega)
def zBC:∀m,zI Tryz.prog m 46 4 cF wfF bF
 | 0=>zI.zero
 | k+1=>zI.struct (zy.cons (by kernel_rfl) (zI.str Tryz.underlying9) (zy.cons (by kernel_rfl) (zI.str Tryz.underlying9) (zy.cons (by kernel_rfl) (zpr k) (zy.cons (by kernel_rfl) (zwV k) zy.nil)))) (by kernel_rfl) (by kernel_rfl) cF wfF bF (λx=>⟨x.1,x.2.1,x.2.2.1,x.2.2.2.1⟩) (λa=>rfl) (λa h=>⟨h.2.2.1,h.2.2.2.1⟩) (λa=>by simp only[bF];omega)
def zzT:∀m,zI Tryz.prog m 25 1 (λl:List OpD=>[.sl .no 5 (cOs l)]) (λl=>∀x∈l,wfO x) (λl=>bOs l+1)
 | 0=>zI.zero
 | m+1=>by intro enc A cs d ps I J;obtain⟨a,U,W,X,Y⟩:=zI.slice (t:=25) Tryz.underlying25 (B:=96) (sz:=5) (by kernel_rfl) (by kernel_rfl) (by decide) (zBQ m) enc A cs d ps I J;exact⟨a,U.2.2,by simp only[bOs];exact W,X,by simp only[cOs];exact Y⟩
def zz7:∀m,zI Tryz.prog m 26 1 (λl:List FragD=>[.sl .no 4 (cFs l)]) (λl=>∀x∈l,wfF x) (λl=>bFs l+1)
 | 0=>zI.zero
 | m+1=>by intro enc A cs d ps I J;obtain⟨a,U,W,X,Y⟩:=zI.slice (t:=26) Tryz.underlying26 (B:=80) (sz:=4) (by kernel_rfl) (by kernel_rfl) (by decide) (zBC m) enc A cs d ps I J;exact⟨a,U.2.2,by simp only[bFs];exact W,X,by simp only[cFs];exact Y⟩
def zwv:∀m,zI Tryz.prog m 28 2 zU zcE zw
 | 0=>zI.zero
 | k+1=>zI.struct (zy.cons (by kernel_rfl) (zzT k) (zy.cons (by kernel_rfl) (zz7 k) zy.nil)) (by kernel_rfl) (by kernel_rfl) zU zcE zw (λx=>⟨x.1,x.2.1⟩) (λa=>rfl) (λa h=>⟨h.1,h.2.1⟩) (λa=>by simp only[zw];omega)
def zyl(l:List (List UInt8)):Nat:=(l.map λs=>s.length+1).sum
def zt3(m:Nat):zI Tryz.prog m 62 1 (λl:List (List UInt8)=>[.sl .no 1 (cT l)]) (λ_=>True) (λl=>zyl l+1):=by
 cases m with
 | zero=>exact zI.zero
 | succ m =>intro H enc A cs d ps I J;obtain⟨a,Y,U,W,X⟩:=zI.slice (t:=62) Tryz.underlying62 (B:=16) (sz:=1) (by kernel_rfl) (by kernel_rfl) (by decide) (zI.str Tryz.underlying9) enc A cs d ps I J;exact⟨a,trivial,U,W,X⟩
def zxG(l:List (List UInt8)):bT l=zyl l:=by unfold bT zyl;congr 1;exact List.map_congr_left λx _=>Nat.add_comm _ _
def zzV:∀m,zI Tryz.prog m 108 10 cW wfW bW
 | 0=>zI.zero
 | k+1=>zI.struct (zy.cons (by kernel_rfl) (zI.str Tryz.underlying9) (zy.cons (by kernel_rfl) (zsu k) (zy.cons (by kernel_rfl) (zI.bool Tryz.underlying4) (zy.cons (by kernel_rfl) (zw0 k) zy.nil)))) (by kernel_rfl) (by kernel_rfl) cW wfW bW (λx=>⟨x.1,x.2.1,x.2.2.1,x.2.2.2.1⟩) (λa=>by simp[zhz,cTy]) (λa h=>⟨h.2.1.1,h.2.1.2,h.2.2.2.1⟩) (λa=>by simp only[bW,bTy];omega)
def ztm:∀m,zI Tryz.prog m 64 1 (λl:List VarD=>[.sl .no 10 (cWs l)]) (λl=>∀x∈l,wfW x) (λl=>bWs l+1)
 | 0=>zI.zero
 | m+1=>by intro enc A cs d ps I J;obtain⟨a,U,W,X,Y⟩:=zI.slice (t:=64) Tryz.underlying64 (B:=136) (sz:=10) (by kernel_rfl) (by kernel_rfl) (by decide) (zzV m) enc A cs d ps I J;exact⟨a,U.2.2,by simp only[bWs];exact W,X,by simp only[cWs];exact Y⟩
def zBb:∀m,zI Tryz.prog m 72 6 cL wfL bL
 | 0=>zI.zero
 | k+1=>zI.struct (zy.cons (by kernel_rfl) (zI.str Tryz.underlying9) (zy.cons (by kernel_rfl) (ztm k) (zy.cons (by kernel_rfl) (zsu k) (zy.cons (by kernel_rfl) (zpr k) zy.nil)))) (by kernel_rfl) (by kernel_rfl) cL wfL bL (λx=>⟨x.1,x.2.1,x.2.2.1,x.2.2.2.1⟩) (λa=>by simp[cL,cTy]) (λa h=>⟨h.2.1,h.2.2.1.1,h.2.2.1.2,h.2.2.2.1⟩) (λa=>by simp only[bL,bTy];omega)
def zAj:∀m,zI Tryz.prog m 63 1 (λl:List FldD=>[.sl .no 6 (cLs l)]) (λl=>∀x∈l,wfL x) (λl=>bLs l+1)
 | 0=>zI.zero
 | m+1=>by intro enc A cs d ps I J;obtain⟨a,U,W,X,Y⟩:=zI.slice (t:=63) Tryz.underlying63 (B:=96) (sz:=6) (by kernel_rfl) (by kernel_rfl) (by decide) (zBb m) enc A cs d ps I J;exact⟨a,U.2.2,by simp only[bLs];exact W,X,by simp only[cLs];exact Y⟩
def zBP:∀m,zI Tryz.prog m 66 6 cE wfE bE
 | 0=>zI.zero
 | k+1=>zI.struct (zy.cons (by kernel_rfl) (zI.int (k:=.i64) Tryz.underlying3) (zy.cons (by kernel_rfl) (zI.str Tryz.underlying9) (zy.cons (by kernel_rfl) (zt3 k) (zy.cons (by kernel_rfl) (zAj k) (zy.cons (by kernel_rfl) (zt3 k) (zy.cons (by kernel_rfl) (ztm k) zy.nil)))))) (by kernel_rfl) (by kernel_rfl) cE wfE bE (λx=>⟨x.1,x.2.1,x.2.2.1,x.2.2.2.1,x.2.2.2.2.1,x.2.2.2.2.2.1⟩) (λa=>rfl) (λa h=>⟨h.2.2.2.1,h.2.2.2.2.2.1⟩) (λa=>by simp only[bE,zxG];omega)
def zzL:∀m,zI Tryz.prog m 22 1 (λl:List DefD=>[.sl .no 6 (cEs l)]) (λl=>∀x∈l,wfE x) (λl=>bEs l+1)
 | 0=>zI.zero
 | m+1=>by intro enc A cs d ps I J;obtain⟨a,U,W,X,Y⟩:=zI.slice (t:=22) Tryz.underlying22 (B:=120) (sz:=6) (by kernel_rfl) (by kernel_rfl) (by decide) (zBP m) enc A cs d ps I J;exact⟨a,U.2.2,by simp only[bEs];exact W,X,by simp only[cEs];exact Y⟩
def zwA:∀m,zI Tryz.prog m 24 3 zm zdu zJ
 | 0=>zI.zero
 | k+1=>zI.struct (zy.cons (by kernel_rfl) (zzL k) (zy.cons (by kernel_rfl) (zI.str Tryz.underlying9) (zy.cons (by kernel_rfl) (zI.str Tryz.underlying9) zy.nil))) (by kernel_rfl) (by kernel_rfl) zm zdu zJ (λx=>⟨x.1,x.2.1,x.2.2.1⟩) (λa=>rfl) (λa h=>h.1) (λa=>by simp only[zJ];omega)
def zdH(H:Type)(enc:TypeId×Value->H)(A:World)(base:Nat)(args:Array Value)(ds J:List (DataW H))(before:List MemPlace)(U:∀(j:Nat) t v,Tryz.f3.params[j]?=some t->args[j]?=some v->Value.okWide Tryz.prog A .any base t v)(X:DataW.Whole enc Tryz.prog Tryz.f3.params.toList Rows.validPrintedSpec.vars false A args.toList ds J before)(an:Yy (ds++J)<=1048576)(W:(DataW.weightsEach Tryz.prog (Tryz.f3.params.toList++(Rows.OpenSpec.upto Rows.validPrintedSpec).bare.plain.varTypes Tryz.prog) (ds++J)).all (·<=reachBytes)=true)(aj:laidMetH Tryz.prog zmI A)(ak:A.ShapedOpen Tryz.prog):
  Calls Tryz.prog 3 args A λe ab=>∃v,e=.returned v/\Rows.validPrintedSpec.post enc Tryz.prog Tryz.f3 false true false false A args v ab:=by
 have am:=X;obtain⟨p,q,ai,al,rfl,aw,ax⟩:=X;have I:DataW.TrodAll enc Tryz.prog A 0 (λ_=>true) true Tryz.f3.params.toList args.toList ds p:=ai;obtain⟨rfl,rfl⟩:=trodVars_none al;rw[Tryz.params3]at I U W;obtain⟨Z,a2,ap,ar,ay,a0,av,rfl,rfl,ag,I⟩:=trodAll_cons I;obtain⟨aa,a3,aq,au,az,a1,rfl,rfl,rfl,ah,I⟩:=trodAll_cons I;obtain⟨rfl,rfl,rfl⟩:=trodAll_nil I;obtain rfl:args=#[Z,aa]:=by cases args;simp_all
 obtain⟨c0,rfl⟩:=zs6 Tryz.underlying24 (U 0 24 Z rfl rfl);obtain⟨ac,ok0,b0,ae⟩:=zI.argS (P:=Tryz.prog) (f:=zm) (zwA) ag (sized W (j:=0) rfl rfl);obtain⟨c1,rfl⟩:=zs6 Tryz.underlying28 (U 1 28 aa rfl rfl);obtain⟨ad,ok1,ao,af⟩:=zI.argS (P:=Tryz.prog) (f:=zU) (zwv) ah (sized W (j:=1) rfl rfl);simp only[List.append_nil,Yy]at an;refine zln (P:=Tryz.prog) (fn:=Tryz.f3) (tb:=4) laidOut rfl ?_ (by kernel_rfl) Tryz.underlying4 am rfl (zwN aj ak) (zR.cons ae (zR.cons af zR.nil)) (zjF ac ad ok0 ok1 (by omega) (by omega));rw[Tryz.params3];intro t Y;simp only[List.mem_cons,List.not_mem_nil,or_false]at Y;rcases Y with rfl|rfl<;>exact⟨by kernel_rfl,by decide +kernel⟩
def zfy(os:Os){H:Type}(enc:TypeId×Value->H):∃places,DataW.whole enc Tryz.prog ((laidWorld os).forCall (λ_ _=>0) ⟨#[],#[.agg #[.slice none 0 0,.string ⟨#[]⟩,.string ⟨#[]⟩],.agg #[.slice none 0 0,.slice none 0 0]],[]⟩).memory Tryz.f3.params.toList Rows.validPrintedSpec.vars false #[.agg #[.slice none 0 0,.string ⟨#[]⟩,.string ⟨#[]⟩],.agg #[.slice none 0 0,.slice none 0 0]].toList 8=some ([.agg [.nil,.lit (.string []),.lit (.string [])],.agg [.nil,.nil]],[],places) :=⟨[],by kernel_rfl⟩
def zfb(os:Os)(started:os.Started)(H:Type)(enc:TypeId×Value->H)(F:Stop.Interp):
  ReturnsInHanded {} Tryz.checked os 3 .any ((Rows.OpenSpec.upto Rows.validPrintedSpec).preRow enc Tryz.prog Tryz.f3 Rows.validPrintedUptoRow.domain false Rows.validPrintedUptoRow.laid) (((Rows.OpenSpec.upto Rows.validPrintedSpec).at F).post enc Tryz.prog Tryz.f3 false true false false):=by
 obtain⟨places,aa⟩:=zfy os enc;refine returnsInHanded_of_row (C:=Tryz.checked) (s:=Rows.OpenSpec.upto Rows.validPrintedSpec) own started (by kernel_rfl) Tryz.func3 (witness_row_atRef (enc:=enc) (C:=Tryz.checked) false (laidWorld os) #[.agg #[.slice none 0 0,.string ⟨#[]⟩,.string ⟨#[]⟩],.agg #[.slice none 0 0,.slice none 0 0]] rfl (by kernel_rfl) (by kernel_rfl) (by kernel_rfl) (OpenSpec.preRow_of_cond 8 aa (by kernel_rfl) (λk Y=>by cases Y;kernel_rfl) (by kernel_rfl) (laid_met os _))) ?_;intro A base args ds I before Z W _ X ab J U _;exact zdH H enc A base args ds I before Z W (zrh X) ab J U
def zf5:zpb Tryz.pinned.checked.prog 3 Tryz.f3 (Rows.OpenSpec.upto Rows.validPrintedSpec).bare Rows.validPrintedUptoRow=true:=by kernel_rfl
def zfX:zox Tryz.pinned.checked.prog 3 Tryz.f3 (Rows.OpenSpec.upto Rows.validPrintedSpec).bare Rows.validPrintedUptoRow=true:=by kernel_rfl
def zfu:zn3 Tryz.pinned.checked.prog 3 Tryz.f3 (Rows.OpenSpec.upto Rows.validPrintedSpec).bare Rows.validPrintedUptoRow=true:=by kernel_rfl
def zfZ:zoh Tryz.pinned.checked.prog 3 Tryz.f3 (Rows.OpenSpec.upto Rows.validPrintedSpec).bare Rows.validPrintedUptoRow=true:=by kernel_rfl
def zfU:znR Tryz.pinned.checked.prog 3 Tryz.f3 (Rows.OpenSpec.upto Rows.validPrintedSpec).bare Rows.validPrintedUptoRow=true:=by kernel_rfl
def zfO:zoj Tryz.pinned.checked.prog 3 Tryz.f3 (Rows.OpenSpec.upto Rows.validPrintedSpec).bare Rows.validPrintedUptoRow=true:=by kernel_rfl
def zfW:zoO Tryz.pinned.checked.prog 3 Tryz.f3 (Rows.OpenSpec.upto Rows.validPrintedSpec).bare Rows.validPrintedUptoRow=true:=by kernel_rfl
def zgN:Rows.ValidPrintedUptoSaid :=
 OpenClaim.holds_of_cond 3 Tryz.f3 rfl rfl rfl rfl rfl rfl rfl ⟨rfl,rfl,rfl,rfl,rfl⟩ rfl rfl rfl rfl rfl (by kernel_rfl) Tryz.func3 (zrH zf5 zfX zfu zfZ zfU zfO zfW)
  (of_decide_eq_true (by kernel_rfl)) (by unfold Func.isWrapper;first|(rw[if_pos (by decide +kernel)];kernel_rfl)|(rw[if_neg (by decide +kernel)];exact⟨rfl,rfl⟩))
  (λos started H enc _ F=>by rw[OpenClaim.pre_eq_preRow];exact zfb os started H enc F)
theorem zfJ (f : FuncId) (fn : Func) (hf : Tryz.pinned.checked.prog.funcNamed "seine/seinelaw20.ValidPrinted" = some f) (hfn : Tryz.pinned.checked.prog.funcs[f]? = some fn) :
  true=Tryz.pinned.checked.prog.looks []/\∀(j:Nat) t,fn.params[j]?=some t->Tryz.pinned.checked.prog.wantsStandIn t=false:=by
 obtain rfl : f = 3 := Option.some.inj ((show Tryz.prog.funcNamed "seine/seinelaw20.ValidPrinted" = some 3 by kernel_rfl).symm.trans hf) |>.symm
 obtain rfl:fn=Tryz.f3:=(Option.some.inj (Tryz.func3.symm.trans hfn)).symm
 refine⟨by kernel_rfl,λj t ht=>?_⟩
 rw[Tryz.params3]at ht
 have hm:=Array.mem_of_getElem? ht
 simp only[List.mem_toArray,List.mem_cons,List.not_mem_nil,or_false]at hm
 rcases hm with rfl|rfl<;>exact(show Tryz.prog.wantsStandIn _=false by kernel_rfl)
def zgI:Tryz.pinned.checked.prog.mainIs=some (Rows.validPrintedUptoCard.stood.harness.1,Rows.validPrintedUptoCard.stood.harness.2.toList):=by kernel_rfl
def zgP:false=Rows.validPrintedUptoRow.goesBy Tryz.pinned.checked.prog:=by kernel_rfl
theorem ValidPrinted_card:Rows.ValidPrintedUptoCardSaid :=Claim7.holds_tied_plain_at .later [] _ _ _ _ zgN (λ_ h=>by cases h) (by kernel_rfl) (λ_ h=>by cases h) validPrintedUpto_row_tie rfl ⟨rfl,rfl⟩ zgI rfl zfJ zgP
end Go.Proofs.YtnemcnegfkjpeaaGreatDoor
