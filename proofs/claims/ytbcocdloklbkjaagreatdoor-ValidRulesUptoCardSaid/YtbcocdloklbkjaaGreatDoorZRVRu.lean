import Derived.Test.YtbcocdloklbkjaaGreatDoorM1
import Derived.Test.YtbcocdloklbkjaaGreatDoorM2
import Derived.Test.YtbcocdloklbkjaaGreatDoorM3
import Derived.Test.YtbcocdloklbkjaaGreatDoorM4
import Derived.Test.YtbcocdloklbkjaaGreatDoorM5
import Derived.Test.YtbcocdloklbkjaaGreatDoorM6
import Derived.Test.YtbcocdloklbkjaaGreatDoorM7
import Derived.Test.YtbcocdloklbkjaaGreatDoorM8
import Derived.Test.YtbcocdloklbkjaaGreatDoorM9
import Derived.Test.YtbcocdloklbkjaaGreatDoorM10
import Derived.Test.YtbcocdloklbkjaaGreatDoorM11
set_option maxRecDepth 100000
set_option linter.all false
namespace Go.Proofs.YtbcocdloklbkjaaGreatDoor
open Go.Ab Go.Lib
open Go.ChangeShapes Go.WideShapes Go.ChangeAt Go.RowKit Go.WideElems
theorem zml:∀ l,bSs l=(l.map bS).sum
 | []=>rfl
 | v::r=>by simp[bSs,zml r]
theorem zuw:∀ m,zJ Tryz.prog m 106 2 cD wfD bD
 | 0=>zJ.zero
 | k+1=>zJ.struct (zD.cons (by kernel_rfl) (zJ.str Tryz.underlying9) (zD.cons (by kernel_rfl) (zov k) zD.nil))
   (by kernel_rfl) (by kernel_rfl) cD wfD bD (fun x=>⟨x.1,x.2.1⟩) (fun a=>rfl) (fun a h=>h.2.1) (fun a=>by simp only[bD];omega)
theorem zl2:∀ m,zJ Tryz.prog m 36 1 (fun l:List DirD=>[.sl .no 2 (cDs l)]) zk1 (fun l=>bDs l+1)
 | 0=>zJ.zero
 | m+1=>by
  intro enc W cs d ps h1 h2
  obtain⟨a,h3,h4,h5,h6⟩:=zJ.slice (t:=36) Tryz.underlying36 (B:=40) (sz:=2) (by kernel_rfl) (by kernel_rfl) (by decide) (zuw m) enc W cs d ps h1 h2
  exact⟨a,h3.2.2,by simp only[bDs];exact h4,h5,by simp only[cDs];exact h6⟩
theorem zoj {m:Nat} (h:zJ Tryz.prog m 50 7 cS wfS bS):zJ Tryz.prog (m+1) 37 1 (fun l:List SelD=>[.sl .no 7 (cSs l)]) zgt (fun l=>bSs l+1):=by
 intro H enc W cs d ps h1 h2
 obtain⟨a,h3,h4,h5,h6⟩:=zJ.slice (t:=37) Tryz.underlying37 (B:=128) (sz:=7) (by kernel_rfl) (by kernel_rfl) (by decide) h enc W cs d ps h1 h2
 exact⟨a,zjT h3.2.2,by simp only[zml];exact h4,h5,by simp only[zd7];exact h6⟩
theorem zus:∀ m,zJ Tryz.prog m 50 7 cS wfS bS:=by
 intro m
 induction m using Nat.strongRecOn with
 | _ m ih =>
  cases m with
  | zero=>exact zJ.zero
  | succ k =>
   have hs:zJ Tryz.prog k 37 1 (fun l:List SelD=>[.sl .no 7 (cSs l)]) zgt (fun l=>bSs l+1):=by
    cases k with
    | zero=>exact zJ.zero
    | succ k=>exact zoj (ih k (by omega))
   intro H
   exact zJ.struct (zD.cons (by kernel_rfl) (zJ.int (k:=.i64) Tryz.underlying3) (zD.cons (by kernel_rfl) (zJ.str Tryz.underlying9) (zD.cons (by kernel_rfl) (zJ.str Tryz.underlying9) (zD.cons (by kernel_rfl) (zov k) (zD.cons (by kernel_rfl) (zl2 k) (zD.cons (by kernel_rfl) (zJ.str Tryz.underlying9) (zD.cons (by kernel_rfl) hs zD.nil)))))))
    (by kernel_rfl) (by kernel_rfl) cS wfS bS (fun x=>.mk x.1 x.2.1 x.2.2.1 x.2.2.2.1 x.2.2.2.2.1 x.2.2.2.2.2.1 x.2.2.2.2.2.2.1) (fun a=>rfl) (fun a h=>⟨h.2.2.2.1,h.2.2.2.2.1,h.2.2.2.2.2.2.1⟩) (fun a=>by simp only[bS];omega)
theorem zrg:∀ m,zJ Tryz.prog m 37 1 (fun l:List SelD=>[.sl .no 7 (cSs l)]) zgt (fun l=>bSs l+1)
 | 0=>zJ.zero
 | m+1=>zoj (zus m)
def bTy (t:TyD):Nat:=t.nm.length
theorem zn4:∀ m,zJ Tryz.prog m 63 3 cTy (fun t=>inR t.lists∧inR t.musts) bTy
 | 0=>zJ.zero
 | k+1=>zJ.struct (zD.cons (by kernel_rfl) (zJ.str Tryz.underlying9) (zD.cons (by kernel_rfl) (zJ.int (k:=.i64) Tryz.underlying3) (zD.cons (by kernel_rfl) (zJ.int (k:=.i64) Tryz.underlying3) zD.nil)))
   (by kernel_rfl) (by kernel_rfl) cTy (fun t=>inR t.lists∧inR t.musts) bTy (fun x=>⟨x.1,x.2.1,x.2.2.1⟩) (fun a=>rfl) (fun a h=>⟨zk6 h.2.1,zk6 h.2.2.1⟩) (fun a=>by simp only[bTy];omega)
theorem zuK:∀ m,zJ Tryz.prog m 73 10 cW wfW bW
 | 0=>zJ.zero
 | k+1=>zJ.struct (zD.cons (by kernel_rfl) (zJ.str Tryz.underlying9) (zD.cons (by kernel_rfl) (zn4 k) (zD.cons (by kernel_rfl) (zJ.bool Tryz.underlying4) (zD.cons (by kernel_rfl) (zry k) zD.nil))))
   (by kernel_rfl) (by kernel_rfl) cW wfW bW (fun x=>⟨x.1,x.2.1,x.2.2.1,x.2.2.2.1⟩) (fun a=>by simp[zco,cTy]) (fun a h=>⟨h.2.1.1,h.2.1.2,h.2.2.2.1⟩) (fun a=>by simp only[bW,bTy];omega)
theorem zup:∀ m,zJ Tryz.prog m 35 1 (fun l:List VarD=>[.sl .no 10 (cWs l)]) (fun l=>∀ x∈l,wfW x) (fun l=>bWs l+1)
 | 0=>zJ.zero
 | m+1=>by
  intro enc W cs d ps h1 h2
  obtain⟨a,h3,h4,h5,h6⟩:=zJ.slice (t:=35) Tryz.underlying35 (B:=136) (sz:=10) (by kernel_rfl) (by kernel_rfl) (by decide) (zuK m) enc W cs d ps h1 h2
  exact⟨a,h3.2.2,by simp only[bWs];exact h4,h5,by simp only[cWs];exact h6⟩
theorem zuu:∀ m,zJ Tryz.prog m 39 5 cO wfO bO
 | 0=>zJ.zero
 | k+1=>zJ.struct (zD.cons (by kernel_rfl) (zJ.int (k:=.i64) Tryz.underlying3) (zD.cons (by kernel_rfl) (zJ.str Tryz.underlying9) (zD.cons (by kernel_rfl) (zup k) (zD.cons (by kernel_rfl) (zl2 k) (zD.cons (by kernel_rfl) (zrg k) zD.nil)))))
   (by kernel_rfl) (by kernel_rfl) cO wfO bO (fun x=>⟨x.1,x.2.1,x.2.2.1,x.2.2.2.1,x.2.2.2.2.1⟩) (fun a=>rfl) (fun a h=>⟨h.2.2.1,h.2.2.2.1,h.2.2.2.2.1⟩) (fun a=>by simp only[bO];omega)
theorem zuJ:∀ m,zJ Tryz.prog m 44 4 cF wfF bF
 | 0=>zJ.zero
 | k+1=>zJ.struct (zD.cons (by kernel_rfl) (zJ.str Tryz.underlying9) (zD.cons (by kernel_rfl) (zJ.str Tryz.underlying9) (zD.cons (by kernel_rfl) (zl2 k) (zD.cons (by kernel_rfl) (zrg k) zD.nil))))
   (by kernel_rfl) (by kernel_rfl) cF wfF bF (fun x=>⟨x.1,x.2.1,x.2.2.1,x.2.2.2.1⟩) (fun a=>rfl) (fun a h=>⟨h.2.2.1,h.2.2.2.1⟩) (fun a=>by simp only[bF];omega)
theorem ztC:∀ m,zJ Tryz.prog m 25 1 (fun l:List OpD=>[.sl .no 5 (cOs l)]) (fun l=>∀ x∈l,wfO x) (fun l=>bOs l+1)
 | 0=>zJ.zero
 | m+1=>by
  intro enc W cs d ps h1 h2
  obtain⟨a,h3,h4,h5,h6⟩:=zJ.slice (t:=25) Tryz.underlying25 (B:=96) (sz:=5) (by kernel_rfl) (by kernel_rfl) (by decide) (zuu m) enc W cs d ps h1 h2
  exact⟨a,h3.2.2,by simp only[bOs];exact h4,h5,by simp only[cOs];exact h6⟩
theorem ztt:∀ m,zJ Tryz.prog m 26 1 (fun l:List FragD=>[.sl .no 4 (cFs l)]) (fun l=>∀ x∈l,wfF x) (fun l=>bFs l+1)
 | 0=>zJ.zero
 | m+1=>by
  intro enc W cs d ps h1 h2
  obtain⟨a,h3,h4,h5,h6⟩:=zJ.slice (t:=26) Tryz.underlying26 (B:=80) (sz:=4) (by kernel_rfl) (by kernel_rfl) (by decide) (zuJ m) enc W cs d ps h1 h2
  exact⟨a,h3.2.2,by simp only[bFs];exact h4,h5,by simp only[cFs];exact h6⟩
theorem zp1:∀ m,zJ Tryz.prog m 28 2 zX zf2 zy
 | 0=>zJ.zero
 | k+1=>zJ.struct (zD.cons (by kernel_rfl) (ztC k) (zD.cons (by kernel_rfl) (ztt k) zD.nil))
   (by kernel_rfl) (by kernel_rfl) zX zf2 zy (fun x=>⟨x.1,x.2.1⟩) (fun a=>rfl) (fun a h=>⟨h.1,h.2.1⟩) (fun a=>by simp only[zy];omega)
def ztc (l:List (List UInt8)):Nat:=(l.map fun s=>s.length+1).sum
theorem znv (m:Nat):zJ Tryz.prog m 40 1 (fun l:List (List UInt8)=>[.sl .no 1 (cT l)]) (fun _=>True) (fun l=>ztc l+1):=by
 cases m with
 | zero=>exact zJ.zero
 | succ m =>
  intro H enc W cs d ps h1 h2
  obtain⟨a,h3,h4,h5,h6⟩:=zJ.slice (t:=40) Tryz.underlying40 (B:=16) (sz:=1) (by kernel_rfl) (by kernel_rfl) (by decide) (zJ.str Tryz.underlying9) enc W cs d ps h1 h2
  exact⟨a,trivial,h4,h5,h6⟩
theorem ztj (l:List (List UInt8)):bT l=ztc l:=by unfold bT ztc;congr 1;exact List.map_congr_left fun x _=>Nat.add_comm _ _
theorem ztP:∀ m,zJ Tryz.prog m 110 10 cW wfW bW
 | 0=>zJ.zero
 | k+1=>zJ.struct (zD.cons (by kernel_rfl) (zJ.str Tryz.underlying9) (zD.cons (by kernel_rfl) (zn4 k) (zD.cons (by kernel_rfl) (zJ.bool Tryz.underlying4) (zD.cons (by kernel_rfl) (zry k) zD.nil))))
   (by kernel_rfl) (by kernel_rfl) cW wfW bW (fun x=>⟨x.1,x.2.1,x.2.2.1,x.2.2.2.1⟩) (fun a=>by simp[zco,cTy]) (fun a h=>⟨h.2.1.1,h.2.1.2,h.2.2.2.1⟩) (fun a=>by simp only[bW,bTy];omega)
theorem zoM:∀ m,zJ Tryz.prog m 57 1 (fun l:List VarD=>[.sl .no 10 (cWs l)]) (fun l=>∀ x∈l,wfW x) (fun l=>bWs l+1)
 | 0=>zJ.zero
 | m+1=>by
  intro enc W cs d ps h1 h2
  obtain⟨a,h3,h4,h5,h6⟩:=zJ.slice (t:=57) Tryz.underlying57 (B:=136) (sz:=10) (by kernel_rfl) (by kernel_rfl) (by decide) (ztP m) enc W cs d ps h1 h2
  exact⟨a,h3.2.2,by simp only[bWs];exact h4,h5,by simp only[cWs];exact h6⟩
theorem zuF:∀ m,zJ Tryz.prog m 65 6 cL wfL bL
 | 0=>zJ.zero
 | k+1=>zJ.struct (zD.cons (by kernel_rfl) (zJ.str Tryz.underlying9) (zD.cons (by kernel_rfl) (zoM k) (zD.cons (by kernel_rfl) (zn4 k) (zD.cons (by kernel_rfl) (zl2 k) zD.nil))))
   (by kernel_rfl) (by kernel_rfl) cL wfL bL (fun x=>⟨x.1,x.2.1,x.2.2.1,x.2.2.2.1⟩) (fun a=>by simp[cL,cTy]) (fun a h=>⟨h.2.1,h.2.2.1.1,h.2.2.1.2,h.2.2.2.1⟩) (fun a=>by simp only[bL,bTy];omega)
theorem zt3:∀ m,zJ Tryz.prog m 56 1 (fun l:List FldD=>[.sl .no 6 (cLs l)]) (fun l=>∀ x∈l,wfL x) (fun l=>bLs l+1)
 | 0=>zJ.zero
 | m+1=>by
  intro enc W cs d ps h1 h2
  obtain⟨a,h3,h4,h5,h6⟩:=zJ.slice (t:=56) Tryz.underlying56 (B:=96) (sz:=6) (by kernel_rfl) (by kernel_rfl) (by decide) (zuF m) enc W cs d ps h1 h2
  exact⟨a,h3.2.2,by simp only[bLs];exact h4,h5,by simp only[cLs];exact h6⟩
theorem zut:∀ m,zJ Tryz.prog m 59 6 cE wfE bE
 | 0=>zJ.zero
 | k+1=>zJ.struct (zD.cons (by kernel_rfl) (zJ.int (k:=.i64) Tryz.underlying3) (zD.cons (by kernel_rfl) (zJ.str Tryz.underlying9) (zD.cons (by kernel_rfl) (znv k) (zD.cons (by kernel_rfl) (zt3 k) (zD.cons (by kernel_rfl) (znv k) (zD.cons (by kernel_rfl) (zoM k) zD.nil))))))
   (by kernel_rfl) (by kernel_rfl) cE wfE bE (fun x=>⟨x.1,x.2.1,x.2.2.1,x.2.2.2.1,x.2.2.2.2.1,x.2.2.2.2.2.1⟩) (fun a=>rfl) (fun a h=>⟨h.2.2.2.1,h.2.2.2.2.2.1⟩) (fun a=>by simp only[bE,ztj];omega)
theorem ztF:∀ m,zJ Tryz.prog m 22 1 (fun l:List DefD=>[.sl .no 6 (cEs l)]) (fun l=>∀ x∈l,wfE x) (fun l=>bEs l+1)
 | 0=>zJ.zero
 | m+1=>by
  intro enc W cs d ps h1 h2
  obtain⟨a,h3,h4,h5,h6⟩:=zJ.slice (t:=22) Tryz.underlying22 (B:=120) (sz:=6) (by kernel_rfl) (by kernel_rfl) (by decide) (zut m) enc W cs d ps h1 h2
  exact⟨a,h3.2.2,by simp only[bEs];exact h4,h5,by simp only[cEs];exact h6⟩
theorem zpN:∀ m,zJ Tryz.prog m 24 3 zr zcr zN
 | 0=>zJ.zero
 | k+1=>zJ.struct (zD.cons (by kernel_rfl) (ztF k) (zD.cons (by kernel_rfl) (zJ.str Tryz.underlying9) (zD.cons (by kernel_rfl) (zJ.str Tryz.underlying9) zD.nil)))
   (by kernel_rfl) (by kernel_rfl) zr zcr zN (fun x=>⟨x.1,x.2.1,x.2.2.1⟩) (fun a=>rfl) (fun a h=>h.1) (fun a=>by simp only[zN];omega)
theorem zdp (H:Type) (enc:TypeId×Value→H) (W:World) (base:Nat) (args:Array Value) (ds gs:List (DataW H)) (before:List MemPlace)
  (hval:∀(j:Nat) t v,Tryz.f3.params[j]?=some t→args[j]?=some v→Value.okWide Tryz.prog W .any base t v)
  (hW:DataW.Whole enc Tryz.prog Tryz.f3.params.toList Rows.validRulesSpec.vars false W args.toList ds gs before) (hc:Ye (ds++gs)≤1048576)
  (hz:(DataW.weightsEach Tryz.prog (Tryz.f3.params.toList++(Rows.OpenSpec.upto Rows.validRulesSpec).bare.plain.varTypes Tryz.prog) (ds++gs)).all (·≤reachBytes)=true)
  (hL:laidMetH Tryz.prog zjD W) (hS:W.ShapedOpen Tryz.prog) :
  Calls Tryz.prog 3 args W fun e W'=>∃ v,e=.returned v∧Rows.validRulesSpec.post enc Tryz.prog Tryz.f3 false true false false W args v W':=by
 have hW':=hW
 obtain⟨p,q,hA0,hV,rfl,hfz,hnd⟩:=hW
 have hA:DataW.TrodAll enc Tryz.prog W 0 (fun _=>true) true Tryz.f3.params.toList args.toList ds p:=hA0
 obtain⟨rfl,rfl⟩:=trodVars_none hV
 rw[Tryz.params3] at hA hval hz
 obtain⟨v0,vs0,d0,ds0,p0,q0,hargs,rfl,rfl,h0,hA⟩:=trodAll_cons hA
 obtain⟨v1,vs1,d1,ds1,p1,q1,rfl,rfl,rfl,h1,hA⟩:=trodAll_cons hA
 obtain⟨v2,vs2,d2,ds2,p2,q2,rfl,rfl,rfl,h2,hA⟩:=trodAll_cons hA
 obtain⟨rfl,rfl,rfl⟩:=trodAll_nil hA
 obtain rfl:args=#[v0,v1,v2]:=by cases args;simp_all
 obtain⟨c0,rfl⟩:=znL Tryz.underlying24 (hval 0 24 v0 rfl rfl)
 obtain⟨a0,ok0,b0,g0⟩:=zJ.argS (P:=Tryz.prog) (f:=zr) (zpN) h0 (sized hz (j:=0) rfl rfl)
 obtain⟨c1,rfl⟩:=znL Tryz.underlying28 (hval 1 28 v1 rfl rfl)
 obtain⟨a1,ok1,b1,g1⟩:=zJ.argS (P:=Tryz.prog) (f:=zX) (zp1) h1 (sized hz (j:=1) rfl rfl)
 obtain⟨a2,ok2,b2,g2⟩:=zJ.arg (P:=Tryz.prog) (f:=fun n=>.int .i64 n) (fun m=>zJ.int (k:=.i64) Tryz.underlying3) h2 (sized hz (j:=2) rfl rfl) (zm3 Tryz.underlying3 (hval 2 3 v2 rfl rfl))
 simp only[List.append_nil,Ye] at hc
 refine zh8 (P:=Tryz.prog) (fn:=Tryz.f3) (tb:=4) laidOut rfl ?_ (by kernel_rfl) Tryz.underlying4 hW' rfl (zpG hL hS) (zS.cons g0 (zS.cons g1 (zS.cons g2 zS.nil))) (zjV a0 a1 a2 ok0 ok1 (by omega) (by omega))
 rw[Tryz.params3]
 intro t ht
 simp only[List.mem_cons,List.not_mem_nil,or_false] at ht
 rcases ht with rfl|rfl|rfl<;>exact⟨by kernel_rfl,by decide +kernel⟩
theorem zeN (os:Os) {H:Type} (enc:TypeId×Value→H):∃ places,DataW.whole enc Tryz.prog ((laidWorld os).forCall (fun _ _=>0) ⟨#[],#[.agg #[.slice none 0 0,.string ⟨#[]⟩,.string ⟨#[]⟩],.agg #[.slice none 0 0,.slice none 0 0],.int .i64 0],[]⟩).memory Tryz.f3.params.toList Rows.validRulesSpec.vars false #[.agg #[.slice none 0 0,.string ⟨#[]⟩,.string ⟨#[]⟩],.agg #[.slice none 0 0,.slice none 0 0],.int .i64 0].toList 8=some ([.agg [.nil,.lit (.string []),.lit (.string [])],.agg [.nil,.nil],.lit (.int .i64 0)],[],places) :=
 ⟨[],by kernel_rfl⟩
theorem zdW (os:Os) (started:os.Started) (H:Type) (enc:TypeId×Value→H) (F:Stop.Interp) :
  ReturnsInHanded {} Tryz.checked os 3 .any ((Rows.OpenSpec.upto Rows.validRulesSpec).preRow enc Tryz.prog Tryz.f3 Rows.validRulesUptoRow.domain false Rows.validRulesUptoRow.laid) (((Rows.OpenSpec.upto Rows.validRulesSpec).at F).post enc Tryz.prog Tryz.f3 false true false false):=by
 obtain⟨places,hx⟩:=zeN os enc
 refine returnsInHanded_of_row (C:=Tryz.checked) (s:=Rows.OpenSpec.upto Rows.validRulesSpec) own started (by kernel_rfl) Tryz.func3
  (witness_row_atRef (enc:=enc) (C:=Tryz.checked) false (laidWorld os) #[.agg #[.slice none 0 0,.string ⟨#[]⟩,.string ⟨#[]⟩],.agg #[.slice none 0 0,.slice none 0 0],.int .i64 0] rfl (by kernel_rfl) (by kernel_rfl) (by kernel_rfl)
   (OpenSpec.preRow_of_cond 8 hx (by kernel_rfl) (fun k hk=>by cases hk;kernel_rfl) (by kernel_rfl) (laid_met os _))) ?_
 intro W base args ds gs before hval hW _ hcond hz hL hS _
 exact zdp H enc W base args ds gs before hval hW (zm7 hcond) hz hL hS
theorem ze1:zkI Tryz.pinned.checked.prog 3 Tryz.f3 (Rows.OpenSpec.upto Rows.validRulesSpec).bare Rows.validRulesUptoRow=true:=by kernel_rfl
theorem zez:zkR Tryz.pinned.checked.prog 3 Tryz.f3 (Rows.OpenSpec.upto Rows.validRulesSpec).bare Rows.validRulesUptoRow=true:=by kernel_rfl
theorem zeT:zkx Tryz.pinned.checked.prog 3 Tryz.f3 (Rows.OpenSpec.upto Rows.validRulesSpec).bare Rows.validRulesUptoRow=true:=by kernel_rfl
theorem zeC:zkB Tryz.pinned.checked.prog 3 Tryz.f3 (Rows.OpenSpec.upto Rows.validRulesSpec).bare Rows.validRulesUptoRow=true:=by kernel_rfl
theorem zeY:zkJ Tryz.pinned.checked.prog 3 Tryz.f3 (Rows.OpenSpec.upto Rows.validRulesSpec).bare Rows.validRulesUptoRow=true:=by kernel_rfl
theorem zeK:zkq Tryz.pinned.checked.prog 3 Tryz.f3 (Rows.OpenSpec.upto Rows.validRulesSpec).bare Rows.validRulesUptoRow=true:=by kernel_rfl
theorem zey:zkm Tryz.pinned.checked.prog 3 Tryz.f3 (Rows.OpenSpec.upto Rows.validRulesSpec).bare Rows.validRulesUptoRow=true:=by kernel_rfl
theorem zfv:Rows.ValidRulesUptoSaid :=
 OpenClaim.holds_of_cond 3 Tryz.f3 rfl rfl rfl rfl rfl rfl rfl ⟨rfl,rfl,rfl,rfl,rfl⟩ rfl rfl rfl rfl rfl (by kernel_rfl) Tryz.func3 (zmW ze1 zez zeT zeC zeY zeK zey)
  (of_decide_eq_true (by kernel_rfl)) (by unfold Func.isWrapper;first|(rw[if_pos (by decide +kernel)];kernel_rfl)|(rw[if_neg (by decide +kernel)];exact⟨rfl,rfl⟩))
  (fun os started H enc _ F=>by rw[OpenClaim.pre_eq_preRow];exact zdW os started H enc F)
theorem zeV (f : FuncId) (fn : Func) (hf : Tryz.pinned.checked.prog.funcNamed "seine/seinelaw20.ValidRules" = some f) (hfn : Tryz.pinned.checked.prog.funcs[f]? = some fn) :
  true=Tryz.pinned.checked.prog.looks []∧∀(j:Nat) t,fn.params[j]?=some t→Tryz.pinned.checked.prog.wantsStandIn t=false:=by
 obtain rfl : f = 3 := Option.some.inj ((show Tryz.prog.funcNamed "seine/seinelaw20.ValidRules" = some 3 by kernel_rfl).symm.trans hf) |>.symm
 obtain rfl:fn=Tryz.f3:=(Option.some.inj (Tryz.func3.symm.trans hfn)).symm
 refine⟨by kernel_rfl,fun j t ht=>?_⟩
 rw[Tryz.params3] at ht
 have hm:=Array.mem_of_getElem? ht
 simp only[List.mem_toArray,List.mem_cons,List.not_mem_nil,or_false] at hm
 rcases hm with rfl|rfl|rfl<;>exact(show Tryz.prog.wantsStandIn _=false by kernel_rfl)
theorem zfC:Tryz.pinned.checked.prog.mainIs=some (Rows.validRulesUptoCard.stood.harness.1,Rows.validRulesUptoCard.stood.harness.2.toList):=by kernel_rfl
theorem zfw:false=Rows.validRulesUptoRow.goesBy Tryz.pinned.checked.prog:=by kernel_rfl
theorem ValidRules_card:Rows.ValidRulesUptoCardSaid :=
 Claim7.holds_tied_plain_at .later [] _ _ _ _ zfv (fun _ h=>by cases h) (by kernel_rfl) (fun _ h=>by cases h) validRulesUpto_row_tie rfl ⟨rfl,rfl⟩ zfC rfl zeV zfw
end Go.Proofs.YtbcocdloklbkjaaGreatDoor
