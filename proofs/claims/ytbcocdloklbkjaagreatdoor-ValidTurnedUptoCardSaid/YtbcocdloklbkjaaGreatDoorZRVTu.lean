import Derived.Test.YtbcocdloklbkjaaGreatDoorM1
import Derived.Test.YtbcocdloklbkjaaGreatDoorM2
import Derived.Test.YtbcocdloklbkjaaGreatDoorM3
import Derived.Test.YtbcocdloklbkjaaGreatDoorM4
import Derived.Test.YtbcocdloklbkjaaGreatDoorM5
import Derived.Test.YtbcocdloklbkjaaGreatDoorM6
import Derived.Test.YtbcocdloklbkjaaGreatDoorM7
import Derived.Test.YtbcocdloklbkjaaGreatDoorM8
import Derived.Test.YtbcocdloklbkjaaGreatDoorM9
import Derived.Test.YtbcocdloklbkjaaGreatDoorM10
import Derived.Test.YtbcocdloklbkjaaGreatDoorM11
set_option maxRecDepth 100000
set_option linter.all false
namespace Go.Proofs.YtbcocdloklbkjaaGreatDoor
open Go.Ab Go.Lib
open Go.ChangeShapes Go.WideShapes Go.ChangeAt Go.RowKit Go.WideElems
theorem zl7:∀ l,bSs l=(l.map bS).sum
 | []=>rfl
 | v::r=>by simp[bSs,zl7 r]
theorem zvA:∀ m,zH Tryz.prog m 106 2 cD wfD bD
 | 0=>zH.zero
 | k+1=>zH.struct (zA.cons (by kernel_rfl) (zH.str Tryz.underlying9) (zA.cons (by kernel_rfl) (zpy k) zA.nil))
   (by kernel_rfl) (by kernel_rfl) cD wfD bD (fun x=>⟨x.1,x.2.1⟩) (fun a=>rfl) (fun a h=>h.2.1) (fun a=>by simp only[bD];omega)
theorem zmf:∀ m,zH Tryz.prog m 36 1 (fun l:List DirD=>[.sl .no 2 (cDs l)]) zkY (fun l=>bDs l+1)
 | 0=>zH.zero
 | m+1=>by
  intro enc W cs d ps h1 h2
  obtain⟨a,h3,h4,h5,h6⟩:=zH.slice (t:=36) Tryz.underlying36 (B:=40) (sz:=2) (by kernel_rfl) (by kernel_rfl) (by decide) (zvA m) enc W cs d ps h1 h2
  exact⟨a,h3.2.2,by simp only[bDs];exact h4,h5,by simp only[cDs];exact h6⟩
theorem zoM {m:Nat} (h:zH Tryz.prog m 50 7 cS wfS bS):zH Tryz.prog (m+1) 37 1 (fun l:List SelD=>[.sl .no 7 (cSs l)]) zhk (fun l=>bSs l+1):=by
 intro H enc W cs d ps h1 h2
 obtain⟨a,h3,h4,h5,h6⟩:=zH.slice (t:=37) Tryz.underlying37 (B:=128) (sz:=7) (by kernel_rfl) (by kernel_rfl) (by decide) h enc W cs d ps h1 h2
 exact⟨a,zkx h3.2.2,by simp only[zl7];exact h4,h5,by simp only[zdk];exact h6⟩
theorem zvz:∀ m,zH Tryz.prog m 50 7 cS wfS bS:=by
 intro m
 induction m using Nat.strongRecOn with
 | _ m ih =>
  cases m with
  | zero=>exact zH.zero
  | succ k =>
   have hs:zH Tryz.prog k 37 1 (fun l:List SelD=>[.sl .no 7 (cSs l)]) zhk (fun l=>bSs l+1):=by
    cases k with
    | zero=>exact zH.zero
    | succ k=>exact zoM (ih k (by omega))
   intro H
   exact zH.struct (zA.cons (by kernel_rfl) (zH.int (k:=.i64) Tryz.underlying3) (zA.cons (by kernel_rfl) (zH.str Tryz.underlying9) (zA.cons (by kernel_rfl) (zH.str Tryz.underlying9) (zA.cons (by kernel_rfl) (zpy k) (zA.cons (by kernel_rfl) (zmf k) (zA.cons (by kernel_rfl) (zH.str Tryz.underlying9) (zA.cons (by kernel_rfl) hs zA.nil)))))))
    (by kernel_rfl) (by kernel_rfl) cS wfS bS (fun x=>.mk x.1 x.2.1 x.2.2.1 x.2.2.2.1 x.2.2.2.2.1 x.2.2.2.2.2.1 x.2.2.2.2.2.2.1) (fun a=>rfl) (fun a h=>⟨h.2.2.2.1,h.2.2.2.2.1,h.2.2.2.2.2.2.1⟩) (fun a=>by simp only[bS];omega)
theorem zsE:∀ m,zH Tryz.prog m 37 1 (fun l:List SelD=>[.sl .no 7 (cSs l)]) zhk (fun l=>bSs l+1)
 | 0=>zH.zero
 | m+1=>zoM (zvz m)
def bTy (t:TyD):Nat:=t.nm.length
theorem zp9:∀ m,zH Tryz.prog m 63 3 cTy (fun t=>inR t.lists∧inR t.musts) bTy
 | 0=>zH.zero
 | k+1=>zH.struct (zA.cons (by kernel_rfl) (zH.str Tryz.underlying9) (zA.cons (by kernel_rfl) (zH.int (k:=.i64) Tryz.underlying3) (zA.cons (by kernel_rfl) (zH.int (k:=.i64) Tryz.underlying3) zA.nil)))
   (by kernel_rfl) (by kernel_rfl) cTy (fun t=>inR t.lists∧inR t.musts) bTy (fun x=>⟨x.1,x.2.1,x.2.2.1⟩) (fun a=>rfl) (fun a h=>⟨zlo h.2.1,zlo h.2.2.1⟩) (fun a=>by simp only[bTy];omega)
theorem zvM:∀ m,zH Tryz.prog m 73 10 cW wfW bW
 | 0=>zH.zero
 | k+1=>zH.struct (zA.cons (by kernel_rfl) (zH.str Tryz.underlying9) (zA.cons (by kernel_rfl) (zp9 k) (zA.cons (by kernel_rfl) (zH.bool Tryz.underlying4) (zA.cons (by kernel_rfl) (zsy k) zA.nil))))
   (by kernel_rfl) (by kernel_rfl) cW wfW bW (fun x=>⟨x.1,x.2.1,x.2.2.1,x.2.2.2.1⟩) (fun a=>by simp[zdf,cTy]) (fun a h=>⟨h.2.1.1,h.2.1.2,h.2.2.2.1⟩) (fun a=>by simp only[bW,bTy];omega)
theorem zuC:∀ m,zH Tryz.prog m 35 1 (fun l:List VarD=>[.sl .no 10 (cWs l)]) (fun l=>∀ x∈l,wfW x) (fun l=>bWs l+1)
 | 0=>zH.zero
 | m+1=>by
  intro enc W cs d ps h1 h2
  obtain⟨a,h3,h4,h5,h6⟩:=zH.slice (t:=35) Tryz.underlying35 (B:=136) (sz:=10) (by kernel_rfl) (by kernel_rfl) (by decide) (zvM m) enc W cs d ps h1 h2
  exact⟨a,h3.2.2,by simp only[bWs];exact h4,h5,by simp only[cWs];exact h6⟩
theorem zvU:∀ m,zH Tryz.prog m 39 5 cO wfO bO
 | 0=>zH.zero
 | k+1=>zH.struct (zA.cons (by kernel_rfl) (zH.int (k:=.i64) Tryz.underlying3) (zA.cons (by kernel_rfl) (zH.str Tryz.underlying9) (zA.cons (by kernel_rfl) (zuC k) (zA.cons (by kernel_rfl) (zmf k) (zA.cons (by kernel_rfl) (zsE k) zA.nil)))))
   (by kernel_rfl) (by kernel_rfl) cO wfO bO (fun x=>⟨x.1,x.2.1,x.2.2.1,x.2.2.2.1,x.2.2.2.2.1⟩) (fun a=>rfl) (fun a h=>⟨h.2.2.1,h.2.2.2.1,h.2.2.2.2.1⟩) (fun a=>by simp only[bO];omega)
theorem zvC:∀ m,zH Tryz.prog m 44 4 cF wfF bF
 | 0=>zH.zero
 | k+1=>zH.struct (zA.cons (by kernel_rfl) (zH.str Tryz.underlying9) (zA.cons (by kernel_rfl) (zH.str Tryz.underlying9) (zA.cons (by kernel_rfl) (zmf k) (zA.cons (by kernel_rfl) (zsE k) zA.nil))))
   (by kernel_rfl) (by kernel_rfl) cF wfF bF (fun x=>⟨x.1,x.2.1,x.2.2.1,x.2.2.2.1⟩) (fun a=>rfl) (fun a h=>⟨h.2.2.1,h.2.2.2.1⟩) (fun a=>by simp only[bF];omega)
theorem zu7:∀ m,zH Tryz.prog m 25 1 (fun l:List OpD=>[.sl .no 5 (cOs l)]) (fun l=>∀ x∈l,wfO x) (fun l=>bOs l+1)
 | 0=>zH.zero
 | m+1=>by
  intro enc W cs d ps h1 h2
  obtain⟨a,h3,h4,h5,h6⟩:=zH.slice (t:=25) Tryz.underlying25 (B:=96) (sz:=5) (by kernel_rfl) (by kernel_rfl) (by decide) (zvU m) enc W cs d ps h1 h2
  exact⟨a,h3.2.2,by simp only[bOs];exact h4,h5,by simp only[cOs];exact h6⟩
theorem zuK:∀ m,zH Tryz.prog m 26 1 (fun l:List FragD=>[.sl .no 4 (cFs l)]) (fun l=>∀ x∈l,wfF x) (fun l=>bFs l+1)
 | 0=>zH.zero
 | m+1=>by
  intro enc W cs d ps h1 h2
  obtain⟨a,h3,h4,h5,h6⟩:=zH.slice (t:=26) Tryz.underlying26 (B:=80) (sz:=4) (by kernel_rfl) (by kernel_rfl) (by decide) (zvC m) enc W cs d ps h1 h2
  exact⟨a,h3.2.2,by simp only[bFs];exact h4,h5,by simp only[cFs];exact h6⟩
theorem zq8:∀ m,zH Tryz.prog m 28 2 zT zdF zv
 | 0=>zH.zero
 | k+1=>zH.struct (zA.cons (by kernel_rfl) (zu7 k) (zA.cons (by kernel_rfl) (zuK k) zA.nil))
   (by kernel_rfl) (by kernel_rfl) zT zdF zv (fun x=>⟨x.1,x.2.1⟩) (fun a=>rfl) (fun a h=>⟨h.1,h.2.1⟩) (fun a=>by simp only[zv];omega)
def ztY (l:List (List UInt8)):Nat:=(l.map fun s=>s.length+1).sum
theorem zon (m:Nat):zH Tryz.prog m 40 1 (fun l:List (List UInt8)=>[.sl .no 1 (cT l)]) (fun _=>True) (fun l=>ztY l+1):=by
 cases m with
 | zero=>exact zH.zero
 | succ m =>
  intro H enc W cs d ps h1 h2
  obtain⟨a,h3,h4,h5,h6⟩:=zH.slice (t:=40) Tryz.underlying40 (B:=16) (sz:=1) (by kernel_rfl) (by kernel_rfl) (by decide) (zH.str Tryz.underlying9) enc W cs d ps h1 h2
  exact⟨a,trivial,h4,h5,h6⟩
theorem ztv (l:List (List UInt8)):bT l=ztY l:=by unfold bT ztY;congr 1;exact List.map_congr_left fun x _=>Nat.add_comm _ _
theorem zuS:∀ m,zH Tryz.prog m 110 10 cW wfW bW
 | 0=>zH.zero
 | k+1=>zH.struct (zA.cons (by kernel_rfl) (zH.str Tryz.underlying9) (zA.cons (by kernel_rfl) (zp9 k) (zA.cons (by kernel_rfl) (zH.bool Tryz.underlying4) (zA.cons (by kernel_rfl) (zsy k) zA.nil))))
   (by kernel_rfl) (by kernel_rfl) cW wfW bW (fun x=>⟨x.1,x.2.1,x.2.2.1,x.2.2.2.1⟩) (fun a=>by simp[zdf,cTy]) (fun a h=>⟨h.2.1.1,h.2.1.2,h.2.2.2.1⟩) (fun a=>by simp only[bW,bTy];omega)
theorem zpz:∀ m,zH Tryz.prog m 57 1 (fun l:List VarD=>[.sl .no 10 (cWs l)]) (fun l=>∀ x∈l,wfW x) (fun l=>bWs l+1)
 | 0=>zH.zero
 | m+1=>by
  intro enc W cs d ps h1 h2
  obtain⟨a,h3,h4,h5,h6⟩:=zH.slice (t:=57) Tryz.underlying57 (B:=136) (sz:=10) (by kernel_rfl) (by kernel_rfl) (by decide) (zuS m) enc W cs d ps h1 h2
  exact⟨a,h3.2.2,by simp only[bWs];exact h4,h5,by simp only[cWs];exact h6⟩
theorem zvL:∀ m,zH Tryz.prog m 65 6 cL wfL bL
 | 0=>zH.zero
 | k+1=>zH.struct (zA.cons (by kernel_rfl) (zH.str Tryz.underlying9) (zA.cons (by kernel_rfl) (zpz k) (zA.cons (by kernel_rfl) (zp9 k) (zA.cons (by kernel_rfl) (zmf k) zA.nil))))
   (by kernel_rfl) (by kernel_rfl) cL wfL bL (fun x=>⟨x.1,x.2.1,x.2.2.1,x.2.2.2.1⟩) (fun a=>by simp[cL,cTy]) (fun a h=>⟨h.2.1,h.2.2.1.1,h.2.2.1.2,h.2.2.2.1⟩) (fun a=>by simp only[bL,bTy];omega)
theorem zvj:∀ m,zH Tryz.prog m 56 1 (fun l:List FldD=>[.sl .no 6 (cLs l)]) (fun l=>∀ x∈l,wfL x) (fun l=>bLs l+1)
 | 0=>zH.zero
 | m+1=>by
  intro enc W cs d ps h1 h2
  obtain⟨a,h3,h4,h5,h6⟩:=zH.slice (t:=56) Tryz.underlying56 (B:=96) (sz:=6) (by kernel_rfl) (by kernel_rfl) (by decide) (zvL m) enc W cs d ps h1 h2
  exact⟨a,h3.2.2,by simp only[bLs];exact h4,h5,by simp only[cLs];exact h6⟩
theorem zvP:∀ m,zH Tryz.prog m 59 6 cE wfE bE
 | 0=>zH.zero
 | k+1=>zH.struct (zA.cons (by kernel_rfl) (zH.int (k:=.i64) Tryz.underlying3) (zA.cons (by kernel_rfl) (zH.str Tryz.underlying9) (zA.cons (by kernel_rfl) (zon k) (zA.cons (by kernel_rfl) (zvj k) (zA.cons (by kernel_rfl) (zon k) (zA.cons (by kernel_rfl) (zpz k) zA.nil))))))
   (by kernel_rfl) (by kernel_rfl) cE wfE bE (fun x=>⟨x.1,x.2.1,x.2.2.1,x.2.2.2.1,x.2.2.2.2.1,x.2.2.2.2.2.1⟩) (fun a=>rfl) (fun a h=>⟨h.2.2.2.1,h.2.2.2.2.2.1⟩) (fun a=>by simp only[bE,ztv];omega)
theorem zuU:∀ m,zH Tryz.prog m 22 1 (fun l:List DefD=>[.sl .no 6 (cEs l)]) (fun l=>∀ x∈l,wfE x) (fun l=>bEs l+1)
 | 0=>zH.zero
 | m+1=>by
  intro enc W cs d ps h1 h2
  obtain⟨a,h3,h4,h5,h6⟩:=zH.slice (t:=22) Tryz.underlying22 (B:=120) (sz:=6) (by kernel_rfl) (by kernel_rfl) (by decide) (zvP m) enc W cs d ps h1 h2
  exact⟨a,h3.2.2,by simp only[bEs];exact h4,h5,by simp only[cEs];exact h6⟩
theorem zq1:∀ m,zH Tryz.prog m 24 3 zq zcA zJ
 | 0=>zH.zero
 | k+1=>zH.struct (zA.cons (by kernel_rfl) (zuU k) (zA.cons (by kernel_rfl) (zH.str Tryz.underlying9) (zA.cons (by kernel_rfl) (zH.str Tryz.underlying9) zA.nil)))
   (by kernel_rfl) (by kernel_rfl) zq zcA zJ (fun x=>⟨x.1,x.2.1,x.2.2.1⟩) (fun a=>rfl) (fun a h=>h.1) (fun a=>by simp only[zJ];omega)
theorem zc1 (H:Type) (enc:TypeId×Value→H) (W:World) (base:Nat) (args:Array Value) (ds gs:List (DataW H)) (before:List MemPlace)
  (hval:∀(j:Nat) t v,Tryz.f4.params[j]?=some t→args[j]?=some v→Value.okWide Tryz.prog W .any base t v)
  (hW:DataW.Whole enc Tryz.prog Tryz.f4.params.toList Rows.validTurnedSpec.vars false W args.toList ds gs before) (hc:Yk (ds++gs)≤1048576)
  (hz:(DataW.weightsEach Tryz.prog (Tryz.f4.params.toList++(Rows.OpenSpec.upto Rows.validTurnedSpec).bare.plain.varTypes Tryz.prog) (ds++gs)).all (·≤reachBytes)=true)
  (hL:laidMetH Tryz.prog zj9 W) (hS:W.ShapedOpen Tryz.prog) :
  Calls Tryz.prog 4 args W fun e W'=>∃ v,e=.returned v∧Rows.validTurnedSpec.post enc Tryz.prog Tryz.f4 false true false false W args v W':=by
 have hW':=hW
 obtain⟨p,q,hA0,hV,rfl,hfz,hnd⟩:=hW
 have hA:DataW.TrodAll enc Tryz.prog W 0 (fun _=>true) true Tryz.f4.params.toList args.toList ds p:=hA0
 obtain⟨rfl,rfl⟩:=trodVars_none hV
 rw[Tryz.params4] at hA hval hz
 obtain⟨v0,vs0,d0,ds0,p0,q0,hargs,rfl,rfl,h0,hA⟩:=trodAll_cons hA
 obtain⟨v1,vs1,d1,ds1,p1,q1,rfl,rfl,rfl,h1,hA⟩:=trodAll_cons hA
 obtain⟨v2,vs2,d2,ds2,p2,q2,rfl,rfl,rfl,h2,hA⟩:=trodAll_cons hA
 obtain⟨rfl,rfl,rfl⟩:=trodAll_nil hA
 obtain rfl:args=#[v0,v1,v2]:=by cases args;simp_all
 obtain⟨c0,rfl⟩:=zoj Tryz.underlying24 (hval 0 24 v0 rfl rfl)
 obtain⟨a0,ok0,b0,g0⟩:=zH.argS (P:=Tryz.prog) (f:=zq) (zq1) h0 (sized hz (j:=0) rfl rfl)
 obtain⟨c1,rfl⟩:=zoj Tryz.underlying28 (hval 1 28 v1 rfl rfl)
 obtain⟨a1,ok1,b1,g1⟩:=zH.argS (P:=Tryz.prog) (f:=zT) (zq8) h1 (sized hz (j:=1) rfl rfl)
 obtain⟨a2,ok2,b2,g2⟩:=zH.arg (P:=Tryz.prog) (f:=fun n=>.int .i64 n) (fun m=>zH.int (k:=.i64) Tryz.underlying3) h2 (sized hz (j:=2) rfl rfl) (znQ Tryz.underlying3 (hval 2 3 v2 rfl rfl))
 simp only[List.append_nil,Yk] at hc
 refine zi0 (P:=Tryz.prog) (fn:=Tryz.f4) (tb:=4) laidOut rfl ?_ (by kernel_rfl) Tryz.underlying4 hW' rfl (zqR hL hS) (yn.cons g0 (yn.cons g1 (yn.cons g2 yn.nil))) (zi7 a0 a1 a2 ok0 ok1 (by omega) (by omega))
 rw[Tryz.params4]
 intro t ht
 simp only[List.mem_cons,List.not_mem_nil,or_false] at ht
 rcases ht with rfl|rfl|rfl<;>exact⟨by kernel_rfl,by decide +kernel⟩
theorem zel (os:Os) {H:Type} (enc:TypeId×Value→H):∃ places,DataW.whole enc Tryz.prog ((laidWorld os).forCall (fun _ _=>0) ⟨#[],#[.agg #[.slice none 0 0,.string ⟨#[]⟩,.string ⟨#[]⟩],.agg #[.slice none 0 0,.slice none 0 0],.int .i64 0],[]⟩).memory Tryz.f4.params.toList Rows.validTurnedSpec.vars false #[.agg #[.slice none 0 0,.string ⟨#[]⟩,.string ⟨#[]⟩],.agg #[.slice none 0 0,.slice none 0 0],.int .i64 0].toList 8=some ([.agg [.nil,.lit (.string []),.lit (.string [])],.agg [.nil,.nil],.lit (.int .i64 0)],[],places) :=
 ⟨[],by kernel_rfl⟩
theorem zd2 (os:Os) (started:os.Started) (H:Type) (enc:TypeId×Value→H) (F:Stop.Interp) :
  ReturnsInHanded {} Tryz.checked os 4 .any ((Rows.OpenSpec.upto Rows.validTurnedSpec).preRow enc Tryz.prog Tryz.f4 Rows.validTurnedUptoRow.domain false Rows.validTurnedUptoRow.laid) (((Rows.OpenSpec.upto Rows.validTurnedSpec).at F).post enc Tryz.prog Tryz.f4 false true false false):=by
 obtain⟨places,hx⟩:=zel os enc
 refine returnsInHanded_of_row (C:=Tryz.checked) (s:=Rows.OpenSpec.upto Rows.validTurnedSpec) own started (by kernel_rfl) Tryz.func4
  (witness_row_atRef (enc:=enc) (C:=Tryz.checked) false (laidWorld os) #[.agg #[.slice none 0 0,.string ⟨#[]⟩,.string ⟨#[]⟩],.agg #[.slice none 0 0,.slice none 0 0],.int .i64 0] rfl (by kernel_rfl) (by kernel_rfl) (by kernel_rfl)
   (OpenSpec.preRow_of_cond 8 hx (by kernel_rfl) (fun k hk=>by cases hk;kernel_rfl) (by kernel_rfl) (laid_met os _))) ?_
 intro W base args ds gs before hval hW _ hcond hz hL hS _
 exact zc1 H enc W base args ds gs before hval hW (znG hcond) hz hL hS
theorem zev:zlI Tryz.pinned.checked.prog 4 Tryz.f4 (Rows.OpenSpec.upto Rows.validTurnedSpec).bare Rows.validTurnedUptoRow=true:=by kernel_rfl
theorem zeh:zlJ Tryz.pinned.checked.prog 4 Tryz.f4 (Rows.OpenSpec.upto Rows.validTurnedSpec).bare Rows.validTurnedUptoRow=true:=by kernel_rfl
theorem zeP:zk9 Tryz.pinned.checked.prog 4 Tryz.f4 (Rows.OpenSpec.upto Rows.validTurnedSpec).bare Rows.validTurnedUptoRow=true:=by kernel_rfl
theorem ze2:zk5 Tryz.pinned.checked.prog 4 Tryz.f4 (Rows.OpenSpec.upto Rows.validTurnedSpec).bare Rows.validTurnedUptoRow=true:=by kernel_rfl
theorem ze8:zly Tryz.pinned.checked.prog 4 Tryz.f4 (Rows.OpenSpec.upto Rows.validTurnedSpec).bare Rows.validTurnedUptoRow=true:=by kernel_rfl
theorem ze5:zlK Tryz.pinned.checked.prog 4 Tryz.f4 (Rows.OpenSpec.upto Rows.validTurnedSpec).bare Rows.validTurnedUptoRow=true:=by kernel_rfl
theorem zej:zlv Tryz.pinned.checked.prog 4 Tryz.f4 (Rows.OpenSpec.upto Rows.validTurnedSpec).bare Rows.validTurnedUptoRow=true:=by kernel_rfl
theorem zfB:Rows.ValidTurnedUptoSaid :=
 OpenClaim.holds_of_cond 4 Tryz.f4 rfl rfl rfl rfl rfl rfl rfl ⟨rfl,rfl,rfl,rfl,rfl⟩ rfl rfl rfl rfl rfl (by kernel_rfl) Tryz.func4 (zng zev zeh zeP ze2 ze8 ze5 zej)
  (of_decide_eq_true (by kernel_rfl)) (by unfold Func.isWrapper;first|(rw[if_pos (by decide +kernel)];kernel_rfl)|(rw[if_neg (by decide +kernel)];exact⟨rfl,rfl⟩))
  (fun os started H enc _ F=>by rw[OpenClaim.pre_eq_preRow];exact zd2 os started H enc F)
theorem zeX (f : FuncId) (fn : Func) (hf : Tryz.pinned.checked.prog.funcNamed "seine/seinelaw20.ValidTurned" = some f) (hfn : Tryz.pinned.checked.prog.funcs[f]? = some fn) :
  true=Tryz.pinned.checked.prog.looks []∧∀(j:Nat) t,fn.params[j]?=some t→Tryz.pinned.checked.prog.wantsStandIn t=false:=by
 obtain rfl : f = 4 := Option.some.inj ((show Tryz.prog.funcNamed "seine/seinelaw20.ValidTurned" = some 4 by kernel_rfl).symm.trans hf) |>.symm
 obtain rfl:fn=Tryz.f4:=(Option.some.inj (Tryz.func4.symm.trans hfn)).symm
 refine⟨by kernel_rfl,fun j t ht=>?_⟩
 rw[Tryz.params4] at ht
 have hm:=Array.mem_of_getElem? ht
 simp only[List.mem_toArray,List.mem_cons,List.not_mem_nil,or_false] at hm
 rcases hm with rfl|rfl|rfl<;>exact(show Tryz.prog.wantsStandIn _=false by kernel_rfl)
theorem zff:Tryz.pinned.checked.prog.mainIs=some (Rows.validTurnedUptoCard.stood.harness.1,Rows.validTurnedUptoCard.stood.harness.2.toList):=by kernel_rfl
theorem zfv:false=Rows.validTurnedUptoRow.goesBy Tryz.pinned.checked.prog:=by kernel_rfl
theorem ValidTurned_card:Rows.ValidTurnedUptoCardSaid :=
 Claim7.holds_tied_plain_at .later [] _ _ _ _ zfB (fun _ h=>by cases h) (by kernel_rfl) (fun _ h=>by cases h) validTurnedUpto_row_tie rfl ⟨rfl,rfl⟩ zff rfl zeX zfv
end Go.Proofs.YtbcocdloklbkjaaGreatDoor
