import Derived.Test.YtbcocdloklbkjaaGreatDoorM1
import Derived.Test.YtbcocdloklbkjaaGreatDoorM2
import Derived.Test.YtbcocdloklbkjaaGreatDoorM3
import Derived.Test.YtbcocdloklbkjaaGreatDoorM4
import Derived.Test.YtbcocdloklbkjaaGreatDoorM5
import Derived.Test.YtbcocdloklbkjaaGreatDoorM6
import Derived.Test.YtbcocdloklbkjaaGreatDoorM7
import Derived.Test.YtbcocdloklbkjaaGreatDoorM8
import Derived.Test.YtbcocdloklbkjaaGreatDoorM9
import Derived.Test.YtbcocdloklbkjaaGreatDoorM10
import Derived.Test.YtbcocdloklbkjaaGreatDoorM11
set_option maxRecDepth 100000
set_option linter.all false
namespace Go.Proofs.YtbcocdloklbkjaaGreatDoor
open Go.Ab Go.Lib
open Go.ChangeShapes Go.WideShapes Go.ChangeAt Go.RowKit Go.WideElems
theorem zmt:∀ l,bSs l=(l.map bS).sum
 | []=>rfl
 | v::r=>by simp[bSs,zmt r]
theorem zvk:∀ m,zH Tryz.prog m 106 2 cD wfD bD
 | 0=>zH.zero
 | k+1=>zH.struct (zA.cons (by kernel_rfl) (zH.str Tryz.underlying9) (zA.cons (by kernel_rfl) (zod k) zA.nil))
   (by kernel_rfl) (by kernel_rfl) cD wfD bD (fun x=>⟨x.1,x.2.1⟩) (fun a=>rfl) (fun a h=>h.2.1) (fun a=>by simp only[bD];omega)
theorem zm2:∀ m,zH Tryz.prog m 36 1 (fun l:List DirD=>[.sl .no 2 (cDs l)]) zlt (fun l=>bDs l+1)
 | 0=>zH.zero
 | m+1=>by
  intro enc W cs d ps h1 h2
  obtain⟨a,h3,h4,h5,h6⟩:=zH.slice (t:=36) Tryz.underlying36 (B:=40) (sz:=2) (by kernel_rfl) (by kernel_rfl) (by decide) (zvk m) enc W cs d ps h1 h2
  exact⟨a,h3.2.2,by simp only[bDs];exact h4,h5,by simp only[cDs];exact h6⟩
theorem zoT {m:Nat} (h:zH Tryz.prog m 50 7 cS wfS bS):zH Tryz.prog (m+1) 37 1 (fun l:List SelD=>[.sl .no 7 (cSs l)]) zgv (fun l=>bSs l+1):=by
 intro H enc W cs d ps h1 h2
 obtain⟨a,h3,h4,h5,h6⟩:=zH.slice (t:=37) Tryz.underlying37 (B:=128) (sz:=7) (by kernel_rfl) (by kernel_rfl) (by decide) h enc W cs d ps h1 h2
 exact⟨a,zjZ h3.2.2,by simp only[zmt];exact h4,h5,by simp only[zes];exact h6⟩
theorem zvq:∀ m,zH Tryz.prog m 50 7 cS wfS bS:=by
 intro m
 induction m using Nat.strongRecOn with
 | _ m ih =>
  cases m with
  | zero=>exact zH.zero
  | succ k =>
   have hs:zH Tryz.prog k 37 1 (fun l:List SelD=>[.sl .no 7 (cSs l)]) zgv (fun l=>bSs l+1):=by
    cases k with
    | zero=>exact zH.zero
    | succ k=>exact zoT (ih k (by omega))
   intro H
   exact zH.struct (zA.cons (by kernel_rfl) (zH.int (k:=.i64) Tryz.underlying3) (zA.cons (by kernel_rfl) (zH.str Tryz.underlying9) (zA.cons (by kernel_rfl) (zH.str Tryz.underlying9) (zA.cons (by kernel_rfl) (zod k) (zA.cons (by kernel_rfl) (zm2 k) (zA.cons (by kernel_rfl) (zH.str Tryz.underlying9) (zA.cons (by kernel_rfl) hs zA.nil)))))))
    (by kernel_rfl) (by kernel_rfl) cS wfS bS (fun x=>.mk x.1 x.2.1 x.2.2.1 x.2.2.2.1 x.2.2.2.2.1 x.2.2.2.2.2.1 x.2.2.2.2.2.2.1) (fun a=>rfl) (fun a h=>⟨h.2.2.2.1,h.2.2.2.2.1,h.2.2.2.2.2.2.1⟩) (fun a=>by simp only[bS];omega)
theorem zsB:∀ m,zH Tryz.prog m 37 1 (fun l:List SelD=>[.sl .no 7 (cSs l)]) zgv (fun l=>bSs l+1)
 | 0=>zH.zero
 | m+1=>zoT (zvq m)
def bTy (t:TyD):Nat:=t.nm.length
theorem zp1:∀ m,zH Tryz.prog m 63 3 cTy (fun t=>inR t.lists∧inR t.musts) bTy
 | 0=>zH.zero
 | k+1=>zH.struct (zA.cons (by kernel_rfl) (zH.str Tryz.underlying9) (zA.cons (by kernel_rfl) (zH.int (k:=.i64) Tryz.underlying3) (zA.cons (by kernel_rfl) (zH.int (k:=.i64) Tryz.underlying3) zA.nil)))
   (by kernel_rfl) (by kernel_rfl) cTy (fun t=>inR t.lists∧inR t.musts) bTy (fun x=>⟨x.1,x.2.1,x.2.2.1⟩) (fun a=>rfl) (fun a h=>⟨zlf h.2.1,zlf h.2.2.1⟩) (fun a=>by simp only[bTy];omega)
theorem zvs:∀ m,zH Tryz.prog m 73 10 cW wfW bW
 | 0=>zH.zero
 | k+1=>zH.struct (zA.cons (by kernel_rfl) (zH.str Tryz.underlying9) (zA.cons (by kernel_rfl) (zp1 k) (zA.cons (by kernel_rfl) (zH.bool Tryz.underlying4) (zA.cons (by kernel_rfl) (zsj k) zA.nil))))
   (by kernel_rfl) (by kernel_rfl) cW wfW bW (fun x=>⟨x.1,x.2.1,x.2.2.1,x.2.2.2.1⟩) (fun a=>by simp[zdc,cTy]) (fun a h=>⟨h.2.1.1,h.2.1.2,h.2.2.2.1⟩) (fun a=>by simp only[bW,bTy];omega)
theorem zue:∀ m,zH Tryz.prog m 35 1 (fun l:List VarD=>[.sl .no 10 (cWs l)]) (fun l=>∀ x∈l,wfW x) (fun l=>bWs l+1)
 | 0=>zH.zero
 | m+1=>by
  intro enc W cs d ps h1 h2
  obtain⟨a,h3,h4,h5,h6⟩:=zH.slice (t:=35) Tryz.underlying35 (B:=136) (sz:=10) (by kernel_rfl) (by kernel_rfl) (by decide) (zvs m) enc W cs d ps h1 h2
  exact⟨a,h3.2.2,by simp only[bWs];exact h4,h5,by simp only[cWs];exact h6⟩
theorem zvw:∀ m,zH Tryz.prog m 39 5 cO wfO bO
 | 0=>zH.zero
 | k+1=>zH.struct (zA.cons (by kernel_rfl) (zH.int (k:=.i64) Tryz.underlying3) (zA.cons (by kernel_rfl) (zH.str Tryz.underlying9) (zA.cons (by kernel_rfl) (zue k) (zA.cons (by kernel_rfl) (zm2 k) (zA.cons (by kernel_rfl) (zsB k) zA.nil)))))
   (by kernel_rfl) (by kernel_rfl) cO wfO bO (fun x=>⟨x.1,x.2.1,x.2.2.1,x.2.2.2.1,x.2.2.2.2.1⟩) (fun a=>rfl) (fun a h=>⟨h.2.2.1,h.2.2.2.1,h.2.2.2.2.1⟩) (fun a=>by simp only[bO];omega)
theorem zvl:∀ m,zH Tryz.prog m 44 4 cF wfF bF
 | 0=>zH.zero
 | k+1=>zH.struct (zA.cons (by kernel_rfl) (zH.str Tryz.underlying9) (zA.cons (by kernel_rfl) (zH.str Tryz.underlying9) (zA.cons (by kernel_rfl) (zm2 k) (zA.cons (by kernel_rfl) (zsB k) zA.nil))))
   (by kernel_rfl) (by kernel_rfl) cF wfF bF (fun x=>⟨x.1,x.2.1,x.2.2.1,x.2.2.2.1⟩) (fun a=>rfl) (fun a h=>⟨h.2.2.1,h.2.2.2.1⟩) (fun a=>by simp only[bF];omega)
theorem zuH:∀ m,zH Tryz.prog m 25 1 (fun l:List OpD=>[.sl .no 5 (cOs l)]) (fun l=>∀ x∈l,wfO x) (fun l=>bOs l+1)
 | 0=>zH.zero
 | m+1=>by
  intro enc W cs d ps h1 h2
  obtain⟨a,h3,h4,h5,h6⟩:=zH.slice (t:=25) Tryz.underlying25 (B:=96) (sz:=5) (by kernel_rfl) (by kernel_rfl) (by decide) (zvw m) enc W cs d ps h1 h2
  exact⟨a,h3.2.2,by simp only[bOs];exact h4,h5,by simp only[cOs];exact h6⟩
theorem zuI:∀ m,zH Tryz.prog m 26 1 (fun l:List FragD=>[.sl .no 4 (cFs l)]) (fun l=>∀ x∈l,wfF x) (fun l=>bFs l+1)
 | 0=>zH.zero
 | m+1=>by
  intro enc W cs d ps h1 h2
  obtain⟨a,h3,h4,h5,h6⟩:=zH.slice (t:=26) Tryz.underlying26 (B:=80) (sz:=4) (by kernel_rfl) (by kernel_rfl) (by decide) (zvl m) enc W cs d ps h1 h2
  exact⟨a,h3.2.2,by simp only[bFs];exact h4,h5,by simp only[cFs];exact h6⟩
theorem zqk:∀ m,zH Tryz.prog m 28 2 zX zcK zw
 | 0=>zH.zero
 | k+1=>zH.struct (zA.cons (by kernel_rfl) (zuH k) (zA.cons (by kernel_rfl) (zuI k) zA.nil))
   (by kernel_rfl) (by kernel_rfl) zX zcK zw (fun x=>⟨x.1,x.2.1⟩) (fun a=>rfl) (fun a h=>⟨h.1,h.2.1⟩) (fun a=>by simp only[zw];omega)
def ztb (l:List (List UInt8)):Nat:=(l.map fun s=>s.length+1).sum
theorem zpl (m:Nat):zH Tryz.prog m 40 1 (fun l:List (List UInt8)=>[.sl .no 1 (cT l)]) (fun _=>True) (fun l=>ztb l+1):=by
 cases m with
 | zero=>exact zH.zero
 | succ m =>
  intro H enc W cs d ps h1 h2
  obtain⟨a,h3,h4,h5,h6⟩:=zH.slice (t:=40) Tryz.underlying40 (B:=16) (sz:=1) (by kernel_rfl) (by kernel_rfl) (by decide) (zH.str Tryz.underlying9) enc W cs d ps h1 h2
  exact⟨a,trivial,h4,h5,h6⟩
theorem zsV (l:List (List UInt8)):bT l=ztb l:=by unfold bT ztb;congr 1;exact List.map_congr_left fun x _=>Nat.add_comm _ _
theorem zul:∀ m,zH Tryz.prog m 110 10 cW wfW bW
 | 0=>zH.zero
 | k+1=>zH.struct (zA.cons (by kernel_rfl) (zH.str Tryz.underlying9) (zA.cons (by kernel_rfl) (zp1 k) (zA.cons (by kernel_rfl) (zH.bool Tryz.underlying4) (zA.cons (by kernel_rfl) (zsj k) zA.nil))))
   (by kernel_rfl) (by kernel_rfl) cW wfW bW (fun x=>⟨x.1,x.2.1,x.2.2.1,x.2.2.2.1⟩) (fun a=>by simp[zdc,cTy]) (fun a h=>⟨h.2.1.1,h.2.1.2,h.2.2.2.1⟩) (fun a=>by simp only[bW,bTy];omega)
theorem zn8:∀ m,zH Tryz.prog m 57 1 (fun l:List VarD=>[.sl .no 10 (cWs l)]) (fun l=>∀ x∈l,wfW x) (fun l=>bWs l+1)
 | 0=>zH.zero
 | m+1=>by
  intro enc W cs d ps h1 h2
  obtain⟨a,h3,h4,h5,h6⟩:=zH.slice (t:=57) Tryz.underlying57 (B:=136) (sz:=10) (by kernel_rfl) (by kernel_rfl) (by decide) (zul m) enc W cs d ps h1 h2
  exact⟨a,h3.2.2,by simp only[bWs];exact h4,h5,by simp only[cWs];exact h6⟩
theorem zvn:∀ m,zH Tryz.prog m 65 6 cL wfL bL
 | 0=>zH.zero
 | k+1=>zH.struct (zA.cons (by kernel_rfl) (zH.str Tryz.underlying9) (zA.cons (by kernel_rfl) (zn8 k) (zA.cons (by kernel_rfl) (zp1 k) (zA.cons (by kernel_rfl) (zm2 k) zA.nil))))
   (by kernel_rfl) (by kernel_rfl) cL wfL bL (fun x=>⟨x.1,x.2.1,x.2.2.1,x.2.2.2.1⟩) (fun a=>by simp[cL,cTy]) (fun a h=>⟨h.2.1,h.2.2.1.1,h.2.2.1.2,h.2.2.2.1⟩) (fun a=>by simp only[bL,bTy];omega)
theorem zu5:∀ m,zH Tryz.prog m 56 1 (fun l:List FldD=>[.sl .no 6 (cLs l)]) (fun l=>∀ x∈l,wfL x) (fun l=>bLs l+1)
 | 0=>zH.zero
 | m+1=>by
  intro enc W cs d ps h1 h2
  obtain⟨a,h3,h4,h5,h6⟩:=zH.slice (t:=56) Tryz.underlying56 (B:=96) (sz:=6) (by kernel_rfl) (by kernel_rfl) (by decide) (zvn m) enc W cs d ps h1 h2
  exact⟨a,h3.2.2,by simp only[bLs];exact h4,h5,by simp only[cLs];exact h6⟩
theorem zvC:∀ m,zH Tryz.prog m 59 6 cE wfE bE
 | 0=>zH.zero
 | k+1=>zH.struct (zA.cons (by kernel_rfl) (zH.int (k:=.i64) Tryz.underlying3) (zA.cons (by kernel_rfl) (zH.str Tryz.underlying9) (zA.cons (by kernel_rfl) (zpl k) (zA.cons (by kernel_rfl) (zu5 k) (zA.cons (by kernel_rfl) (zpl k) (zA.cons (by kernel_rfl) (zn8 k) zA.nil))))))
   (by kernel_rfl) (by kernel_rfl) cE wfE bE (fun x=>⟨x.1,x.2.1,x.2.2.1,x.2.2.2.1,x.2.2.2.2.1,x.2.2.2.2.2.1⟩) (fun a=>rfl) (fun a h=>⟨h.2.2.2.1,h.2.2.2.2.2.1⟩) (fun a=>by simp only[bE,zsV];omega)
theorem zvc:∀ m,zH Tryz.prog m 22 1 (fun l:List DefD=>[.sl .no 6 (cEs l)]) (fun l=>∀ x∈l,wfE x) (fun l=>bEs l+1)
 | 0=>zH.zero
 | m+1=>by
  intro enc W cs d ps h1 h2
  obtain⟨a,h3,h4,h5,h6⟩:=zH.slice (t:=22) Tryz.underlying22 (B:=120) (sz:=6) (by kernel_rfl) (by kernel_rfl) (by decide) (zvC m) enc W cs d ps h1 h2
  exact⟨a,h3.2.2,by simp only[bEs];exact h4,h5,by simp only[cEs];exact h6⟩
theorem zqz:∀ m,zH Tryz.prog m 24 3 zq zbV zJ
 | 0=>zH.zero
 | k+1=>zH.struct (zA.cons (by kernel_rfl) (zvc k) (zA.cons (by kernel_rfl) (zH.str Tryz.underlying9) (zA.cons (by kernel_rfl) (zH.str Tryz.underlying9) zA.nil)))
   (by kernel_rfl) (by kernel_rfl) zq zbV zJ (fun x=>⟨x.1,x.2.1,x.2.2.1⟩) (fun a=>rfl) (fun a h=>h.1) (fun a=>by simp only[zJ];omega)
theorem zdA (H:Type) (enc:TypeId×Value→H) (W:World) (base:Nat) (args:Array Value) (ds gs:List (DataW H)) (before:List MemPlace)
  (hval:∀(j:Nat) t v,Tryz.f5.params[j]?=some t→args[j]?=some v→Value.okWide Tryz.prog W .any base t v)
  (hW:DataW.Whole enc Tryz.prog Tryz.f5.params.toList Rows.validAloneSpec.vars false W args.toList ds gs before) (hc:Yj (ds++gs)≤1048576)
  (hz:(DataW.weightsEach Tryz.prog (Tryz.f5.params.toList++(Rows.OpenSpec.upto Rows.validAloneSpec).bare.plain.varTypes Tryz.prog) (ds++gs)).all (·≤reachBytes)=true)
  (hL:laidMetH Tryz.prog zkc W) (hS:W.ShapedOpen Tryz.prog) :
  Calls Tryz.prog 5 args W fun e W'=>∃ v,e=.returned v∧Rows.validAloneSpec.post enc Tryz.prog Tryz.f5 false true false false W args v W':=by
 have hW':=hW
 obtain⟨p,q,hA0,hV,rfl,hfz,hnd⟩:=hW
 have hA:DataW.TrodAll enc Tryz.prog W 0 (fun _=>true) true Tryz.f5.params.toList args.toList ds p:=hA0
 obtain⟨rfl,rfl⟩:=trodVars_none hV
 rw[Tryz.params5] at hA hval hz
 obtain⟨v0,vs0,d0,ds0,p0,q0,hargs,rfl,rfl,h0,hA⟩:=trodAll_cons hA
 obtain⟨v1,vs1,d1,ds1,p1,q1,rfl,rfl,rfl,h1,hA⟩:=trodAll_cons hA
 obtain⟨v2,vs2,d2,ds2,p2,q2,rfl,rfl,rfl,h2,hA⟩:=trodAll_cons hA
 obtain⟨rfl,rfl,rfl⟩:=trodAll_nil hA
 obtain rfl:args=#[v0,v1,v2]:=by cases args;simp_all
 obtain⟨c0,rfl⟩:=zp6 Tryz.underlying24 (hval 0 24 v0 rfl rfl)
 obtain⟨a0,ok0,b0,g0⟩:=zH.argS (P:=Tryz.prog) (f:=zq) (zqz) h0 (sized hz (j:=0) rfl rfl)
 obtain⟨c1,rfl⟩:=zp6 Tryz.underlying28 (hval 1 28 v1 rfl rfl)
 obtain⟨a1,ok1,b1,g1⟩:=zH.argS (P:=Tryz.prog) (f:=zX) (zqk) h1 (sized hz (j:=1) rfl rfl)
 obtain⟨a2,ok2,b2,g2⟩:=zH.arg (P:=Tryz.prog) (f:=fun n=>.int .i64 n) (fun m=>zH.int (k:=.i64) Tryz.underlying3) h2 (sized hz (j:=2) rfl rfl) (znr Tryz.underlying3 (hval 2 3 v2 rfl rfl))
 simp only[List.append_nil,Yj] at hc
 refine ziq (P:=Tryz.prog) (fn:=Tryz.f5) (tb:=4) laidOut rfl ?_ (by kernel_rfl) Tryz.underlying4 hW' rfl (zqR hL hS) (yn.cons g0 (yn.cons g1 (yn.cons g2 yn.nil))) (zji a0 a1 a2 ok0 ok1 (by omega) (by omega))
 rw[Tryz.params5]
 intro t ht
 simp only[List.mem_cons,List.not_mem_nil,or_false] at ht
 rcases ht with rfl|rfl|rfl<;>exact⟨by kernel_rfl,by decide +kernel⟩
theorem zfu (os:Os) {H:Type} (enc:TypeId×Value→H):∃ places,DataW.whole enc Tryz.prog ((laidWorld os).forCall (fun _ _=>0) ⟨#[],#[.agg #[.slice none 0 0,.string ⟨#[]⟩,.string ⟨#[]⟩],.agg #[.slice none 0 0,.slice none 0 0],.int .i64 0],[]⟩).memory Tryz.f5.params.toList Rows.validAloneSpec.vars false #[.agg #[.slice none 0 0,.string ⟨#[]⟩,.string ⟨#[]⟩],.agg #[.slice none 0 0,.slice none 0 0],.int .i64 0].toList 8=some ([.agg [.nil,.lit (.string []),.lit (.string [])],.agg [.nil,.nil],.lit (.int .i64 0)],[],places) :=
 ⟨[],by kernel_rfl⟩
theorem zd9 (os:Os) (started:os.Started) (H:Type) (enc:TypeId×Value→H) (F:Stop.Interp) :
  ReturnsInHanded {} Tryz.checked os 5 .any ((Rows.OpenSpec.upto Rows.validAloneSpec).preRow enc Tryz.prog Tryz.f5 Rows.validAloneUptoRow.domain false Rows.validAloneUptoRow.laid) (((Rows.OpenSpec.upto Rows.validAloneSpec).at F).post enc Tryz.prog Tryz.f5 false true false false):=by
 obtain⟨places,hx⟩:=zfu os enc
 refine returnsInHanded_of_row (C:=Tryz.checked) (s:=Rows.OpenSpec.upto Rows.validAloneSpec) own started (by kernel_rfl) Tryz.func5
  (witness_row_atRef (enc:=enc) (C:=Tryz.checked) false (laidWorld os) #[.agg #[.slice none 0 0,.string ⟨#[]⟩,.string ⟨#[]⟩],.agg #[.slice none 0 0,.slice none 0 0],.int .i64 0] rfl (by kernel_rfl) (by kernel_rfl) (by kernel_rfl)
   (OpenSpec.preRow_of_cond 8 hx (by kernel_rfl) (fun k hk=>by cases hk;kernel_rfl) (by kernel_rfl) (laid_met os _))) ?_
 intro W base args ds gs before hval hW _ hcond hz hL hS _
 exact zdA H enc W base args ds gs before hval hW (znH hcond) hz hL hS
theorem zeW:zlK Tryz.pinned.checked.prog 5 Tryz.f5 (Rows.OpenSpec.upto Rows.validAloneSpec).bare Rows.validAloneUptoRow=true:=by kernel_rfl
theorem ze4:zlF Tryz.pinned.checked.prog 5 Tryz.f5 (Rows.OpenSpec.upto Rows.validAloneSpec).bare Rows.validAloneUptoRow=true:=by kernel_rfl
theorem zfa:zlP Tryz.pinned.checked.prog 5 Tryz.f5 (Rows.OpenSpec.upto Rows.validAloneSpec).bare Rows.validAloneUptoRow=true:=by kernel_rfl
theorem zfb:zlA Tryz.pinned.checked.prog 5 Tryz.f5 (Rows.OpenSpec.upto Rows.validAloneSpec).bare Rows.validAloneUptoRow=true:=by kernel_rfl
theorem ze6:zlE Tryz.pinned.checked.prog 5 Tryz.f5 (Rows.OpenSpec.upto Rows.validAloneSpec).bare Rows.validAloneUptoRow=true:=by kernel_rfl
theorem ze9:zld Tryz.pinned.checked.prog 5 Tryz.f5 (Rows.OpenSpec.upto Rows.validAloneSpec).bare Rows.validAloneUptoRow=true:=by kernel_rfl
theorem zfo:zlM Tryz.pinned.checked.prog 5 Tryz.f5 (Rows.OpenSpec.upto Rows.validAloneSpec).bare Rows.validAloneUptoRow=true:=by kernel_rfl
theorem zfV:Rows.ValidAloneUptoSaid :=
 OpenClaim.holds_of_cond 5 Tryz.f5 rfl rfl rfl rfl rfl rfl rfl ⟨rfl,rfl,rfl,rfl,rfl⟩ rfl rfl rfl rfl rfl (by kernel_rfl) Tryz.func5 (znk zeW ze4 zfa zfb ze6 ze9 zfo)
  (of_decide_eq_true (by kernel_rfl)) (by unfold Func.isWrapper;first|(rw[if_pos (by decide +kernel)];kernel_rfl)|(rw[if_neg (by decide +kernel)];exact⟨rfl,rfl⟩))
  (fun os started H enc _ F=>by rw[OpenClaim.pre_eq_preRow];exact zd9 os started H enc F)
theorem zfm (f : FuncId) (fn : Func) (hf : Tryz.pinned.checked.prog.funcNamed "seine/seinelaw20.ValidAlone" = some f) (hfn : Tryz.pinned.checked.prog.funcs[f]? = some fn) :
  true=Tryz.pinned.checked.prog.looks []∧∀(j:Nat) t,fn.params[j]?=some t→Tryz.pinned.checked.prog.wantsStandIn t=false:=by
 obtain rfl : f = 5 := Option.some.inj ((show Tryz.prog.funcNamed "seine/seinelaw20.ValidAlone" = some 5 by kernel_rfl).symm.trans hf) |>.symm
 obtain rfl:fn=Tryz.f5:=(Option.some.inj (Tryz.func5.symm.trans hfn)).symm
 refine⟨by kernel_rfl,fun j t ht=>?_⟩
 rw[Tryz.params5] at ht
 have hm:=Array.mem_of_getElem? ht
 simp only[List.mem_toArray,List.mem_cons,List.not_mem_nil,or_false] at hm
 rcases hm with rfl|rfl|rfl<;>exact(show Tryz.prog.wantsStandIn _=false by kernel_rfl)
theorem zfM:Tryz.pinned.checked.prog.mainIs=some (Rows.validAloneUptoCard.stood.harness.1,Rows.validAloneUptoCard.stood.harness.2.toList):=by kernel_rfl
theorem zfS:false=Rows.validAloneUptoRow.goesBy Tryz.pinned.checked.prog:=by kernel_rfl
theorem ValidAlone_card:Rows.ValidAloneUptoCardSaid :=
 Claim7.holds_tied_plain_at .later [] _ _ _ _ zfV (fun _ h=>by cases h) (by kernel_rfl) (fun _ h=>by cases h) validAloneUpto_row_tie rfl ⟨rfl,rfl⟩ zfM rfl zfm zfS
end Go.Proofs.YtbcocdloklbkjaaGreatDoor
