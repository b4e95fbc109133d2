import Derived.Test.YtbjofkamhijjlaaGreatDoorM1
import Derived.Test.YtbjofkamhijjlaaGreatDoorM2
import Derived.Test.YtbjofkamhijjlaaGreatDoorM3
import Derived.Test.YtbjofkamhijjlaaGreatDoorM4
import Derived.Test.YtbjofkamhijjlaaGreatDoorM5
import Derived.Test.YtbjofkamhijjlaaGreatDoorM6
import Derived.Test.YtbjofkamhijjlaaGreatDoorM7
import Derived.Test.YtbjofkamhijjlaaGreatDoorM8
import Derived.Test.YtbjofkamhijjlaaGreatDoorM9
import Derived.Test.YtbjofkamhijjlaaGreatDoorM10
import Derived.Test.YtbjofkamhijjlaaGreatDoorM11
set_option maxRecDepth 100000
set_option linter.all false
namespace Go.Proofs.YtbjofkamhijjlaaGreatDoor
open Go.Ab Go.Lib
open Go.ChangeShapes Go.WideShapes Go.ChangeAt Go.RowKit Go.WideElems
theorem znX:∀ l,bSs l=(l.map bS).sum
 | []=>rfl
 | v::r=>by simp[bSs,znX r]
theorem zxH:∀ m,zC Tryz.prog m 83 2 cD wfD bD
 | 0=>zC.zero
 | k+1=>zC.struct (zz.cons (by kernel_rfl) (zC.str Tryz.underlying9) (zz.cons (by kernel_rfl) (zq1 k) zz.nil))
   (by kernel_rfl) (by kernel_rfl) cD wfD bD (fun x=>⟨x.1,x.2.1⟩) (fun a=>rfl) (fun a h=>h.2.1) (fun a=>by simp only[bD];omega)
theorem zno:∀ m,zC Tryz.prog m 34 1 (fun l:List DirD=>[.sl .no 2 (cDs l)]) zo7 (fun l=>bDs l+1)
 | 0=>zC.zero
 | m+1=>by
  intro enc W cs d ps h1 h2
  obtain⟨a,h3,h4,h5,h6⟩:=zC.slice (t:=34) Tryz.underlying34 (B:=40) (sz:=2) (by kernel_rfl) (by kernel_rfl) (by decide) (zxH m) enc W cs d ps h1 h2
  exact⟨a,h3.2.2,by simp only[bDs];exact h4,h5,by simp only[cDs];exact h6⟩
theorem zqa {m:Nat} (h:zC Tryz.prog m 40 7 cS wfS bS):zC Tryz.prog (m+1) 35 1 (fun l:List SelD=>[.sl .no 7 (cSs l)]) zfO (fun l=>bSs l+1):=by
 intro H enc W cs d ps h1 h2
 obtain⟨a,h3,h4,h5,h6⟩:=zC.slice (t:=35) Tryz.underlying35 (B:=128) (sz:=7) (by kernel_rfl) (by kernel_rfl) (by decide) h enc W cs d ps h1 h2
 exact⟨a,zlU h3.2.2,by simp only[znX];exact h4,h5,by simp only[zaD];exact h6⟩
theorem zxL:∀ m,zC Tryz.prog m 40 7 cS wfS bS:=by
 intro m
 induction m using Nat.strongRecOn with
 | _ m ih =>
  cases m with
  | zero=>exact zC.zero
  | succ k =>
   have hs:zC Tryz.prog k 35 1 (fun l:List SelD=>[.sl .no 7 (cSs l)]) zfO (fun l=>bSs l+1):=by
    cases k with
    | zero=>exact zC.zero
    | succ k=>exact zqa (ih k (by omega))
   intro H
   exact zC.struct (zz.cons (by kernel_rfl) (zC.int (k:=.i64) Tryz.underlying3) (zz.cons (by kernel_rfl) (zC.str Tryz.underlying9) (zz.cons (by kernel_rfl) (zC.str Tryz.underlying9) (zz.cons (by kernel_rfl) (zq1 k) (zz.cons (by kernel_rfl) (zno k) (zz.cons (by kernel_rfl) (zC.str Tryz.underlying9) (zz.cons (by kernel_rfl) hs zz.nil)))))))
    (by kernel_rfl) (by kernel_rfl) cS wfS bS (fun x=>.mk x.1 x.2.1 x.2.2.1 x.2.2.2.1 x.2.2.2.2.1 x.2.2.2.2.2.1 x.2.2.2.2.2.2.1) (fun a=>rfl) (fun a h=>⟨h.2.2.2.1,h.2.2.2.2.1,h.2.2.2.2.2.2.1⟩) (fun a=>by simp only[bS];omega)
theorem zt4:∀ m,zC Tryz.prog m 35 1 (fun l:List SelD=>[.sl .no 7 (cSs l)]) zfO (fun l=>bSs l+1)
 | 0=>zC.zero
 | m+1=>zqa (zxL m)
def bTy (t:TyD):Nat:=t.nm.length
theorem zpu:∀ m,zC Tryz.prog m 70 3 cTy (fun t=>inR t.lists∧inR t.musts) bTy
 | 0=>zC.zero
 | k+1=>zC.struct (zz.cons (by kernel_rfl) (zC.str Tryz.underlying9) (zz.cons (by kernel_rfl) (zC.int (k:=.i64) Tryz.underlying3) (zz.cons (by kernel_rfl) (zC.int (k:=.i64) Tryz.underlying3) zz.nil)))
   (by kernel_rfl) (by kernel_rfl) cTy (fun t=>inR t.lists∧inR t.musts) bTy (fun x=>⟨x.1,x.2.1,x.2.2.1⟩) (fun a=>rfl) (fun a h=>⟨zmh h.2.1,zmh h.2.2.1⟩) (fun a=>by simp only[bTy];omega)
theorem zxR:∀ m,zC Tryz.prog m 80 10 cW wfW bW
 | 0=>zC.zero
 | k+1=>zC.struct (zz.cons (by kernel_rfl) (zC.str Tryz.underlying9) (zz.cons (by kernel_rfl) (zpu k) (zz.cons (by kernel_rfl) (zC.bool Tryz.underlying4) (zz.cons (by kernel_rfl) (ztZ k) zz.nil))))
   (by kernel_rfl) (by kernel_rfl) cW wfW bW (fun x=>⟨x.1,x.2.1,x.2.2.1,x.2.2.2.1⟩) (fun a=>by simp[ziU,cTy]) (fun a h=>⟨h.2.1.1,h.2.1.2,h.2.2.2.1⟩) (fun a=>by simp only[bW,bTy];omega)
theorem zws:∀ m,zC Tryz.prog m 33 1 (fun l:List VarD=>[.sl .no 10 (cWs l)]) (fun l=>∀ x∈l,wfW x) (fun l=>bWs l+1)
 | 0=>zC.zero
 | m+1=>by
  intro enc W cs d ps h1 h2
  obtain⟨a,h3,h4,h5,h6⟩:=zC.slice (t:=33) Tryz.underlying33 (B:=136) (sz:=10) (by kernel_rfl) (by kernel_rfl) (by decide) (zxR m) enc W cs d ps h1 h2
  exact⟨a,h3.2.2,by simp only[bWs];exact h4,h5,by simp only[cWs];exact h6⟩
theorem zxO:∀ m,zC Tryz.prog m 37 5 cO wfO bO
 | 0=>zC.zero
 | k+1=>zC.struct (zz.cons (by kernel_rfl) (zC.int (k:=.i64) Tryz.underlying3) (zz.cons (by kernel_rfl) (zC.str Tryz.underlying9) (zz.cons (by kernel_rfl) (zws k) (zz.cons (by kernel_rfl) (zno k) (zz.cons (by kernel_rfl) (zt4 k) zz.nil)))))
   (by kernel_rfl) (by kernel_rfl) cO wfO bO (fun x=>⟨x.1,x.2.1,x.2.2.1,x.2.2.2.1,x.2.2.2.2.1⟩) (fun a=>rfl) (fun a h=>⟨h.2.2.1,h.2.2.2.1,h.2.2.2.2.1⟩) (fun a=>by simp only[bO];omega)
theorem zxQ:∀ m,zC Tryz.prog m 42 4 cF wfF bF
 | 0=>zC.zero
 | k+1=>zC.struct (zz.cons (by kernel_rfl) (zC.str Tryz.underlying9) (zz.cons (by kernel_rfl) (zC.str Tryz.underlying9) (zz.cons (by kernel_rfl) (zno k) (zz.cons (by kernel_rfl) (zt4 k) zz.nil))))
   (by kernel_rfl) (by kernel_rfl) cF wfF bF (fun x=>⟨x.1,x.2.1,x.2.2.1,x.2.2.2.1⟩) (fun a=>rfl) (fun a h=>⟨h.2.2.1,h.2.2.2.1⟩) (fun a=>by simp only[bF];omega)
theorem zwW:∀ m,zC Tryz.prog m 25 1 (fun l:List OpD=>[.sl .no 5 (cOs l)]) (fun l=>∀ x∈l,wfO x) (fun l=>bOs l+1)
 | 0=>zC.zero
 | m+1=>by
  intro enc W cs d ps h1 h2
  obtain⟨a,h3,h4,h5,h6⟩:=zC.slice (t:=25) Tryz.underlying25 (B:=96) (sz:=5) (by kernel_rfl) (by kernel_rfl) (by decide) (zxO m) enc W cs d ps h1 h2
  exact⟨a,h3.2.2,by simp only[bOs];exact h4,h5,by simp only[cOs];exact h6⟩
theorem zwO:∀ m,zC Tryz.prog m 26 1 (fun l:List FragD=>[.sl .no 4 (cFs l)]) (fun l=>∀ x∈l,wfF x) (fun l=>bFs l+1)
 | 0=>zC.zero
 | m+1=>by
  intro enc W cs d ps h1 h2
  obtain⟨a,h3,h4,h5,h6⟩:=zC.slice (t:=26) Tryz.underlying26 (B:=80) (sz:=4) (by kernel_rfl) (by kernel_rfl) (by decide) (zxQ m) enc W cs d ps h1 h2
  exact⟨a,h3.2.2,by simp only[bFs];exact h4,h5,by simp only[cFs];exact h6⟩
theorem ztX:∀ m,zC Tryz.prog m 28 2 zP zcc zq
 | 0=>zC.zero
 | k+1=>zC.struct (zz.cons (by kernel_rfl) (zwW k) (zz.cons (by kernel_rfl) (zwO k) zz.nil))
   (by kernel_rfl) (by kernel_rfl) zP zcc zq (fun x=>⟨x.1,x.2.1⟩) (fun a=>rfl) (fun a h=>⟨h.1,h.2.1⟩) (fun a=>by simp only[zq];omega)
def zwd (l:List (List UInt8)):Nat:=(l.map fun s=>s.length+1).sum
theorem zps (m:Nat):zC Tryz.prog m 47 1 (fun l:List (List UInt8)=>[.sl .no 1 (cT l)]) (fun _=>True) (fun l=>zwd l+1):=by
 cases m with
 | zero=>exact zC.zero
 | succ m =>
  intro H enc W cs d ps h1 h2
  obtain⟨a,h3,h4,h5,h6⟩:=zC.slice (t:=47) Tryz.underlying47 (B:=16) (sz:=1) (by kernel_rfl) (by kernel_rfl) (by decide) (zC.str Tryz.underlying9) enc W cs d ps h1 h2
  exact⟨a,trivial,h4,h5,h6⟩
theorem zuW (l:List (List UInt8)):bT l=zwd l:=by unfold bT zwd;congr 1;exact List.map_congr_left fun x _=>Nat.add_comm _ _
theorem zwR:∀ m,zC Tryz.prog m 96 10 cW wfW bW
 | 0=>zC.zero
 | k+1=>zC.struct (zz.cons (by kernel_rfl) (zC.str Tryz.underlying9) (zz.cons (by kernel_rfl) (zpu k) (zz.cons (by kernel_rfl) (zC.bool Tryz.underlying4) (zz.cons (by kernel_rfl) (ztZ k) zz.nil))))
   (by kernel_rfl) (by kernel_rfl) cW wfW bW (fun x=>⟨x.1,x.2.1,x.2.2.1,x.2.2.2.1⟩) (fun a=>by simp[ziU,cTy]) (fun a h=>⟨h.2.1.1,h.2.1.2,h.2.2.2.1⟩) (fun a=>by simp only[bW,bTy];omega)
theorem zpt:∀ m,zC Tryz.prog m 64 1 (fun l:List VarD=>[.sl .no 10 (cWs l)]) (fun l=>∀ x∈l,wfW x) (fun l=>bWs l+1)
 | 0=>zC.zero
 | m+1=>by
  intro enc W cs d ps h1 h2
  obtain⟨a,h3,h4,h5,h6⟩:=zC.slice (t:=64) Tryz.underlying64 (B:=136) (sz:=10) (by kernel_rfl) (by kernel_rfl) (by decide) (zwR m) enc W cs d ps h1 h2
  exact⟨a,h3.2.2,by simp only[bWs];exact h4,h5,by simp only[cWs];exact h6⟩
theorem zxI:∀ m,zC Tryz.prog m 72 6 cL wfL bL
 | 0=>zC.zero
 | k+1=>zC.struct (zz.cons (by kernel_rfl) (zC.str Tryz.underlying9) (zz.cons (by kernel_rfl) (zpt k) (zz.cons (by kernel_rfl) (zpu k) (zz.cons (by kernel_rfl) (zno k) zz.nil))))
   (by kernel_rfl) (by kernel_rfl) cL wfL bL (fun x=>⟨x.1,x.2.1,x.2.2.1,x.2.2.2.1⟩) (fun a=>by simp[cL,cTy]) (fun a h=>⟨h.2.1,h.2.2.1.1,h.2.2.1.2,h.2.2.2.1⟩) (fun a=>by simp only[bL,bTy];omega)
theorem zwV:∀ m,zC Tryz.prog m 63 1 (fun l:List FldD=>[.sl .no 6 (cLs l)]) (fun l=>∀ x∈l,wfL x) (fun l=>bLs l+1)
 | 0=>zC.zero
 | m+1=>by
  intro enc W cs d ps h1 h2
  obtain⟨a,h3,h4,h5,h6⟩:=zC.slice (t:=63) Tryz.underlying63 (B:=96) (sz:=6) (by kernel_rfl) (by kernel_rfl) (by decide) (zxI m) enc W cs d ps h1 h2
  exact⟨a,h3.2.2,by simp only[bLs];exact h4,h5,by simp only[cLs];exact h6⟩
theorem zxD:∀ m,zC Tryz.prog m 66 6 cE wfE bE
 | 0=>zC.zero
 | k+1=>zC.struct (zz.cons (by kernel_rfl) (zC.int (k:=.i64) Tryz.underlying3) (zz.cons (by kernel_rfl) (zC.str Tryz.underlying9) (zz.cons (by kernel_rfl) (zps k) (zz.cons (by kernel_rfl) (zwV k) (zz.cons (by kernel_rfl) (zps k) (zz.cons (by kernel_rfl) (zpt k) zz.nil))))))
   (by kernel_rfl) (by kernel_rfl) cE wfE bE (fun x=>⟨x.1,x.2.1,x.2.2.1,x.2.2.2.1,x.2.2.2.2.1,x.2.2.2.2.2.1⟩) (fun a=>rfl) (fun a h=>⟨h.2.2.2.1,h.2.2.2.2.2.1⟩) (fun a=>by simp only[bE,zuW];omega)
theorem zwv:∀ m,zC Tryz.prog m 22 1 (fun l:List DefD=>[.sl .no 6 (cEs l)]) (fun l=>∀ x∈l,wfE x) (fun l=>bEs l+1)
 | 0=>zC.zero
 | m+1=>by
  intro enc W cs d ps h1 h2
  obtain⟨a,h3,h4,h5,h6⟩:=zC.slice (t:=22) Tryz.underlying22 (B:=120) (sz:=6) (by kernel_rfl) (by kernel_rfl) (by decide) (zxD m) enc W cs d ps h1 h2
  exact⟨a,h3.2.2,by simp only[bEs];exact h4,h5,by simp only[cEs];exact h6⟩
theorem zsi:∀ m,zC Tryz.prog m 24 3 zl zch zI
 | 0=>zC.zero
 | k+1=>zC.struct (zz.cons (by kernel_rfl) (zwv k) (zz.cons (by kernel_rfl) (zC.str Tryz.underlying9) (zz.cons (by kernel_rfl) (zC.str Tryz.underlying9) zz.nil)))
   (by kernel_rfl) (by kernel_rfl) zl zch zI (fun x=>⟨x.1,x.2.1,x.2.2.1⟩) (fun a=>rfl) (fun a h=>h.1) (fun a=>by simp only[zI];omega)
theorem zdL (H:Type) (enc:TypeId×Value→H) (W:World) (base:Nat) (args:Array Value) (ds gs:List (DataW H)) (before:List MemPlace)
  (hval:∀(j:Nat) t v,Tryz.f3.params[j]?=some t→args[j]?=some v→Value.okWide Tryz.prog W .any base t v)
  (hW:DataW.Whole enc Tryz.prog Tryz.f3.params.toList Rows.validFragsSpec.vars false W args.toList ds gs before) (hc:Yq (ds++gs)≤1048576)
  (hz:(DataW.weightsEach Tryz.prog (Tryz.f3.params.toList++(Rows.OpenSpec.upto Rows.validFragsSpec).bare.plain.varTypes Tryz.prog) (ds++gs)).all (·≤reachBytes)=true)
  (hL:laidMetH Tryz.prog zkI W) (hS:W.ShapedOpen Tryz.prog) :
  Calls Tryz.prog 3 args W fun e W'=>∃ v,e=.returned v∧Rows.validFragsSpec.post enc Tryz.prog Tryz.f3 false true false false W args v W':=by
 have hW':=hW
 obtain⟨p,q,hA0,hV,rfl,hfz,hnd⟩:=hW
 have hA:DataW.TrodAll enc Tryz.prog W 0 (fun _=>true) true Tryz.f3.params.toList args.toList ds p:=hA0
 obtain⟨rfl,rfl⟩:=trodVars_none hV
 rw[Tryz.params3] at hA hval hz
 obtain⟨v0,vs0,d0,ds0,p0,q0,hargs,rfl,rfl,h0,hA⟩:=trodAll_cons hA
 obtain⟨v1,vs1,d1,ds1,p1,q1,rfl,rfl,rfl,h1,hA⟩:=trodAll_cons hA
 obtain⟨rfl,rfl,rfl⟩:=trodAll_nil hA
 obtain rfl:args=#[v0,v1]:=by cases args;simp_all
 obtain⟨c0,rfl⟩:=zqh Tryz.underlying24 (hval 0 24 v0 rfl rfl)
 obtain⟨a0,ok0,b0,g0⟩:=zC.argS (P:=Tryz.prog) (f:=zl) (zsi) h0 (sized hz (j:=0) rfl rfl)
 obtain⟨c1,rfl⟩:=zqh Tryz.underlying28 (hval 1 28 v1 rfl rfl)
 obtain⟨a1,ok1,b1,g1⟩:=zC.argS (P:=Tryz.prog) (f:=zP) (ztX) h1 (sized hz (j:=1) rfl rfl)
 simp only[List.append_nil,Yq] at hc
 refine zj9 (P:=Tryz.prog) (fn:=Tryz.f3) (tb:=4) laidOut rfl ?_ (by kernel_rfl) Tryz.underlying4 hW' rfl (ztq hL hS) (yg.cons g0 (yg.cons g1 yg.nil)) (zlg a0 a1 ok0 ok1 (by omega) (by omega))
 rw[Tryz.params3]
 intro t ht
 simp only[List.mem_cons,List.not_mem_nil,or_false] at ht
 rcases ht with rfl|rfl<;>exact⟨by kernel_rfl,by decide +kernel⟩
theorem zfX (os:Os) {H:Type} (enc:TypeId×Value→H):∃ places,DataW.whole enc Tryz.prog ((laidWorld os).forCall (fun _ _=>0) ⟨#[],#[.agg #[.slice none 0 0,.string ⟨#[]⟩,.string ⟨#[]⟩],.agg #[.slice none 0 0,.slice none 0 0]],[]⟩).memory Tryz.f3.params.toList Rows.validFragsSpec.vars false #[.agg #[.slice none 0 0,.string ⟨#[]⟩,.string ⟨#[]⟩],.agg #[.slice none 0 0,.slice none 0 0]].toList 8=some ([.agg [.nil,.lit (.string []),.lit (.string [])],.agg [.nil,.nil]],[],places) :=
 ⟨[],by kernel_rfl⟩
theorem zfj (os:Os) (started:os.Started) (H:Type) (enc:TypeId×Value→H) (F:Stop.Interp) :
  ReturnsInHanded {} Tryz.checked os 3 .any ((Rows.OpenSpec.upto Rows.validFragsSpec).preRow enc Tryz.prog Tryz.f3 Rows.validFragsUptoRow.domain false Rows.validFragsUptoRow.laid) (((Rows.OpenSpec.upto Rows.validFragsSpec).at F).post enc Tryz.prog Tryz.f3 false true false false):=by
 obtain⟨places,hx⟩:=zfX os enc
 refine returnsInHanded_of_row (C:=Tryz.checked) (s:=Rows.OpenSpec.upto Rows.validFragsSpec) own started (by kernel_rfl) Tryz.func3
  (witness_row_atRef (enc:=enc) (C:=Tryz.checked) false (laidWorld os) #[.agg #[.slice none 0 0,.string ⟨#[]⟩,.string ⟨#[]⟩],.agg #[.slice none 0 0,.slice none 0 0]] rfl (by kernel_rfl) (by kernel_rfl) (by kernel_rfl)
   (OpenSpec.preRow_of_cond 8 hx (by kernel_rfl) (fun k hk=>by cases hk;kernel_rfl) (by kernel_rfl) (laid_met os _))) ?_
 intro W base args ds gs before hval hW _ hcond hz hL hS _
 exact zdL H enc W base args ds gs before hval hW (zpe hcond) hz hL hS
theorem zfK:zl0 Tryz.pinned.checked.prog 3 Tryz.f3 (Rows.OpenSpec.upto Rows.validFragsSpec).bare Rows.validFragsUptoRow=true:=by kernel_rfl
theorem zfS:zmQ Tryz.pinned.checked.prog 3 Tryz.f3 (Rows.OpenSpec.upto Rows.validFragsSpec).bare Rows.validFragsUptoRow=true:=by kernel_rfl
theorem zfU:zmx Tryz.pinned.checked.prog 3 Tryz.f3 (Rows.OpenSpec.upto Rows.validFragsSpec).bare Rows.validFragsUptoRow=true:=by kernel_rfl
theorem zfC:zmi Tryz.pinned.checked.prog 3 Tryz.f3 (Rows.OpenSpec.upto Rows.validFragsSpec).bare Rows.validFragsUptoRow=true:=by kernel_rfl
theorem zfY:zmJ Tryz.pinned.checked.prog 3 Tryz.f3 (Rows.OpenSpec.upto Rows.validFragsSpec).bare Rows.validFragsUptoRow=true:=by kernel_rfl
theorem zfu:zmv Tryz.pinned.checked.prog 3 Tryz.f3 (Rows.OpenSpec.upto Rows.validFragsSpec).bare Rows.validFragsUptoRow=true:=by kernel_rfl
theorem zfG:zl4 Tryz.pinned.checked.prog 3 Tryz.f3 (Rows.OpenSpec.upto Rows.validFragsSpec).bare Rows.validFragsUptoRow=true:=by kernel_rfl
theorem zgt:Rows.ValidFragsUptoSaid :=
 OpenClaim.holds_of_cond 3 Tryz.f3 rfl rfl rfl rfl rfl rfl rfl ⟨rfl,rfl,rfl,rfl,rfl⟩ rfl rfl rfl rfl rfl (by kernel_rfl) Tryz.func3 (zoq zfK zfS zfU zfC zfY zfu zfG)
  (of_decide_eq_true (by kernel_rfl)) (by unfold Func.isWrapper;first|(rw[if_pos (by decide +kernel)];kernel_rfl)|(rw[if_neg (by decide +kernel)];exact⟨rfl,rfl⟩))
  (fun os started H enc _ F=>by rw[OpenClaim.pre_eq_preRow];exact zfj os started H enc F)
theorem zfo (f : FuncId) (fn : Func) (hf : Tryz.pinned.checked.prog.funcNamed "seine/seinelaw20.ValidFrags" = some f) (hfn : Tryz.pinned.checked.prog.funcs[f]? = some fn) :
  true=Tryz.pinned.checked.prog.looks []∧∀(j:Nat) t,fn.params[j]?=some t→Tryz.pinned.checked.prog.wantsStandIn t=false:=by
 obtain rfl : f = 3 := Option.some.inj ((show Tryz.prog.funcNamed "seine/seinelaw20.ValidFrags" = some 3 by kernel_rfl).symm.trans hf) |>.symm
 obtain rfl:fn=Tryz.f3:=(Option.some.inj (Tryz.func3.symm.trans hfn)).symm
 refine⟨by kernel_rfl,fun j t ht=>?_⟩
 rw[Tryz.params3] at ht
 have hm:=Array.mem_of_getElem? ht
 simp only[List.mem_toArray,List.mem_cons,List.not_mem_nil,or_false] at hm
 rcases hm with rfl|rfl<;>exact(show Tryz.prog.wantsStandIn _=false by kernel_rfl)
theorem zgr:Tryz.pinned.checked.prog.mainIs=some (Rows.validFragsUptoCard.stood.harness.1,Rows.validFragsUptoCard.stood.harness.2.toList):=by kernel_rfl
theorem zgm:false=Rows.validFragsUptoRow.goesBy Tryz.pinned.checked.prog:=by kernel_rfl
theorem ValidFrags_card:Rows.ValidFragsUptoCardSaid :=
 Claim7.holds_tied_plain_at .later [] _ _ _ _ zgt (fun _ h=>by cases h) (by kernel_rfl) (fun _ h=>by cases h) validFragsUpto_row_tie rfl ⟨rfl,rfl⟩ zgr rfl zfo zgm
end Go.Proofs.YtbjofkamhijjlaaGreatDoor
