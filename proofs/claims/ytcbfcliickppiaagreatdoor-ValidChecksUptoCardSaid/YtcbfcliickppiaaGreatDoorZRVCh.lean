/- PROVED: ValidChecks is true for all arguments, where they hold together at most 1048576 values and letters and the listed package variables hold what the program lays; the arguments read as before. -/
import Derived.Test.YtcbfcliickppiaaGreatDoorM9
set_option maxRecDepth 100000
set_option linter.all false
namespace Go.Proofs.YtcbfcliickppiaaGreatDoor
open Go.Ab Go.Lib
open Go.ChangeShapes Go.WideShapes Go.ChangeAt Go.RowKit Go.WideElems
def zfV:∀l,yR l=(l.map bS).sum
 | []=>rfl
 | v::r=>by simp[yR,zfV r]
def zsn:∀m,yi Tryz.prog m 80 2 cD wfD bD
 | 0=>yi.zero
 | k+1=>yi.struct (z7.cons yw (yi.str Tryz.underlying9) (z7.cons yw (ziA k) z7.nil)) yw yw cD wfD bD (λx=>⟨x.1,x.2.1⟩) (λa=>rfl) (λa f=>f.2.1) (λa=>by simp only[bD];omega)
def zfT:∀m,yi Tryz.prog m 40 1 (λl:List yv=>[.sl .no 2 (ZE l)]) zhn (λl=>We l+1)
 | 0=>yi.zero
 | m+1=>by intro enc f g d A h j;obtain⟨a,p,v,y,z⟩:=yi.slice (t:=40) Tryz.underlying40 (B:=40) (sz:=2) yw yw (by decide) (zsn m) enc f g d A h j;exact⟨a,p.2.2,by simp only[We];exact v,y,by simp only[ZE];exact z⟩
def zjg{m:Nat}(h:yi Tryz.prog m 48 7 cS wfS bS):yi Tryz.prog (m+1) 41 1 (λl:List zj=>[.sl .no 7 (Zp l)]) Mm (λl=>yR l+1):=by intro H enc f g d C j p;obtain⟨a,v,y,z,A⟩:=yi.slice (t:=41) Tryz.underlying41 (B:=128) (sz:=7) yw yw (by decide) h enc f g d C j p;exact⟨a,zbS v.2.2,by simp only[zfV];exact y,z,by simp only[R7];exact A⟩
def zsu:∀m,yi Tryz.prog m 48 7 cS wfS bS:=by
 intro m;induction m using Nat.strongRecOn with
 | _ m h =>
  cases m with
  | zero=>exact yi.zero
  | succ k =>
   have g:yi Tryz.prog k 41 1 (λl:List zj=>[.sl .no 7 (Zp l)]) Mm (λl=>yR l+1):=by
    cases k with
    | zero=>exact yi.zero
    | succ k=>exact zjg (h k xg)
   intro H;exact yi.struct (z7.cons yw (yi.int (k:=.i64) Tryz.underlying3) (z7.cons yw (yi.str Tryz.underlying9) (z7.cons yw (yi.str Tryz.underlying9) (z7.cons yw (ziA k) (z7.cons yw (zfT k) (z7.cons yw (yi.str Tryz.underlying9) (z7.cons yw g z7.nil))))))) yw yw cS wfS bS (λx=>.mk x.1 x.2.1 x.2.2.1 x.2.2.2.1 x.2.2.2.2.1 x.2.2.2.2.2.1 x.2.2.2.2.2.2.1) (λa=>rfl) (λa f=>⟨f.2.2.2.1,f.2.2.2.2.1,f.2.2.2.2.2.2.1⟩) (λa=>by simp only[bS];omega)
def znJ:∀m,yi Tryz.prog m 41 1 (λl:List zj=>[.sl .no 7 (Zp l)]) Mm (λl=>yR l+1)
 | 0=>yi.zero
 | m+1=>zjg (zsu m)
def bTy(t:X4):Nat:=t.nm.length
def zhE:∀m,yi Tryz.prog m 57 3 YQ (λt=>inR t.lists/\inR t.musts) bTy
 | 0=>yi.zero
 | k+1=>yi.struct (z7.cons yw (yi.str Tryz.underlying9) (z7.cons yw (yi.int (k:=.i64) Tryz.underlying3) (z7.cons yw (yi.int (k:=.i64) Tryz.underlying3) z7.nil))) yw yw YQ (λt=>inR t.lists/\inR t.musts) bTy (λx=>⟨x.1,x.2.1,x.2.2.1⟩) (λa=>rfl) (λa f=>⟨zeA f.2.1,zeA f.2.2.1⟩) (λa=>by simp only[bTy];omega)
def zs2:∀m,yi Tryz.prog m 76 10 cW wfW bW
 | 0=>yi.zero
 | k+1=>yi.struct (z7.cons yw (yi.str Tryz.underlying9) (z7.cons yw (zhE k) (z7.cons yw (yi.bool Tryz.underlying4) (z7.cons yw (znA k) z7.nil)))) yw yw cW wfW bW (λx=>⟨x.1,x.2.1,x.2.2.1,x.2.2.2.1⟩) (λa=>by simp[T7,YQ]) (λa f=>⟨f.2.1.1,f.2.1.2,f.2.2.2.1⟩) (λa=>by simp only[bW,bTy];omega)
def zrN:∀m,yi Tryz.prog m 39 1 (λl:List z6=>[.sl .no 10 (Yg l)]) (λl=>∀x∈l,wfW x) (λl=>Wx l+1)
 | 0=>yi.zero
 | m+1=>by intro enc f g d A h j;obtain⟨a,p,v,y,z⟩:=yi.slice (t:=39) Tryz.underlying39 (B:=136) (sz:=10) yw yw (by decide) (zs2 m) enc f g d A h j;exact⟨a,p.2.2,by simp only[Wx];exact v,y,by simp only[Yg];exact z⟩
def zs8:∀m,yi Tryz.prog m 43 5 cO wfO bO
 | 0=>yi.zero
 | k+1=>yi.struct (z7.cons yw (yi.int (k:=.i64) Tryz.underlying3) (z7.cons yw (yi.str Tryz.underlying9) (z7.cons yw (zrN k) (z7.cons yw (zfT k) (z7.cons yw (znJ k) z7.nil))))) yw yw cO wfO bO (λx=>⟨x.1,x.2.1,x.2.2.1,x.2.2.2.1,x.2.2.2.2.1⟩) (λa=>rfl) (λa f=>⟨f.2.2.1,f.2.2.2.1,f.2.2.2.2.1⟩) (λa=>by simp only[bO];omega)
def zs0:∀m,yi Tryz.prog m 45 4 cF wfF bF
 | 0=>yi.zero
 | k+1=>yi.struct (z7.cons yw (yi.str Tryz.underlying9) (z7.cons yw (yi.str Tryz.underlying9) (z7.cons yw (zfT k) (z7.cons yw (znJ k) z7.nil)))) yw yw cF wfF bF (λx=>⟨x.1,x.2.1,x.2.2.1,x.2.2.2.1⟩) (λa=>rfl) (λa f=>⟨f.2.2.1,f.2.2.2.1⟩) (λa=>by simp only[bF];omega)
def zr4:∀m,yi Tryz.prog m 25 1 (λl:List Y6=>[.sl .no 5 (PR l)]) (λl=>∀x∈l,wfO x) (λl=>Ub l+1)
 | 0=>yi.zero
 | m+1=>by intro enc f g d A h j;obtain⟨a,p,v,y,z⟩:=yi.slice (t:=25) Tryz.underlying25 (B:=96) (sz:=5) yw yw (by decide) (zs8 m) enc f g d A h j;exact⟨a,p.2.2,by simp only[Ub];exact v,y,by simp only[PR];exact z⟩
def zrv:∀m,yi Tryz.prog m 26 1 (λl:List yE=>[.sl .no 4 (Pf l)]) (λl=>∀x∈l,wfF x) (λl=>XZ l+1)
 | 0=>yi.zero
 | m+1=>by intro enc f g d A h j;obtain⟨a,p,v,y,z⟩:=yi.slice (t:=26) Tryz.underlying26 (B:=80) (sz:=4) yw yw (by decide) (zs0 m) enc f g d A h j;exact⟨a,p.2.2,by simp only[XZ];exact v,y,by simp only[Pf];exact z⟩
def zkO:∀m,yi Tryz.prog m 28 2 z8 O6 zt
 | 0=>yi.zero
 | k+1=>yi.struct (z7.cons yw (zr4 k) (z7.cons yw (zrv k) z7.nil)) yw yw z8 O6 zt (λx=>⟨x.1,x.2.1⟩) (λa=>rfl) (λa f=>⟨f.1,f.2.1⟩) (λa=>by simp only[zt];omega)
def zpI(l:List (List UInt8)):Nat:=(l.map λs=>s.length+1).sum
def zig(m:Nat):yi Tryz.prog m 51 1 (λl:List (List UInt8)=>[.sl .no 1 (cT l)]) (λ_=>True) (λl=>zpI l+1):=by
 cases m with
 | zero=>exact yi.zero
 | succ m =>intro H enc f g d z h j;obtain⟨a,A,p,v,y⟩:=yi.slice (t:=51) Tryz.underlying51 (B:=16) (sz:=1) yw yw (by decide) (yi.str Tryz.underlying9) enc f g d z h j;exact⟨a,trivial,p,v,y⟩
def zpF(l:List (List UInt8)):bT l=zpI l:=by unfold bT zpI;congr 1;exact List.map_congr_left λx _=>Nat.add_comm _ _
def zrb:∀m,yi Tryz.prog m 104 10 cW wfW bW
 | 0=>yi.zero
 | k+1=>yi.struct (z7.cons yw (yi.str Tryz.underlying9) (z7.cons yw (zhE k) (z7.cons yw (yi.bool Tryz.underlying4) (z7.cons yw (znA k) z7.nil)))) yw yw cW wfW bW (λx=>⟨x.1,x.2.1,x.2.2.1,x.2.2.2.1⟩) (λa=>by simp[T7,YQ]) (λa f=>⟨f.2.1.1,f.2.1.2,f.2.2.2.1⟩) (λa=>by simp only[bW,bTy];omega)
def zkm:∀m,yi Tryz.prog m 53 1 (λl:List z6=>[.sl .no 10 (Yg l)]) (λl=>∀x∈l,wfW x) (λl=>Wx l+1)
 | 0=>yi.zero
 | m+1=>by intro enc f g d A h j;obtain⟨a,p,v,y,z⟩:=yi.slice (t:=53) Tryz.underlying53 (B:=136) (sz:=10) yw yw (by decide) (zrb m) enc f g d A h j;exact⟨a,p.2.2,by simp only[Wx];exact v,y,by simp only[Yg];exact z⟩
def zsi:∀m,yi Tryz.prog m 59 6 cL wfL bL
 | 0=>yi.zero
 | k+1=>yi.struct (z7.cons yw (yi.str Tryz.underlying9) (z7.cons yw (zkm k) (z7.cons yw (zhE k) (z7.cons yw (zfT k) z7.nil)))) yw yw cL wfL bL (λx=>⟨x.1,x.2.1,x.2.2.1,x.2.2.2.1⟩) (λa=>by simp[cL,YQ]) (λa f=>⟨f.2.1,f.2.2.1.1,f.2.2.1.2,f.2.2.2.1⟩) (λa=>by simp only[bL,bTy];omega)
def zq1:∀m,yi Tryz.prog m 52 1 (λl:List Yv=>[.sl .no 6 (TK l)]) (λl=>∀x∈l,wfL x) (λl=>NC l+1)
 | 0=>yi.zero
 | m+1=>by intro enc f g d A h j;obtain⟨a,p,v,y,z⟩:=yi.slice (t:=52) Tryz.underlying52 (B:=96) (sz:=6) yw yw (by decide) (zsi m) enc f g d A h j;exact⟨a,p.2.2,by simp only[NC];exact v,y,by simp only[TK];exact z⟩
def zsM:∀m,yi Tryz.prog m 55 6 cE wfE bE
 | 0=>yi.zero
 | k+1=>yi.struct (z7.cons yw (yi.int (k:=.i64) Tryz.underlying3) (z7.cons yw (yi.str Tryz.underlying9) (z7.cons yw (zig k) (z7.cons yw (zq1 k) (z7.cons yw (zig k) (z7.cons yw (zkm k) z7.nil)))))) yw yw cE wfE bE (λx=>⟨x.1,x.2.1,x.2.2.1,x.2.2.2.1,x.2.2.2.2.1,x.2.2.2.2.2.1⟩) (λa=>rfl) (λa f=>⟨f.2.2.2.1,f.2.2.2.2.2.1⟩) (λa=>by simp only[bE,zpF];omega)
def zrR:∀m,yi Tryz.prog m 22 1 (λl:List yX=>[.sl .no 6 (Vd l)]) (λl=>∀x∈l,wfE x) (λl=>bEs l+1)
 | 0=>yi.zero
 | m+1=>by intro enc f g d A h j;obtain⟨a,p,v,y,z⟩:=yi.slice (t:=22) Tryz.underlying22 (B:=120) (sz:=6) yw yw (by decide) (zsM m) enc f g d A h j;exact⟨a,p.2.2,by simp only[bEs];exact v,y,by simp only[Vd];exact z⟩
def zl1:∀m,yi Tryz.prog m 24 3 zk SM zA
 | 0=>yi.zero
 | k+1=>yi.struct (z7.cons yw (zrR k) (z7.cons yw (yi.str Tryz.underlying9) (z7.cons yw (yi.str Tryz.underlying9) z7.nil))) yw yw zk SM zA (λx=>⟨x.1,x.2.1,x.2.2.1⟩) (λa=>rfl) (λa f=>f.1) (λa=>by simp only[zA];omega)
def Rq(H:Type)(enc:TypeId×Value->H)(g:World)(base:Nat)(args:Array Value)(ds v:List (DataW H))(before:List MemPlace)(y:∀(j:Nat) t p,Tryz.f3.params[j]?=some t->args[j]?=some p->Value.okWide Tryz.prog g .any base t p)(A:DataW.Whole enc Tryz.prog Tryz.f3.params.toList Rows.validChecksSpec.vars false g args.toList ds v before)(ac:Wz (ds++v)<=1048576)(z:(DataW.weightsEach Tryz.prog (Tryz.f3.params.toList++(Rows.OpenSpec.upto Rows.validChecksSpec).bare.plain.varTypes Tryz.prog) (ds++v)).all (·<=reachBytes)=true)(Y:laidMetH Tryz.prog zcT g)(Z:g.ShapedOpen Tryz.prog):
  Calls Tryz.prog 3 args g λe J=>∃p,e=.returned p/\Rows.validChecksSpec.post enc Tryz.prog Tryz.f3 false true false false g args p J:=by
 have ab:=A;obtain⟨ad,q,X,aa,rfl,ak,al⟩:=A;have h:DataW.TrodAll enc Tryz.prog g 0 (λ_=>true) true Tryz.f3.params.toList args.toList ds ad:=X;obtain⟨rfl,rfl⟩:=trodVars_none aa;rw[Tryz.params3]at h y z;obtain⟨G,aq,af,ah,am,ao,aj,rfl,rfl,U,h⟩:=trodAll_cons h;obtain⟨I,ar,ag,ai,an,ap,rfl,rfl,rfl,W,h⟩:=trodAll_cons h;obtain⟨rfl,rfl,rfl⟩:=trodAll_nil h;obtain rfl:args=#[G,I]:=by cases args;simp_all
 obtain⟨c0,rfl⟩:=zjY Tryz.underlying24 (y 0 24 G rfl rfl);obtain⟨K,ok0,b0,M⟩:=yi.argS (P:=Tryz.prog) (f:=zk) (zl1) U (sized z (j:=0) rfl rfl);obtain⟨c1,rfl⟩:=zjY Tryz.underlying28 (y 1 28 I rfl rfl);obtain⟨L,ok1,ae,O⟩:=yi.argS (P:=Tryz.prog) (f:=z8) (zkO) W (sized z (j:=1) rfl rfl);simp only[List.append_nil,Wz]at ac;refine zaK (P:=Tryz.prog) (fn:=Tryz.f3) (tb:=4) laidOut rfl ?_ yw Tryz.underlying4 ab rfl (zmi Y Z) (Ze.cons M (Ze.cons O Ze.nil)) (za2 K L ok0 ok1 xg xg);rw[Tryz.params3];intro t C;simp only[List.mem_cons,List.not_mem_nil,or_false]at C;rcases C with rfl|rfl<;>exact⟨by kernel_rfl,by decide +kernel⟩
def Pt(os:Os){H:Type}(enc:TypeId×Value->H):∃places,DataW.whole enc Tryz.prog ((laidWorld os).forCall (λ_ _=>0) ⟨#[],#[.agg #[.slice none 0 0,.string ⟨#[]⟩,.string ⟨#[]⟩],.agg #[.slice none 0 0,.slice none 0 0]],[]⟩).memory Tryz.f3.params.toList Rows.validChecksSpec.vars false #[.agg #[.slice none 0 0,.string ⟨#[]⟩,.string ⟨#[]⟩],.agg #[.slice none 0 0,.slice none 0 0]].toList 8=some ([.agg [.nil,.lit (.string []),.lit (.string [])],.agg [.nil,.nil]],[],places) :=⟨[],by kernel_rfl⟩
def Pb(os:Os)(started:os.Started)(H:Type)(enc:TypeId×Value->H)(F:Stop.Interp):
  ReturnsInHanded {} Tryz.checked os 3 .any ((Rows.OpenSpec.upto Rows.validChecksSpec).preRow enc Tryz.prog Tryz.f3 Rows.validChecksUptoRow.domain false Rows.validChecksUptoRow.laid) (((Rows.OpenSpec.upto Rows.validChecksSpec).at F).post enc Tryz.prog Tryz.f3 false true false false):=by
 obtain⟨places,G⟩:=Pt os enc;refine returnsInHanded_of_row (C:=Tryz.checked) (s:=Rows.OpenSpec.upto Rows.validChecksSpec) own started yw Tryz.func3 (witness_row_atRef (enc:=enc) (C:=Tryz.checked) false (laidWorld os) #[.agg #[.slice none 0 0,.string ⟨#[]⟩,.string ⟨#[]⟩],.agg #[.slice none 0 0,.slice none 0 0]] rfl yw yw yw (OpenSpec.preRow_of_cond 8 G yw (λk z=>by cases z;kernel_rfl) yw (laid_met os _))) ?_;intro f base g ds h before A v _ y I j p _;exact Rq H enc f base g ds h before A v (zgT y) I j p
def PF:zdx Tryz.pinned.checked.prog 3 Tryz.f3 (Rows.OpenSpec.upto Rows.validChecksSpec).bare Rows.validChecksUptoRow=true:=by kernel_rfl
def PU:zdI Tryz.pinned.checked.prog 3 Tryz.f3 (Rows.OpenSpec.upto Rows.validChecksSpec).bare Rows.validChecksUptoRow=true:=by kernel_rfl
def PX:zdC Tryz.pinned.checked.prog 3 Tryz.f3 (Rows.OpenSpec.upto Rows.validChecksSpec).bare Rows.validChecksUptoRow=true:=by kernel_rfl
def PY:zer Tryz.pinned.checked.prog 3 Tryz.f3 (Rows.OpenSpec.upto Rows.validChecksSpec).bare Rows.validChecksUptoRow=true:=by kernel_rfl
def Pp:zdT Tryz.pinned.checked.prog 3 Tryz.f3 (Rows.OpenSpec.upto Rows.validChecksSpec).bare Rows.validChecksUptoRow=true:=by kernel_rfl
def Pk:zee Tryz.pinned.checked.prog 3 Tryz.f3 (Rows.OpenSpec.upto Rows.validChecksSpec).bare Rows.validChecksUptoRow=true:=by kernel_rfl
def Pj:zd1 Tryz.pinned.checked.prog 3 Tryz.f3 (Rows.OpenSpec.upto Rows.validChecksSpec).bare Rows.validChecksUptoRow=true:=by kernel_rfl
def OF:Rows.ValidChecksUptoSaid :=
 OpenClaim.holds_of_cond 3 Tryz.f3 rfl rfl rfl rfl rfl rfl rfl ⟨rfl,rfl,rfl,rfl,rfl⟩ rfl rfl rfl rfl rfl yw Tryz.func3 (zgn PF PU PX PY Pp Pk Pj)
  (of_decide_eq_true yw) (by unfold Func.isWrapper;first|(rw[if_pos (by decide +kernel)];kernel_rfl)|(rw[if_neg (by decide +kernel)];exact⟨rfl,rfl⟩))
  (λos started H enc _ F=>by rw[OpenClaim.pre_eq_preRow];exact Pb os started H enc F)
theorem PG (f : FuncId) (fn : Func) (hf : Tryz.pinned.checked.prog.funcNamed "seine/seinelaw20.ValidChecks" = some f) (hfn : Tryz.pinned.checked.prog.funcs[f]? = some fn) :
  true=Tryz.pinned.checked.prog.looks []/\∀(j:Nat) t,fn.params[j]?=some t->Tryz.pinned.checked.prog.wantsStandIn t=false:=by
 obtain rfl : f = 3 := Option.some.inj ((show Tryz.prog.funcNamed "seine/seinelaw20.ValidChecks" = some 3 by kernel_rfl).symm.trans hf) |>.symm
 obtain rfl:fn=Tryz.f3:=(Option.some.inj (Tryz.func3.symm.trans hfn)).symm
 refine⟨by kernel_rfl,λj t ht=>?_⟩
 rw[Tryz.params3]at ht
 have hm:=Array.mem_of_getElem? ht
 simp only[List.mem_toArray,List.mem_cons,List.not_mem_nil,or_false]at hm
 rcases hm with rfl|rfl<;>exact(show Tryz.prog.wantsStandIn _=false by kernel_rfl)
def OD:Tryz.pinned.checked.prog.mainIs=some (Rows.validChecksUptoCard.stood.harness.1,Rows.validChecksUptoCard.stood.harness.2.toList):=by kernel_rfl
def Oh:false=Rows.validChecksUptoRow.goesBy Tryz.pinned.checked.prog:=zcg yw
theorem ValidChecks_card:Rows.ValidChecksUptoCardSaid :=Claim7.holds_tied_plain_at .later [] _ _ _ _ OF (λ_ f=>by cases f) yw (λ_ f=>by cases f) validChecksUpto_row_tie rfl ⟨rfl,rfl⟩ OD rfl PG Oh
end Go.Proofs.YtcbfcliickppiaaGreatDoor
